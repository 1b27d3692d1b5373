/-
  Lemmas for RankNames: Dr3, Dr4, Arity, DrQ. Conditions: those of each lemma.
-/
import Derived.WalkKit
import Derived.WalkSpells
import Derived.WalkLawsBesides
import Derived.BigQuiet
import Derived.Deep.RegionHeld3
import Derived.ProofKit
import Derived.OpenShut
import Derived.Lib.Hide
import Derived.Test.YtklibcncmbofpaaGreatProg
import Derived.Maps.AppendAt
import Derived.Maps.OwnSet
import Derived.Maps.OwnOps
import Derived.Maps.RangeWalk
import Derived.Deep.DeepCutAuto
import Derived.Deep.RegionLaw
import Derived.Deep.RegionHeldLaw
import Derived.IntWalk
import Derived.StillTailTactics
import Derived.Test.YtklibcncmbofpaaGreatP01
import Derived.Test.YtklibcncmbofpaaGreatP02
import Derived.Test.YtklibcncmbofpaaGreatP03
import Derived.Test.YtklibcncmbofpaaGreatP04
import Derived.Test.YtklibcncmbofpaaGreatP08
import Derived.Test.YtklibcncmbofpaaGreatP10
import Derived.Test.YtklibcncmbofpaaGreatP11
set_option linter.unusedVariables false
set_option linter.unusedSimpArgs false
namespace Go.Proofs.YtklibcncmbofpaaGreat
open Go Go.RowKit
theorem DrI.ready {d : Nat} {A : NS} {L : Nat → List Nat} (h : DrI d A L) (hd : 2 ≤ d) (ok : A.Ok) {g x : Nat} {k s : Int} (hB : putB A g x = true) :
  x ∉ L g ∧ (L g).length + 1 ≤ A.cs.length ∧ Hp (ltR (putN A g x k s)) d (L g) ∧ (∀ y, y ∈ x :: L g → inN (putN A g x k s) (y : Int) = true) ∧ (∀ y, y ∈ x :: L g → y < A.cs.length) := by
 obtain ⟨b1, b2, b3⟩ := (putB_iff _ _ _).1 hB
 have hx : x < A.cs.length := by have := (slotN_iff _ _).1 b2; omega
 have hg0 := (hasN_iff _ _).1 b1
 have hc : ∀ y, (putN A g x k s).c y = if y = x then ⟨g, k, s⟩ else A.c y := fun y => by
  unfold putN; rw [if_pos hB, Int.toNat_natCast, c_with]
  by_cases e : y = x
  ·rw [if_pos ⟨e, hx⟩, if_pos e]
  ·rw [if_neg (fun h => e h.1), if_neg e]
 have hl : (putN A g x k s).cs.length = A.cs.length := by unfold putN; rw [if_pos hB, len_with]
 have hxL : x ∉ L g := fun hm => by
  have := (h.len b1 hm).2.1
  rw [this] at b3; cases b3
 have hlt : ∀ y, y ∈ x :: L g → y < A.cs.length := fun y hy => by
  rcases List.mem_cons.1 hy with e | e
  ·rw [e]; exact hx
  ·exact (h.len b1 e).1
 refine ⟨hxL, ?_, DrI.frame (h.hp g b1) hd (fun y hy => by rw [hc, if_neg (fun e => hxL (by rw [← e]; exact hy))]), fun y hy => ?_, hlt⟩
 ·have h1 := nodup_range A.cs.length ((x :: L g).map (fun (x : Nat) => (x : Int))) (by
   have hn := List.nodup_cons.2 ⟨hxL, h.nd g b1⟩
   unfold List.Nodup at hn ⊢
   rw [List.pairwise_map]
   exact hn.imp (fun h e => h (by omega))) (fun z hz => by
   obtain ⟨y, hy, rfl⟩ := List.mem_map.1 hz
   have := hlt y hy; omega)
  simpa using h1
 ·refine (inN_nat _ _).2 ⟨by rw [hl]; exact hlt y hy, ?_⟩
  rw [hc]
  by_cases e : y = x
  ·rw [if_pos e]; simp only; omega
  ·rw [if_neg e]
   rcases List.mem_cons.1 hy with e2 | e2
   ·exact absurd e2 e
   ·have := (h.len b1 e2).2.2; omega
section
variable {w w' : World} {B : DB} {F Z : List Nat} {gr cr st : Nat} {A : NS} {ptr : Nat → Option Nat} {G L : Nat → List Nat}
theorem DrM.clear (h : DrM w B F Z gr cr A st ptr G L) {g : Nat} (hg : hasN A g = true) : ∀ z, z ∈ G g → z ∉ (drO B F A h.cells.mem).rd := fun z hz hm => by
 have h1 := h.sepZ z (h.fam.inZ g hg z hz)
 rcases List.mem_cons.1 hm with e | e
 ·exact h1.2 e
 ·exact h1.1 e
theorem DrM.rowed (h : DrM w B F Z gr cr A st ptr G L) {g rp : Nat} (hg : hasN A g = true) (hp : ptr g = some rp) {G' L' : List Nat} (hu : Upd (G g ++ [B.c]) w w') (hr : RwAt w' rp G' B.d L') (hG : ∀ z, z ∈ G' → z ∈ G g ∨ w.heap.size ≤ z) (hO : (drO B F A h.cells.mem).at_ w') :
  ∃ st', DrM w' B F (Z ++ G') gr cr A st' ptr (setF G g G') (setF L g L') := by
 obtain ⟨h1, -, st', h2⟩ := hO
 have hcl := h.clear hg
 have hcF := h.cells.mem
 have hsl := h.lt
 refine ⟨st', ⟨h.head.upd hu (fun hm => ?_), h2, h.fam.one hg hp hu (fun z hz => ?_) hr hG, h.sepF, fun z hz => ?_, h.dd⟩⟩
 ·rcases List.mem_append.1 hm with e | e
  ·exact hcl _ e (List.mem_cons.2 (Or.inl rfl))
  ·simp at e; exact h.sepF.1 (by rw [e]; exact hcF)
 ·rcases List.mem_append.1 hz with e | e
  ·exact Or.inl e
  ·simp at e
   refine Or.inr ⟨fun e2 => h.sepF.2.1 (by rw [← e2, e]; exact hcF), fun hm => (h.sepZ z hm).1 (by rw [e]; exact hcF)⟩
 ·rcases List.mem_append.1 hz with e | e
  ·exact h.sepZ z e
  ·rcases hG z e with e2 | e2
   ·exact h.sepZ z (h.fam.inZ g hg z e2)
   ·exact ⟨fun hm => by have := hsl z (by simp [DB.blk, hm]); omega, fun e3 => by have := hsl B.n0 (by simp [DB.blk]); omega⟩
def AddR (B : DB) (F Z : List Nat) (gr cr : Nat) (A' : NS) (st : Nat) (ptr : Nat → Option Nat) (G L : Nat → List Nat) (g rp x : Nat) (w2 : World) : Prop := DrM w2 B F Z gr cr A' st ptr G L ∧ ∀ Y, Upd [] w2 Y →
   Calls Tryz.prog 155 #[.pointer (some ⟨rp, 0, none⟩), .iface 170 (.pointer (some ⟨B.n0, 0, none⟩)), .int .i64 (x : Int)] Y fun e w' => e = .returned (.bool true) ∧ ∃ G' L', RwAt w' rp G' B.d L' ∧ L'.Perm (x :: L g) ∧ Hp (ltR A') B.d L' ∧ (∃ hc, (drO B F A' hc).at_ w') ∧ Upd (G g ++ [B.c]) Y w' ∧ ∀ z, z ∈ G' → z ∈ G g ∨ Y.heap.size ≤ z
set_option maxHeartbeats 4000000 in
set_option maxRecDepth 10000 in
theorem dinsert_yes (h : DrAt w B F Z gr A st) (g x : Nat) (k s : Int) (hk : -9223372036854775808 ≤ k ∧ k ≤ 9223372036854775807 ∧ 0 ≤ s ∧ s ≤ 18446744073709551615) (hB : putB A g x = true) :
  Calls Tryz.prog 141 #[.pointer (some ⟨B.n0, 0, none⟩), .int .i64 (g : Int), .int .i64 (x : Int), .agg #[.int .i64 k, .int .u64 s]] w fun e w' => e = .returned (.bool true) ∧ Goes (B.blk F Z gr) w w' (fun F' => ∃ Z' st', F' = B.blk F Z' gr ∧ DrAt w' B F Z' gr (putN A g x k s) st') := by
 obtain ⟨cr, ptr, G, L, hM, hI⟩ := h
 have hb1 := (putB_iff _ _ _).1 hB
 have hgN := (hasN_iff _ _).1 hb1.1
 have hok := hM.cells.ok
 have hcs := hok.c1
 obtain ⟨r1, r2, r3, r4, r5⟩ := hI.ready hM.dd.1 hok (k := k) (s := s) hB
 obtain ⟨rp, hp, hR⟩ := hM.fam.row g hb1.1
 have hA'h : (putN A g x k s).hs = A.hs := by unfold putN; rw [if_pos hB]; rfl
 have hhas' : hasN (putN A g x k s) g = true := by have := hb1.1; unfold hasN at this ⊢; rw [hA'h]; exact this
 have kadd : ∀ X w2, Upd [] w X → CellsAt w2 B.c F (putN A g x k s) st → Upd F X w2 → AddR B F Z gr cr (putN A g x k s) st ptr G L g rp x w2 := by
  intro X w2 hX hC2 hu2
  have hM2 := (hM.upd0 hX).setC hu2 hC2 (fun x hx => Or.inl hx) hA'h
  refine ⟨hM2, fun Y hY => ?_⟩
  have hMY := hM2.upd0 hY
  obtain ⟨rp', hp', hRY⟩ := hMY.fam.row g hhas'
  rw [hp] at hp'
  cases hp'
  have hRY' : RwAt Y rp (G g) B.d (L g) := hRY
  refine (radd_any (drO B F (putN A g x k s) hMY.cells.mem) hMY.ord hRY' hM.dd (by omega) r3 x r1 (hI.nd g hb1.1) r4 (fun y hy => by have := r5 y hy; omega) (hMY.clear hhas')).mono ?_
  rintro e w' ⟨rfl, G', L', h1, h2, h3, h4, h5, h6⟩
  exact ⟨rfl, G', L', h1, h2, h3, ⟨_, h4⟩, h5, h6⟩
 have kput : ∀ W (hW : Upd [] w W), Calls Tryz.prog 154 #[.pointer (some ⟨B.c, 0, none⟩), .int .i64 (g : Int), .int .i64 (x : Int), .agg #[.int .i64 k, .int .u64 s]] W fun e w2 => e = .returned (.bool true) ∧ Upd F W w2 ∧ AddR B F Z gr cr (putN A g x k s) st ptr G L g rp x w2 := fun W hW => (cput_yes (hM.upd0 hW).cells g x k s hk hB).mono (fun e w2 h => by
  obtain ⟨rfl, hC2, hu2⟩ := h
  exact ⟨rfl, hu2, kadd W w2 hW hC2 hu2⟩)
 have c0 := hM.h0
 have c2 := hM.h2
 have cg := hM.fam.cell (by omega) hp
 have hlt := hM.lt
 have HX := Lib.hid (And.intro hM (And.intro hI (And.intro hok (And.intro hB (And.intro hp (And.intro hhas' hlt))))))
 have n1 : B.n0 ∉ F ++ Z := fun hm => by rcases List.mem_append.1 hm with e | e; exact hM.sepF.1 e; exact (hM.sepZ _ e).2 rfl
 have n2 : gr ∉ F ++ Z := fun hm => by rcases List.mem_append.1 hm with e | e; exact hM.sepF.2.1 e; exact hM.fam.grZ e
 have n3 : ∀ z, z ∈ F ++ Z → z < w.heap.size := fun z hm => hlt z (by simp only [DB.blk, List.mem_cons, List.mem_append] at hm ⊢; exact Or.inr (Or.inr hm))
 have hgI : (g : Int) < (A.hs.length : Int) := by omega
 have hgz : ∀ z, z ∈ G g ++ [B.c] → z ∈ F ++ Z := fun z hz => by
  rcases List.mem_append.1 hz with e | e
  ·exact List.mem_append.2 (Or.inr (hM.fam.inZ g hb1.1 z e))
  ·simp at e; rw [e]; exact List.mem_append.2 (Or.inl hM.cells.mem)
 clear hM hI hok hB hp hhas' hlt hR r1 r3 r4 r5 hb1 hgN r2 hcs hA'h
 generalize A.hs.length = m at *
 go_enter Tryz.func141, Tryz.ntmps141
 go_upto_region 1 with (fail)
 refine wp_nm (fun W => W.cell? ⟨w.heap.size, 0, none⟩ = some (.int .i64 k) ∧ W.cell? ⟨w.heap.size, 1, none⟩ = some (.int .u64 s) ∧ Upd [] w W) ⟨by go_simp, by go_simp, by (repeat (first | assumption | exact Upd.refl _ _ | refine Upd.alloc ?_ _ | refine Upd.drew ?_ | refine Upd.drewN ?_ _ | refine Upd.setCell ?_ ?_ _ | focus (left; simp; done) | focus (right; simp; done) | focus (right; simp; omega)))⟩ ?_
 rintro W ⟨x0, x1, hW⟩
 have hb : w.heap.size ∉ F ++ Z := fun hm => by have := n3 _ hm; omega
 have e0 : ∀ X, Upd (F ++ Z) W X → X.cell? ⟨w.heap.size, 0, none⟩ = some (.int .i64 k) := fun X h => h.kept x0 hb
 have e1 : ∀ X, Upd (F ++ Z) W X → X.cell? ⟨w.heap.size, 1, none⟩ = some (.int .u64 s) := fun X h => h.kept x1 hb
 have e2 : ∀ X, Upd (F ++ Z) W X → X.cell? ⟨B.n0, 0, none⟩ = some (.pointer (some ⟨B.c, 0, none⟩)) := fun X h => h.kept (hW.was c0) n1
 have e3 : ∀ X, Upd (F ++ Z) W X → X.cell? ⟨B.n0, 2, none⟩ = some (.slice (some ⟨gr, 0, none⟩) m cr) := fun X h => h.kept (hW.was c2) n1
 have e4 : ∀ X, Upd (F ++ Z) W X → X.cell? ⟨gr, g, none⟩ = some (.pointer (some ⟨rp, 0, none⟩)) := fun X h => h.kept (hW.was cg) n2
 have HW := Lib.hid hW
 have kput1 := fun X (hX : Upd [] W X) => kput X (hW.trans hX)
 clear x0 x1 hW kput c0 c2 cg
 go_region_held3 (Upd (F ++ Z) W) (repeat (first | assumption | exact Upd.refl _ _ | refine Upd.drew ?_ | refine Upd.alloc ?_ _ | refine Upd.setCell ?_ ?_ _ | focus (left; simp; done) | focus (right; simp; done) | focus (right; simp; omega) | (apply Upd.trans; rotate_left; assumption)))
  (first
   | ((go_at_call 154; (with_reducible refine (kput1 _ (by (repeat (first | assumption | exact Upd.refl _ _ | refine Upd.drew ?_ | refine Upd.alloc ?_ _ | refine Upd.setCell ?_ ?_ _ | focus (left; simp; done) | focus (right; simp; done) | focus (right; simp; omega) | (apply Upd.trans; rotate_left; assumption))))).mono ?_)); rintro e w2 ⟨rfl, hu2, hM2, kadd2⟩; (have hv2 : Upd (F ++ Z) W w2 := Upd.trans (by (repeat (first | assumption | exact Upd.refl _ _ | refine Upd.drew ?_ | refine Upd.alloc ?_ _ | refine Upd.setCell ?_ ?_ _ | focus (left; simp; done) | focus (right; simp; done) | focus (right; simp; omega) | (apply Upd.trans; rotate_left; assumption)))) (hu2.mono (fun z hz => List.mem_append.2 (Or.inl hz)))))
   | ((go_at_call 155; (with_reducible refine (kadd2 _ (by (repeat (first | assumption | exact Upd.refl _ _ | refine Upd.drew ?_ | refine Upd.alloc ?_ _ | refine Upd.setCell ?_ ?_ _ | focus (left; simp; done) | focus (right; simp; done) | focus (right; simp; omega) | (apply Upd.trans; rotate_left; assumption))))).mono ?_)); rintro e w3 ⟨rfl, G', L', hR3, hp3, hH3, hO3, hu3, hG3⟩; (have hv3 : Upd (F ++ Z) W w3 := Upd.trans (by (repeat (first | assumption | exact Upd.refl _ _ | refine Upd.drew ?_ | refine Upd.alloc ?_ _ | refine Upd.setCell ?_ ?_ _ | focus (left; simp; done) | focus (right; simp; done) | focus (right; simp; omega) | (apply Upd.trans; rotate_left; assumption)))) (hu3.mono hgz))))
 obtain ⟨hM, hI, hok, hB, hp, hhas', hlt⟩ := HX.out
 obtain ⟨hc3, hO3⟩ := hO3
 have hG3' : ∀ z, z ∈ G' → z ∈ G g ∨ w2.heap.size ≤ z := hG3
 have hu3' : Upd (G g ++ [B.c]) w2 w3 := Upd.trans (by (repeat (first | assumption | exact Upd.refl _ _ | refine Upd.drew ?_ | refine Upd.alloc ?_ _ | refine Upd.setCell ?_ ?_ _ | focus (left; simp; done) | focus (right; simp; done) | focus (right; simp; omega) | (apply Upd.trans; rotate_left; assumption)))) hu3
 obtain ⟨st', hM3⟩ := hM2.rowed hhas' hp hu3' hR3 hG3' hO3
 have hI3 := hI.put hM.dd.1 hok hB hp3 hH3
 go_wp2
 go_ret
 have hsz := (HW.out).size
 have hsz2 := hv2.size
 refine ⟨rfl, B.blk F (Z ++ G') gr, ⟨Z ++ G', st', rfl, cr, ptr, _, _, hM3, hI3.1⟩, ((HW.out).mono (by simp)).trans (hv3.mono (fun z hz => ?_)), fun z hz => ?_⟩
 ·simp only [DB.blk, List.mem_cons, List.mem_append] at hz ⊢; exact Or.inr (Or.inr hz)
 ·simp only [DB.blk, List.mem_cons, List.mem_append] at hz ⊢
  rcases hz with h | h | h | h | h
  ·exact Or.inl (Or.inl h)
  ·exact Or.inl (Or.inr (Or.inl h))
  ·exact Or.inl (Or.inr (Or.inr (Or.inl h)))
  ·exact Or.inl (Or.inr (Or.inr (Or.inr h)))
  ·rcases hG3' z h with h | h
   ·have := hgz z (List.mem_append.2 (Or.inl h))
    rcases List.mem_append.1 this with h | h
    ·exact Or.inl (Or.inr (Or.inr (Or.inl h)))
    ·exact Or.inl (Or.inr (Or.inr (Or.inr h)))
   ·exact Or.inr (by omega)
end
end Go.Proofs.YtklibcncmbofpaaGreat
namespace Go.Proofs.YtklibcncmbofpaaGreat
open Go Go.RowKit
theorem DrI.lowered {d : Nat} {A : NS} {L : Nat → List Nat} (h : DrI d A L) (hd : 2 ≤ d) {g x i : Nat} {k s : Int} (hB : lowB A x k s = true) (hg : hasN A g = true) (hx : (L g)[i]? = some x) :
  HoleI (ltR (lowN A x k s)) d (L g) i ∧ Below (ltR (lowN A x k s)) d (L g) i x := by
 have hxm := List.mem_of_getElem? hx
 have hm := (h.mem g x hg).1 hxm
 have hc := low_c hB hm.1
 have hle := lowB_le hB
 rw [Int.toNat_natCast] at hle
 have hn := h.nd g hg
 obtain ⟨hi, hxe⟩ := List.getElem?_eq_some_iff.1 hx
 have hcy : ∀ y, y ≠ x → (lowN A x k s).c y = A.c y := fun y e => by rw [hc, if_neg e]
 have hxx : (lowN A x k s).c x = ⟨(A.c x).i, k, s⟩ := by rw [hc, if_pos rfl]
 have hne : ∀ y, y ∈ (L g).eraseIdx i → y ≠ x := fun y hy e => by
  obtain ⟨q, hq, hqe⟩ := List.mem_eraseIdx_iff_getElem?.1 hy
  obtain ⟨g1, e1⟩ := List.getElem?_eq_some_iff.1 hqe
  exact hq ((List.getElem_inj hn).1 (e1.trans (e.trans hxe.symm)))
 have hH := h.hp g hg
 refine ⟨(hH.hole (ltR_trans A) hd hi).frame (fun a b ha hb hab => ltR_iff.2 ((lt3_same (hcy a (hne a ha)) (hcy b (hne b hb))).2 (ltR_iff.1 hab))) hd, fun j j0 hj hp => ?_⟩
 have h1 := hH j j0 hj
 have h2 : (L g).getD (par d j) 0 = x := by rw [hp, List.getD_eq_getElem?_getD, hx]; rfl
 rw [h2] at h1
 have hji : j ≠ i := fun e => by have := par_lt hd j0; omega
 have hyx : (L g).getD j 0 ≠ x := fun e => by
  have h3 : (L g)[j]? = some x := by rw [← e, List.getD_eq_getElem?_getD, List.getElem?_eq_getElem hj]; rfl
  obtain ⟨g1, e1⟩ := List.getElem?_eq_some_iff.1 h3
  exact hji ((List.getElem_inj hn).1 (e1.trans hxe.symm))
 exact ltR_iff.2 (lt3_lower (ltR_iff.1 h1) (hcy _ hyx) (by rw [hxx]; exact hle))
section
variable {w w' : World} {B : DB} {F Z : List Nat} {gr cr st : Nat} {A : NS} {ptr : Nat → Option Nat} {G L : Nat → List Nat}
set_option maxHeartbeats 4000000 in
set_option maxRecDepth 10000 in
theorem ddec_yes (h : DrAt w B F Z gr A st) (x : Nat) (k s : Int) (hk : -9223372036854775808 ≤ k ∧ k ≤ 9223372036854775807 ∧ 0 ≤ s ∧ s ≤ 18446744073709551615) (hB : lowB A x k s = true) :
  Calls Tryz.prog 135 #[.pointer (some ⟨B.n0, 0, none⟩), .int .i64 (x : Int), .agg #[.int .i64 k, .int .u64 s]] w fun e w' => e = .returned (.bool true) ∧ Goes (B.blk F Z gr) w w' (fun F' => ∃ Z' st', F' = B.blk F Z' gr ∧ DrAt w' B F Z' gr (lowN A x k s) st') := by
 obtain ⟨cr, ptr, G, L, hM, hI⟩ := h
 have hok := hM.cells.ok
 have hcs := hok.c1
 have hin := low_in hB
 have hin2 := (inN_nat _ _).1 hin
 have hhas := inN_has hok hin
 rw [Int.toNat_natCast] at hhas
 obtain ⟨g, hg⟩ : ∃ g : Nat, (A.c x).i = g := ⟨(A.c x).i.toNat, by omega⟩
 rw [hg] at hhas
 have hgN := (hasN_iff _ _).1 hhas
 have hxm : x ∈ L g := (hI.mem g x hhas).2 ⟨hin2.1, hg⟩
 obtain ⟨i, hi, hxi⟩ := List.mem_iff_getElem.1 hxm
 have hx : (L g)[i]? = some x := by rw [List.getElem?_eq_getElem hi, hxi]
 obtain ⟨hHo, hBe⟩ := hI.lowered hM.dd.1 hB hhas hx
 have hA'h : (lowN A x k s).hs = A.hs := low_hs _ _ _ _
 have hhas' : hasN (lowN A x k s) g = true := by have := hhas; unfold hasN at this ⊢; rw [hA'h]; exact this
 have hin' : inN (lowN A x k s) (x : Int) = true := (inN_nat _ _).2 ⟨by rw [low_len]; exact hin2.1, by rw [low_i hB hin2.1]; exact hin2.2⟩
 have hgi' : ((lowN A x k s).c x).i = g := by rw [low_i hB hin2.1]; exact hg
 have hdom' : ∀ y, y ∈ L g → inN (lowN A x k s) (y : Int) = true := fun y hy => by
  have h1 := (hI.mem g y hhas).1 hy
  exact (inN_nat _ _).2 ⟨by rw [low_len]; exact h1.1, by rw [low_i hB hin2.1]; omega⟩
 have h16 : ∀ y, y ∈ L g → y ≤ 65536 := fun y hy => by have := ((hI.mem g y hhas).1 hy).1; omega
 have hmany := hI.many hhas
 obtain ⟨rp, hp, -⟩ := hM.fam.row g hhas
 have klow := fun W (hW : Upd [] w W) => clower_yes (hM.upd0 hW).cells x k s hk hB
 have hM2 := fun X w2 (hX : Upd [] w X) (hC2 : CellsAt w2 B.c F (lowN A x k s) st) (hu2 : Upd F X w2) => (hM.upd0 hX).setC hu2 hC2 (fun x hx => Or.inl hx) hA'h
 have kraise : ∀ Y, DrM Y B F Z gr cr (lowN A x k s) st ptr G L → Calls Tryz.prog 148 #[.pointer (some ⟨rp, 0, none⟩), .iface 170 (.pointer (some ⟨B.n0, 0, none⟩)), .int .i64 (x : Int)] Y fun e w' => e = .returned (.bool true) ∧ ∃ L' hc, RwAt w' rp (G g) B.d L' ∧ L'.Perm (L g) ∧ Hp (ltR (lowN A x k s)) B.d L' ∧ (drO B F (lowN A x k s) hc).at_ w' ∧ Upd (G g ++ [B.c]) Y w' := by
  intro Y hMY
  obtain ⟨rp', hp', hRY⟩ := hMY.fam.row g hhas'
  rw [hp] at hp'
  cases hp'
  have hRY' : RwAt Y rp (G g) B.d (L g) := hRY
  refine (rraise_any (drO B F (lowN A x k s) hMY.cells.mem) hMY.ord hRY' hM.dd (by omega) i x hx (hI.nd g hhas) hHo hBe hdom' h16 (hMY.clear hhas')).mono ?_
  rintro e w' ⟨rfl, L', h1, h2, h3, h4, h5⟩
  exact ⟨rfl, L', _, h1, h2, h3, h4, h5⟩
 have c0 := hM.h0
 have c2 := hM.h2
 have cg := hM.fam.cell (by omega) hp
 have hlt := hM.lt
 have n0F := hM.sepF.1
 have grF := hM.sepF.2.1
 have HX := Lib.hid (And.intro hM (And.intro hI (And.intro hp (And.intro hhas (And.intro hhas' (And.intro hxm (And.intro hlt (And.intro hM2 (And.intro hgi' hin')))))))))
 have n3 : ∀ z, z ∈ F → z < w.heap.size := fun z hm => hlt z (by simp only [DB.blk, List.mem_cons, List.mem_append]; exact Or.inr (Or.inr (Or.inl hm)))
 have hgI : (g : Int) < (A.hs.length : Int) := by omega
 clear hM hI hok hcs hin hin2 hhas hgN hxm hi hxi hx hHo hBe hA'h hhas' hin' hgi' hdom' h16 hmany hp hlt hM2
 generalize A.hs.length = m at *
 go_enter Tryz.func135, Tryz.ntmps135
 go_upto_region 1 with (fail)
 refine wp_nm (fun W => W.cell? ⟨w.heap.size, 0, none⟩ = some (.int .i64 k) ∧ W.cell? ⟨w.heap.size, 1, none⟩ = some (.int .u64 s) ∧ Upd [] w W) ⟨by go_simp, by go_simp, by (repeat (first | assumption | exact Upd.refl _ _ | refine Upd.alloc ?_ _ | refine Upd.drew ?_ | refine Upd.drewN ?_ _ | refine Upd.setCell ?_ ?_ _ | focus (left; simp; done) | focus (right; simp; done) | focus (right; simp; omega)))⟩ ?_
 rintro W ⟨x0, x1, hW⟩
 have hb : w.heap.size ∉ F := fun hm => by have := n3 _ hm; omega
 have e0 : ∀ X, Upd F W X → X.cell? ⟨w.heap.size, 0, none⟩ = some (.int .i64 k) := fun X h => h.kept x0 hb
 have e1 : ∀ X, Upd F W X → X.cell? ⟨w.heap.size, 1, none⟩ = some (.int .u64 s) := fun X h => h.kept x1 hb
 have e2 : ∀ X, Upd F W X → X.cell? ⟨B.n0, 0, none⟩ = some (.pointer (some ⟨B.c, 0, none⟩)) := fun X h => h.kept (hW.was c0) n0F
 have HW := Lib.hid (And.intro hW (And.intro c2 cg))
 have klow1 : ∀ X (hX : Upd [] W X), Calls Tryz.prog 147 #[.pointer (some ⟨B.c, 0, none⟩), .int .i64 (x : Int), .agg #[.int .i64 k, .int .u64 s]] X fun e w2 => e = .returned (.bool true) ∧ DrM w2 B F Z gr cr (lowN A x k s) st ptr G L ∧ Upd F X w2 := fun X hX => (klow X (hW.trans hX)).mono (fun e w2 h => ⟨h.1, HX.out.2.2.2.2.2.2.2.1 X w2 (hW.trans hX) h.2.1 h.2.2, h.2.2⟩)
 clear klow x0 x1 hW c0 c2 cg
 go_region_held3 (Upd F W) (repeat (first | assumption | exact Upd.refl _ _ | refine Upd.drew ?_ | refine Upd.alloc ?_ _ | refine Upd.setCell ?_ ?_ _ | focus (left; simp; done) | focus (right; simp; done) | focus (right; simp; omega) | (apply Upd.trans; rotate_left; assumption)))
  (first
   | ((go_at_call 147; (with_reducible refine (klow1 _ (by (repeat (first | assumption | exact Upd.refl _ _ | refine Upd.drew ?_ | refine Upd.alloc ?_ _ | refine Upd.setCell ?_ ?_ _ | focus (left; simp; done) | focus (right; simp; done) | focus (right; simp; omega) | (apply Upd.trans; rotate_left; assumption))))).mono ?_)); rintro e w2 ⟨rfl, hM2, hu2⟩; (have hv2 : Upd F W w2 := Upd.trans (by (repeat (first | assumption | exact Upd.refl _ _ | refine Upd.drew ?_ | refine Upd.alloc ?_ _ | refine Upd.setCell ?_ ?_ _ | focus (left; simp; done) | focus (right; simp; done) | focus (right; simp; omega) | (apply Upd.trans; rotate_left; assumption)))) hu2)))
 obtain ⟨hM, hI, hp, hhas, hhas', hxm, hlt, hM2', hgi', hin'⟩ := HX.out
 have kh := chome_yes hM2.cells x hin'
 rw [hgi'] at kh
 have q0 := hM2.h0
 have hM3 := fun w3 (hC3 : CellsAt w3 B.c F (lowN A x k s) st) (hu3 : Upd F w2 w3) => hM2.setC hu3 hC3 (fun x hx => Or.inl hx) rfl
 have hcg3 := fun w3 hC3 hu3 => (hM3 w3 hC3 hu3).fam.cell (g := g) (by have := (hasN_iff _ _).1 hhas'; omega) hp
 have hh3 := fun w3 hC3 hu3 => (hM3 w3 hC3 hu3).h2
 have kr3 := fun w3 hC3 hu3 => kraise w3 (hM3 w3 hC3 hu3)
 have hml : (lowN A x k s).hs.length = (lowN A x k s).hs.length := rfl
 have hgI2 : (g : Int) < ((lowN A x k s).hs.length : Int) := by have := (hasN_iff _ _).1 hhas'; omega
 clear hM hI hhas hhas' hxm hlt hM2' hgi' hin' kraise klow1 e0 e1 e2 hml hM2
 generalize (lowN A x k s).hs.length = m2 at *
 go_wp2_with (first
  | ((go_at_call 140; (with_reducible refine (kh).mono ?_)); rintro e w3 ⟨rfl, hC3, hu3⟩; (have a0 := (hM3 w3 hC3 hu3).h0); (have a2 := hh3 w3 hC3 hu3); (have ag := hcg3 w3 hC3 hu3); (have kr4 := kr3 w3 hC3 hu3))
  | ((go_at_call 148; (with_reducible refine (kr4).mono ?_)); rintro e w4 ⟨rfl, L', hc, hR4, hp4, hH4, hO4, hu4⟩)
  | fail)
 go_ret
 obtain ⟨hM, hI, hp, hhas, hhas', hxm, hlt, -, -, -⟩ := HX.out
 have hM3' := hM3 w3 hC3 hu3
 obtain ⟨st', hM4⟩ := hM3'.rowed hhas' hp hu4 hR4 (fun z hz => Or.inl hz) hO4
 have hI4 := hI.low hM.dd.1 hB hhas hxm hp4 hH4
 have hgz : ∀ z, z ∈ G g ++ [B.c] → z ∈ F ++ Z := fun z hz => by
  rcases List.mem_append.1 hz with e | e
  ·exact List.mem_append.2 (Or.inr (hM.fam.inZ g hhas z e))
  ·simp at e; rw [e]; exact List.mem_append.2 (Or.inl hM.cells.mem)
 have hbl : ∀ z, z ∈ F ++ Z → z ∈ B.blk F Z gr := fun z hz => by
  simp only [DB.blk, List.mem_cons, List.mem_append] at hz ⊢; exact Or.inr (Or.inr hz)
 refine ⟨rfl, B.blk F (Z ++ G g) gr, ⟨Z ++ G g, st', rfl, cr, ptr, _, _, hM4, hI4⟩, (((HW.out.1.mono (by simp)).trans (hv2.mono (fun z hz => hbl z (List.mem_append.2 (Or.inl hz))))).trans (hu3.mono (fun z hz => hbl z (List.mem_append.2 (Or.inl hz))))).trans (hu4.mono (fun z hz => hbl z (hgz z hz))), fun z hz => Or.inl ?_⟩
 simp only [DB.blk, List.mem_cons, List.mem_append] at hz ⊢
 rcases hz with h | h | h | h | h
 ·exact Or.inl h
 ·exact Or.inr (Or.inl h)
 ·exact Or.inr (Or.inr (Or.inl h))
 ·exact Or.inr (Or.inr (Or.inr h))
 ·exact Or.inr (Or.inr (Or.inr (hM.fam.inZ g hhas z h)))
def RemR (B : DB) (F Z : List Nat) (gr cr : Nat) (A : NS) (st : Nat) (ptr : Nat → Option Nat) (G L : Nat → List Nat) (g rp x : Nat) (w2 : World) : Prop :=
 DrM w2 B F Z gr cr A st ptr G L ∧ ∀ Y, Upd [] w2 Y → Calls Tryz.prog 150 #[.pointer (some ⟨rp, 0, none⟩), .iface 170 (.pointer (some ⟨B.n0, 0, none⟩)), .int .i64 (x : Int)] Y fun e w' => e = .returned (.bool true) ∧ ∃ L' hc, RwAt w' rp (G g) B.d L' ∧ (x :: L').Perm (L g) ∧ Hp (ltR A) B.d L' ∧ (drO B F A hc).at_ w' ∧ Upd (G g ++ [B.c]) Y w' ∧
  ∀ V, Upd [] w' V → Calls Tryz.prog 151 #[.pointer (some ⟨B.c, 0, none⟩), .int .i64 (x : Int)] V fun e w'' => e = .returned (.bool true) ∧ Upd F V w'' ∧ ∃ st', CellsAt w'' B.c F (dropN A x) st'
set_option maxHeartbeats 4000000 in
set_option maxRecDepth 10000 in
theorem ddelete_yes (h : DrAt w B F Z gr A st) (x : Nat) (hin : inN A (x : Int) = true) :
  Calls Tryz.prog 136 #[.pointer (some ⟨B.n0, 0, none⟩), .int .i64 (x : Int)] w fun e w' => e = .returned (.bool true) ∧ Goes (B.blk F Z gr) w w' (fun F' => ∃ Z' st', F' = B.blk F Z' gr ∧ DrAt w' B F Z' gr (dropN A x) st') := by
 obtain ⟨cr, ptr, G, L, hM, hI⟩ := h
 have hok := hM.cells.ok
 have hcs := hok.c1
 have hin2 := (inN_nat _ _).1 hin
 have hhas := inN_has hok hin
 rw [Int.toNat_natCast] at hhas
 obtain ⟨g, hg⟩ : ∃ g : Nat, (A.c x).i = g := ⟨(A.c x).i.toNat, by omega⟩
 rw [hg] at hhas
 have hgN := (hasN_iff _ _).1 hhas
 have hxm : x ∈ L g := (hI.mem g x hhas).2 ⟨hin2.1, hg⟩
 have hmany := hI.many hhas
 obtain ⟨rp, hp, -⟩ := hM.fam.row g hhas
 have kh : ∀ W, Upd [] w W → Calls Tryz.prog 140 #[.pointer (some ⟨B.c, 0, none⟩), .int .i64 (x : Int)] W fun e w2 => e = .returned (.tuple #[.int .i64 (g : Int), .bool true]) ∧ Upd F W w2 ∧ RemR B F Z gr cr A st ptr G L g rp x w2 := fun W hW => by
  have k := chome_yes (hM.upd0 hW).cells x hin
  rw [hg] at k
  refine k.mono ?_
  rintro e w2 ⟨rfl, hC2, hu2⟩
  have hM2 := (hM.upd0 hW).setC hu2 hC2 (fun x hx => Or.inl hx) rfl
  refine ⟨rfl, hu2, hM2, fun Y hY => ?_⟩
  have hMY := hM2.upd0 hY
  obtain ⟨rp', hp', hRY⟩ := hMY.fam.row g hhas
  rw [hp] at hp'
  cases hp'
  have hRY' : RwAt Y rp (G g) B.d (L g) := hRY
  refine (rremove_any (drO B F A hMY.cells.mem) hMY.ord hRY' hM.dd (by omega) x hxm (hI.nd g hhas) (hI.hp g hhas) (fun y hy => (hI.len hhas hy).2.1) (fun y hy => by have := (hI.len hhas hy).1; omega) (hMY.clear hhas)).mono ?_
  rintro e w' ⟨rfl, L', h1, h2, h3, h4, h5⟩
  refine ⟨rfl, L', _, h1, h2, h3, h4, h5, fun V hV => ?_⟩
  obtain ⟨-, -, st', hC⟩ := h4
  refine (cdrop_yes (hC.upd0 hV) x hin).mono ?_
  rintro e w'' ⟨rfl, hC', hu'⟩
  exact ⟨rfl, hu', st', hC'⟩
 have c0 := hM.h0
 have c2 := hM.h2
 have cg := hM.fam.cell (by omega) hp
 have hlt := hM.lt
 have HX := Lib.hid (And.intro hM (And.intro hI (And.intro hp (And.intro hhas (And.intro hxm hlt)))))
 have n1 : B.n0 ∉ F ++ Z := fun hm => by rcases List.mem_append.1 hm with e | e; exact hM.sepF.1 e; exact (hM.sepZ _ e).2 rfl
 have n2 : gr ∉ F ++ Z := fun hm => by rcases List.mem_append.1 hm with e | e; exact hM.sepF.2.1 e; exact hM.fam.grZ e
 have hgI : (g : Int) < (A.hs.length : Int) := by omega
 have hgz : ∀ z, z ∈ G g ++ [B.c] → z ∈ F ++ Z := fun z hz => by
  rcases List.mem_append.1 hz with e | e
  ·exact List.mem_append.2 (Or.inr (hM.fam.inZ g hhas z e))
  ·simp at e; rw [e]; exact List.mem_append.2 (Or.inl hM.cells.mem)
 clear hM hI hok hcs hin2 hhas hgN hxm hmany hp hlt
 generalize A.hs.length = m at *
 go_enter Tryz.func136, Tryz.ntmps136
 go_upto_region 2 with (first
  | ((go_at_call 140; (with_reducible refine (kh _ (by (repeat (first | assumption | exact Upd.refl _ _ | refine Upd.alloc ?_ _ | refine Upd.drew ?_ | refine Upd.drewN ?_ _ | refine Upd.setCell ?_ ?_ _ | focus (left; simp; done) | focus (right; simp; done) | focus (right; simp; omega))))).mono ?_)); rintro e w2 ⟨rfl, hu2, hM2, krem⟩)
  | fail)
 have hu2' : Upd (F ++ Z) w w2 := hu2.mono (fun z hz => List.mem_append.2 (Or.inl hz))
 have e2 : ∀ X, Upd (F ++ Z) w2 X → X.cell? ⟨B.n0, 0, none⟩ = some (.pointer (some ⟨B.c, 0, none⟩)) := fun X h => (hu2'.trans h).kept c0 n1
 have e3 : ∀ X, Upd (F ++ Z) w2 X → X.cell? ⟨B.n0, 2, none⟩ = some (.slice (some ⟨gr, 0, none⟩) m cr) := fun X h => (hu2'.trans h).kept c2 n1
 have e4 : ∀ X, Upd (F ++ Z) w2 X → X.cell? ⟨gr, g, none⟩ = some (.pointer (some ⟨rp, 0, none⟩)) := fun X h => (hu2'.trans h).kept cg n2
 clear c0 c2 cg kh hu2
 have a2 := e2 w2 (Upd.refl _ _)
 have a3 := e3 w2 (Upd.refl _ _)
 have a4 := e4 w2 (Upd.refl _ _)
 go_wp2_with (first
   | ((go_at_call 150; (with_reducible refine (krem _ (by (repeat (first | assumption | exact Upd.refl _ _ | refine Upd.drew ?_ | refine Upd.alloc ?_ _ | refine Upd.setCell ?_ ?_ _ | focus (left; simp; done) | focus (right; simp; done) | focus (right; simp; omega) | (apply Upd.trans; rotate_left; assumption))))).mono ?_)); rintro e w3 ⟨rfl, L', hc, hR3, hp3, hH3, hO3, hu3, kdrop⟩; (have hv3 : Upd (F ++ Z) w2 w3 := Upd.trans (by (repeat (first | assumption | exact Upd.refl _ _ | refine Upd.drew ?_ | refine Upd.alloc ?_ _ | refine Upd.setCell ?_ ?_ _ | focus (left; simp; done) | focus (right; simp; done) | focus (right; simp; omega) | (apply Upd.trans; rotate_left; assumption)))) (hu3.mono hgz)); (have b2 := e2 w3 hv3); (have b3 := e3 w3 hv3); (have b4 := e4 w3 hv3))
   | ((go_at_call 151; (with_reducible refine (kdrop _ (by (repeat (first | assumption | exact Upd.refl _ _ | refine Upd.drew ?_ | refine Upd.alloc ?_ _ | refine Upd.setCell ?_ ?_ _ | focus (left; simp; done) | focus (right; simp; done) | focus (right; simp; omega) | (apply Upd.trans; rotate_left; assumption))))).mono ?_)); rintro e w4 ⟨rfl, hu4, st4, hC4⟩; (have hv4 : Upd (F ++ Z) w2 w4 := Upd.trans hv3 (hu4.mono (fun z hz => List.mem_append.2 (Or.inl hz)))))
   | fail)
 obtain ⟨hM, hI, hp, hhas, hxm, hlt⟩ := HX.out
 have hu3' : Upd (G g ++ [B.c]) w2 w3 := Upd.trans (by (repeat (first | assumption | exact Upd.refl _ _ | refine Upd.drew ?_ | refine Upd.alloc ?_ _ | refine Upd.setCell ?_ ?_ _ | focus (left; simp; done) | focus (right; simp; done) | focus (right; simp; omega) | (apply Upd.trans; rotate_left; assumption)))) hu3
 have hu4' : Upd F w3 w4 := Upd.trans (by (repeat (first | assumption | exact Upd.refl _ _ | refine Upd.drew ?_ | refine Upd.alloc ?_ _ | refine Upd.setCell ?_ ?_ _ | focus (left; simp; done) | focus (right; simp; done) | focus (right; simp; omega) | (apply Upd.trans; rotate_left; assumption)))) hu4
 obtain ⟨st', hM3⟩ := hM2.rowed hhas hp hu3' hR3 (fun z hz => Or.inl hz) hO3
 have hM4 := hM3.setC hu4' hC4 (fun x hx => Or.inl hx) (drop_hs _ _)
 have hI4 := hI.drop hM.dd.1 hhas hxm hp3 hH3
 go_ret
 refine ⟨rfl, B.blk F (Z ++ G g) gr, ⟨Z ++ G g, st4, rfl, cr, ptr, _, _, hM4, hI4⟩, (hu2'.trans hv4).mono (fun z hz => ?_), fun z hz => Or.inl ?_⟩
 ·simp only [DB.blk, List.mem_cons, List.mem_append] at hz ⊢; exact Or.inr (Or.inr hz)
 ·simp only [DB.blk, List.mem_cons, List.mem_append] at hz ⊢
  rcases hz with h | h | h | h | h
  ·exact Or.inl h
  ·exact Or.inr (Or.inl h)
  ·exact Or.inr (Or.inr (Or.inl h))
  ·exact Or.inr (Or.inr (Or.inr h))
  ·exact Or.inr (Or.inr (Or.inr (hM.fam.inZ g hhas z h)))
set_option maxHeartbeats 1000000 in
theorem dextract_some (h : DrAt w B F Z gr A st) (g m : Nat) (hm : minN A g = some m) :
  Calls Tryz.prog 138 #[.pointer (some ⟨B.n0, 0, none⟩), .int .i64 (g : Int)] w fun e w' => e = .returned (.tuple #[.int .i64 (m : Int), .bool true]) ∧ Goes (B.blk F Z gr) w w' (fun F' => ∃ Z' st', F' = B.blk F Z' gr ∧ DrAt w' B F Z' gr (dropN A m) st') := by
 have hin := (minN_in hm).2.2.2
 have hok : A.Ok := by obtain ⟨cr, ptr, G, L, hM, hI⟩ := h; exact hM.cells.ok
 have hhas : hasN A g = true := by
  have := inN_has hok hin
  rw [Int.toNat_natCast, (minN_in hm).2.2.1] at this
  exact this
 have km := dmin_has h g hhas
 rw [hm, show slotV (some m) = (m : Int) from rfl, show (some m).isSome = true from rfl] at km
 have kd := ddelete_yes h m hin
 clear h hm hin hok hhas
 go_enter Tryz.func138, Tryz.ntmps138
 go_wp2_with (first
  | (go_at_call 145; (with_reducible refine (km).mono ?_); rintro e w9 ⟨rfl, hw9⟩; rw [hw9]; clear hw9 w9)
  | ((go_at_call 136; (with_reducible refine (kd).mono ?_)); rintro e w2 ⟨rfl, hg⟩)
  | fail)
 go_ret2
 exact ⟨rfl, hg⟩
end
end Go.Proofs.YtklibcncmbofpaaGreat
namespace Go.Proofs.YtklibcncmbofpaaGreat
open Go.RowKit
def arity (k d : Int) : Int := if k = 1 then 2 else d
set_option maxHeartbeats 400000 in
theorem arity_any (k d : Int) (hc : chk k d = 0) (w : World) :
  Calls Tryz.prog 92 #[.agg #[.int .i64 k, .int .i64 d]] w fun e w' => e = .returned (.int .i64 (arity k d)) ∧ Upd [] w w' := by
 have kc := fun W => check_any k d W
 rw [hc] at kc
 unfold arity
 clear hc
 by_cases h1 : k = 1
 ·rw [if_pos h1]
  subst h1
  go_enter Tryz.func92, Tryz.ntmps92
  go_wp2_with (first | ((go_at_call 50; (with_reducible refine (kc _).mono ?_)); rintro e w1 ⟨rfl, hb⟩; obtain ⟨hc, hf⟩ := bcell hb) | fail)
  go_ret
  exact ⟨rfl, ((Upd.refl _ _).alloc _).trans (hb.mono (by simp))⟩
 ·rw [if_neg h1]
  have h2 : (k == 1) = false := by simpa using h1
  go_enter Tryz.func92, Tryz.ntmps92
  go_wp2_with (first | ((go_at_call 50; (with_reducible refine (kc _).mono ?_)); rintro e w1 ⟨rfl, hb⟩; obtain ⟨hc, hf⟩ := bcell hb) | fail)
  go_ret
  exact ⟨rfl, ((Upd.refl _ _).alloc _).trans (hb.mono (by simp))⟩
end Go.Proofs.YtklibcncmbofpaaGreat
namespace Go.Proofs.YtklibcncmbofpaaGreat
open Go Go.RowKit
theorem dr_via_has (p c : Nat) : ∀ W : World, W.cell? ⟨p, 0, none⟩ = some (.pointer (some ⟨c, 0, none⟩)) → (method 429 170 (.pointer (some ⟨p, 0, none⟩)) "Has").run Tryz.prog W = .ok (139, .pointer (some ⟨c, 0, none⟩)) W := (by intro W h; unfold method; have hm : ∃ m, (Array.find? (fun x => x.name == "Has") Tryz.t170.methods) = some m ∧ m.path.toList = [⟨207, 0, true⟩] ∧ m.func = some (139, true) ∧ m.path.isEmpty = false := ⟨(Array.find? (fun x => x.name == "Has") Tryz.t170.methods).get!, by kernel_rfl, by kernel_rfl, by kernel_rfl, by kernel_rfl⟩; obtain ⟨m, h1, h2, h3, h4⟩ := hm; go_simp; simp only [follow, Place.get]; go_simp; (try unfold receiverAt); (try simp only [Place.get]); (try go_simp))
theorem dr_via_entry (p c : Nat) : ∀ W : World, W.cell? ⟨p, 0, none⟩ = some (.pointer (some ⟨c, 0, none⟩)) → (method 429 170 (.pointer (some ⟨p, 0, none⟩)) "Entry").run Tryz.prog W = .ok (137, .pointer (some ⟨c, 0, none⟩)) W := (by intro W h; unfold method; have hm : ∃ m, (Array.find? (fun x => x.name == "Entry") Tryz.t170.methods) = some m ∧ m.path.toList = [⟨207, 0, true⟩] ∧ m.func = some (137, true) ∧ m.path.isEmpty = false := ⟨(Array.find? (fun x => x.name == "Entry") Tryz.t170.methods).get!, by kernel_rfl, by kernel_rfl, by kernel_rfl, by kernel_rfl⟩; obtain ⟨m, h1, h2, h3, h4⟩ := hm; go_simp; simp only [follow, Place.get]; go_simp; (try unfold receiverAt); (try simp only [Place.get]); (try go_simp))
theorem dr_make (p : Nat) : ∀ W : World, (method 429 170 (.pointer (some ⟨p, 0, none⟩)) "Make").run Tryz.prog W = .ok (143, .pointer (some ⟨p, 0, none⟩)) W := fun _ => by kernel_rfl
theorem dr_insert (p : Nat) : ∀ W : World, (method 429 170 (.pointer (some ⟨p, 0, none⟩)) "Insert").run Tryz.prog W = .ok (141, .pointer (some ⟨p, 0, none⟩)) W := fun _ => by kernel_rfl
theorem dr_min (p : Nat) : ∀ W : World, (method 429 170 (.pointer (some ⟨p, 0, none⟩)) "Min").run Tryz.prog W = .ok (145, .pointer (some ⟨p, 0, none⟩)) W := fun _ => by kernel_rfl
theorem dr_extract (p : Nat) : ∀ W : World, (method 429 170 (.pointer (some ⟨p, 0, none⟩)) "Extract").run Tryz.prog W = .ok (138, .pointer (some ⟨p, 0, none⟩)) W := fun _ => by kernel_rfl
theorem dr_decrease (p : Nat) : ∀ W : World, (method 429 170 (.pointer (some ⟨p, 0, none⟩)) "Decrease").run Tryz.prog W = .ok (135, .pointer (some ⟨p, 0, none⟩)) W := fun _ => by kernel_rfl
def DrQ (d : Nat) (w : World) (p : Nat) (F : List Nat) (A : NS) : Prop := ∃ B F1 Z gr st, p = B.n0 ∧ F = B.blk F1 Z gr ∧ B.d = d ∧ DrAt w B F1 Z gr A st
theorem DrQ.of {d : Nat} {B : DB} {F1 : List Nat} {gr : Nat} {A : NS} {F : List Nat} {w w' : World} (hd : B.d = d) (h : Goes F w w' (fun F' => ∃ Z' st', F' = B.blk F1 Z' gr ∧ DrAt w' B F1 Z' gr A st')) : Goes F w w' (fun F' => DrQ d w' B.n0 F' A) := by
 obtain ⟨F', ⟨Z', st', rfl, hA⟩, hu, hf⟩ := h
 exact ⟨_, ⟨B, F1, Z', gr, st', rfl, rfl, hd, hA⟩, hu, hf⟩
def nestDrQ (d : Nat) : NestQ where
 ty := 170
 at_ := DrQ d
 upd := fun h hu hS => by
  obtain ⟨B, F1, Z, gr, st, rfl, rfl, hd, hL⟩ := h
  exact ⟨B, F1, Z, gr, st, rfl, rfl, hd, hL.upd hu hS⟩
 lt := fun h => by
  obtain ⟨B, F1, Z, gr, st, rfl, rfl, hd, cr, ptr, G, L, hM, hI⟩ := h
  exact hM.lt
 ok := fun h => by
  obtain ⟨B, F1, Z, gr, st, rfl, rfl, hd, cr, ptr, G, L, hM, hI⟩ := h
  exact hM.cells.ok
 make := fun {w p F A} h => by
  obtain ⟨B, F1, Z, gr, st, rfl, rfl, hd, hL⟩ := h
  refine mth_direct 143 (fun _ _ => by kernel_rfl) (dr_make _) (fun W hW => ?_)
  have hLW := hL.upd0 hW
  by_cases hl : 65536 < A.hs.length
  ·have e1 : makeV A = 0 := by unfold makeV; rw [if_pos hl]
   have e2 : makeN A = A := by unfold makeN; rw [if_pos hl]
   rw [e1, e2]
   refine (dmake_no hLW hl).mono ?_
   rintro e w' ⟨rfl, F', ⟨F2, rfl, hA⟩, hu, hf⟩
   exact ⟨rfl, _, ⟨B, F2, Z, gr, st, rfl, rfl, hd, hA⟩, hu, hf⟩
  ·have e1 : makeV A = A.hs.length := by unfold makeV; rw [if_neg hl]
   rw [e1]
   refine (dmake_yes hLW hl).mono ?_
   rintro e w' ⟨rfl, F', ⟨F2, Z2, gr2, rfl, hA⟩, hu, hf⟩
   exact ⟨rfl, _, ⟨B, F2, Z2, gr2, st, rfl, rfl, hd, hA⟩, hu, hf⟩
 insert := fun {w p F A} g y k s hk hB h => by
  obtain ⟨B, F1, Z, gr, st, rfl, rfl, hd, hL⟩ := h
  refine mth_direct 141 (fun _ _ => by kernel_rfl) (dr_insert _) (fun W hW => ?_)
  exact (dinsert_yes (hL.upd0 hW) g y k s hk hB).mono (fun e w' h => ⟨h.1, DrQ.of hd h.2⟩)
 min := fun {w p F A} g hB h => by
  obtain ⟨B, F1, Z, gr, st, rfl, rfl, hd, hL⟩ := h
  refine mth_direct 145 (fun _ _ => by kernel_rfl) (dr_min _) (fun W hW => ?_)
  refine (dmin_has (hL.upd0 hW) g hB).mono ?_
  rintro e w' ⟨rfl, rfl⟩
  exact ⟨rfl, Goes.stay ⟨B, F1, Z, gr, st, rfl, rfl, hd, hL.upd0 hW⟩ (Upd.refl _ _)⟩
 extract := fun {w p F A} g m hm h => by
  obtain ⟨B, F1, Z, gr, st, rfl, rfl, hd, hL⟩ := h
  refine mth_direct 138 (fun _ _ => by kernel_rfl) (dr_extract _) (fun W hW => ?_)
  exact (dextract_some (hL.upd0 hW) g m hm).mono (fun e w' h => ⟨h.1, DrQ.of hd h.2⟩)
 decrease := fun {w p F A} y k s hk hB h => by
  obtain ⟨B, F1, Z, gr, st, rfl, rfl, hd, hL⟩ := h
  refine mth_direct 135 (fun _ _ => by kernel_rfl) (dr_decrease _) (fun W hW => ?_)
  exact (ddec_yes (hL.upd0 hW) y k s hk hB).mono (fun e w' h => ⟨h.1, DrQ.of hd h.2⟩)
 has := fun x h => by
  obtain ⟨B, F1, Z, gr, st, rfl, rfl, hd, cr, ptr, G, L, hM, hI⟩ := h
  exact mth_via 139 (fun _ _ => by kernel_rfl) hM.h0 (dr_via_has _ _) (fun W hW => chas_any (hM.upd0 hW).cells x)
 entry := fun {w p F A} x h => by
  obtain ⟨B, F1, Z, gr, st, rfl, rfl, hd, cr, ptr, G, L, hM, hI⟩ := h
  refine mth_via 137 (fun _ _ => by kernel_rfl) hM.h0 (dr_via_entry _ _) (fun W hW => ?_)
  cases hin : inN A x with
  | false => simpa using centry_no (hM.upd0 hW).cells x hin
  | true =>
   obtain ⟨y, rfl⟩ := in_nat hin
   simpa using centry_yes (hM.upd0 hW).cells y hin
theorem madeDr_any (p : Nat) (w : World) : Calls Tryz.prog 90 #[.pointer (some ⟨p, 0, none⟩), .int .i64 0] w fun e w' => e = .returned (.tuple #[.iface 170 (.pointer (some ⟨p, 0, none⟩)), .int .i64 0]) ∧ w' = w := by
 go_enter Tryz.func90, Tryz.ntmps90
 go_wp2
 go_ret2
 exact ⟨rfl, rfl⟩
theorem opens_dr (kd d : Int) (n m : Nat) (hc : chk kd d = 0) (hk : kd = 1 ∨ kd = 2) (hm : arity kd d = (m : Int)) (hn : n ≤ 65536) : Opens (nestDrQ m) kd d n := by
 intro w
 have hd : 2 ≤ m ∧ m ≤ 16 := by
  have h1 := chk_ok hc
  unfold arity at hm
  rcases hk with e | e
  ·rw [if_pos e] at hm; omega
  ·rw [if_neg (by omega)] at hm
   have := h1.2.2.1 e
   omega
 have kn := fun W => dnew_yes n m W hn hd
 have km := madeDr_any
 have ka := fun W => arity_any kd d hc W
 rw [hm] at ka
 have hty : (nestDrQ m).ty = 170 := rfl
 have hat : ∀ w' B F Z gr, B.d = m → DrAt w' B F Z gr (NS.new n) 0 → (nestDrQ m).at_ w' B.n0 (B.blk F Z gr) (NS.new n) := fun w' B F Z gr hd h => ⟨B, F, Z, gr, 0, rfl, rfl, hd, h⟩
 generalize nestDrQ m = K at *
 rw [hty]
 clear hm hc
 rcases hk with rfl | rfl
 all_goals
  go_enter Tryz.func81, Tryz.ntmps81
  go_wp2_with (first
   | ((go_at_call 92; (with_reducible refine (ka _).mono ?_)); rintro e w0 ⟨rfl, hu0⟩)
   | ((go_at_call 91; (with_reducible refine (kn _).mono ?_)); rintro e w1 ⟨B, F, gr, rfl, hS, hu1, hf, hBd⟩)
   | ((go_at_call 90; (with_reducible refine (km _ _).mono ?_)); rintro e w2 ⟨rfl, rfl⟩)
   | fail)
  go_ret2
  have hs := hu0.size
  exact ⟨B.n0, B.blk F [] gr, rfl, hat _ _ _ _ _ hBd hS, Upd.trans (Upd.trans (by (repeat (first | assumption | exact Upd.refl _ _ | refine Upd.alloc ?_ _ | refine Upd.drew ?_ | refine Upd.drewN ?_ _ | refine Upd.setCell ?_ ?_ _ | focus (left; simp; done) | focus (right; simp; done) | focus (right; simp; omega)))) hu0) hu1, fun x hx => by have := hf x hx; simp at hs; omega⟩
end Go.Proofs.YtklibcncmbofpaaGreat
