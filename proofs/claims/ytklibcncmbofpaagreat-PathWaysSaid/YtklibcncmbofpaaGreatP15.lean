/-
  Lemmas for PathWays: Bt5, Bt3, Bt4, TOps, Lf, Lf2, Lf3. Conditions: those of each lemma.
-/
import Derived.Test.YtklibcncmbofpaaGreatProg
import Derived.WalkKit
import Derived.WalkSpells
import Derived.WalkLawsBesides
import Derived.BigQuiet
import Derived.Deep.RegionHeld3
import Derived.ProofKit
import Derived.OpenShut
import Derived.Lib.Hide
import Derived.Maps.AppendAt
import Derived.StillTailTactics
import Derived.Maps.OwnSet
import Derived.Maps.OwnOps
import Derived.Maps.RangeWalk
import Derived.IntWalk
import Derived.Test.YtklibcncmbofpaaGreatP01
import Derived.Test.YtklibcncmbofpaaGreatP03
import Derived.Test.YtklibcncmbofpaaGreatP04
import Derived.Test.YtklibcncmbofpaaGreatP05
import Derived.Test.YtklibcncmbofpaaGreatP06
import Derived.Test.YtklibcncmbofpaaGreatP07
import Derived.Test.YtklibcncmbofpaaGreatP13
import Derived.Test.YtklibcncmbofpaaGreatP14
set_option linter.unusedVariables false
set_option linter.unusedSimpArgs false
namespace Go.Proofs.YtklibcncmbofpaaGreat
open Go Go.RowKit
theorem plug_ctx_mem {P : List Fr} {t : BT} {y : Nat} : y ∈ (plug P t).nodes ↔ y ∈ t.nodes ∨ y ∈ ctxN P := by
 rw [(plug_nodes P t).mem_iff, List.mem_append]
def cutV (f : Fr) (t : BT) : Int := if t.root = -1 then 0 else (f.1 : Int)
section
variable {w : World} {bt ba n : Nat} {S : TS}
theorem tcut_any (h : TreesAt w bt ba n S) {f : Fr} {P : List Fr} {t : BT} (hT : IsT S (-1) (plug (f :: P) t).root (plug (f :: P) t)) (hn : (plug (f :: P) t).nodes.Nodup) (hlt : ∀ y, y ∈ (plug (f :: P) t).nodes → y < n) :
  Calls Tryz.prog 244 #[.pointer (some ⟨bt, 0, none⟩), .int .i64 t.root] w fun e w' => e = .returned (.tuple #[.int .i64 (cutV f t), .bool (tb t.root)]) ∧ Upd [ba] w w' ∧
   ∃ S', TreesAt w' bt ba n S' ∧ IsT S' (-1) t.root t ∧ IsT S' (-1) (plug (f :: P) .nil).root (plug (f :: P) .nil) ∧ ∀ y, y ∉ (plug (f :: P) t).nodes → S.at S' y := by
 by_cases ht : t = .nil
 ·subst ht
  refine (cut_no bt ba n S (-1) w h (by unfold upOf; simp)).mono ?_
  rintro e w' ⟨rfl, rfl⟩
  exact ⟨by simp [cutV, BT.root, tb], Upd.refl _ _, S, h, rfl, hT, fun y _ => ⟨rfl, rfl, rfl⟩⟩
 ·obtain ⟨c1, c2, c3⟩ := cut_plug hT ht hn
  obtain ⟨m1, m2⟩ := root_mem ht
  have hp := (isT_plug _ _).1 hT
  have hu : S.u t.root.toNat = (f.1 : Int) := by
   cases t with
   | nil => exact absurd rfl ht
   | node y a b => exact hp.1.2.1
  have hf : f.1 < n := hlt _ (plug_ctx_mem.2 (Or.inr (by simp [ctxN])))
  have hr : t.root.toNat < n := hlt _ (plug_ctx_mem.2 (Or.inl m1))
  have hne : t.root ≠ -1 := by omega
  have k := cut_yes bt ba n S f.1 t.root.toNat w h hf hr hu
  rw [← m2] at k
  refine k.mono ?_
  rintro e w' ⟨rfl, h', hu'⟩
  refine ⟨by unfold cutV tb; rw [if_neg hne]; simp [hne], hu', _, h', c1, c2, fun y hy => c3 y (fun e => hy ?_) (fun e => hy ?_)⟩
  ·rw [e]; exact plug_ctx_mem.2 (Or.inr (by simp [ctxN]))
  ·rw [e]; exact plug_ctx_mem.2 (Or.inl m1)
theorem thang_any (h : TreesAt w bt ba n S) {f : Fr} {P : List Fr} {m : BT} (hT : IsT S (-1) (plug (f :: P) .nil).root (plug (f :: P) .nil)) (hM : IsT S (-1) m.root m) (hm : m ≠ .nil) (hn : (m.nodes ++ ctxN (f :: P)).Nodup) (hlt : ∀ y, y ∈ m.nodes ++ ctxN (f :: P) → y < n) :
  Calls Tryz.prog 251 #[.pointer (some ⟨bt, 0, none⟩), .int .i64 (f.1 : Int), .int .i64 m.root, .bool f.2.1] w fun e w' => e = .returned (.bool true) ∧ Upd [ba] w w' ∧
   ∃ S', TreesAt w' bt ba n S' ∧ IsT S' (-1) (plug (f :: P) m).root (plug (f :: P) m) ∧ ∀ y, y ∉ m.nodes ++ ctxN (f :: P) → S.at S' y := by
 obtain ⟨c1, c2⟩ := hang_plug hT hM hm hn
 obtain ⟨m1, m2⟩ := root_mem hm
 have hp := (isT_plug _ _).1 hT
 have hk : S.kid f.2.1 f.1 = -1 := hp.2.1
 have hu : S.u m.root.toNat = -1 := by
  cases m with
  | nil => exact absurd rfl hm
  | node y a b => exact hM.2.1
 have hf : f.1 < n := hlt _ (by simp [ctxN])
 have hr : m.root.toNat < n := hlt _ (by simp [m1])
 have hne : f.1 ≠ m.root.toNat := fun e => by
  rw [List.nodup_append] at hn
  exact hn.2.2 _ m1 f.1 (by simp [ctxN]) e.symm
 have k := hang_yes bt ba n S f.1 m.root.toNat f.2.1 w h hf hr hne hu hk
 rw [← m2] at k
 refine k.mono ?_
 rintro e w' ⟨rfl, h', hu'⟩
 refine ⟨rfl, hu', _, h', c1, fun y hy => c2 y (fun e => hy ?_) (fun e => hy ?_)⟩
 ·rw [e]; simp [ctxN]
 ·rw [e]; simp [m1]
theorem tup_any (h : TreesAt w bt ba n S) {P : List Fr} {x : Nat} {l r : BT} (hT : IsT S (-1) (plug P (.node x l r)).root (plug P (.node x l r))) (hx : x < n) :
  Calls Tryz.prog 250 #[.pointer (some ⟨bt, 0, none⟩), .int .i64 (x : Int)] w fun e w' => e = .returned (.tuple #[.int .i64 (tv (upP P)), .bool (tb (upP P))]) ∧ ∃ k, w' = w.drewN k := by
 have k := up_any bt ba n S (x : Int) w h
 have e : upOf n S (x : Int) = upP P := by
  unfold upOf; rw [if_pos (by omega), Int.toNat_natCast]
  exact ((isT_plug _ _).1 hT).1.2.1
 rw [e] at k
 exact k
theorem tleft_any (h : TreesAt w bt ba n S) {p : Int} {x : Nat} {l r : BT} (hT : IsT S p x (.node x l r)) (hx : x < n) :
  Calls Tryz.prog 248 #[.pointer (some ⟨bt, 0, none⟩), .int .i64 (x : Int)] w fun e w' => e = .returned (.tuple #[.int .i64 (tv l.root), .bool (tb l.root)]) ∧ ∃ k, w' = w.drewN k := by
 have e : kidOf n S (x : Int) false = l.root := by
  unfold kidOf TS.kid; rw [if_pos (by omega)]; simp only [Int.toNat_natCast]
  exact hT.2.2.1.root
 have k := left_any bt ba n S (x : Int) w h
 rw [e] at k
 exact k
theorem tright_any (h : TreesAt w bt ba n S) {p : Int} {x : Nat} {l r : BT} (hT : IsT S p x (.node x l r)) (hx : x < n) :
  Calls Tryz.prog 249 #[.pointer (some ⟨bt, 0, none⟩), .int .i64 (x : Int)] w fun e w' => e = .returned (.tuple #[.int .i64 (tv r.root), .bool (tb r.root)]) ∧ ∃ k, w' = w.drewN k := by
 have e : kidOf n S (x : Int) true = r.root := by
  unfold kidOf TS.kid; rw [if_pos (by omega)]; simp only [if_true, Int.toNat_natCast]
  exact hT.2.2.2.root
 have k := right_any bt ba n S (x : Int) w h
 rw [e] at k
 exact k
theorem tside_any (h : TreesAt w bt ba n S) {f : Fr} {P : List Fr} {x : Nat} {l r : BT} (hT : IsT S (-1) (plug (f :: P) (.node x l r)).root (plug (f :: P) (.node x l r))) (hn : (plug (f :: P) (.node x l r)).nodes.Nodup) (hf : f.1 < n) :
  ∃ z : Int, (z == (x : Int)) = f.2.1 ∧ Calls Tryz.prog 249 #[.pointer (some ⟨bt, 0, none⟩), .int .i64 (f.1 : Int)] w fun e w' => e = .returned (.tuple #[.int .i64 (tv z), .bool (tb z)]) ∧ ∃ k, w' = w.drewN k := by
 refine ⟨S.r f.1, ?_, ?_⟩
 ·have hp := (isT_plug _ _).1 hT
  obtain ⟨q1, q2, _, _⟩ := hp.2
  unfold TS.kid at q1 q2
  cases hs : f.2.1
  ·rw [hs] at q1 q2
   simp only [Bool.not_false, if_true] at q2
   have e2 := q2.root
   have hx : x ∉ f.2.2.nodes := fun hm => by
    have h1 := (plug_nodes (f :: P) (.node x l r)).nodup_iff.1 hn
    rw [List.nodup_append] at h1
    exact h1.2.2 x (by simp [BT.nodes]) x (by simp [ctxN, hm]) rfl
   have : S.r f.1 ≠ (x : Int) := fun e => by
    rw [e2] at e
    by_cases hnil : f.2.2 = .nil
    ·rw [hnil] at e; have e : (-1 : Int) = x := e; omega
    ·have := (root_mem hnil).1
     rw [e] at this
     exact hx this
   simpa using this
  ·rw [hs] at q1
   simp only [if_true] at q1
   rw [q1]; simp [BT.root]
 ·have k := right_any bt ba n S (f.1 : Int) w h
  have e : kidOf n S (f.1 : Int) true = S.r f.1 := by unfold kidOf TS.kid; rw [if_pos (by omega)]; simp
  rw [e] at k
  exact k
end
end Go.Proofs.YtklibcncmbofpaaGreat
namespace Go.Proofs.YtklibcncmbofpaaGreat
theorem Heap.frame {A A' : NS} : ∀ {t : BT}, Heap A t → (∀ x, x ∈ t.nodes → A'.c x = A.c x) → Heap A' t
 | .nil, _, _ => trivial
 | .node x l r, h, hs => by
  have hx := hs x (by simp [BT.nodes])
  refine ⟨fun y hy => (lt3_same hx (hs y (by simp [BT.nodes, hy]))).2 (h.1 y hy), fun y hy => (lt3_same hx (hs y (by simp [BT.nodes, hy]))).2 (h.2.1 y hy), h.2.2.1.frame (fun y hy => hs y (by simp [BT.nodes, hy])), h.2.2.2.frame (fun y hy => hs y (by simp [BT.nodes, hy]))⟩
structure HpK where
 H : NS → BT → Prop
 frame : ∀ {A A' : NS} {t : BT}, H A t → (∀ x, x ∈ t.nodes → A'.c x = A.c x) → H A' t
 nil : ∀ A, H A .nil
abbrev heapK : HpK := ⟨Heap, Heap.frame, fun _ => trivial⟩
structure TrG (K : HpK) (A : NS) (S : TS) (tops : List Int) (tr : Nat → BT) : Prop where
 top : ∀ h, h < A.hs.length → tops.getD h 0 = (tr h).root
 isT : ∀ h, IsT S (-1) (tr h).root (tr h)
 mem : ∀ h x, x ∈ (tr h).nodes ↔ 0 < h ∧ x < A.cs.length ∧ (A.c x).i = h
 nd : ∀ h, (tr h).nodes.Nodup
 heap : ∀ h, K.H A (tr h)
 free : ∀ x, x < A.cs.length → (A.c x).i = 0 → S.l x = -1 ∧ S.r x = -1 ∧ S.u x = -1
abbrev TrI := TrG heapK
theorem TrG.next {K : HpK} {A A' : NS} {S S' : TS} {tops tops' : List Int} {tr tr' : Nat → BT} (h : TrG K A S tops tr) (hc : A'.cs.length = A.cs.length) (keep : Nat → Prop)
  (k1 : ∀ g, keep g → tr' g = tr g ∧ ∀ x, x ∈ (tr g).nodes → S.at S' x ∧ A'.c x = A.c x)
  (k2 : ∀ g, keep g → ∀ x, x < A.cs.length → 0 < g → ((A'.c x).i = g ↔ (A.c x).i = g))
  (n1 : ∀ g, ¬ keep g → IsT S' (-1) (tr' g).root (tr' g) ∧ (tr' g).nodes.Nodup ∧ K.H A' (tr' g) ∧ ∀ x, x ∈ (tr' g).nodes ↔ 0 < g ∧ x < A.cs.length ∧ (A'.c x).i = g)
  (tp : ∀ g, g < A'.hs.length → tops'.getD g 0 = (tr' g).root)
  (fr : ∀ x, x < A.cs.length → (A'.c x).i = 0 → S'.l x = -1 ∧ S'.r x = -1 ∧ S'.u x = -1) : TrG K A' S' tops' tr' := by
 refine ⟨tp, fun g => ?_, fun g x => ?_, fun g => ?_, fun g => ?_, fun x hx => fr x (by omega)⟩
 ·by_cases hk : keep g
  ·obtain ⟨e, hs⟩ := k1 g hk
   rw [e]; exact (h.isT g).frame (fun y hy => (hs y hy).1)
  ·exact (n1 g hk).1
 ·rw [hc]
  by_cases hk : keep g
  ·rw [(k1 g hk).1, h.mem g x]
   constructor
   ·rintro ⟨a, b, c⟩; exact ⟨a, b, (k2 g hk x b a).2 c⟩
   ·rintro ⟨a, b, c⟩; exact ⟨a, b, (k2 g hk x b a).1 c⟩
  ·exact (n1 g hk).2.2.2 x
 ·by_cases hk : keep g
  ·rw [(k1 g hk).1]; exact h.nd g
  ·exact (n1 g hk).2.1
 ·by_cases hk : keep g
  ·obtain ⟨e, hs⟩ := k1 g hk
   rw [e]; exact K.frame (h.heap g) (fun y hy => (hs y hy).2)
  ·exact (n1 g hk).2.2.1
def single (x : Nat) : BT := .node x .nil .nil
theorem single_isT {S : TS} {x : Nat} (h : S.l x = -1 ∧ S.r x = -1 ∧ S.u x = -1) : IsT S (-1) (single x).root (single x) := ⟨rfl, h.2.2, h.1, h.2.1⟩
theorem TrG.out {K : HpK} {A : NS} {S : TS} {tops : List Int} {tr : Nat → BT} (h : TrG K A S tops tr) {x g : Nat} (hx : (A.c x).i = 0) : x ∉ (tr g).nodes := fun hm => by
 have := (h.mem g x).1 hm
 omega
theorem TrG.put {K : HpK} {A : NS} {S S' : TS} {tops : List Int} {tr : Nat → BT} (h : TrG K A S tops tr) (ok : A.Ok) (hn : tops.length = A.hs.length) {g x : Nat} {k s : Int} (hB : putB A g x = true) {t' : BT}
  (hT : IsT S' (-1) t'.root t') (hp : t'.nodes.Perm ((tr g).nodes ++ [x])) (hH : K.H (putN A g x k s) t') (hs : ∀ y, y ∉ (tr g).nodes ++ [x] → S.at S' y) :
  TrG K (putN A g x k s) S' (tops.set g t'.root) (fun q => if q = g then t' else tr q) := by
 obtain ⟨b1, b2, b3⟩ := (putB_iff _ _ _).1 hB
 have b4 := (hasN_iff _ _).1 b1
 have hx : x < A.cs.length := by have := (slotN_iff _ _).1 b2; omega
 have h0 : (A.c x).i = 0 := by
  have := (ok.nat x hx).1
  have h3 : ¬ (0 < (A.c x).i) := fun h' => by rw [(inN_nat A x).2 ⟨hx, h'⟩] at b3; cases b3
  omega
 have hc : ∀ y, (putN A g x k s).c y = if y = x then ⟨g, k, s⟩ else A.c y := fun y => by
  unfold putN; rw [if_pos hB, Int.toNat_natCast, c_with]
  by_cases e : y = x
  ·rw [if_pos ⟨e, hx⟩, if_pos e]
  ·rw [if_neg (fun h => e h.1), if_neg e]
 have hl : (putN A g x k s).cs.length = A.cs.length := by unfold putN; rw [if_pos hB, len_with]
 have hh : (putN A g x k s).hs = A.hs := by unfold putN; rw [if_pos hB]; rfl
 have hgn : g < A.hs.length := by omega
 refine h.next hl (fun q => q ≠ g) (fun q hq => ⟨if_neg hq, fun y hy => ?_⟩) (fun q hq y hy hq0 => ?_) (fun q hq => ?_) (fun q hq => ?_) (fun y hy hy0 => ?_)
 ·have hyx : y ≠ x := fun e => h.out (g := q) h0 (by rw [← e]; exact hy)
  have hyg : y ∉ (tr g).nodes := fun hm => by
   have a1 := (h.mem g y).1 hm
   have a2 := (h.mem q y).1 hy
   omega
  exact ⟨hs y (by simp [hyx, hyg]), by rw [hc, if_neg hyx]⟩
 ·rw [hc]
  by_cases e : y = x
  ·rw [if_pos e, e]; simp only; omega
  ·rw [if_neg e]
 ·have hq' : q = g := Classical.not_not.1 hq
  subst hq'
  rw [if_pos rfl]
  refine ⟨hT, hp.nodup_iff.2 ?_, hH, fun y => ?_⟩
  ·rw [List.nodup_append]
   refine ⟨h.nd q, by simp, fun a ha b hb e => ?_⟩
   simp only [List.mem_singleton] at hb
   exact h.out (g := q) h0 (by rw [← hb, ← e]; exact ha)
  ·rw [hp.mem_iff, List.mem_append, List.mem_singleton, h.mem q y, hc]
   by_cases e : y = x
   ·rw [if_pos e]
    simp only [e, or_true, true_iff]
    exact ⟨by omega, hx, trivial⟩
   ·rw [if_neg e]
    simp only [e, or_false]
 ·rw [hh] at hq
  by_cases e : q = g
  ·rw [if_pos e, e, List.getD_eq_getElem?_getD, List.getElem?_set, if_pos rfl, if_pos (by omega)]; rfl
  ·rw [if_neg e, List.getD_eq_getElem?_getD, List.getElem?_set, if_neg (fun h => e h.symm), ← List.getD_eq_getElem?_getD]; exact h.top q hq
 ·rw [hc] at hy0
  by_cases e : y = x
  ·rw [if_pos e] at hy0; simp only at hy0; omega
  ·rw [if_neg e] at hy0
   have hyn : y ∉ (tr g).nodes ++ [x] := by
    simp only [List.mem_append, List.mem_singleton, e, or_false]
    exact h.out hy0
   have a1 := h.free y hy hy0
   have a2 := hs y hyn
   exact ⟨a2.1.trans a1.1, a2.2.1.trans a1.2.1, a2.2.2.trans a1.2.2⟩
theorem trI_new {K : HpK} (n : Nat) : TrG K (NS.new n) TS.none [-1] (fun _ => BT.nil) := by
 refine ⟨fun h hh => ?_, fun h => rfl, fun h x => ?_, fun h => List.nodup_nil, fun h => K.nil _, fun x hx _ => ⟨rfl, rfl, rfl⟩⟩
 ·have : h = 0 := by simp [NS.new] at hh; exact hh
  subst this; rfl
 ·rw [NS.new_c]
  simp only [BT.nodes, List.not_mem_nil, false_iff, Cl.z]
  omega
theorem TrG.make {K : HpK} {A : NS} {S : TS} {tops : List Int} {tr : Nat → BT} (h : TrG K A S tops tr) (ok : A.Ok) (hn : tops.length = A.hs.length) (hl : ¬ 65536 < A.hs.length)   : TrG K (makeN A) S (tops ++ [-1]) tr := by
 have hc : (makeN A).cs = A.cs := by unfold makeN; rw [if_neg hl]
 have hh : (makeN A).hs = A.hs ++ [true] := by unfold makeN; rw [if_neg hl]
 have hcc : ∀ x, (makeN A).c x = A.c x := fun x => by unfold NS.c; rw [hc]
 refine h.next (by rw [hc]) (fun _ => True) (fun g _ => ⟨rfl, fun x _ => ⟨⟨rfl, rfl, rfl⟩, hcc x⟩⟩) (fun g _ x _ _ => by rw [hcc]) (fun g hg => absurd trivial hg) (fun g hg => ?_) (fun x hx h0 => h.free x hx (by rw [hcc] at h0; exact h0))
 rw [hh, List.length_append, List.length_singleton] at hg
 by_cases e : g < A.hs.length
 ·rw [List.getD_eq_getElem?_getD, List.getElem?_append_left (by omega), ← List.getD_eq_getElem?_getD]; exact h.top g e
 ·have e2 : g = tops.length := by omega
  have hnil : tr g = .nil := by
   cases ht : tr g with
   | nil => rfl
   | node x l r =>
    have hm := (h.mem g x).1 (by rw [ht]; simp [BT.nodes])
    have := (ok.nat x hm.2.1).2
    omega
  rw [List.getD_eq_getElem?_getD, e2, List.getElem?_append_right (Nat.le_refl _)]
  rw [← e2, hnil]
  simp [BT.root]
end Go.Proofs.YtklibcncmbofpaaGreat
namespace Go.Proofs.YtklibcncmbofpaaGreat
open Go Go.RowKit
theorem low_heap {A : NS} {x : Nat} {k s : Int} (hB : lowB A x k s = true) (hx : x < A.cs.length) {l r : BT} (h : Heap A (.node x l r)) (hn : (BT.node x l r).nodes.Nodup) : Heap (lowN A x k s) (.node x l r) := by
 simp only [BT.nodes, List.nodup_cons, List.mem_append, not_or] at hn
 have hle := lowB_le hB
 rw [Int.toNat_natCast] at hle
 have hc := low_c hB hx
 have hy : ∀ y, y ≠ x → (lowN A x k s).c y = A.c y := fun y e => by rw [hc, if_neg e]
 have hxx : (lowN A x k s).c x = ⟨(A.c x).i, k, s⟩ := by rw [hc, if_pos rfl]
 refine ⟨fun y m => lt3_lower (h.1 y m) (hy y (fun e => hn.1.1 (by rw [← e]; exact m))) ?_, fun y m => lt3_lower (h.2.1 y m) (hy y (fun e => hn.1.2 (by rw [← e]; exact m))) ?_, h.2.2.1.frame (fun y m => hy y (fun e => hn.1.1 (by rw [← e]; exact m))), h.2.2.2.frame (fun y m => hy y (fun e => hn.1.2 (by rw [← e]; exact m)))⟩
 ·rw [hxx]; exact hle
 ·rw [hxx]; exact hle
theorem TrG.low {K : HpK} {A : NS} {S S' : TS} {tops tops' : List Int} {tr : Nat → BT} (h : TrG K A S tops tr) {g x : Nat} {k s : Int} (hB : lowB A x k s = true) (hx : x ∈ (tr g).nodes) {t' : BT}
  (hT : IsT S' (-1) t'.root t') (hp : t'.nodes.Perm (tr g).nodes) (hH : K.H (lowN A x k s) t') (hs : ∀ y, y ∉ (tr g).nodes → S.at S' y)
  (htp : ∀ q, q < A.hs.length → tops'.getD q 0 = if q = g then t'.root else tops.getD q 0) :
  TrG K (lowN A x k s) S' tops' (fun q => if q = g then t' else tr q) := by
 have hm := (h.mem g x).1 hx
 have hc := low_c hB hm.2.1
 have hi := low_i hB hm.2.1
 refine h.next (low_len _ _ _ _) (fun q => q ≠ g) (fun q hq => ⟨if_neg hq, fun y hy => ?_⟩) (fun q hq y hy hq0 => ?_) (fun q hq => ?_) (fun q hq => ?_) (fun y hy hy0 => ?_)
 ·have hyg : y ∉ (tr g).nodes := fun hm => by
   have a1 := (h.mem g y).1 hm
   have a2 := (h.mem q y).1 hy
   omega
  exact ⟨hs y hyg, by rw [hc, if_neg (fun e => hyg (by rw [e]; exact hx))]⟩
 ·rw [hi]
 ·have hq' : q = g := Classical.not_not.1 hq
  subst hq'
  rw [if_pos rfl]
  refine ⟨hT, hp.nodup_iff.2 (h.nd q), hH, fun y => ?_⟩
  rw [hp.mem_iff, h.mem q y, hi]
 ·rw [low_hs] at hq
  rw [htp q hq]
  by_cases e : q = g
  ·rw [if_pos e, if_pos e]
  ·rw [if_neg e, if_neg e]; exact h.top q hq
 ·rw [hi] at hy0
  have a1 := h.free y hy hy0
  have a2 := hs y (h.out hy0)
  exact ⟨a2.1.trans a1.1, a2.2.1.trans a1.2.1, a2.2.2.trans a1.2.2⟩
theorem TrG.del {K : HpK} {A : NS} {S S' : TS} {tops tops' : List Int} {tr : Nat → BT} (h : TrG K A S tops tr) {g x : Nat} (hx : x ∈ (tr g).nodes) {t' : BT}
  (hT : IsT S' (-1) t'.root t') (hp : (x :: t'.nodes).Perm (tr g).nodes) (hH : K.H A t') (hs : ∀ y, y ∉ (tr g).nodes → S.at S' y) (hf : S'.l x = -1 ∧ S'.r x = -1 ∧ S'.u x = -1)
  (htp : ∀ q, q < A.hs.length → tops'.getD q 0 = if q = g then t'.root else tops.getD q 0) :
  TrG K (dropN A x) S' tops' (fun q => if q = g then t' else tr q) := by
 have hm := (h.mem g x).1 hx
 have hin : inN A (x : Int) = true := (inN_nat A x).2 ⟨hm.2.1, by omega⟩
 have hc := drop_c hin
 have hnd : (x :: t'.nodes).Nodup := hp.nodup_iff.2 (h.nd g)
 have hxt : x ∉ t'.nodes := (List.nodup_cons.1 hnd).1
 refine h.next (drop_len _ _) (fun q => q ≠ g) (fun q hq => ⟨if_neg hq, fun y hy => ?_⟩) (fun q hq y hy hq0 => ?_) (fun q hq => ?_) (fun q hq => ?_) (fun y hy hy0 => ?_)
 ·have hyg : y ∉ (tr g).nodes := fun hm => by
   have a1 := (h.mem g y).1 hm
   have a2 := (h.mem q y).1 hy
   omega
  exact ⟨hs y hyg, by rw [hc, if_neg (fun e => hyg (by rw [e]; exact hx))]⟩
 ·rw [hc]
  by_cases e : y = x
  ·rw [if_pos e, e]
   show (0 : Int) = (q : Int) ↔ _
   omega
  ·rw [if_neg e]
 ·have hq' : q = g := Classical.not_not.1 hq
  subst hq'
  rw [if_pos rfl]
  refine ⟨hT, (List.nodup_cons.1 hnd).2, K.frame hH (fun y hy => by rw [hc, if_neg (fun e => hxt (by rw [← e]; exact hy))]), fun y => ?_⟩
  have e1 := hp.mem_iff (a := y)
  rw [List.mem_cons, h.mem q y] at e1
  rw [hc]
  by_cases e : y = x
  ·rw [if_pos e, e]
   refine ⟨fun hh => absurd hh hxt, fun hh => ?_⟩
   have : (0 : Int) = (q : Int) := hh.2.2
   omega
  ·rw [if_neg e, ← e1]; simp [e]
 ·rw [drop_hs] at hq
  rw [htp q hq]
  by_cases e : q = g
  ·rw [if_pos e, if_pos e]
  ·rw [if_neg e, if_neg e]; exact h.top q hq
 ·rw [hc] at hy0
  by_cases e : y = x
  ·rw [e]; exact hf
  ·rw [if_neg e] at hy0
   have a1 := h.free y hy hy0
   have a2 := hs y (h.out hy0)
   exact ⟨a2.1.trans a1.1, a2.2.1.trans a1.2.1, a2.2.2.trans a1.2.2⟩
instance : Nonempty (List Fr × BT × BT) := ⟨([], .nil, .nil)⟩
noncomputable def pathOf (t : BT) (x : Nat) : List Fr × BT × BT := Classical.epsilon fun q : List Fr × BT × BT => t = plug q.1 (.node x q.2.1 q.2.2)
theorem pathOf_eq {t : BT} {x : Nat} (h : x ∈ t.nodes) : t = plug (pathOf t x).1 (.node x (pathOf t x).2.1 (pathOf t x).2.2) := by
 obtain ⟨P, l, r, e⟩ := find_node h
 unfold pathOf
 exact Classical.epsilon_spec (p := fun q : List Fr × BT × BT => t = plug q.1 (.node x q.2.1 q.2.2)) ⟨(P, l, r), e⟩
end Go.Proofs.YtklibcncmbofpaaGreat
namespace Go.Proofs.YtklibcncmbofpaaGreat
open Go Go.RowKit
def setT (tr : Nat → BT) (h : Nat) (t : BT) : Nat → BT := fun q => if q = h then t else tr q
end Go.Proofs.YtklibcncmbofpaaGreat
namespace Go.Proofs.YtklibcncmbofpaaGreat
open Go Go.RowKit
structure LB where
 n0 : Nat
 c : Nat
 bt : Nat
 ba : Nat
 br : Nat
end Go.Proofs.YtklibcncmbofpaaGreat
namespace Go.Proofs.YtklibcncmbofpaaGreat
open Go Go.RowKit
theorem nodup_natlen {n : Nat} {l : List Nat} (hn : l.Nodup) (hl : ∀ x, x ∈ l → x < n) : l.length ≤ n := by
 have := nodup_range n (l.map fun (x : Nat) => (x : Int)) (by
  unfold List.Nodup
  rw [List.pairwise_map]
  exact hn.imp (fun {a b} h e => h (by omega))) (fun y hy => by
  obtain ⟨x, hx, rfl⟩ := List.mem_map.1 hy
  have := hl x hx
  exact ⟨by omega, by omega⟩)
 simpa using this
theorem isT_node {S : TS} {p : Int} {x : Nat} {l r : BT} (hu : S.u x = p) (hl : IsT S x (S.l x) l) (hr : IsT S x (S.r x) r) : IsT S p x (.node x l r) := ⟨rfl, hu, hl, hr⟩
end Go.Proofs.YtklibcncmbofpaaGreat
namespace Go.Proofs.YtklibcncmbofpaaGreat
open Go Go.RowKit
theorem BT.root_cast {t : BT} (h : t ≠ .nil) : t.root = (t.root.toNat : Int) := (root_mem h).2
def cutR (S : TS) (x : Nat) (r : BT) : TS := match r with | .nil => S | .node y _ _ => cutS S x y
theorem cutR_tree {S : TS} {p : Int} {x : Nat} {l r : BT} (h : IsT S p x (.node x l r)) (hn : (BT.node x l r).nodes.Nodup) :
  IsT (cutR S x r) p x (.node x l .nil) ∧ IsT (cutR S x r) (-1) r.root r ∧ ∀ y, y ≠ x → y ∉ r.nodes → S.at (cutR S x r) y := by
 obtain ⟨_, hu, hl, hr⟩ := h
 simp only [BT.nodes, List.nodup_cons, List.mem_append, not_or, List.nodup_append] at hn
 cases r with
 | nil => exact ⟨⟨rfl, hu, hl, hr⟩, rfl, fun y _ _ => ⟨rfl, rfl, rfl⟩⟩
 | node y a b =>
  have hxy : x ≠ y := fun e => hn.1.2 (by rw [e]; simp [BT.nodes])
  have hry : S.r x = y := hr.1
  have e : cutR S x (.node y a b) = cutS S x y := rfl
  rw [e]
  have hl' : ∀ z, (cutS S x y).l z = S.l z := fun z => by unfold cutS TS.setKid TS.setUp; rw [decide_eq_true hry]; rfl
  have hr' : ∀ z, (cutS S x y).r z = if z = x then -1 else S.r z := fun z => by unfold cutS TS.setKid TS.setUp; rw [decide_eq_true hry]; rfl
  have hu' : ∀ z, (cutS S x y).u z = if z = y then -1 else S.u z := fun z => by unfold cutS TS.setKid TS.setUp; rw [decide_eq_true hry]; rfl
  refine ⟨⟨rfl, by rw [hu', if_neg hxy]; exact hu, ?_, by rw [hr', if_pos rfl]; rfl⟩, ?_, fun z h1 h2 => ⟨hl' z, by rw [hr', if_neg h1], by rw [hu', if_neg (fun e => h2 (by rw [e]; simp [BT.nodes]))]⟩⟩
  ·rw [hl']
   refine hl.frame (fun z hz => ⟨hl' z, by rw [hr', if_neg (fun e => hn.1.1 (by rw [← e]; exact hz))], by rw [hu', if_neg (fun e => hn.2.2.2 z hz y (by simp [BT.nodes]) e)]⟩)
  ·have h0 : IsT S x ((BT.node y a b).root) (.node y a b) := by rw [← hr.root]; exact hr
   refine h0.hung (p' := -1) hn.2.2.1 (fun z hz => ⟨hl' z, by rw [hr', if_neg (fun e => hn.1.2 (by rw [← e]; exact hz))], fun hzr => by rw [hu', if_neg (fun e => hzr (by rw [e]; simp [BT.root]))]⟩) (fun _ => by rw [hu']; simp [BT.root])
theorem hang_tree {S : TS} {p : Int} {x : Nat} {l m : BT} (h : IsT S p x (.node x l .nil)) (hm : IsT S (-1) m.root m) (hne : m ≠ .nil) (hn : (BT.node x l m).nodes.Nodup) :
  IsT (hangS S x m.root true) p x (.node x l m) ∧ ∀ y, y ≠ x → y ∉ m.nodes → S.at (hangS S x m.root true) y := by
 obtain ⟨_, hu, hl, _⟩ := h
 simp only [BT.nodes, List.nodup_cons, List.mem_append, not_or, List.nodup_append] at hn
 obtain ⟨r1, r2⟩ := root_mem hne
 have hl' : ∀ z, (hangS S x m.root true).l z = S.l z := fun z => by unfold hangS TS.setKid TS.setUp; rfl
 have hr' : ∀ z, (hangS S x m.root true).r z = if z = x then m.root else S.r z := fun z => by unfold hangS TS.setKid TS.setUp; simp
 have hu' : ∀ z, (hangS S x m.root true).u z = if z = m.root.toNat then (x : Int) else S.u z := fun z => by unfold hangS TS.setKid TS.setUp; simp
 have hxm : x ≠ m.root.toNat := fun e => hn.1.2 (by rw [e]; exact r1)
 refine ⟨⟨rfl, by rw [hu', if_neg hxm]; exact hu, ?_, ?_⟩, fun z h1 h2 => ⟨hl' z, by rw [hr', if_neg h1], by rw [hu', if_neg (fun e => h2 (by rw [e]; exact r1))]⟩⟩
 ·rw [hl']
  exact hl.frame (fun z hz => ⟨hl' z, by rw [hr', if_neg (fun e => hn.1.1 (by rw [← e]; exact hz))], by rw [hu', if_neg (fun e => hn.2.2.2 z hz _ r1 e)]⟩)
 ·rw [hr', if_pos rfl]
  exact hm.hung (p' := (x : Int)) hn.2.2.1 (fun z hz => ⟨hl' z, by rw [hr', if_neg (fun e => hn.1.2 (by rw [← e]; exact hz))], fun hzr => by rw [hu', if_neg hzr]⟩) (fun _ => by rw [hu', if_pos rfl])
structure Down (up : Nat → BT → BT → BT) (A : NS) (S0 : TS) (ta tb : BT) (S : TS) (W : List (Nat × BT)) (a b : BT) : Prop where
 isA : IsT S (-1) a.root a
 isB : IsT S (-1) b.root b
 way : ∀ p, p ∈ W → IsT S (-1) (p.1 : Int) (.node p.1 p.2 .nil)
 far : ∀ y, y ∉ ta.nodes ++ tb.nodes → S0.at S y
 perm : (wayN W ++ (a.nodes ++ b.nodes)).Perm (ta.nodes ++ tb.nodes)
 res : mergeT up A ta tb = (zipUp up W (mergeT up A a b).1, W.length + (mergeT up A a b).2)
theorem Down.start (up : Nat → BT → BT → BT) (A : NS) {S0 : TS} {ta tb : BT} (ha : IsT S0 (-1) ta.root ta) (hb : IsT S0 (-1) tb.root tb) : Down up A S0 ta tb S0 [] ta tb :=
 ⟨ha, hb, fun p hp => (by cases hp), fun y _ => ⟨rfl, rfl, rfl⟩, by simp [wayN], by simp [zipUp]⟩
theorem wayN_snoc (W : List (Nat × BT)) (x : Nat) (l : BT) : wayN (W ++ [(x, l)]) = wayN W ++ (x :: l.nodes) := by unfold wayN; simp
theorem way_mem {W : List (Nat × BT)} {p : Nat × BT} (hp : p ∈ W) : p.1 ∈ wayN W ∧ ∀ y, y ∈ p.2.nodes → y ∈ wayN W := by
 unfold wayN
 exact ⟨List.mem_flatMap.2 ⟨p, hp, by simp⟩, fun y hy => List.mem_flatMap.2 ⟨p, hp, by simp [hy]⟩⟩
theorem Down.take {up : Nat → BT → BT → BT} {A : NS} {S0 S : TS} {ta tb b l r : BT} {x : Nat} {W : List (Nat × BT)} (hX : (ta.nodes ++ tb.nodes).Nodup)
  (h1 : IsT S (-1) (x : Int) (.node x l r)) (h2 : IsT S (-1) b.root b) (h3 : ∀ p, p ∈ W → IsT S (-1) (p.1 : Int) (.node p.1 p.2 .nil)) (h4 : ∀ y, y ∉ ta.nodes ++ tb.nodes → S0.at S y)
  (h5 : (wayN W ++ ((BT.node x l r).nodes ++ b.nodes)).Perm (ta.nodes ++ tb.nodes)) (h6 : mergeT up A ta tb = (zipUp up W (up x l (mergeT up A r b).1), W.length + ((mergeT up A r b).2 + 1))) :
  Down up A S0 ta tb (cutR S x r) (W ++ [(x, l)]) r b := by
 have hnd := h5.nodup_iff.2 hX
 rw [List.nodup_append] at hnd
 obtain ⟨n1, n2, n3⟩ := hnd
 rw [List.nodup_append] at n2
 obtain ⟨n4, n5, n6⟩ := n2
 obtain ⟨c1, c2, c3⟩ := cutR_tree h1 n4
 have hout : ∀ y, y ∉ ta.nodes ++ tb.nodes → y ≠ x ∧ y ∉ r.nodes := fun y hy =>
  ⟨fun e => hy (h5.mem_iff.1 (by rw [e]; simp [BT.nodes])), fun hm => hy (h5.mem_iff.1 (by simp [BT.nodes, hm]))⟩
 refine ⟨c2, h2.frame (fun y hy => c3 y (fun e => n6 x (by simp [BT.nodes]) y hy e.symm) (fun hm => n6 y (by simp [BT.nodes, hm]) y hy rfl)), fun p hp => ?_, fun y hy => ?_, ?_, ?_⟩
 ·rcases List.mem_append.1 hp with hp | hp
  ·have hw := way_mem hp
   refine (h3 p hp).frame (fun y hy => ?_)
   have hyw : y ∈ wayN W := by
    simp only [BT.nodes, List.append_nil, List.mem_cons] at hy
    rcases hy with rfl | hy
    ·exact hw.1
    ·exact hw.2 y hy
   exact c3 y (fun e => n3 y hyw x (by simp [BT.nodes]) e) (fun hm => n3 y hyw y (by simp [BT.nodes, hm]) rfl)
  ·simp only [List.mem_singleton] at hp
   subst hp
   exact c1
 ·obtain ⟨k1, k2⟩ := hout y hy
  have a1 := h4 y hy
  have a2 := c3 y k1 k2
  exact ⟨a2.1.trans a1.1, a2.2.1.trans a1.2.1, a2.2.2.trans a1.2.2⟩
 ·rw [wayN_snoc]
  refine List.Perm.trans ?_ h5
  simp only [BT.nodes, List.append_assoc, List.cons_append]
  exact List.Perm.refl _
 ·rw [h6, zipUp_snoc]
  simp only [List.length_append, List.length_cons, List.length_nil]
  exact Prod.ext rfl (by simp only; omega)
theorem Down.takeA {up : Nat → BT → BT → BT} {A : NS} {S0 S : TS} {ta tb l r l' r' : BT} {x y : Nat} {W : List (Nat × BT)} (h : Down up A S0 ta tb S W (.node x l r) (.node y l' r')) (hX : (ta.nodes ++ tb.nodes).Nodup) (hlt : ¬ lt3 A y x) :
  Down up A S0 ta tb (cutR S x r) (W ++ [(x, l)]) r (.node y l' r') := by
 refine Down.take hX h.isA h.isB h.way h.far h.perm ?_
 rw [h.res, mergeT_node, if_neg hlt]
theorem Down.takeB {up : Nat → BT → BT → BT} {A : NS} {S0 S : TS} {ta tb l r l' r' : BT} {x y : Nat} {W : List (Nat × BT)} (h : Down up A S0 ta tb S W (.node x l r) (.node y l' r')) (hX : (ta.nodes ++ tb.nodes).Nodup) (hlt : lt3 A y x) :
  Down up A S0 ta tb (cutR S y r') (W ++ [(y, l')]) r' (.node x l r) := by
 refine Down.take hX h.isB h.isA h.way h.far ?_ ?_
 ·refine List.Perm.trans ?_ h.perm
  exact List.Perm.append_left _ List.perm_append_comm
 ·rw [h.res, mergeT_node, if_pos hlt]
structure Upw (up : Nat → BT → BT → BT) (S0 : TS) (X : List Nat) (t : BT) (S : TS) (W : List (Nat × BT)) (m : BT) : Prop where
 isM : IsT S (-1) m.root m
 way : ∀ p, p ∈ W → IsT S (-1) (p.1 : Int) (.node p.1 p.2 .nil)
 far : ∀ y, y ∉ X → S0.at S y
 perm : (wayN W ++ m.nodes).Perm X
 res : t = zipUp up W m
theorem Down.turn {up : Nat → BT → BT → BT} {A : NS} {S0 S : TS} {ta tb a b : BT} {W : List (Nat × BT)} (h : Down up A S0 ta tb S W a b) (he : a = .nil ∨ b = .nil) :
  ∃ m, m.root = (if a.root = -1 then b.root else a.root) ∧ Upw up S0 (ta.nodes ++ tb.nodes) (mergeT up A ta tb).1 S W m ∧ (mergeT up A ta tb).2 = W.length ∧ (m = a ∨ m = b) := by
 rcases he with rfl | rfl
 ·refine ⟨b, by simp [BT.root], ⟨h.isB, h.way, h.far, by simpa [BT.nodes] using h.perm, by rw [h.res, mergeT_nil]⟩, by rw [h.res, mergeT_nil]; simp, Or.inr rfl⟩
 ·refine ⟨a, ?_, ⟨h.isA, h.way, h.far, by simpa [BT.nodes] using h.perm, by rw [h.res, mergeT_nil2]⟩, by rw [h.res, mergeT_nil2]; simp, Or.inl rfl⟩
  split
  ·rename_i e; rw [e]; rfl
  ·rfl
end Go.Proofs.YtklibcncmbofpaaGreat
