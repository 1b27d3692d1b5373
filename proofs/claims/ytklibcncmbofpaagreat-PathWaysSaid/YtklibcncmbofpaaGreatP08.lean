/-
  Lemmas for PathWays: ArP, Ar. Conditions: those of each lemma.
-/
import Derived.WalkKit
import Derived.WalkSpells
import Derived.WalkLawsBesides
import Derived.BigQuiet
import Derived.Deep.RegionHeld3
import Derived.ProofKit
import Derived.OpenShut
import Derived.Lib.Hide
import Derived.Deep.RegionLaw
import Derived.Deep.DeepCutAuto
import Derived.Test.YtklibcncmbofpaaGreatProg
import Derived.Maps.AppendAt
import Derived.StillTailTactics
import Derived.Maps.OwnSet
import Derived.Maps.OwnOps
import Derived.Maps.RangeWalk
import Derived.Test.YtklibcncmbofpaaGreatP01
import Derived.Test.YtklibcncmbofpaaGreatP03
import Derived.Test.YtklibcncmbofpaaGreatP04
import Derived.Test.YtklibcncmbofpaaGreatP05
import Derived.Test.YtklibcncmbofpaaGreatP06
import Derived.Test.YtklibcncmbofpaaGreatP07
set_option linter.unusedVariables false
set_option linter.unusedSimpArgs false
namespace Go.Proofs.YtklibcncmbofpaaGreat
open Go Go.RowKit
structure AR where
 sl : List (Nat × Bool)
 wait : List Nat
 next : Nat
 most : Nat
def AR.g (R : AR) (x : Nat) : Nat := (R.sl.getD x (0, false)).1
def AR.v (R : AR) (x : Nat) : Bool := (R.sl.getD x (0, false)).2
def cntL (l : List (Nat × Bool)) : Nat := (l.filter (fun p => p.2)).length
def AR.cnt (R : AR) : Nat := cntL R.sl
structure AR.Ok (R : AR) : Prop where
 n : R.sl.length ≤ 65536
 nx : R.next ≤ R.sl.length
 mst : 1 ≤ R.most ∧ R.most ≤ 4294967295
 wt : ∀ x, x ∈ R.wait → x < R.next ∧ R.v x = false ∧ R.g x < R.most
 nd : R.wait.Nodup
 fresh : ∀ x, R.next ≤ x → R.g x = 0 ∧ R.v x = false
 lv : ∀ x, R.v x = true → 1 ≤ R.g x
 gm : ∀ x, R.g x ≤ R.most
def AR.new (n most : Nat) : AR := ⟨List.replicate n (0, false), [], 0, most⟩
def AR.put (R : AR) (x : Nat) (p : Nat × Bool) : AR := { R with sl := R.sl.set x p }
def pickR (R : AR) : Option (Nat × AR) :=
 match R.wait.getLast? with
 | some x => some (x, { R with wait := R.wait.dropLast })
 | none => if R.next = R.sl.length then none else some (R.next, { R with next := R.next + 1 })
def takeR (R : AR) : Option (Nat × AR) := (pickR R).map fun p => (p.1, p.2.put p.1 (R.g p.1 + 1, true))
def liveR (R : AR) (x g : Int) : Bool := decide (0 ≤ x) && decide (x < R.sl.length) && decide ((R.g x.toNat : Int) = g) && R.v x.toNat
def giveR (R : AR) (x : Nat) : AR := { R.put x (R.g x, false) with wait := if R.g x < R.most then R.wait ++ [x] else R.wait }
section
variable {R : AR}
theorem AR.g_put (x : Nat) (p : Nat × Bool) (y : Nat) : (R.put x p).g y = if y = x ∧ x < R.sl.length then p.1 else R.g y := by
 unfold AR.put AR.g
 simp only [List.getD_eq_getElem?_getD, List.getElem?_set]
 by_cases h : x = y
 ·subst h
  by_cases hl : x < R.sl.length
  ·simp [hl]
  ·simp [hl]
 ·rw [if_neg h, if_neg (fun e => h e.1.symm)]
theorem AR.v_put (x : Nat) (p : Nat × Bool) (y : Nat) : (R.put x p).v y = if y = x ∧ x < R.sl.length then p.2 else R.v y := by
 unfold AR.put AR.v
 simp only [List.getD_eq_getElem?_getD, List.getElem?_set]
 by_cases h : x = y
 ·subst h
  by_cases hl : x < R.sl.length
  ·simp [hl]
  ·simp [hl]
 ·rw [if_neg h, if_neg (fun e => h e.1.symm)]
theorem AR.far {x : Nat} (hx : R.sl.length ≤ x) : R.g x = 0 ∧ R.v x = false := by
 unfold AR.g AR.v
 rw [List.getD_eq_getElem?_getD, List.getElem?_eq_none hx]; exact ⟨rfl, rfl⟩
theorem AR.len_put (x : Nat) (p : Nat × Bool) : (R.put x p).sl.length = R.sl.length := by unfold AR.put; simp
theorem AR.v_lt {x : Nat} (h : R.v x = true) : x < R.sl.length := by
 rcases Nat.lt_or_ge x R.sl.length with h' | h'
 ·exact h'
 ·rw [(AR.far h').2] at h; cases h
theorem cntL_cons (q : Nat × Bool) (r : List (Nat × Bool)) : cntL (q :: r) = cntL r + if q.2 then 1 else 0 := by
 unfold cntL
 rw [List.filter_cons]
 cases h : q.2 <;> simp
theorem cntL_set : ∀ (l : List (Nat × Bool)) (x : Nat) (p : Nat × Bool), x < l.length → cntL (l.set x p) + (if (l.getD x (0, false)).2 then 1 else 0) = cntL l + (if p.2 then 1 else 0)
 | [], x, p, h => by simp at h
 | q :: r, 0, p, h => by
  rw [List.set_cons_zero, cntL_cons, cntL_cons]
  show _ + _ + (if q.2 then 1 else 0) = _
  omega
 | q :: r, x + 1, p, h => by
  have ih := cntL_set r x p (by simpa using h)
  rw [List.set_cons_succ, cntL_cons, cntL_cons, List.getD_cons_succ]
  omega
theorem cntL_le (l : List (Nat × Bool)) : cntL l ≤ l.length := List.length_filter_le _ _
theorem AR.cnt_put (x : Nat) (p : Nat × Bool) (hx : x < R.sl.length) : (R.put x p).cnt + (if R.v x then 1 else 0) = R.cnt + (if p.2 then 1 else 0) := cntL_set R.sl x p hx
theorem AR.wait_le (h : R.Ok) : R.wait.length ≤ R.next := by
 have key : ∀ (n : Nat) (l : List Nat), l.Nodup → (∀ x, x ∈ l → x < n) → l.length ≤ n := by
  intro n
  induction n with
  | zero =>
   intro l _ h
   cases l with
   | nil => simp
   | cons x r => have := h x (by simp); omega
  | succ n ih =>
   intro l hn h
   have h1 := ih (l.erase n) (hn.erase _) (fun x hx => by
    have h2 := (List.Nodup.mem_erase_iff hn).1 hx
    have := h x h2.2
    omega)
   have h2 := List.length_erase_le (a := n) (l := l)
   have h3 : l.length ≤ (l.erase n).length + 1 := by
    by_cases hm : n ∈ l
    ·rw [List.length_erase_of_mem hm]; omega
    ·rw [List.erase_of_not_mem hm]; omega
   omega
 exact key _ _ h.nd (fun x hx => (h.wt x hx).1)
theorem AR.new_ok {n most : Nat} (hn : n ≤ 65536) (hm : 1 ≤ most ∧ most ≤ 4294967295) : (AR.new n most).Ok := by
 have e : ∀ x, (AR.new n most).g x = 0 ∧ (AR.new n most).v x = false := fun x => by
  unfold AR.new AR.g AR.v
  simp only [List.getD_eq_getElem?_getD, List.getElem?_replicate]
  split <;> exact ⟨rfl, rfl⟩
 refine ⟨by simp [AR.new]; exact hn, by simp [AR.new], hm, fun x hx => by simp [AR.new] at hx, by simp [AR.new], fun x _ => e x, fun x hx => ?_, fun x => ?_⟩
 ·rw [(e x).2] at hx; cases hx
 ·rw [(e x).1]; exact Nat.zero_le _
theorem AR.new_cnt (n most : Nat) : (AR.new n most).cnt = 0 := by
 unfold AR.cnt cntL AR.new
 simp
theorem pick_some {x : Nat} {R' : AR} (h : R.Ok) (hp : pickR R = some (x, R')) : x < R.sl.length ∧ R.v x = false ∧ R.g x < R.most ∧ R'.sl = R.sl ∧ R'.most = R.most ∧ R'.next ≤ R.sl.length ∧ x < R'.next ∧ R.next ≤ R'.next ∧
  (∀ y, y ∈ R'.wait → y ∈ R.wait ∧ y ≠ x) ∧ R'.wait.Nodup := by
 unfold pickR at hp
 cases hl : R.wait.getLast? with
 | some y =>
  rw [hl] at hp
  simp only [Option.some.injEq, Prod.mk.injEq] at hp
  obtain ⟨rfl, rfl⟩ := hp
  have hm : y ∈ R.wait := List.mem_of_getLast? hl
  obtain ⟨h1, h2, h3⟩ := h.wt y hm
  have hn := h.nd
  have happ : R.wait = R.wait.dropLast ++ [y] := by
   obtain ⟨l, hl'⟩ := List.getLast?_eq_some_iff.1 hl
   rw [hl']; simp
  rw [happ, List.nodup_append] at hn
  refine ⟨Nat.lt_of_lt_of_le h1 h.nx, h2, h3, rfl, rfl, h.nx, h1, Nat.le_refl _, fun z hz => ⟨List.dropLast_subset _ hz, fun e => ?_⟩, hn.1⟩
  exact hn.2.2 z hz y (by simp) e
 | none =>
  rw [hl] at hp
  have hw : R.wait = [] := List.getLast?_eq_none_iff.1 hl
  dsimp only at hp
  split at hp
  ·cases hp
  ·rename_i hne
   simp only [Option.some.injEq, Prod.mk.injEq] at hp
   obtain ⟨rfl, rfl⟩ := hp
   have h1 := h.nx
   have h2 := h.fresh R.next (Nat.le_refl _)
   refine ⟨by omega, h2.2, by rw [h2.1]; exact h.mst.1, rfl, rfl, by show R.next + 1 ≤ _; omega, by show R.next < R.next + 1; omega, by show R.next ≤ R.next + 1; omega, fun y hy => ?_, h.nd⟩
   rw [show ({ R with next := R.next + 1 } : AR).wait = R.wait from rfl, hw] at hy; cases hy
theorem take_ok {x : Nat} {R' : AR} (h : R.Ok) (hp : takeR R = some (x, R')) : R'.Ok ∧ x < R.sl.length ∧ R.v x = false ∧ R.g x < R.most ∧ R'.sl = R.sl.set x (R.g x + 1, true) ∧ R'.most = R.most ∧ R'.cnt = R.cnt + 1 := by
 unfold takeR at hp
 cases hq : pickR R with
 | none => rw [hq] at hp; cases hp
 | some q =>
  obtain ⟨y, R1⟩ := q
  rw [hq] at hp
  simp only [Option.map_some, Option.some.injEq, Prod.mk.injEq] at hp
  obtain ⟨rfl, rfl⟩ := hp
  obtain ⟨h1, h2, h3, h4, h5, h6, h7, h8, h9, h10⟩ := pick_some h hq
  have eg : ∀ z, R1.g z = R.g z := fun z => by unfold AR.g; rw [h4]
  have ev : ∀ z, R1.v z = R.v z := fun z => by unfold AR.v; rw [h4]
  have hl : y < R1.sl.length := by rw [h4]; exact h1
  refine ⟨⟨by rw [AR.len_put, h4]; exact h.n, by rw [AR.len_put, h4]; exact h6, by show 1 ≤ R1.most ∧ R1.most ≤ 4294967295; rw [h5]; exact h.mst, fun z hz => ?_, h10, fun z hz => ?_, fun z hz => ?_, fun z => ?_⟩, h1, h2, h3, by show R1.sl.set _ _ = _; rw [h4], h5, ?_⟩
  ·obtain ⟨a1, a2⟩ := h9 z hz
   obtain ⟨b1, b2, b3⟩ := h.wt z a1
   rw [AR.v_put, AR.g_put, if_neg (fun e => a2 e.1), if_neg (fun e => a2 e.1), ev, eg]
   refine ⟨Nat.lt_of_lt_of_le b1 h8, b2, ?_⟩
   show R.g z < R1.most
   rw [h5]; exact b3
  ·have hz' : R1.next ≤ z := hz
   rw [AR.v_put, AR.g_put, if_neg (by omega), if_neg (by omega), ev, eg]
   exact h.fresh z (by omega)
  ·rw [AR.v_put] at hz
   rw [AR.g_put]
   by_cases e : z = y ∧ y < R1.sl.length
   ·rw [if_pos e]; show 1 ≤ R.g y + 1; omega
   ·rw [if_neg e] at hz ⊢; rw [ev] at hz; rw [eg]; exact h.lv z hz
  ·rw [AR.g_put]
   show _ ≤ R1.most
   rw [h5]
   split
   ·show R.g y + 1 ≤ _; omega
   ·rw [eg]; exact h.gm z
  ·have hc := AR.cnt_put (R := R1) y (R.g y + 1, true) hl
   rw [ev, h2] at hc
   simp at hc
   rw [hc]
   unfold AR.cnt; rw [h4]
theorem give_ok {x : Nat} (h : R.Ok) (hv : R.v x = true) : (giveR R x).Ok ∧ (giveR R x).cnt + 1 = R.cnt := by
 have hx := AR.v_lt hv
 have eg : ∀ z, (giveR R x).g z = R.g z := fun z => by
  show (R.put x (R.g x, false)).g z = _
  rw [AR.g_put]
  split
  ·rename_i e; rw [e.1]
  ·rfl
 have ev : ∀ z, (giveR R x).v z = if z = x then false else R.v z := fun z => by
  show (R.put x (R.g x, false)).v z = _
  rw [AR.v_put]
  by_cases e : z = x
  ·rw [if_pos ⟨e, hx⟩, if_pos e]
  ·rw [if_neg (fun h => e h.1), if_neg e]
 have hxn : x < R.next := by
  rcases Nat.lt_or_ge x R.next with h' | h'
  ·exact h'
  ·rw [(h.fresh x h').2] at hv; cases hv
 refine ⟨⟨by show (R.put x _).sl.length ≤ _; rw [AR.len_put]; exact h.n, by show R.next ≤ (R.put x _).sl.length; rw [AR.len_put]; exact h.nx, h.mst, fun z hz => ?_, ?_, fun z hz => ?_, fun z hz => ?_, fun z => by rw [eg]; exact h.gm z⟩, ?_⟩
 ·have hz' : z ∈ (if R.g x < R.most then R.wait ++ [x] else R.wait) := hz
  rw [ev, eg]
  have hw : z ∈ R.wait → z < R.next ∧ (if z = x then false else R.v z) = false ∧ R.g z < R.most := fun hm => by
   obtain ⟨b1, b2, b3⟩ := h.wt z hm
   refine ⟨b1, ?_, b3⟩
   split
   ·rfl
   ·exact b2
  split at hz'
  ·rename_i hlt
   rcases List.mem_append.1 hz' with hm | hm
   ·exact hw hm
   ·simp at hm; subst hm
    exact ⟨hxn, by rw [if_pos rfl], hlt⟩
  ·exact hw hz'
 ·show (if R.g x < R.most then R.wait ++ [x] else R.wait).Nodup
  split
  ·rw [List.nodup_append]
   refine ⟨h.nd, by simp, fun a ha b hb e => ?_⟩
   simp at hb; subst hb; subst e
   have := (h.wt _ ha).2.1
   rw [hv] at this; cases this
  ·exact h.nd
 ·rw [ev, eg]
  have hz' : R.next ≤ z := hz
  have := h.fresh z hz'
  exact ⟨this.1, by split; rfl; exact this.2⟩
 ·rw [ev] at hz
  split at hz
  ·cases hz
  ·rw [eg]; exact h.lv z hz
 ·have hc := AR.cnt_put (R := R) x (R.g x, false) hx
  rw [hv] at hc
  simp at hc
  exact hc
end
end Go.Proofs.YtklibcncmbofpaaGreat
namespace Go.Proofs.YtklibcncmbofpaaGreat
open Go Go.RowKit
theorem wp_nm {c : Code} {K : Exit → Act → World → Prop} {a : Act} {W : World} (R : World → Prop) (h : R W) (k : ∀ W', R W' → Code.wp Tryz.prog c K a W') : Code.wp Tryz.prog c K a W := k W h
def slC (R : AR) (j : Nat) : Value := if j % 2 = 0 then .int .u32 (R.g (j / 2) : Int) else .bool (R.v (j / 2))
def arC (ga : Nat) (v : Value) (R : AR) (j : Nat) : Value := [Value.slice (some ⟨ga, 0, none⟩) R.sl.length R.sl.length, v, .int .i64 (R.next : Int), .int .i64 (R.cnt : Int), .int .u32 (R.most : Int)].getD j undef
structure ArM (w : World) (pa ga : Nat) (v : Value) (R : AR) : Prop where
 head : RowAt w pa 158 5 (arC ga v R)
 row : RowAt w ga 155 (R.sl.length * 2) (slC R)
 wait : w.ownsRow 0 3 1 v R.wait.length (intsZ (natsZ R.wait))
 ne : pa ≠ ga
 nw : ∀ k, v.ownBlock = some k → k ≠ pa ∧ k ≠ ga
 ok : R.Ok
def ArAt (w : World) (pa : Nat) (F : List Nat) (R : AR) : Prop := ∃ ga v, F = pa :: ga :: v.ownBlock.toList ∧ ArM w pa ga v R
section
variable {w : World} {pa ga : Nat} {v : Value} {R : AR} {F : List Nat}
theorem ArM.c0 (h : ArM w pa ga v R) : w.cell? ⟨pa, 0, none⟩ = some (.slice (some ⟨ga, 0, none⟩) R.sl.length R.sl.length) := h.head.cellAt 0 (by omega) rfl
theorem ArM.c1 (h : ArM w pa ga v R) : w.cell? ⟨pa, 1, none⟩ = some v := h.head.cellAt 1 (by omega) rfl
theorem ArM.c2 (h : ArM w pa ga v R) : w.cell? ⟨pa, 2, none⟩ = some (.int .i64 (R.next : Int)) := h.head.cellAt 2 (by omega) rfl
theorem ArM.c3 (h : ArM w pa ga v R) : w.cell? ⟨pa, 3, none⟩ = some (.int .i64 (R.cnt : Int)) := h.head.cellAt 3 (by omega) rfl
theorem ArM.c4 (h : ArM w pa ga v R) : w.cell? ⟨pa, 4, none⟩ = some (.int .u32 (R.most : Int)) := h.head.cellAt 4 (by omega) rfl
theorem ArM.s0 (h : ArM w pa ga v R) {x : Nat} (hx : x < R.sl.length) : w.cell? ⟨ga, x * 2, none⟩ = some (.int .u32 (R.g x : Int)) := h.row.cellAt (x * 2) (by omega) (by unfold slC; rw [if_pos (by omega), show x * 2 / 2 = x by omega])
theorem ArM.s1 (h : ArM w pa ga v R) {x : Nat} (hx : x < R.sl.length) : w.cell? ⟨ga, x * 2 + 1, none⟩ = some (.bool (R.v x)) := h.row.cellAt (x * 2 + 1) (by omega) (by unfold slC; rw [if_neg (by omega), show (x * 2 + 1) / 2 = x by omega])
theorem natsZ_len (l : List Nat) : (natsZ l).length = l.length := by unfold natsZ; simp
theorem ArM.upd {w' : World} {S : List Nat} (h : ArM w pa ga v R) (hu : Upd S w w') (hS : ∀ x, x ∈ S → x ∉ pa :: ga :: v.ownBlock.toList) : ArM w' pa ga v R :=
 ⟨h.head.upd hu (fun e => hS _ e (by simp)), h.row.upd hu (fun e => hS _ e (by simp)), owns_upd h.wait hu (fun k hk e => hS _ e (by simp [hk])), h.ne, h.nw, h.ok⟩
theorem ArAt.upd {w' : World} {S : List Nat} (h : ArAt w pa F R) (hu : Upd S w w') (hS : ∀ x, x ∈ S → x ∉ F) : ArAt w' pa F R := by
 obtain ⟨ga, v, rfl, h⟩ := h
 exact ⟨ga, v, rfl, h.upd hu hS⟩
theorem ArAt.lt (h : ArAt w pa F R) : ∀ x, x ∈ F → x < w.heap.size := by
 obtain ⟨ga, v, rfl, h⟩ := h
 intro x hx
 simp at hx
 rcases hx with rfl | rfl | hx
 ·exact h.head.lt
 ·exact h.row.lt
 ·exact (h.wait.lt x hx).2
theorem ArAt.ok (h : ArAt w pa F R) : R.Ok := by obtain ⟨ga, v, rfl, h⟩ := h; exact h.ok
theorem slotInfo : (Tryz.prog.info? 155).map (fun i => (i.zero, i.size, i.bytes)) = some (some (.agg #[.int .u32 0, .bool false]), 2, 8) := by kernel_rfl
theorem arnew_yes (n m : Nat) (w : World) (h : n ≤ 65536) (hm : 1 ≤ m ∧ m ≤ 4294967295) :
  Calls Tryz.prog 80 #[.int .i64 (n : Int), .int .u32 (m : Int)] w fun e w' => ∃ pa F, e = .returned (.tuple #[.pointer (some ⟨pa, 0, none⟩), .int .i64 0]) ∧ ArAt w' pa F (AR.new n m) ∧ Upd [] w w' ∧ ∀ x, x ∈ F → w.heap.size ≤ x := by
 have hm0 : ((m : Int) == 0) = false := by simp; omega
 go_enter Tryz.func80, Tryz.ntmps80
 go_wp2_with (first
  | (at_make; refine wpList_make_row rfl _ 156 rfl 155 (.agg #[.int .u32 0, .bool false]) 2 8 Tryz.underlying156 slotInfo n rfl (by omega) (by unfold maxLen; omega) ?_; intro w2 hr2 hu2))
 go_ret2
 have hh := rowAt_new w2 [.slice (some ⟨w.heap.size, 0, none⟩) n n, .slice none 0 0, .int .i64 0, .int .i64 0, .int .u32 (m : Int)] 158
 have l1 := hr2.lt
 have e : ∀ x, (AR.new n m).g x = 0 ∧ (AR.new n m).v x = false := fun x => by
  unfold AR.new AR.g AR.v
  simp only [List.getD_eq_getElem?_getD, List.getElem?_replicate]
  split <;> exact ⟨rfl, rfl⟩
 refine ⟨w2.heap.size, w2.heap.size :: w.heap.size :: [], rfl, ⟨w.heap.size, .slice none 0 0, rfl, ⟨?_, ?_, ⟨by simp [AR.new, natsZ, intsZ], Or.inl ⟨rfl, by simp [AR.new]⟩⟩, by omega, fun k hk => (by cases hk), AR.new_ok h hm⟩⟩, hu2.trans ((Upd.refl _ _).alloc _), fun x hx => by simp at hx; omega⟩
 ·refine hh.ext (fun j hj => ?_)
  unfold arC
  rw [AR.new_cnt]
  simp [AR.new]
 ·have hl : (AR.new n m).sl.length = n := by simp [AR.new]
  rw [hl]
  refine (hr2.alloc _).ext (fun j hj => ?_)
  unfold slC
  rw [(e _).1, (e _).2]
  show (madeCells #[Value.int .u32 0, .bool false] (n * 2)).toList.getD j undef = _
  rw [List.getD_eq_getElem?_getD, List.getElem?_eq_getElem (by simp [size_madeCells]; omega)]
  simp only [Option.getD_some, madeCells, Array.getElem_toList, Array.getElem_map, Array.getElem_range]
  rcases (by omega : j % 2 = 0 ∨ j % 2 = 1) with e | e <;> simp [e]
set_option maxHeartbeats 1000000 in
theorem arlive_any (h : ArAt w pa F R) (x g : Int) (hg : 0 ≤ g ∧ g ≤ 4294967295) :
  Calls Tryz.prog 83 #[.pointer (some ⟨pa, 0, none⟩), .agg #[.int .i64 x, .int .u32 g]] w fun e w' => e = .returned (.bool (liveR R x g)) ∧ Upd [] w w' := by
 obtain ⟨ga, v, rfl, h⟩ := h
 have c0' := h.c0
 have hl := h.ok.n
 have H := Lib.hid h
 unfold liveR
 by_cases b1 : x ≥ 0
 ·by_cases b2 : x < (R.sl.length : Int)
  ·have d0' := h.s0 (x := x.toNat) (by omega)
   have d1' := h.s1 (x := x.toNat) (by omega)
   rw [show ((x.toNat * 2 : Nat)) = x.toNat * 2 from rfl] at d0'
   rw [decide_eq_true (show 0 ≤ x from b1), decide_eq_true b2]
   generalize R.g x.toNat = gi at *
   generalize R.v x.toNat = vi at *
   generalize R.sl.length = n at *
   clear h
   go_enter Tryz.func83, Tryz.ntmps83
   (go_upto_region 1 with (fail); refine wp_nm (fun W => W.cell? ⟨w.heap.size, 0, none⟩ = some (.int .i64 x) ∧ W.cell? ⟨w.heap.size, 1, none⟩ = some (.int .u32 g) ∧ Upd [] w W) ⟨by simp, by simp, by (repeat (first | assumption | exact Upd.refl _ _ | refine Upd.alloc ?_ _ | refine Upd.drew ?_ | refine Upd.drewN ?_ _ | refine Upd.setCell ?_ ?_ _ | focus (left; simp; done) | focus (right; simp; done) | focus (right; simp; omega)))⟩ ?_; rintro W ⟨q0, q1, hu⟩)
   have c0 := hu.was c0'
   have d0 := hu.was d0'
   have d1 := hu.was d1'
   have HU := Lib.hid hu
   clear hu c0' d0' d1'
   by_cases e : (gi : Int) = g
   ·subst e
    cases vi
    all_goals
     go_quiet (fail)
     go_wp2
     go_ret
     exact ⟨ret_bool (by simp), by have := HU.out; (repeat (first | assumption | exact Upd.refl _ _ | refine Upd.alloc ?_ _ | refine Upd.drew ?_ | refine Upd.drewN ?_ _ | refine Upd.setCell ?_ ?_ _ | focus (left; simp; done) | focus (right; simp; done) | focus (right; simp; omega)))⟩
   ·cases vi
    all_goals
     go_quiet (fail)
     go_wp2
     go_ret
     exact ⟨ret_bool (by simp [e]), by have := HU.out; (repeat (first | assumption | exact Upd.refl _ _ | refine Upd.alloc ?_ _ | refine Upd.drew ?_ | refine Upd.drewN ?_ _ | refine Upd.setCell ?_ ?_ _ | focus (left; simp; done) | focus (right; simp; done) | focus (right; simp; omega)))⟩
  ·have b2b : decide (x < (R.sl.length : Int)) = false := by simpa using b2
   rw [b2b]
   generalize R.sl.length = n at *
   clear h
   go_enter Tryz.func83, Tryz.ntmps83
   (go_upto_region 1 with (fail); refine wp_nm (fun W => W.cell? ⟨w.heap.size, 0, none⟩ = some (.int .i64 x) ∧ W.cell? ⟨w.heap.size, 1, none⟩ = some (.int .u32 g) ∧ Upd [] w W) ⟨by simp, by simp, by (repeat (first | assumption | exact Upd.refl _ _ | refine Upd.alloc ?_ _ | refine Upd.drew ?_ | refine Upd.drewN ?_ _ | refine Upd.setCell ?_ ?_ _ | focus (left; simp; done) | focus (right; simp; done) | focus (right; simp; omega)))⟩ ?_; rintro W ⟨q0, q1, hu⟩)
   have c0 := hu.was c0'
   have HU := Lib.hid hu
   clear hu c0'
   go_quiet (fail)
   go_wp2
   go_ret
   exact ⟨ret_bool (by simp), by have := HU.out; (repeat (first | assumption | exact Upd.refl _ _ | refine Upd.alloc ?_ _ | refine Upd.drew ?_ | refine Upd.drewN ?_ _ | refine Upd.setCell ?_ ?_ _ | focus (left; simp; done) | focus (right; simp; done) | focus (right; simp; omega)))⟩
 ·have b1b : decide (x ≥ 0) = false := by simpa using b1
  rw [decide_eq_false (show ¬ 0 ≤ x from b1)]
  clear h
  go_enter Tryz.func83, Tryz.ntmps83
  (go_upto_region 1 with (fail); refine wp_nm (fun W => W.cell? ⟨w.heap.size, 0, none⟩ = some (.int .i64 x) ∧ W.cell? ⟨w.heap.size, 1, none⟩ = some (.int .u32 g) ∧ Upd [] w W) ⟨by simp, by simp, by (repeat (first | assumption | exact Upd.refl _ _ | refine Upd.alloc ?_ _ | refine Upd.drew ?_ | refine Upd.drewN ?_ _ | refine Upd.setCell ?_ ?_ _ | focus (left; simp; done) | focus (right; simp; done) | focus (right; simp; omega)))⟩ ?_; rintro W ⟨q0, q1, hu⟩)
  have HU := Lib.hid hu
  clear hu
  go_quiet (fail)
  go_wp2
  go_ret
  exact ⟨ret_bool (by simp), by have := HU.out; (repeat (first | assumption | exact Upd.refl _ _ | refine Upd.alloc ?_ _ | refine Upd.drew ?_ | refine Upd.drewN ?_ _ | refine Upd.setCell ?_ ?_ _ | focus (left; simp; done) | focus (right; simp; done) | focus (right; simp; omega)))⟩
end
end Go.Proofs.YtklibcncmbofpaaGreat
