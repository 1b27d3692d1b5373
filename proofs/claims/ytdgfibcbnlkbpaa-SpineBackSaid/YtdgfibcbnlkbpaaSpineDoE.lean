/-
  An act of any kind done to trees and to the document's (haycocklaw09.do); the program's answers in the words of the document's list. Conditions: those of each lemma.
-/
import Derived.Test.YtdgfibcbnlkbpaaSpineDoD
set_option linter.unusedVariables false
set_option linter.unusedSimpArgs false
namespace Go.Proofs.Ytdgfibcbnlkbpaa
open Go Go.RowKit

theorem do_any (bt ba n lo : Nat) (S : TS) (l : List Hg) (v : Value) (w : World) (kd p x : Int) (r : Bool) (hT : TreesAt w bt ba n S) (hR : Rel n S l) (hL : LstAt w lo v l.length (hgCells l)) (hba : ba < lo) (hlo : lo ≤ w.heap.size) (hn : n ≤ 1000) :
    Calls Try.prog 36 #[.pointer (some ⟨bt, 0, none⟩), .agg #[.int .i64 (n : Int), v], .agg #[.int .i64 kd, .int .i64 p, .int .i64 x, .bool r]] w (DoPost bt ba n lo w) := by
  by_cases k0 : kd = 0
  · subst k0
    cases hk : rhangOk n l p x r with
    | false =>
      cases ha : aboveL l (n + 1) x p with
      | false => exact do_hang_no bt ba n lo S l v w p x r hT hR hL hba hlo (Or.inl ha) hk
      | true =>
        by_cases hxp : x = p
        · exact do_hang_no bt ba n lo S l v w p x r hT hR hL hba hlo (Or.inr hxp) hk
        · exact do_above bt ba n lo S l v w p x r hT hR hL hba hlo ha hxp
    | true =>
      have hk2 := hk
      unfold rhangOk ob at hk2
      simp only [Bool.and_eq_true, Bool.not_eq_true', decide_eq_true_eq] at hk2
      obtain ⟨⟨⟨⟨e1, e2⟩, e3⟩, e4⟩, e5⟩ := hk2
      have e3' : p ≠ x := by simpa using e3
      cases ha : aboveL l (n + 1) x p with
      | true => exact do_above bt ba n lo S l v w p x r hT hR hL hba hlo ha (fun h => e3' h.symm)
      | false =>
        have hp : ((p.toNat : Nat) : Int) = p := by omega
        have hx : ((x.toNat : Nat) : Int) = x := by omega
        have := do_hang_yes bt ba n lo S l v w p.toNat x.toNat r hT hR hL hba hlo hn (by rw [hp, hx]; exact ha) (by rw [hp, hx]; exact hk)
        rw [hp, hx] at this
        exact this
  · by_cases k1 : kd = 1
    · subst k1
      cases hu : upL l x with
      | none => exact do_cut_no bt ba n lo S l v w p x r hT hR hL hba hlo hn hu
      | some q =>
        obtain ⟨s, hm⟩ := up_mem hu
        have hr := hR.snd.rng _ hm
        simp only at hr
        have hq : ((q.toNat : Nat) : Int) = q := by omega
        have hx : ((x.toNat : Nat) : Int) = x := by omega
        have := do_cut_yes bt ba n lo S l v w p q.toNat x.toNat r hT hR hL hba hlo hn (by omega) (by omega) (by rw [hq, hx]; exact hu)
        rw [hx] at this
        exact this
    · by_cases k2 : kd = 2
      · subst k2
        by_cases hp : 0 ≤ p ∧ p < n
        · have h : ((p.toNat : Nat) : Int) = p := by omega
          have := do_turn_yes bt ba n lo S l v w p.toNat x r hT hR hL hba hlo hn (by omega)
          rw [h] at this
          exact this
        · exact do_turn_no bt ba n lo S l v w p x r hT hR hL hba hlo hn hp
      · exact do_other bt ba n lo S l v w kd p x r hT hR hL hba hlo ⟨k0, k1, k2⟩

theorem Rel.kidv {n : Nat} {S : TS} {l : List Hg} (R : Rel n S l) (x : Int) (r : Bool) : kidOf n S x r = (kidL l x r).getD (-1) := by
  unfold kidOf
  by_cases hx : 0 ≤ x ∧ x < n
  · rw [if_pos hx, R.kid x.toNat (by omega) r, show ((x.toNat : Nat) : Int) = x by omega]
  · rw [if_neg hx]
    cases hk : kidL l x r with
    | none => rfl
    | some y => have := R.snd.rng _ (kid_mem hk); simp only at this; omega
theorem Rel.upv {n : Nat} {S : TS} {l : List Hg} (R : Rel n S l) (x : Int) : upOf n S x = (upL l x).getD (-1) := by
  unfold upOf
  by_cases hx : 0 ≤ x ∧ x < n
  · rw [if_pos hx, R.up x.toNat (by omega), show ((x.toNat : Nat) : Int) = x by omega]
  · rw [if_neg hx]
    cases hk : upL l x with
    | none => rfl
    | some y => obtain ⟨_, hm⟩ := up_mem hk; have := R.snd.rng _ hm; simp only at this; omega
theorem told_eq (o : Option Int) (h : ∀ y, o = some y → 0 ≤ y) : tv (o.getD (-1)) = ov o ∧ tb (o.getD (-1)) = ob o := by
  cases o with
  | none => exact ⟨rfl, rfl⟩
  | some y =>
    have := h y rfl
    unfold tv tb ov ob
    simp; omega
theorem Rel.kidt {n : Nat} {S : TS} {l : List Hg} (R : Rel n S l) (x : Int) (r : Bool) : tv (kidOf n S x r) = ov (kidL l x r) ∧ tb (kidOf n S x r) = ob (kidL l x r) := by
  rw [R.kidv]
  exact told_eq _ (fun y hy => (R.snd.rng _ (kid_mem hy)).2.2.1)
theorem Rel.upt {n : Nat} {S : TS} {l : List Hg} (R : Rel n S l) (x : Int) : tv (upOf n S x) = ov (upL l x) ∧ tb (upOf n S x) = ob (upL l x) := by
  rw [R.upv]
  refine told_eq _ (fun y hy => ?_)
  obtain ⟨_, hm⟩ := up_mem hy
  exact (R.snd.rng _ hm).1

theorem left_law (bt ba n : Nat) (S : TS) (l : List Hg) (x : Int) (w : World) (h : TreesAt w bt ba n S) (R : Rel n S l) :
    Calls Try.prog 30 #[.pointer (some ⟨bt, 0, none⟩), .int .i64 x] w fun e w' => e = .returned (.tuple #[.int .i64 (ov (kidL l x false)), .bool (ob (kidL l x false))]) ∧ ∃ k, w' = w.drewN k := by
  have := left_any bt ba n S x w h
  rw [(R.kidt x false).1, (R.kidt x false).2] at this; exact this
theorem right_law (bt ba n : Nat) (S : TS) (l : List Hg) (x : Int) (w : World) (h : TreesAt w bt ba n S) (R : Rel n S l) :
    Calls Try.prog 31 #[.pointer (some ⟨bt, 0, none⟩), .int .i64 x] w fun e w' => e = .returned (.tuple #[.int .i64 (ov (kidL l x true)), .bool (ob (kidL l x true))]) ∧ ∃ k, w' = w.drewN k := by
  have := right_any bt ba n S x w h
  rw [(R.kidt x true).1, (R.kidt x true).2] at this; exact this
theorem up_law (bt ba n : Nat) (S : TS) (l : List Hg) (x : Int) (w : World) (h : TreesAt w bt ba n S) (R : Rel n S l) :
    Calls Try.prog 32 #[.pointer (some ⟨bt, 0, none⟩), .int .i64 x] w fun e w' => e = .returned (.tuple #[.int .i64 (ov (upL l x)), .bool (ob (upL l x))]) ∧ ∃ k, w' = w.drewN k := by
  have := up_any bt ba n S x w h
  rw [(R.upt x).1, (R.upt x).2] at this; exact this

/-- The numbers of a list of whole numbers. -/
def nats (l : List Int) : List Nat := l.map Int.toNat
theorem ints_nats (l : List Int) (h : ∀ x, x ∈ l → 0 ≤ x) : ints (nats l) = intsZ l := by
  unfold ints nats intsZ
  rw [List.map_map]
  exact List.map_congr_left (fun x hx => by have := h x hx; simp only [Function.comp]; rw [show ((x.toNat : Nat) : Int) = x by omega])
theorem Rel.inU {n : Nat} {S : TS} {l : List Hg} (R : Rel n S l) : InR n S.u := fun x hx => by
  rw [R.up x hx]
  cases hk : upL l x with
  | none => exact Or.inl rfl
  | some y => obtain ⟨_, hm⟩ := up_mem hk; have := R.snd.rng _ hm; simp only at this; exact Or.inr ⟨y.toNat, by omega, by show y = _; omega⟩
theorem Rel.inK {n : Nat} {S : TS} {l : List Hg} (R : Rel n S l) (s : Bool) : InR n (S.kid s) := fun x hx => by
  rw [R.kid x hx s]
  cases hk : kidL l x s with
  | none => exact Or.inl rfl
  | some y => have := R.snd.rng _ (kid_mem hk); simp only at this; exact Or.inr ⟨y.toNat, by omega, by show y = _; omega⟩
def natF (F : Int → List Int) (y : Nat) : List Nat := nats (F y)
theorem opt_natF (n : Int) (F : Int → List Int) (o : Option Int) (h : ∀ y, o = some y → 0 ≤ y) : opt (natF F) (o.getD (-1)) = nats (kidA n F o) := by
  cases o with
  | none => rfl
  | some y =>
    have := h y rfl
    show opt (natF F) y = nats (F y)
    unfold opt natF
    rw [if_neg (by omega), show ((y.toNat : Nat) : Int) = y by omega]
theorem nats_cons (x : Nat) (l : List Int) : nats ((x : Int) :: l) = x :: nats l := by simp [nats]
theorem nats_append (a b : List Int) : nats (a ++ b) = nats a ++ nats b := by simp [nats]
theorem Rel.up0 {n : Nat} {S : TS} {l : List Hg} (R : Rel n S l) (x : Int) : ∀ y, upL l x = some y → 0 ≤ y := fun y hy => by
  obtain ⟨_, hm⟩ := up_mem hy; exact (R.snd.rng _ hm).1
theorem Rel.kid0 {n : Nat} {S : TS} {l : List Hg} (R : Rel n S l) (x : Int) (s : Bool) : ∀ y, kidL l x s = some y → 0 ≤ y ∧ y < n := fun y hy => by
  have := R.snd.rng _ (kid_mem hy); exact this.2.2

/-- What Root answers. -/
theorem root_law (bt ba n : Nat) (S : TS) (l : List Hg) (x : Int) (w : World) (h : TreesAt w bt ba n S) (R : Rel n S l) (hx : 0 ≤ x ∧ x < n) :
    Calls Try.prog 33 #[.pointer (some ⟨bt, 0, none⟩), .int .i64 x] w fun e w' => e = .returned (.tuple #[.int .i64 (rootL l n x), .bool true]) ∧ w' = w := by
  have hxx : ((x.toNat : Nat) : Int) = x := by omega
  have hl := rootL_anc R.snd n x hx (by have := anc_len R.snd x hx; omega)
  have hmem : rootL l n x ∈ anc n l x := List.mem_of_getLast? hl
  have h0 := ancF_rng R.snd _ x _ hx hmem
  have := root_any bt ba n S x.toNat w h (by omega) (natF (anc n l)) (fun y hy => by
    rw [R.up y hy, opt_natF n _ _ (R.up0 y)]
    unfold natF
    rw [anc_eq R.snd y (by omega), nats_cons]
    cases upL l y <;> rfl) R.inU (rootL l n x).toNat (by
    unfold natF
    rw [hxx]
    unfold nats
    rw [List.getLast?_map, hl]; rfl)
  rw [hxx, show (((rootL l n x).toNat : Nat) : Int) = rootL l n x by omega] at this
  exact this

theorem allL_rng {n : Nat} {l : List Hg} (f : Nat) (x z : Int) (h : z ∈ allL n l f x) : 0 ≤ z ∧ z < n := by
  induction f generalizing x with
  | zero => cases h
  | succ f ih =>
    rw [allL] at h
    split at h
    · rename_i hx
      rcases List.mem_cons.1 h with rfl | h
      · exact hx
      · rcases List.mem_append.1 h with h | h
        · cases hk : kidL l x false with
          | none => rw [hk] at h; cases h
          | some y =>
            rw [hk] at h
            first
              | exact ih y h
              | (unfold kidA at h; split at h; exact ih y h; cases h)
        · cases hk : kidL l x true with
          | none => rw [hk] at h; cases h
          | some y =>
            rw [hk] at h
            first
              | exact ih y h
              | (unfold kidA at h; split at h; exact ih y h; cases h)
    · cases h
theorem spineL_rng {n : Nat} {l : List Hg} (f : Nat) (x z : Int) (h : z ∈ spineL n l f x) : 0 ≤ z ∧ z < n := by
  induction f generalizing x with
  | zero => cases h
  | succ f ih =>
    rw [spineL] at h
    split at h
    · rename_i hx
      rcases List.mem_cons.1 h with rfl | h
      · exact hx
      · cases hk : kidL l x true with
          | none => rw [hk] at h; cases h
          | some y =>
            rw [hk] at h
            first
              | exact ih y h
              | (unfold kidA at h; split at h; exact ih y h; cases h)
    · cases h
theorem spine_law (bt ba n : Nat) (S : TS) (l : List Hg) (x : Int) (w : World) (h : TreesAt w bt ba n S) (R : Rel n S l) (hn : n ≤ 1000) (hx : 0 ≤ x ∧ x < n) :
    Calls Try.prog 35 #[.pointer (some ⟨bt, 0, none⟩), .int .i64 x] w fun e w' => ∃ v, e = .returned v ∧ w'.ownsRow w.heap.size 3 1 v (spineL n l n x).length (intsZ (spineL n l n x)) ∧ Upd [] w w' := by
  have hxx : ((x.toNat : Nat) : Int) = x := by omega
  have hlen : (natF (spineL n l n) x.toNat).length = (spineL n l n x).length := by unfold natF nats; rw [hxx, List.length_map]
  have := spine_any bt ba n S x.toNat w h (by omega) (natF (spineL n l n)) (fun y hy => by
    have e : S.r y = (kidL l y true).getD (-1) := R.kid y hy true
    rw [e, opt_natF n _ _ (fun z hz => (R.kid0 y true z hz).1)]
    unfold natF
    rw [spineL_eq R.snd y (by omega), nats_cons]) (R.inK true) (by rw [hlen]; have := spineL_len n l n x; omega)
  rw [hlen, hxx] at this
  have e : ints (natF (spineL n l n) x.toNat) = intsZ (spineL n l n x) := by
    unfold natF; rw [hxx]; exact ints_nats _ (fun z hz => (spineL_rng n x z hz).1)
  rw [e] at this
  exact this
theorem all_law (bt ba n : Nat) (S : TS) (l : List Hg) (x : Int) (w : World) (h : TreesAt w bt ba n S) (R : Rel n S l) (hx : 0 ≤ x ∧ x < n) (hlen : (allL n l n x).length ≤ 65536) :
    Calls Try.prog 34 #[.pointer (some ⟨bt, 0, none⟩), .int .i64 x] w fun e w' => ∃ v, e = .returned v ∧ w'.ownsRow w.heap.size 3 1 v (allL n l n x).length (intsZ (allL n l n x)) ∧ Upd [] w w' := by
  have hxx : ((x.toNat : Nat) : Int) = x := by omega
  have hl : (natF (allL n l n) x.toNat).length = (allL n l n x).length := by unfold natF nats; rw [hxx, List.length_map]
  have := all_any bt ba n S x.toNat w h (by omega) (natF (allL n l n)) (fun y hy => by
    have e1 : S.l y = (kidL l y false).getD (-1) := R.kid y hy false
    have e2 : S.r y = (kidL l y true).getD (-1) := R.kid y hy true
    rw [e1, e2, opt_natF n _ _ (fun z hz => (R.kid0 y false z hz).1), opt_natF n _ _ (fun z hz => (R.kid0 y true z hz).1)]
    unfold natF
    rw [allL_eq R.snd y (by omega), nats_cons, nats_append]) (R.inK false) (R.inK true) (by rw [hl]; exact hlen)
  rw [hl, hxx] at this
  have e : ints (natF (allL n l n) x.toNat) = intsZ (allL n l n x) := by
    unfold natF; rw [hxx]; exact ints_nats _ (fun z hz => (allL_rng n x z hz).1)
  rw [e] at this
  exact this

end Go.Proofs.Ytdgfibcbnlkbpaa
