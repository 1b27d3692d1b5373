/-
  Trees in memory: cut off where it hangs, hung where there is room, and the ways up and down. Conditions: those of each lemma.
-/
import Derived.Test.YtechoojcgdjcdaaSpine2
import Derived.Test.YtechoojcgdjcdaaBt2
set_option linter.unusedVariables false
set_option linter.unusedSimpArgs false
namespace Go.Proofs.Ytechoojcgdjcdaa
open Go Go.RowKit

theorem plug_ctx_mem {P : List Fr} {t : BT} {y : Nat} : y ∈ (plug P t).nodes ↔ y ∈ t.nodes ∨ y ∈ ctxN P := by
  rw [(plug_nodes P t).mem_iff, List.mem_append]
def cutV (f : Fr) (t : BT) : Int := if t.root = -1 then 0 else (f.1 : Int)
section
variable {w : World} {bt ba n : Nat} {S : TS}
theorem tcut_any (h : TreesAt w bt ba n S) {f : Fr} {P : List Fr} {t : BT} (hT : IsT S (-1) (plug (f :: P) t).root (plug (f :: P) t)) (hn : (plug (f :: P) t).nodes.Nodup) (hlt : ∀ y, y ∈ (plug (f :: P) t).nodes → y < n) :
    Calls Try.prog 88 #[.pointer (some ⟨bt, 0, none⟩), .int .i64 t.root] w fun e w' => e = .returned (.tuple #[.int .i64 (cutV f t), .bool (tb t.root)]) ∧ Upd [ba] w w' ∧
      ∃ S', TreesAt w' bt ba n S' ∧ IsT S' (-1) t.root t ∧ IsT S' (-1) (plug (f :: P) .nil).root (plug (f :: P) .nil) ∧ ∀ y, y ∉ (plug (f :: P) t).nodes → S.at S' y := by
  by_cases ht : t = .nil
  · subst ht
    refine (cut_no bt ba n S (-1) w h (by unfold upOf; simp)).mono ?_
    rintro e w' ⟨rfl, rfl⟩
    exact ⟨by simp [cutV, BT.root, tb], Upd.refl _ _, S, h, rfl, hT, fun y _ => ⟨rfl, rfl, rfl⟩⟩
  · obtain ⟨c1, c2, c3⟩ := cut_plug hT ht hn
    obtain ⟨m1, m2⟩ := root_mem ht
    have hp := (isT_plug _ _).1 hT
    have hu : S.u t.root.toNat = (f.1 : Int) := by
      cases t with
      | nil => exact absurd rfl ht
      | node y a b => exact hp.1.2.1
    have hf : f.1 < n := hlt _ (plug_ctx_mem.2 (Or.inr (by simp [ctxN])))
    have hr : t.root.toNat < n := hlt _ (plug_ctx_mem.2 (Or.inl m1))
    have hne : t.root ≠ -1 := by omega
    have k := cut_yes bt ba n S f.1 t.root.toNat w h hf hr hu
    rw [← m2] at k
    refine k.mono ?_
    rintro e w' ⟨rfl, h', hu'⟩
    refine ⟨by unfold cutV tb; rw [if_neg hne]; simp [hne], hu', _, h', c1, c2, fun y hy => c3 y (fun e => hy ?_) (fun e => hy ?_)⟩
    · rw [e]; exact plug_ctx_mem.2 (Or.inr (by simp [ctxN]))
    · rw [e]; exact plug_ctx_mem.2 (Or.inl m1)
theorem thang_any (h : TreesAt w bt ba n S) {f : Fr} {P : List Fr} {m : BT} (hT : IsT S (-1) (plug (f :: P) .nil).root (plug (f :: P) .nil)) (hM : IsT S (-1) m.root m) (hm : m ≠ .nil) (hn : (m.nodes ++ ctxN (f :: P)).Nodup) (hlt : ∀ y, y ∈ m.nodes ++ ctxN (f :: P) → y < n) :
    Calls Try.prog 89 #[.pointer (some ⟨bt, 0, none⟩), .int .i64 (f.1 : Int), .int .i64 m.root, .bool f.2.1] w fun e w' => e = .returned (.bool true) ∧ Upd [ba] w w' ∧
      ∃ S', TreesAt w' bt ba n S' ∧ IsT S' (-1) (plug (f :: P) m).root (plug (f :: P) m) ∧ ∀ y, y ∉ m.nodes ++ ctxN (f :: P) → S.at S' y := by
  obtain ⟨c1, c2⟩ := hang_plug hT hM hm hn
  obtain ⟨m1, m2⟩ := root_mem hm
  have hp := (isT_plug _ _).1 hT
  have hk : S.kid f.2.1 f.1 = -1 := hp.2.1
  have hu : S.u m.root.toNat = -1 := by
    cases m with
    | nil => exact absurd rfl hm
    | node y a b => exact hM.2.1
  have hf : f.1 < n := hlt _ (by simp [ctxN])
  have hr : m.root.toNat < n := hlt _ (by simp [m1])
  have hne : f.1 ≠ m.root.toNat := fun e => by
    rw [List.nodup_append] at hn
    exact hn.2.2 _ m1 f.1 (by simp [ctxN]) e.symm
  have k := hang_yes bt ba n S f.1 m.root.toNat f.2.1 w h hf hr hne hu hk
  rw [← m2] at k
  refine k.mono ?_
  rintro e w' ⟨rfl, h', hu'⟩
  refine ⟨rfl, hu', _, h', c1, fun y hy => c2 y (fun e => hy ?_) (fun e => hy ?_)⟩
  · rw [e]; simp [ctxN]
  · rw [e]; simp [m1]
theorem tup_any (h : TreesAt w bt ba n S) {P : List Fr} {x : Nat} {l r : BT} (hT : IsT S (-1) (plug P (.node x l r)).root (plug P (.node x l r))) (hx : x < n) :
    Calls Try.prog 103 #[.pointer (some ⟨bt, 0, none⟩), .int .i64 (x : Int)] w fun e w' => e = .returned (.tuple #[.int .i64 (tv (upP P)), .bool (tb (upP P))]) ∧ ∃ k, w' = w.drewN k := by
  have k := up_any bt ba n S (x : Int) w h
  have e : upOf n S (x : Int) = upP P := by
    unfold upOf; rw [if_pos (by omega), Int.toNat_natCast]
    exact ((isT_plug _ _).1 hT).1.2.1
  rw [e] at k
  exact k
theorem tleft_any (h : TreesAt w bt ba n S) {p : Int} {x : Nat} {l r : BT} (hT : IsT S p x (.node x l r)) (hx : x < n) :
    Calls Try.prog 102 #[.pointer (some ⟨bt, 0, none⟩), .int .i64 (x : Int)] w fun e w' => e = .returned (.tuple #[.int .i64 (tv l.root), .bool (tb l.root)]) ∧ ∃ k, w' = w.drewN k := by
  have e : kidOf n S (x : Int) false = l.root := by
    unfold kidOf TS.kid; rw [if_pos (by omega)]; simp only [Int.toNat_natCast]
    exact hT.2.2.1.root
  have k := left_any bt ba n S (x : Int) w h
  rw [e] at k
  exact k
theorem tright_any (h : TreesAt w bt ba n S) {p : Int} {x : Nat} {l r : BT} (hT : IsT S p x (.node x l r)) (hx : x < n) :
    Calls Try.prog 87 #[.pointer (some ⟨bt, 0, none⟩), .int .i64 (x : Int)] w fun e w' => e = .returned (.tuple #[.int .i64 (tv r.root), .bool (tb r.root)]) ∧ ∃ k, w' = w.drewN k := by
  have e : kidOf n S (x : Int) true = r.root := by
    unfold kidOf TS.kid; rw [if_pos (by omega)]; simp only [if_true, Int.toNat_natCast]
    exact hT.2.2.2.root
  have k := right_any bt ba n S (x : Int) w h
  rw [e] at k
  exact k
/-- On which side of that above it a thing hangs. -/
theorem tside_any (h : TreesAt w bt ba n S) {f : Fr} {P : List Fr} {x : Nat} {l r : BT} (hT : IsT S (-1) (plug (f :: P) (.node x l r)).root (plug (f :: P) (.node x l r))) (hn : (plug (f :: P) (.node x l r)).nodes.Nodup) (hf : f.1 < n) :
    ∃ z : Int, (z == (x : Int)) = f.2.1 ∧ Calls Try.prog 87 #[.pointer (some ⟨bt, 0, none⟩), .int .i64 (f.1 : Int)] w fun e w' => e = .returned (.tuple #[.int .i64 (tv z), .bool (tb z)]) ∧ ∃ k, w' = w.drewN k := by
  refine ⟨S.r f.1, ?_, ?_⟩
  · have hp := (isT_plug _ _).1 hT
    obtain ⟨q1, q2, _, _⟩ := hp.2
    unfold TS.kid at q1 q2
    cases hs : f.2.1
    · rw [hs] at q1 q2
      simp only [Bool.not_false, if_true] at q2
      have e2 := q2.root
      have hx : x ∉ f.2.2.nodes := fun hm => by
        have h1 := (plug_nodes (f :: P) (.node x l r)).nodup_iff.1 hn
        rw [List.nodup_append] at h1
        exact h1.2.2 x (by simp [BT.nodes]) x (by simp [ctxN, hm]) rfl
      have : S.r f.1 ≠ (x : Int) := fun e => by
        rw [e2] at e
        by_cases hnil : f.2.2 = .nil
        · rw [hnil] at e; have e : (-1 : Int) = x := e; omega
        · have := (root_mem hnil).1
          rw [e] at this
          exact hx this
      simpa using this
    · rw [hs] at q1
      simp only [if_true] at q1
      rw [q1]; simp [BT.root]
  · have k := right_any bt ba n S (f.1 : Int) w h
    have e : kidOf n S (f.1 : Int) true = S.r f.1 := by unfold kidOf TS.kid; rw [if_pos (by omega)]; simp
    rw [e] at k
    exact k
end
end Go.Proofs.Ytechoojcgdjcdaa
