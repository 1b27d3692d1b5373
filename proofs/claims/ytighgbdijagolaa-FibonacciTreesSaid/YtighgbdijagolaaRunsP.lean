/-
  Heap by heap comes out in order, whatever else there is (plain); and what is done, its answers opened. Conditions: those of each lemma.
-/
import Derived.Test.YtighgbdijagolaaDoAll
import Derived.Test.YtighgbdijagolaaSortP
import Derived.Test.YtighgbdijagolaaActs5
set_option linter.unusedVariables false
set_option linter.unusedSimpArgs false
namespace Go.Proofs.Ytighgbdijagolaa
open Go Go.RowKit

/-- From the heap h on two nests are alike. -/
structure Like (A B : NS) (h : Int) : Prop where
  len : B.cs.length = A.cs.length
  hs : B.hs = A.hs
  c : ∀ y, (h ≤ (A.c y).i ∨ h ≤ (B.c y).i) → B.c y = A.c y
theorem Like.refl (A : NS) (h : Int) : Like A A h := ⟨rfl, rfl, fun _ _ => rfl⟩
theorem like_min {A B : NS} {h : Int} (hl : Like A B h) (h0 : 0 < h) : minN B h = minN A h := by
  cases hm : minN A h with
  | some m =>
    have hf := (minN_some h0).1 hm
    refine (minN_some h0).2 ⟨by rw [hl.len]; exact hf.1, ?_, fun y hy hyi => ?_⟩
    · rw [hl.c m (Or.inl (by rw [hf.2.1]; exact Int.le_refl _))]; exact hf.2.1
    · have e := hl.c y (Or.inr (by rw [hyi]; exact Int.le_refl _))
      have em := hl.c m (Or.inl (by rw [hf.2.1]; exact Int.le_refl _))
      rcases hf.2.2 y (by rw [← hl.len]; exact hy) (by rw [← e]; exact hyi) with h1 | h1
      · exact Or.inl h1
      · exact Or.inr ((lt3_same em e).2 h1)
  | none =>
    rw [minN_none h0] at hm ⊢
    rcases Nat.eq_zero_or_pos (lenN B h) with h1 | h1
    · exact h1
    · obtain ⟨x, a, b, c⟩ := lenN_pos.1 h1
      have b' : (B.c x).i = h := b
      have e := hl.c x (Or.inr (by omega))
      have : 0 < lenN A h := lenN_pos.2 ⟨x, by rw [← hl.len]; exact a, by rw [← e]; exact b', c⟩
      omega
theorem like_drop {A B : NS} {h : Int} (hl : Like A B h) {m : Nat} (hm : minN A h = some m) : Like (dropN A m) (dropN B m) h := by
  obtain ⟨h0, h1, h2, h3⟩ := minN_in hm
  have hb := (minN_in (by rw [like_min hl h0]; exact hm : minN B h = some m)).2.2.2
  refine ⟨by rw [drop_len, drop_len]; exact hl.len, by rw [drop_hs, drop_hs]; exact hl.hs, fun y hy => ?_⟩
  rw [drop_c h3, drop_c hb] at *
  by_cases e : y = m
  · rw [if_pos e, if_pos e]
  · rw [if_neg e, if_neg e] at *; exact hl.c y hy
theorem ordS_c2 (A : NS) (h : Int) : ∀ k y, (ordS A h k).1.c y = A.c y ∨ (A.c y).i = h
  | 0, y => Or.inl rfl
  | k + 1, y => by
    unfold ordS
    cases hm : minN (ordS A h k).1 h with
    | none => exact ordS_c2 A h k y
    | some m =>
      dsimp only
      have hin := (minN_in hm).2.2.2
      rw [drop_c hin]
      by_cases e : y = m
      · rw [if_pos e, e]; exact Or.inr (ordS_in hm).2.2.1
      · rw [if_neg e]; exact ordS_c2 A h k y
theorem ordS_len2 (A : NS) (h : Int) : ∀ k, (ordS A h k).1.cs.length = A.cs.length ∧ (ordS A h k).1.hs = A.hs
  | 0 => ⟨rfl, rfl⟩
  | k + 1 => by
    have ih := ordS_len2 A h k
    unfold ordS
    split
    · exact ih
    · dsimp only; rw [drop_len, drop_hs]; exact ih
theorem like_next {A B : NS} {h : Int} {k : Nat} (h0 : 0 < h) (hl : Like (ordS A h k).1 B h) : Like A B (h + 1) := by
  obtain ⟨a, b⟩ := ordS_len2 A h k
  refine ⟨by rw [hl.len, a], by rw [hl.hs, b], fun y hy => ?_⟩
  rcases ordS_c A h k y with e | e
  · rw [← e]; refine hl.c y ?_; rw [e]
    rcases hy with hy | hy
    · exact Or.inl (by omega)
    · exact Or.inr (by omega)
  · rcases ordS_c2 A h k y with e2 | e2
    · rw [← e2]; refine hl.c y ?_; rw [e2]
      rcases hy with hy | hy
      · exact Or.inl (by omega)
      · exact Or.inr (by omega)
    · rcases hy with hy | hy
      · omega
      · have e3 := hl.c y (Or.inr (by omega))
        rw [e3, e] at hy
        have : h + 1 ≤ (0 : Int) := hy
        omega
theorem doN_len (A : NS) (a : AC) : (doN A a).cs.length = A.cs.length := by
  unfold doN
  split; · unfold makeN; split <;> rfl
  split; · unfold putN; split; exact len_with _ _ _; rfl
  split; · unfold extN; split; exact drop_len _ _; rfl
  split; · exact low_len _ _ _ _
  split; · exact drop_len _ _
  split; · exact joinN_len _ _ _
  rfl
section
variable {K : NestK} {w : World} {p : Nat} {F X : List Nat} {A : NS} {st : Nat} {g : K.G} {v : Value} {gh oh ch gc oc cc : Nat}
theorem do_open (h : K.at_ w p F A st g) (hr : RefM w (X ++ F) gh oh ch gc oc cc A) (hX : ∀ x, x ∈ X → x < w.heap.size) (a : AC) (ha : a.Ok) :
    Calls Try.prog 25 #[.iface K.ty (.pointer (some ⟨p, 0, none⟩)), .agg #[.slice (some ⟨gh, oh, none⟩) A.hs.length ch, .slice (some ⟨gc, oc, none⟩) A.cs.length cc], .agg #[.int .i64 a.kind, .int .i64 a.h, .int .i64 a.x, .int .i64 a.k, .int .u64 a.s]] w fun e w' =>
      ∃ F' gh' oh' ch' gc' oc' cc', e = .returned (.tuple #[.agg #[.slice (some ⟨gh', oh', none⟩) (doN A a).hs.length ch', .slice (some ⟨gc', oc', none⟩) (doN A a).cs.length cc'], .bool true]) ∧ K.at_ w' p F' (doN A a) (satS st (K.cost A a g)) (K.next A a g) ∧ RefM w' (X ++ F') gh' oh' ch' gc' oc' cc' (doN A a) ∧ Upd F w w' ∧ ∀ x, x ∈ F' → x ∈ F ∨ w.heap.size ≤ x := by
  refine (do_any h (v := refV gh oh ch gc oc cc A) ⟨gh, oh, ch, gc, oc, cc, rfl, hr⟩ hX a ha).mono ?_
  rintro e w' ⟨v', rfl, F', ⟨hA, gh', oh', ch', gc', oc', cc', rfl, hR⟩, hu, hf⟩
  exact ⟨F', gh', oh', ch', gc', oc', cc', rfl, hA, hR, hu, hf⟩
theorem looks_open (h : K.at_ w p F A st g) (hr : RefM w (X ++ F) gh oh ch gc oc cc A) (a : AC) (ha : a.Ok) :
    Calls Try.prog 77 #[.iface K.ty (.pointer (some ⟨p, 0, none⟩)), .agg #[.slice (some ⟨gh, oh, none⟩) A.hs.length ch, .slice (some ⟨gc, oc, none⟩) A.cs.length cc], .agg #[.int .i64 a.kind, .int .i64 a.h, .int .i64 a.x, .int .i64 a.k, .int .u64 a.s]] w fun e w' =>
      ∃ F', e = .returned (.bool true) ∧ K.at_ w' p F' A st g ∧ RefM w' (X ++ F') gh oh ch gc oc cc A ∧ Upd F w w' ∧ ∀ x, x ∈ F' → x ∈ F ∨ w.heap.size ≤ x := by
  refine (looks_any h (v := refV gh oh ch gc oc cc A) ⟨gh, oh, ch, gc, oc, cc, rfl, hr⟩ a ha).mono ?_
  rintro e w' ⟨rfl, F', ⟨hA, -⟩, hu, hf⟩
  refine ⟨F', rfl, hA, hr.fresh (hu.mono (fun x hx => by simp [hx])) (fun x hx => ?_), hu, hf⟩
  rcases List.mem_append.1 hx with hx | hx
  · exact Or.inl (by simp [hx])
  · rcases hf x hx with h' | h'
    · exact Or.inl (by simp [h'])
    · exact Or.inr h'
theorem RefM.at_size (h : RefM w F gh oh ch gc oc cc A) : gh < w.heap.size ∧ gc < w.heap.size := h.lt
end
end Go.Proofs.Ytighgbdijagolaa
