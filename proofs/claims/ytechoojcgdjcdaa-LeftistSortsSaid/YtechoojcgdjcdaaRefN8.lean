/-
  The document's nest (haycockref05): Order. Conditions: those of each lemma.
-/
import Derived.Test.YtechoojcgdjcdaaRefN4
import Derived.Test.YtechoojcgdjcdaaRefN5
set_option linter.unusedVariables false
set_option linter.unusedSimpArgs false
namespace Go.Proofs.Ytechoojcgdjcdaa
open Go Go.RowKit

/-- A heap comes out, one slot behind the other: what is left, and what came out. -/
def ordS (A : NS) (h : Int) : Nat → NS × List Nat
  | 0 => (A, [])
  | k + 1 => match minN (ordS A h k).1 h with | none => ordS A h k | some m => (dropN (ordS A h k).1 m, (ordS A h k).2 ++ [m])
def ordL (A : NS) (h : Int) : List Nat := (ordS A h (lenN A h)).2
theorem minN_in {A : NS} {h : Int} {m : Nat} (hm : minN A h = some m) : 0 < h ∧ m < A.cs.length ∧ (A.c m).i = h ∧ inN A m = true := by
  by_cases hh : 0 < h
  · have h1 := (minN_some hh).1 hm
    exact ⟨hh, h1.1, h1.2.1, (inN_nat _ _).2 ⟨h1.1, by rw [h1.2.1]; exact hh⟩⟩
  · rw [minN_neg hh] at hm; cases hm
theorem dropN_min {A : NS} {h : Int} {m : Nat} (hm : minN A h = some m) : dropN A (m : Int) = withN A m Cl.z := by
  unfold dropN; rw [if_pos (minN_in hm).2.2.2]; simp
theorem lenN_drop_min {A : NS} {h : Int} {m : Nat} (hm : minN A h = some m) : lenN (dropN A m) h + 1 = lenN A h := by
  obtain ⟨h0, h1, h2, _⟩ := minN_in hm
  rw [dropN_min hm]
  have := lenN_with A m Cl.z h h1
  rw [if_pos ⟨h2, h0⟩, if_neg (show ¬ (Cl.z.i = h ∧ 0 < h) from fun e => by have : (0 : Int) = h := e.1; omega)] at this
  omega
theorem lenN_drop_other {A : NS} {h g : Int} {m : Nat} (hm : minN A h = some m) (hg : g ≠ h) : lenN (dropN A m) g = lenN A g := by
  obtain ⟨h0, h1, h2, _⟩ := minN_in hm
  rw [dropN_min hm]
  have := lenN_with A m Cl.z g h1
  rw [if_neg (fun e => hg (by rw [← e.1, h2])), if_neg (show ¬ (Cl.z.i = g ∧ 0 < g) from fun e => by have : (0 : Int) = g := e.1; omega)] at this
  omega
theorem minN_none_iff {A : NS} {h : Int} : minN A h = none ↔ lenN A h = 0 := by
  by_cases hh : 0 < h
  · exact minN_none hh
  · rw [minN_neg hh, lenN_neg hh]; simp
theorem dropN_len (A : NS) (x : Int) : (dropN A x).cs.length = A.cs.length := by unfold dropN; split; exact len_with _ _ _; rfl
theorem dropN_hs (A : NS) (x : Int) : (dropN A x).hs = A.hs := by unfold dropN; split <;> rfl
theorem ordS_ok {A : NS} (hA : A.Ok) (h : Int) : ∀ k, (ordS A h k).1.Ok ∧ (ordS A h k).1.cs.length = A.cs.length ∧ (ordS A h k).1.hs = A.hs
  | 0 => ⟨hA, rfl, rfl⟩
  | k + 1 => by
    have ih := ordS_ok hA h k
    unfold ordS
    cases hm : minN (ordS A h k).1 h with
    | none => exact ih
    | some m => exact ⟨dropN_ok ih.1 _, by simp only; rw [dropN_len]; exact ih.2.1, by simp only; rw [dropN_hs]; exact ih.2.2⟩
theorem ordS_len {A : NS} (h : Int) : ∀ k, k ≤ lenN A h → (ordS A h k).2.length = k ∧ lenN (ordS A h k).1 h + k = lenN A h
  | 0, _ => ⟨rfl, rfl⟩
  | k + 1, hk => by
    have ih := ordS_len (A := A) h k (by omega)
    unfold ordS
    cases hm : minN (ordS A h k).1 h with
    | none => have := minN_none_iff.1 hm; omega
    | some m =>
      have := lenN_drop_min hm
      refine ⟨by simp only [List.length_append, List.length_cons, List.length_nil]; omega, by simp only; omega⟩
theorem ordS_pre {A : NS} (h : Int) (k : Nat) : ∀ j, ∃ t, (ordS A h (k + j)).2 = (ordS A h k).2 ++ t
  | 0 => ⟨[], by simp⟩
  | j + 1 => by
    obtain ⟨t, ht⟩ := ordS_pre h k j
    rw [show k + (j + 1) = (k + j) + 1 by omega]
    show ∃ t, (match minN (ordS A h (k + j)).1 h with | none => ordS A h (k + j) | some m => (dropN (ordS A h (k + j)).1 m, (ordS A h (k + j)).2 ++ [m])).2 = _
    cases hm : minN (ordS A h (k + j)).1 h with
    | none => exact ⟨t, ht⟩
    | some m => exact ⟨t ++ [m], by simp only; rw [ht, List.append_assoc]⟩
/-- What comes out next. -/
theorem ordL_get {A : NS} {h : Int} {k : Nat} (hk : k < lenN A h) : ∃ m, minN (ordS A h k).1 h = some m ∧ (ordL A h)[k]? = some m ∧ (ordS A h (k + 1)).1 = dropN (ordS A h k).1 m := by
  have h1 := ordS_len (A := A) h k (by omega)
  cases hm : minN (ordS A h k).1 h with
  | none => have := minN_none_iff.1 hm; omega
  | some m =>
    have e : ordS A h (k + 1) = (dropN (ordS A h k).1 m, (ordS A h k).2 ++ [m]) := by
      show (match minN (ordS A h k).1 h with | none => ordS A h k | some m => (dropN (ordS A h k).1 m, (ordS A h k).2 ++ [m])) = _
      rw [hm]
    refine ⟨m, rfl, ?_, by rw [e]⟩
    obtain ⟨t, ht⟩ := ordS_pre (A := A) h (k + 1) (lenN A h - (k + 1))
    rw [show k + 1 + (lenN A h - (k + 1)) = lenN A h by omega] at ht
    unfold ordL
    rw [ht, e]
    simp only
    rw [List.getElem?_append_left (by simp; omega), List.getElem?_append_right (by omega)]
    simp [h1.1]
theorem ordL_len (A : NS) (h : Int) : (ordL A h).length = lenN A h := (ordS_len h _ (Nat.le_refl _)).1
def lenOf : Value → Nat | .slice _ l _ => l | _ => 0
def natsZ (l : List Nat) : List Int := l.map (fun (x : Nat) => (x : Int))
theorem own_slice {w : World} {base size n : Nat} {e : TypeId} {v : Value} {xs : List Value} (h : w.ownsRow base e size v n xs) : ∃ a cap, v = .slice a n cap ∧ cap ≤ 9223372036854775807 := by
  rcases h.2 with ⟨rfl, rfl⟩ | ⟨g, cap, cur, rfl, _, _, _, hc, _⟩
  · exact ⟨none, 0, rfl, by omega⟩
  · exact ⟨_, cap, rfl, by unfold maxLen at hc; exact hc⟩
section
variable {w : World} {F : List Nat} {v : Value} {A : NS}
set_option maxHeartbeats 8000000 in
theorem rorder_any (h : RefAt w F v A) (ok : A.Ok) (hF : ∀ x, x ∈ F → x < w.heap.size) (hh : Int) :
    Calls Try.prog 66 #[v, .int .i64 hh] w fun e w' => ∃ v', e = .returned v' ∧ SlI w' F v' (natsZ (ordL A hh)) ∧ Upd [] w w' := by
  obtain ⟨gh, oh, ch, gc, oc, cc, rfl, h⟩ := h
  have hlc := h.lt
  have H := Lib.hid ((h.add (b := w.heap.size + 1) (by omega) (by omega)).add (b := w.heap.size) (by omega) (by omega))
  have HF := Lib.hid hF
  have OK := Lib.hid (ordS_ok ok hh)
  have OL := Lib.hid (ordS_len (A := A) hh)
  have h1 := h.hcap
  have h2 := h.ccap
  have h3 := ok.h1
  have h4 := ok.c1
  have hlen := lenN_le ok hh
  clear h hF ok
  unfold refV
  go_enter Try.func66, Try.ntmps66
  go_wp2
  go_loopw [5] (fun v wr => ∃ (k : Nat) (gh oh ch gc oc cc : Nat), k ≤ lenN A hh ∧ wr.ownsRow (w.heap.size + 1) 3 1 v k (intsZ (natsZ (ordS A hh k).2)) ∧ RefM wr (w.heap.size :: (v.ownBlock.toList ++ F)) gh oh ch gc oc cc (ordS A hh k).1 ∧ Upd [] w wr ∧
      wr.cell? ⟨w.heap.size, 0, none⟩ = some (.slice (some ⟨gh, oh, none⟩) (ordS A hh k).1.hs.length ch) ∧ wr.cell? ⟨w.heap.size, 1, none⟩ = some (.slice (some ⟨gc, oc, none⟩) (ordS A hh k).1.cs.length cc) ∧
      wr.frozen? ⟨w.heap.size, 0, none⟩ = false ∧ wr.frozen? ⟨w.heap.size, 1, none⟩ = false) (fun v _ => lenN A hh - lenOf v)
  case atStart =>
    refine ⟨0, gh, oh, ch, gc, oc, cc, by omega, ?_, H.out.upd0 (by (repeat (first | assumption | exact Upd.refl _ _ | refine Upd.alloc ?_ _ | refine Upd.drew ?_ | refine Upd.drewN ?_ _ | refine Upd.setCell ?_ ?_ _ | focus (left; simp; done) | focus (right; simp; done) | focus (right; simp; omega)))), by (repeat (first | assumption | exact Upd.refl _ _ | refine Upd.alloc ?_ _ | refine Upd.drew ?_ | refine Upd.drewN ?_ _ | refine Upd.setCell ?_ ?_ _ | focus (left; simp; done) | focus (right; simp; done) | focus (right; simp; omega))), by go_simp; rfl, by go_simp; rfl, by go_simp, by go_simp⟩
    exact own_lit_at _ _ (by simp) [] 3 (w.heap.size + 1) 1 0 rfl (by simp) (by unfold maxLen; omega)
  case round =>
    obtain ⟨k, gh, oh, ch, gc, oc, cc, hk, ho, hM, hu, b0, b1, b2, b3⟩ := hrel
    obtain ⟨okB, hcB, hhB⟩ := OK.out k
    have hlk := OL.out k hk
    have e1 : ordS A hh (k + 1) = (match minN (ordS A hh k).1 hh with | none => ordS A hh k | some m => (dropN (ordS A hh k).1 m, (ordS A hh k).2 ++ [m])) := rfl
    have hbw := World.block_lt_of_cell? wr _ b0
    obtain ⟨a5, c5, rfl, hc5⟩ := own_slice ho
    have hob : ∀ g, (Value.slice a5 k c5).ownBlock = some g → w.heap.size + 1 ≤ g := fun g hg => (ho.lt g hg).1
    have k1 := rmin_any ⟨gh, oh, ch, gc, oc, cc, rfl, hM⟩ okB hh
    have EQ := Lib.hid e1
    have EK := Lib.hid hlk
    have EN := Lib.hid (And.intro hcB hhB)
    have HO := Lib.hid ho
    have OKB := Lib.hid okB
    have HM := Lib.hid hM
    clear e1 hlk hcB hhB ho okB hM
    generalize hB : (ordS A hh k).1 = B at *
    generalize hL : (ordS A hh k).2 = L at *
    have HB := Lib.hid (And.intro hB hL)
    clear hB hL
    cases hmn : minN B hh with
    | none =>
      have h0 := minN_none_iff.1 hmn
      rw [hmn] at k1
      have HMN := Lib.hid hmn
      have hkl : k = lenN A hh := by have := EK.out.2; rw [h0] at this; omega
      have HKL := Lib.hid hkl
      clear hmn h0 hkl
      unfold refV at k1
      generalize B.hs.length = m at *
      generalize B.cs.length = n at *
      go_wp2_with (go_at_call 27; (with_reducible refine (k1).mono ?_); rintro e w1 ⟨rfl, hu1⟩)
      go_ret
      have hL : natsZ (ordL A hh) = natsZ L := by unfold ordL; rw [← HKL.out, HB.out.2]
      have hll : (natsZ L).length = k := by unfold natsZ; rw [List.length_map]; exact EK.out.1
      refine ⟨_, rfl, ?_, hu.trans hu1⟩
      rw [hL]
      have ho := owns_upd HO.out hu1 (by simp)
      exact SlI.of_own (base := w.heap.size + 1) (by rw [hll]; exact ho) (fun g hg => by have := HF.out g hg; omega)
    | some m =>
      have hmi := minN_in hmn
      rw [hmn] at k1
      have hdrop := lenN_drop_min hmn
      have hme : (match (some m : Option Nat) with | none => ordS A hh k | some m => (dropN B m, L ++ [m])) = (dropN B m, L ++ [m]) := rfl
      have EQ2 : Hid (ordS A hh (k + 1) = (dropN B m, L ++ [m])) := by have := EQ.out; rw [hmn] at this; exact this
      have hmn2 := hmi.2.2.2
      have hk1 : k + 1 ≤ lenN A hh := by have := EK.out.2; omega
      have HMN := Lib.hid hmn
      have hdB : (dropN B (m : Int)).hs.length = B.hs.length ∧ (dropN B (m : Int)).cs.length = B.cs.length := ⟨by rw [dropN_hs], dropN_len _ _⟩
      have HDB := Lib.hid hdB
      clear hmn hme EQ hdrop hdB hmi
      unfold refV at k1
      simp only [slotV, Option.isSome_some] at k1
      generalize hbm : B.hs.length = bm at *
      generalize hbn : B.cs.length = bn at *
      have HBM := Lib.hid (And.intro hbm (And.intro hbn hmn2))
      clear hbm hbn hmn2
      go_wp2_with (first
        | (go_at_call 27; (with_reducible refine (k1).mono ?_); rintro e w1 ⟨rfl, hu1⟩; (have b1' := hu1.was b1); (have b0' := hu1.was b0); (have b2' := hu1.keptF b0 (by simp) b2); (have b3' := hu1.keptF b1 (by simp) b3); (have ho1 := owns_upd HO.out hu1 (by simp)); (have l1 : w.heap.size < w1.heap.size := Nat.lt_of_lt_of_le hbw hu1.size))
        | ((at_builtin; refine wpList_append_sep rfl _ _ 30 rfl (w.heap.size + 1) 3 (.int .i64 0) 1 8 Try.underlying30 intInfo rfl (by decide) _ _ _ rfl (ho1) [.int .i64 (m : Int)] rfl (by simp [Value.oneCell']) (by first | rfl | (rw [World.size_alloc]; rfl)) (by unfold maxLen; omega) (by omega) ((by omega)) ?_; intro v2 w2 ho2 hu2 hsep2); obtain ⟨a6, c6, rfl, hc6⟩ := own_slice ho2; (have hnb : w.heap.size ∉ (Value.slice a5 k c5).ownBlock.toList := fun hm => by (have := hob w.heap.size (by simpa using hm); omega)); (have hu2' : Upd (Value.slice a5 k c5).ownBlock.toList w1 w2 := hu2); (have d0 := hu2'.kept b0' hnb); (have d1 := hu2'.kept b1' hnb); (have d2 := hu2'.keptF b0' hnb b2'); (have d3 := hu2'.keptF b1' hnb b3'))
        | fail)
      have hu2n : Upd (w.heap.size :: ((Value.slice a5 k c5).ownBlock.toList ++ F)) w1 w2 := hu2'.mono (fun x hx => by simp at hx ⊢; exact Or.inr (Or.inl hx))
      have hM2 : RefM w2 (w.heap.size :: ((Value.slice a6 (k + 1) c6).ownBlock.toList ++ F)) gh oh ch gc oc cc B := (HM.out.upd0 hu1).fresh hu2n (fun x hx => by
        rcases List.mem_cons.1 hx with h | h
        · exact Or.inl (by rw [h]; simp)
        · rcases List.mem_append.1 h with h | h
          · rcases hsep2 with e | e
            · refine Or.inl (List.mem_cons_of_mem _ (List.mem_append_left _ ?_))
              have e' : (Value.slice a6 (k + 1) c6).ownBlock = (Value.slice a5 k c5).ownBlock := e
              rw [← e']; exact h
            · exact Or.inr (Nat.le_of_lt (e x (by simpa using h)))
          · exact Or.inl (List.mem_cons_of_mem _ (List.mem_append_right _ h)))
      have hw2 : Upd [] w w2 := (hu.trans hu1).joined hu2' (fun x hx => Or.inr (by have := hob x (by simpa using hx); omega))
      have hF2 : ∀ x, x ∈ w.heap.size :: ((Value.slice a6 (k + 1) c6).ownBlock.toList ++ F) → x < w2.heap.size := fun x hx => by
        rcases List.mem_cons.1 hx with h | h
        · rw [h]; exact Nat.lt_of_lt_of_le l1 hu2'.size
        · rcases List.mem_append.1 h with h | h
          · exact (ho2.lt x (by simpa using h)).2
          · exact Nat.lt_of_lt_of_le (HF.out x h) hw2.size
      have kd := rdrop_any ⟨gh, oh, ch, gc, oc, cc, rfl, hM2⟩ OKB.out hF2 (m : Int)
      unfold refV at kd
      rw [HBM.out.1, HBM.out.2.1] at kd
      refine kd.mono ?_
      rintro e w3 ⟨v', rfl, ⟨gh', oh', ch', gc', oc', cc', rfl, hM3⟩, hu3⟩
      unfold refV
      rw [HDB.out.1, HDB.out.2]
      have t0 := hu3.was d0
      have t1 := hu3.was d1
      have t2 := hu3.keptF d0 (by simp) d2
      have t3 := hu3.keptF d1 (by simp) d3
      have HM3 := Lib.hid hM3
      have HO2 := Lib.hid ho2
      have hw3 := hw2.trans hu3
      clear kd hM3 ho2 hM2 hu2n hF2 hu2 hsep2 k1 d0 d1 d2 d3 b0 b1 b2 b3 b0' b1' b2' b3' ho1
      go_wp2
      have hub : Upd [w.heap.size] w3 ((w3.setCell ⟨w.heap.size, 0, none⟩ (.slice (some ⟨gh', oh', none⟩) bm ch')).setCell ⟨w.heap.size, 1, none⟩ (.slice (some ⟨gc', oc', none⟩) bn cc')) := by (repeat (first | assumption | exact Upd.refl _ _ | refine Upd.alloc ?_ _ | refine Upd.drew ?_ | refine Upd.drewN ?_ _ | refine Upd.setCell ?_ ?_ _ | focus (left; simp; done) | focus (right; simp; done) | focus (right; simp; omega)))
      have hln : intsZ (natsZ (L ++ [m])) = intsZ (natsZ L) ++ [.int .i64 (m : Int)] := by unfold intsZ natsZ; simp
      refine ⟨⟨k + 1, gh', oh', ch', gc', oc', cc', hk1, ?_, ?_, hw3.joined hub (fun x hx => Or.inr (by simp at hx; omega)), ?_, ?_, ?_, ?_⟩, by show lenN A hh - (k + 1) < lenN A hh - k; omega⟩
      · rw [EQ2.out]
        simp only
        rw [hln]
        exact owns_upd (owns_upd HO2.out hu3 (by simp)) hub (fun x hx => by have := (HO2.out.lt x hx).1; simp; omega)
      · rw [EQ2.out]
        exact HM3.out.upd (hub.mono (by simp))
      · rw [EQ2.out]
        simp only
        rw [HDB.out.1]
        go_simp
      · rw [EQ2.out]
        simp only
        rw [HDB.out.2]
        go_simp
      · go_simp
      · go_simp
end
end Go.Proofs.Ytechoojcgdjcdaa
