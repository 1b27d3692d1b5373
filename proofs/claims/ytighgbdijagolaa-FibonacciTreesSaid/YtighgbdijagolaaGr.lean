/-
  The document's nest (haycockref05): what its memory holds; Has, In, Len, Ahead, New. Conditions: those of each lemma.
-/
import Derived.Test.YtighgbdijagolaaGa
import Derived.Test.YtighgbdijagolaaGc
set_option linter.unusedVariables false
set_option linter.unusedSimpArgs false
namespace Go.Proofs.Ytighgbdijagolaa
open Go Go.RowKit

/-- The memory of a nest of the document: two slices, wherever they lie, in no block of F. -/
structure RefM (w : World) (F : List Nat) (gh oh ch gc oc cc : Nat) (A : NS) : Prop where
  hcap : A.hs.length ≤ ch ∧ ch ≤ 9223372036854775807
  ccap : A.cs.length ≤ cc ∧ cc ≤ 9223372036854775807
  lt : gh < w.heap.size ∧ gc < w.heap.size
  far : gh ∉ F ∧ gc ∉ F
  h : ∀ j, j < A.hs.length → w.cell? ⟨gh, oh + j, none⟩ = some (.bool (A.hs.getD j false))
  c0 : ∀ x, x < A.cs.length → w.cell? ⟨gc, oc + x * 3, none⟩ = some (.int .i64 (A.c x).i)
  c1 : ∀ x, x < A.cs.length → w.cell? ⟨gc, oc + x * 3 + 1, none⟩ = some (.int .i64 (A.c x).k)
  c2 : ∀ x, x < A.cs.length → w.cell? ⟨gc, oc + x * 3 + 2, none⟩ = some (.int .u64 (A.c x).s)
def refV (gh oh ch gc oc cc : Nat) (A : NS) : Value := .agg #[.slice (some ⟨gh, oh, none⟩) A.hs.length ch, .slice (some ⟨gc, oc, none⟩) A.cs.length cc]
def RefAt (w : World) (F : List Nat) (v : Value) (A : NS) : Prop := ∃ gh oh ch gc oc cc, v = refV gh oh ch gc oc cc A ∧ RefM w F gh oh ch gc oc cc A
theorem RefM.upd {w w' : World} {F : List Nat} {gh oh ch gc oc cc : Nat} {A : NS} (h : RefM w F gh oh ch gc oc cc A) (hu : Upd F w w') : RefM w' F gh oh ch gc oc cc A := by
  have e1 : ∀ o, w'.cell? ⟨gh, o, none⟩ = w.cell? ⟨gh, o, none⟩ := fun o => hu.cell h.lt.1 h.far.1
  have e2 : ∀ o, w'.cell? ⟨gc, o, none⟩ = w.cell? ⟨gc, o, none⟩ := fun o => hu.cell h.lt.2 h.far.2
  have hs := hu.size
  have hl := h.lt
  exact ⟨h.hcap, h.ccap, ⟨by omega, by omega⟩, h.far, fun j hj => by rw [e1]; exact h.h j hj, fun j hj => by rw [e2]; exact h.c0 j hj, fun j hj => by rw [e2]; exact h.c1 j hj, fun j hj => by rw [e2]; exact h.c2 j hj⟩
theorem RefM.upd0 {w w' : World} {F : List Nat} {gh oh ch gc oc cc : Nat} {A : NS} (h : RefM w F gh oh ch gc oc cc A) (hu : Upd [] w w') : RefM w' F gh oh ch gc oc cc A := h.upd (hu.mono (by simp))
theorem RefAt.upd {w w' : World} {F : List Nat} {v : Value} {A : NS} (h : RefAt w F v A) (hu : Upd F w w') : RefAt w' F v A := by
  obtain ⟨gh, oh, ch, gc, oc, cc, rfl, h⟩ := h
  exact ⟨gh, oh, ch, gc, oc, cc, rfl, h.upd hu⟩
theorem RefAt.upd0 {w w' : World} {F : List Nat} {v : Value} {A : NS} (h : RefAt w F v A) (hu : Upd [] w w') : RefAt w' F v A := h.upd (hu.mono (by simp))
theorem RefM.fresh {w w' : World} {F F' : List Nat} {gh oh ch gc oc cc : Nat} {A : NS} (h : RefM w F gh oh ch gc oc cc A) (hu : Upd F w w') (hF : ∀ x, x ∈ F' → x ∈ F ∨ w.heap.size ≤ x) : RefM w' F' gh oh ch gc oc cc A := by
  have h' := h.upd hu
  have hl := h.lt
  refine ⟨h'.hcap, h'.ccap, h'.lt, ⟨fun m => ?_, fun m => ?_⟩, h'.h, h'.c0, h'.c1, h'.c2⟩
  · rcases hF _ m with h1 | h1; exact h.far.1 h1; omega
  · rcases hF _ m with h1 | h1; exact h.far.2 h1; omega
/-- The nest turned, and has other blocks; the document's is as it was. -/
theorem RefAt.fresh {w w' : World} {F F' : List Nat} {v : Value} {A : NS} (h : RefAt w F v A) (hu : Upd F w w') (hF : ∀ x, x ∈ F' → x ∈ F ∨ w.heap.size ≤ x) : RefAt w' F' v A := by
  obtain ⟨gh, oh, ch, gc, oc, cc, rfl, h⟩ := h
  exact ⟨gh, oh, ch, gc, oc, cc, rfl, h.fresh hu hF⟩

section
variable {w : World} {F : List Nat} {v : Value} {A : NS}
theorem rhasN_any (h : RefAt w F v A) (ok : A.Ok) (x : Int) :
    Calls Try.prog 37 #[v, .int .i64 x] w fun e w' => e = .returned (.bool (hasN A x)) ∧ Upd [] w w' := by
  obtain ⟨gh, oh, ch, gc, oc, cc, rfl, h⟩ := h
  have h1 := h.hcap
  have h2 := h.ccap
  have h3 := ok.h1
  have h4 := ok.c1
  unfold hasN
  by_cases hx : 1 ≤ x
  · by_cases hx2 : x < A.hs.length
    · obtain ⟨i, rfl⟩ : ∃ i : Nat, x = i := ⟨x.toNat, by omega⟩
      have c1 := h.h i (by omega)
      have hl := h.lt.1
      simp only [Int.toNat_natCast]
      unfold refV
      clear h ok
      generalize A.hs.getD i false = b at *
      go_enter Try.func37, Try.ntmps37
      go_wp2
      go_ret
      exact ⟨ret_bool (by simp [hx, hx2]), by (repeat (first | assumption | exact Upd.refl _ _ | refine Upd.alloc ?_ _ | refine Upd.drew ?_ | refine Upd.drewN ?_ _ | refine Upd.setCell ?_ (Or.inr (by first | (simp; done) | (simp; omega))) _ | (apply Upd.trans; rotate_left; assumption)))⟩
    · unfold refV
      clear h ok
      go_enter Try.func37, Try.ntmps37
      go_wp2
      go_ret
      exact ⟨ret_bool (by simp [hx]; intro; omega), by (repeat (first | assumption | exact Upd.refl _ _ | refine Upd.alloc ?_ _ | refine Upd.drew ?_ | refine Upd.drewN ?_ _ | refine Upd.setCell ?_ (Or.inr (by first | (simp; done) | (simp; omega))) _ | (apply Upd.trans; rotate_left; assumption)))⟩
  · unfold refV
    clear h ok
    go_enter Try.func37, Try.ntmps37
    go_wp2
    go_ret
    exact ⟨ret_bool (by simp; omega), by (repeat (first | assumption | exact Upd.refl _ _ | refine Upd.alloc ?_ _ | refine Upd.drew ?_ | refine Upd.drewN ?_ _ | refine Upd.setCell ?_ (Or.inr (by first | (simp; done) | (simp; omega))) _ | (apply Upd.trans; rotate_left; assumption)))⟩
theorem rinN_any (h : RefAt w F v A) (ok : A.Ok) (x : Int) :
    Calls Try.prog 35 #[v, .int .i64 x] w fun e w' => e = .returned (.bool (inN A x)) ∧ Upd [] w w' := by
  obtain ⟨gh, oh, ch, gc, oc, cc, rfl, h⟩ := h
  have h1 := h.hcap
  have h2 := h.ccap
  have h3 := ok.h1
  have h4 := ok.c1
  unfold inN slotN
  by_cases hx : 0 ≤ x
  · by_cases hx2 : x < A.cs.length
    · obtain ⟨i, rfl⟩ : ∃ i : Nat, x = i := ⟨x.toNat, by omega⟩
      have c1 := h.c0 i (by omega)
      have hl := h.lt.2
      simp only [Int.toNat_natCast]
      unfold refV
      clear h ok
      go_enter Try.func35, Try.ntmps35
      go_wp2
      go_ret
      exact ⟨ret_bool (by simp [hx, hx2]), by (repeat (first | assumption | exact Upd.refl _ _ | refine Upd.alloc ?_ _ | refine Upd.drew ?_ | refine Upd.drewN ?_ _ | refine Upd.setCell ?_ (Or.inr (by first | (simp; done) | (simp; omega))) _ | (apply Upd.trans; rotate_left; assumption)))⟩
    · unfold refV
      clear h ok
      go_enter Try.func35, Try.ntmps35
      go_wp2
      go_ret
      exact ⟨ret_bool (by simp [hx]; intro; omega), by (repeat (first | assumption | exact Upd.refl _ _ | refine Upd.alloc ?_ _ | refine Upd.drew ?_ | refine Upd.drewN ?_ _ | refine Upd.setCell ?_ (Or.inr (by first | (simp; done) | (simp; omega))) _ | (apply Upd.trans; rotate_left; assumption)))⟩
  · unfold refV
    clear h ok
    go_enter Try.func35, Try.ntmps35
    go_wp2
    go_ret
    exact ⟨ret_bool (by simp; omega), by (repeat (first | assumption | exact Upd.refl _ _ | refine Upd.alloc ?_ _ | refine Upd.drew ?_ | refine Upd.drewN ?_ _ | refine Upd.setCell ?_ (Or.inr (by first | (simp; done) | (simp; omega))) _ | (apply Upd.trans; rotate_left; assumption)))⟩
theorem lenL_take (cs : List Cl) (h : Int) (j : Nat) (hj : j < cs.length) : lenL (cs.take (j + 1)) h = lenL (cs.take j) h + if (cs.getD j Cl.z).i = h ∧ 0 < h then 1 else 0 := by
  unfold lenL
  rw [List.take_add_one, List.filter_append, List.length_append]
  congr 1
  rw [List.getElem?_eq_getElem hj]
  simp only [Option.toList_some, List.filter_cons, List.filter_nil, List.getD_eq_getElem?_getD, List.getElem?_eq_getElem hj, Option.getD_some]
  by_cases h1 : cs[j].i = h <;> by_cases h2 : 0 < h <;> simp [h1, h2]
set_option maxHeartbeats 2000000 in
theorem rlenN_any (h : RefAt w F v A) (ok : A.Ok) (x : Int) :
    Calls Try.prog 29 #[v, .int .i64 x] w fun e w' => e = .returned (.int .i64 (lenN A x : Int)) ∧ Upd [] w w' := by
  obtain ⟨gh, oh, ch, gc, oc, cc, rfl, h⟩ := h
  have h1 := h.hcap
  have h2 := h.ccap
  have h3 := ok.h1
  have h4 := ok.c1
  unfold refV lenN
  have H := Lib.hid h
  have hT := fun j hj => lenL_take A.cs x j hj
  have HT := Lib.hid hT
  have hfull : lenL (A.cs.take A.cs.length) x = lenL A.cs x := by rw [List.take_length]
  have HF := Lib.hid hfull
  have hle : ∀ j, lenL (A.cs.take j) x ≤ j := fun j => Nat.le_trans (lenL_le _ _) (by simp; omega)
  have HL := Lib.hid hle
  clear h ok hT hfull hle
  generalize hn : A.cs.length = n at *
  generalize A.hs.length = m at *
  have HN := Lib.hid hn
  clear hn
  go_enter Try.func29, Try.ntmps29
  go_wp2
  go_loopw [5, 11] (fun k i wr => ∃ j : Nat, j ≤ n ∧ i = .int .i64 (j : Int) ∧ k = .int .i64 (lenL (A.cs.take j) x : Int) ∧ Upd [] w wr) (fun _ i _ => n - (intOf i).toNat)
  case atStart => exact ⟨0, by omega, rfl, by simp [lenL], by (repeat (first | assumption | exact Upd.refl _ _ | refine Upd.alloc ?_ _ | refine Upd.drew ?_ | refine Upd.drewN ?_ _ | refine Upd.setCell ?_ (Or.inr (by first | (simp; done) | (simp; omega))) _ | (apply Upd.trans; rotate_left; assumption)))⟩
  case round =>
    obtain ⟨j, hj, rfl, rfl, hu⟩ := hrel
    have hlej := HL.out j
    by_cases hlt : j < n
    · have hm := H.out.upd0 hu
      have q0 := hm.c0 j (by rw [HN.out]; exact hlt)
      have q1 := hm.c1 j (by rw [HN.out]; exact hlt)
      have q2 := hm.c2 j (by rw [HN.out]; exact hlt)
      have hgc := hm.lt.2
      have hs := HT.out j hlt
      have HS := Lib.hid hs
      clear hm hs
      have e1 : A.cs.getD j Cl.z = A.c j := rfl
      rw [e1] at HS
      clear e1
      generalize lenL (A.cs.take j) x = L at *
      generalize (A.c j).i = y at *
      by_cases hy : y = x
      · by_cases hx : 0 < x
        · have hy' : (y == x) = true := by simpa using hy
          have HY := Lib.hid (And.intro hy hx)
          clear hy
          go_wp2
          go_roundw
          case rel => exact ⟨j + 1, by omega, by go_num, by rw [HS.out, if_pos HY.out]; go_num, by (repeat (first | assumption | exact Upd.refl _ _ | refine Upd.alloc ?_ _ | refine Upd.drew ?_ | refine Upd.drewN ?_ _ | refine Upd.setCell ?_ (Or.inr (by first | (simp; done) | (simp; omega))) _ | (apply Upd.trans; rotate_left; assumption)))⟩
          case measure => simp [intOf]; omega
        · have hy' : (y == x) = true := by simpa using hy
          have HY := Lib.hid (And.intro hy hx)
          clear hy
          go_wp2
          go_roundw
          case rel => exact ⟨j + 1, by omega, by go_num, by rw [HS.out, if_neg (fun e => HY.out.2 e.2)]; go_num, by (repeat (first | assumption | exact Upd.refl _ _ | refine Upd.alloc ?_ _ | refine Upd.drew ?_ | refine Upd.drewN ?_ _ | refine Upd.setCell ?_ (Or.inr (by first | (simp; done) | (simp; omega))) _ | (apply Upd.trans; rotate_left; assumption)))⟩
          case measure => simp [intOf]; omega
      · have hy' : (y == x) = false := by simpa using hy
        have HY := Lib.hid hy
        clear hy
        go_wp2
        go_roundw
        case rel => exact ⟨j + 1, by omega, by go_num, by rw [HS.out, if_neg (fun e => HY.out e.1)]; go_num, by (repeat (first | assumption | exact Upd.refl _ _ | refine Upd.alloc ?_ _ | refine Upd.drew ?_ | refine Upd.drewN ?_ _ | refine Upd.setCell ?_ (Or.inr (by first | (simp; done) | (simp; omega))) _ | (apply Upd.trans; rotate_left; assumption)))⟩
        case measure => simp [intOf]; omega
    · obtain rfl : j = n := by omega
      go_wp2
      go_ret
      exact ⟨ret_int (by rw [HF.out]), by (repeat (first | assumption | exact Upd.refl _ _ | refine Upd.alloc ?_ _ | refine Upd.drew ?_ | refine Upd.drewN ?_ _ | refine Upd.setCell ?_ (Or.inr (by first | (simp; done) | (simp; omega))) _ | (apply Upd.trans; rotate_left; assumption)))⟩
end
end Go.Proofs.Ytighgbdijagolaa

set_option linter.unusedVariables false
set_option linter.unusedSimpArgs false
namespace Go.Proofs.Ytighgbdijagolaa
open Go Go.RowKit

theorem addr_addo (g o j : Nat) : ((⟨g, o, none⟩ : Addr).add j) = ⟨g, o + j, none⟩ := by
  unfold Addr.add; split
  · subst_vars; simp
  · rfl
theorem own_some {w : World} {base size n g : Nat} {e : TypeId} {v : Value} {xs : List Value} (h : w.ownsRow base e size v n xs) (hb : v.ownBlock = some g) :
    ∃ cap, v = .slice (some ⟨g, 0, none⟩) n cap ∧ n ≤ cap ∧ cap ≤ 9223372036854775807 ∧ base ≤ g ∧ g < w.heap.size := by
  rcases h.2 with ⟨rfl, _⟩ | ⟨g', cap, cur, rfl, hb', hg, hnc, hcm, _⟩
  · cases hb
  · obtain rfl : g' = g := Option.some.inj hb
    exact ⟨cap, rfl, hnc, by unfold maxLen at hcm; exact hcm, hb', (h.lt g' rfl).2⟩
theorem own_set {w : World} {base size n g cap : Nat} {e : TypeId} {xs : List Value} (h : w.ownsRow base e size (.slice (some ⟨g, 0, none⟩) n cap) n xs) (j : Nat) (u : Value) :
    (w.setCell ⟨g, j, none⟩ u).ownsRow base e size (.slice (some ⟨g, 0, none⟩) n cap) n (xs.set j u) := by
  rcases h.2 with ⟨h1, _⟩ | ⟨g', cap', cur, h1, hb, hg, hn, hc, hs, ht⟩
  · cases h1
  · cases h1
    refine ⟨by rw [List.length_set]; exact h.1, Or.inr ⟨g, cap, cur.setIfInBounds j u, rfl, hb, ?_, hn, hc, by simp; exact hs, ?_⟩⟩
    · simp [World.setCell, Array.getElem?_modify, hg]
    · rw [Array.toList_setIfInBounds]
      by_cases hj : j < n * size
      · rw [List.take_set, ht]
      · have hl := h.1
        rw [List.take_set_of_le (by omega), ht, List.set_eq_of_length_le (by omega)]
theorem wpList_append_src {P : Program} {ops : Array Oper} {rest : List Oper} {o : Oper} {a : Act} {w : World} {Q : Exit → Act → World → Prop} (hgd : o.guard = none) (s x : Operand) (t : TypeId)
    (ho : o.op = .call { callee := .builtin .append, args := #[s, x], argTypes := #[t, t] })
    (base : Nat) (e : TypeId) (z : Value) (size bytes : Nat) (ht : P.underlying t = some (.slice e)) (hinfo : (P.info? e).map (fun i => (i.zero, i.size, i.bytes)) = some (some z, size, bytes))
    (hzs : z.cells.size = size) (hsz : 0 < size) (g0 cap0 n : Nat) (xs : List Value) (hs : a.eval s = .slice (some ⟨g0, 0, none⟩) n cap0) (hown : w.ownsRow base e size (.slice (some ⟨g0, 0, none⟩) n cap0) n xs)
    (gs os m cs : Nat) (news : List Value) (hx : a.eval x = .slice (some ⟨gs, os, none⟩) m cs) (hlen : news.length = m * size) (hcell : ∀ j u, news[j]? = some u → w.cell? ⟨gs, os + j, none⟩ = some u) (h1 : ∀ u ∈ news, u.oneCell' = true)
    (hn : n + m ≤ maxLen) (hbytes : (n + m) * bytes ≤ 140737488355328) (hbase : base ≤ w.heap.size)
    (h : ∀ g' cap' w', w'.ownsRow base e size (.slice (some ⟨g', 0, none⟩) (n + m) cap') (n + m) (xs ++ news) → Upd [g0] w w' → (g' = g0 ∨ w.heap.size ≤ g') → n + m ≤ cap' → cap' ≤ 9223372036854775807 → g' < w'.heap.size → wpList P ops Q rest (a.put o.dst (.slice (some ⟨g', 0, none⟩) (n + m) cap')) w') :
    wpList P ops Q (o :: rest) a w := by
  refine wpList_plain hgd fun K' hK' => ?_
  obtain ⟨i, hi, hz0, hz1, hz2⟩ := info_parts hinfo
  obtain ⟨v', w', hr, h2, h3, _, h5⟩ := run_append_own_at (P := P) w base t o.type e i z size bytes ht hi hz0 hz1 hz2 hzs hsz (.slice (some ⟨g0, 0, none⟩) n cap0) n xs hown ⟨gs, os, none⟩ m cs news hlen (fun j u hj => by rw [addr_addo]; exact hcell j u hj) h1 hn hbytes hbase
  unfold Oper.wp execOp
  simp only [ho, resolve, invoke, builtin, Sem.run_bind, Sem.run_pure, Result.andThen_ok, List.map_toArray, List.map_cons, List.map_nil, hs, hx, hr]
  have hb : ∃ g', v'.ownBlock = some g' ∧ (g' = g0 ∨ w.heap.size ≤ g') := by
    rcases h5 with h5 | h5
    · exact ⟨g0, h5, Or.inl rfl⟩
    · exact ⟨_, h5, Or.inr (Nat.le_refl _)⟩
  obtain ⟨g', hb1, hb2⟩ := hb
  obtain ⟨cap', rfl, hc1, hc2, hc3, hc4⟩ := own_some h2 hb1
  exact hK' _ _ (h g' cap' w' h2 ((Upd.refl _ _).grown h3 (fun k hk => Or.inl (by cases hk; simp))) hb2 hc1 hc2 hc4)

def clsV (cs : List Cl) : List Value := (List.range (cs.length * 3)).map (clCell (fun x => cs.getD x Cl.z))
theorem clsV_len (cs : List Cl) : (clsV cs).length = cs.length * 3 := by unfold clsV; simp
theorem clsV_get {cs : List Cl} {j : Nat} (hj : j < cs.length * 3) : (clsV cs)[j]? = some (clCell (fun x => cs.getD x Cl.z) j) := by unfold clsV; simp [hj]
theorem clsV_one (cs : List Cl) : ∀ u ∈ clsV cs, u.oneCell' = true := by
  intro u hu
  unfold clsV at hu
  obtain ⟨j, _, rfl⟩ := List.mem_map.1 hu
  unfold clCell; split; rfl; split <;> rfl
theorem clsV_set (cs : List Cl) (x : Nat) (c : Cl) : (((clsV cs).set (x * 3) (.int .i64 c.i)).set (x * 3 + 1) (.int .i64 c.k)).set (x * 3 + 2) (.int .u64 c.s) = clsV (cs.set x c) := by
  apply List.ext_getElem?
  intro j
  by_cases hj : j < cs.length * 3
  · have hl : j < (cs.set x c).length * 3 := by rw [List.length_set]; exact hj
    rw [clsV_get hl]
    simp only [List.getElem?_set, List.length_set, clsV_len]
    have e : ∀ y, (cs.set x c).getD y Cl.z = if y = x ∧ x < cs.length then c else cs.getD y Cl.z := fun y => by
      simp only [List.getD_eq_getElem?_getD, List.getElem?_set]
      by_cases h : x = y
      · subst h
        by_cases hx : x < cs.length
        · simp [hx]
        · simp [hx, List.getElem?_eq_none (Nat.le_of_not_lt hx)]
      · rw [if_neg h, if_neg (fun e => h e.1.symm)]
    simp only [clCell, e]
    by_cases h2 : x * 3 + 2 = j
    · rw [if_pos h2, if_pos (by omega), if_neg (by omega), if_neg (by omega), if_pos ⟨by omega, by omega⟩]
    · rw [if_neg h2]
      by_cases h1 : x * 3 + 1 = j
      · rw [if_pos h1, if_pos (by omega), if_neg (by omega), if_pos (by omega), if_pos ⟨by omega, by omega⟩]
      · rw [if_neg h1]
        by_cases h0 : x * 3 = j
        · rw [if_pos h0, if_pos (by omega), if_pos (by omega), if_pos ⟨by omega, by omega⟩]
        · have e3 : ¬ (j / 3 = x ∧ x < cs.length) := fun e => by have := e.1; omega
          rw [if_neg h0, clsV_get hj]
          simp only [clCell, e3, if_false]
  · rw [List.getElem?_eq_none (by simp only [List.length_set, clsV_len]; omega), List.getElem?_eq_none (by simp only [List.length_set, clsV_len]; omega)]
theorem refCellInfo : (Try.prog.info? 81).map (fun i => (i.zero, i.size, i.bytes)) = some (some (.agg #[.int .i64 0, .int .i64 0, .int .u64 0]), 3, 24) := by kernel_rfl
theorem boolInfo : (Try.prog.info? 4).map (fun i => (i.zero, i.size, i.bytes)) = some (some (.bool false), 1, 1) := by kernel_rfl
theorem RefM.news {w : World} {F : List Nat} {gh oh ch gc oc cc : Nat} {A : NS} (h : RefM w F gh oh ch gc oc cc A) (j : Nat) (u : Value) (hj : (clsV A.cs)[j]? = some u) : w.cell? ⟨gc, oc + j, none⟩ = some u := by
  have hl : j < A.cs.length * 3 := by have := (List.getElem?_eq_some_iff.1 hj).1; rwa [clsV_len] at this
  rw [clsV_get hl] at hj
  cases hj
  have hd : j / 3 < A.cs.length := by omega
  unfold clCell
  rcases (by omega : j % 3 = 0 ∨ j % 3 = 1 ∨ j % 3 = 2) with e | e | e
  · have := h.c0 (j / 3) hd
    rw [show oc + j / 3 * 3 = oc + j by omega] at this
    rw [this, if_pos e]; rfl
  · have := h.c1 (j / 3) hd
    rw [show oc + j / 3 * 3 + 1 = oc + j by omega] at this
    rw [this, if_neg (by omega), if_pos e]; rfl
  · have := h.c2 (j / 3) hd
    rw [show oc + j / 3 * 3 + 2 = oc + j by omega] at this
    rw [this, if_neg (by omega), if_neg (by omega)]; rfl
/-- The cells lie in a row of the call's own. -/
theorem RefM.own {w W : World} {F : List Nat} {gh oh ch gc oc cc : Nat} {A : NS} (h : RefM w F gh oh ch gc oc cc A) (hu : Upd [] w W) (hF : ∀ x, x ∈ F → x < w.heap.size) {g cap : Nat} {cs : List Cl}
    (ho : W.ownsRow w.heap.size 81 3 (.slice (some ⟨g, 0, none⟩) cs.length cap) cs.length (clsV cs)) (hc : cs.length ≤ cap ∧ cap ≤ 9223372036854775807) (hg : g < W.heap.size) : RefM W F gh oh ch g 0 cap ⟨A.hs, cs⟩ := by
  have h' := h.upd0 hu
  have hgl := (ho.lt g rfl).1
  have cell : ∀ j, j < cs.length * 3 → W.cell? ⟨g, 0 + j, none⟩ = some (clCell (fun x => cs.getD x Cl.z) j) := fun j hj => by
    rw [Nat.zero_add, ho.cellAt j hj]; exact clsV_get hj
  refine ⟨h'.hcap, hc, ⟨h'.lt.1, hg⟩, ⟨h'.far.1, fun m => by have := hF _ m; omega⟩, h'.h, fun x hx => ?_, fun x hx => ?_, fun x hx => ?_⟩
  · simp only at hx
    rw [cell (x * 3) (by omega), clCell0]; rfl
  · simp only at hx
    rw [Nat.add_assoc, cell (x * 3 + 1) (by omega), clCell1]; rfl
  · simp only at hx
    rw [Nat.add_assoc, cell (x * 3 + 2) (by omega), clCell2]; rfl
section
variable {w : World} {F : List Nat} {v : Value} {A : NS}
theorem with_fin {gh oh ch gc oc cc n g1 cap1 x m : Nat} {ci ck cs : Int} {wb w1 : World} (h : RefM w F gh oh ch gc oc cc A) (hF : ∀ x, x ∈ F → x < w.heap.size) (hn : A.cs.length = n)
    (ho1 : w1.ownsRow w.heap.size 81 3 (.slice (some ⟨g1, 0, none⟩) (0 + n) cap1) (0 + n) ([] ++ clsV A.cs)) (hb : Upd [] w wb) (hu1 : Upd [w.heap.size + 1 + 1 + 1] wb w1) (g3 : w.heap.size + 3 ≤ g1) (hc1 : 0 + n ≤ cap1) (hc2 : cap1 ≤ 9223372036854775807) (hg2 : g1 < w1.heap.size) :
    RefM (((((w1.setCell ⟨g1, x * 3, none⟩ (.int .i64 ci)).setCell ⟨g1, x * 3 + 1, none⟩ (.int .i64 ck)).setCell ⟨g1, x * 3 + 2, none⟩ (.int .u64 cs)).setCell ⟨w.heap.size + 1 + 1, 0, none⟩ (.slice (some ⟨gh, oh, none⟩) m ch)).setCell ⟨w.heap.size + 1 + 1, 1, none⟩ (.slice (some ⟨g1, 0, none⟩) n cap1)) F gh oh ch g1 0 cap1 ⟨A.hs, A.cs.set x ⟨ci, ck, cs⟩⟩ ∧
    Upd [] w (((((w1.setCell ⟨g1, x * 3, none⟩ (.int .i64 ci)).setCell ⟨g1, x * 3 + 1, none⟩ (.int .i64 ck)).setCell ⟨g1, x * 3 + 2, none⟩ (.int .u64 cs)).setCell ⟨w.heap.size + 1 + 1, 0, none⟩ (.slice (some ⟨gh, oh, none⟩) m ch)).setCell ⟨w.heap.size + 1 + 1, 1, none⟩ (.slice (some ⟨g1, 0, none⟩) n cap1)) := by
  have ho2 : w1.ownsRow w.heap.size 81 3 (.slice (some ⟨g1, 0, none⟩) n cap1) n (clsV A.cs) := by have := ho1; simp only [Nat.zero_add, List.nil_append] at this; exact this
  have ho3 := own_set (own_set (own_set ho2 (x * 3) (.int .i64 ci)) (x * 3 + 1) (.int .i64 ck)) (x * 3 + 2) (.int .u64 cs)
  rw [clsV_set A.cs x ⟨ci, ck, cs⟩] at ho3
  have hw1 : Upd [] w w1 := hb.joined hu1 (fun y hy => Or.inr (by simp at hy; omega))
  generalize hA : (((w1.setCell ⟨g1, x * 3, none⟩ (.int .i64 ci)).setCell ⟨g1, x * 3 + 1, none⟩ (.int .i64 ck)).setCell ⟨g1, x * 3 + 2, none⟩ (.int .u64 cs)) = wA at *
  have hwA : Upd [] w wA := by rw [← hA]; (repeat (first | assumption | exact Upd.refl _ _ | refine Upd.alloc ?_ _ | refine Upd.drew ?_ | refine Upd.drewN ?_ _ | refine Upd.setCell ?_ ?_ _ | focus (left; simp; done) | focus (right; simp; done) | focus (right; simp; omega)))
  generalize hB : ((wA.setCell ⟨w.heap.size + 1 + 1, 0, none⟩ (.slice (some ⟨gh, oh, none⟩) m ch)).setCell ⟨w.heap.size + 1 + 1, 1, none⟩ (.slice (some ⟨g1, 0, none⟩) n cap1)) = wB at *
  have hwB : Upd [] w wB := by rw [← hB]; (repeat (first | assumption | exact Upd.refl _ _ | refine Upd.alloc ?_ _ | refine Upd.drew ?_ | refine Upd.drewN ?_ _ | refine Upd.setCell ?_ ?_ _ | focus (left; simp; done) | focus (right; simp; done) | focus (right; simp; omega)))
  have hAB : Upd [w.heap.size + 1 + 1] wA wB := by rw [← hB]; (repeat (first | assumption | exact Upd.refl _ _ | refine Upd.alloc ?_ _ | refine Upd.drew ?_ | refine Upd.drewN ?_ _ | refine Upd.setCell ?_ ?_ _ | focus (left; simp; done) | focus (right; simp; done) | focus (right; simp; omega)))
  have hsA : g1 < wA.heap.size := (ho3.lt g1 rfl).2
  have ho4 : wB.ownsRow w.heap.size 81 3 (.slice (some ⟨g1, 0, none⟩) (A.cs.set x ⟨ci, ck, cs⟩).length cap1) (A.cs.set x ⟨ci, ck, cs⟩).length (clsV (A.cs.set x ⟨ci, ck, cs⟩)) := by
    rw [List.length_set, hn]
    exact owns_upd ho3 hAB (fun k hk => by cases hk; simp; omega)
  exact ⟨RefM.own h hwB hF ho4 (by rw [List.length_set, hn]; omega) (Nat.lt_of_lt_of_le hsA hAB.size), hwB⟩
set_option maxHeartbeats 2000000 in
theorem rwith_any (h : RefAt w F v A) (ok : A.Ok) (hF : ∀ x, x ∈ F → x < w.heap.size) (x : Nat) (hx : x < A.cs.length) (c : Cl) :
    Calls Try.prog 73 #[v, .int .i64 (x : Int), .agg #[.int .i64 c.i, .int .i64 c.k, .int .u64 c.s]] w fun e w' => ∃ gh oh ch gc oc cc, e = .returned (refV gh oh ch gc oc cc (withN A x c)) ∧ RefM w' F gh oh ch gc oc cc (withN A x c) ∧ Upd [] w w' := by
  obtain ⟨gh, oh, ch, gc, oc, cc, rfl, h⟩ := h
  have h1 := h.hcap
  have h2 := h.ccap
  have h3 := ok.h1
  have h4 := ok.c1
  have H := Lib.hid h
  have e : withN A x c = ⟨A.hs, A.cs.set x c⟩ := rfl
  unfold refV
  rw [e]
  have hset := clsV_set A.cs x c
  have HS := Lib.hid hset
  have hcl := Lib.hid (clsV_len A.cs)
  have hol := Lib.hid (clsV_one A.cs)
  have HF := Lib.hid hF
  have HZ : Hid (∀ j, j < A.cs.length * 3 → ([] ++ clsV A.cs)[j]? = some (clCell (fun x => A.cs.getD x Cl.z) j)) := fun j hj => by rw [List.nil_append]; exact clsV_get hj
  obtain ⟨ci, ck, cs⟩ := c
  simp only [List.length_set]
  clear h ok e hset hF
  generalize hn : A.cs.length = n at *
  have HN := Lib.hid hn
  clear hn
  generalize A.hs.length = m at *
  have hlc := H.out.lt
  go_enter Try.func73, Try.ntmps73
  go_wp2_with (at_builtin; refine wpList_append_src rfl _ _ 51 rfl w.heap.size 81 (.agg #[.int .i64 0, .int .i64 0, .int .u64 0]) 3 24 Try.underlying51 refCellInfo rfl (by decide) _ 0 0 [] rfl (own_lit_at _ _ (by simp) [] 81 w.heap.size 3 0 rfl (by simp; omega) (by unfold maxLen; omega)) gc oc n cc (clsV A.cs) rfl hcl.out ((H.out.upd0 (by (repeat (first | assumption | exact Upd.refl _ _ | refine Upd.alloc ?_ _ | refine Upd.drew ?_ | refine Upd.drewN ?_ _ | refine Upd.setCell ?_ ?_ _ | focus (left; simp; done) | focus (right; simp; done) | focus (right; simp; omega))))).news) hol.out (by unfold maxLen; omega) (by omega) (by simp; omega) ?_; intro g1 cap1 w1 ho1 hu1 hg1 hc1 hc2 hg2; (have g3 : w.heap.size + 3 ≤ g1 := by (rcases hg1 with h | h; (omega); (simp at h; omega))); (have n1 : g1 ≠ w.heap.size := by omega); (have n2 : g1 ≠ w.heap.size + 2 := by omega); (have n3 : ¬ w.heap.size = g1 := by omega); (have n4 : ¬ w.heap.size + 2 = g1 := by omega); clear hg1; (have q0 : w1.cell? ⟨w.heap.size + 1, 0, none⟩ = some (.int .i64 ci) := hu1.kept (by go_simp) (by first | (simp; done) | (simp; omega))); (have q1 : w1.cell? ⟨w.heap.size + 1, 1, none⟩ = some (.int .i64 ck) := hu1.kept (by go_simp) (by first | (simp; done) | (simp; omega))); (have q2 : w1.cell? ⟨w.heap.size + 1, 2, none⟩ = some (.int .u64 cs) := hu1.kept (by go_simp) (by first | (simp; done) | (simp; omega))); (have q3 : w1.cell? ⟨w.heap.size, 0, none⟩ = some (.slice (some ⟨gh, oh, none⟩) m ch) := hu1.kept (by go_simp) (by first | (simp; done) | (simp; omega))); (have q4 : w1.cell? ⟨w.heap.size + 2, 0, none⟩ = some (.slice none 0 0) := hu1.kept (by go_simp) (by first | (simp; done) | (simp; omega))); (have q5 : w1.cell? ⟨w.heap.size + 2, 1, none⟩ = some (.slice none 0 0) := hu1.kept (by go_simp) (by first | (simp; done) | (simp; omega))); (have q6 : w1.frozen? ⟨w.heap.size + 2, 0, none⟩ = false := hu1.keptF (v := .slice none 0 0) (by go_simp) (by first | (simp; done) | (simp; omega)) (by go_simp)); (have q7 : w1.frozen? ⟨w.heap.size + 2, 1, none⟩ = false := hu1.keptF (v := .slice none 0 0) (by go_simp) (by first | (simp; done) | (simp; omega)) (by go_simp)); (have z0 : w1.cell? ⟨g1, x * 3, none⟩ = some _ := (ho1.cellAt (x * 3) (by omega)).trans (HZ.out (x * 3) (by omega))); (have z1 : w1.cell? ⟨g1, x * 3 + 1, none⟩ = some _ := (ho1.cellAt (x * 3 + 1) (by omega)).trans (HZ.out (x * 3 + 1) (by omega))); (have z2 : w1.cell? ⟨g1, x * 3 + 2, none⟩ = some _ := (ho1.cellAt (x * 3 + 2) (by omega)).trans (HZ.out (x * 3 + 2) (by omega))); (have y0 := ho1.frozenAt (x * 3)); (have y1 := ho1.frozenAt (x * 3 + 1)); (have y2 := ho1.frozenAt (x * 3 + 2)))
  obtain ⟨hfin, hu⟩ := with_fin (x := x) (m := m) (ci := ci) (ck := ck) (cs := cs) H.out HF.out HN.out ho1 (by (repeat (first | assumption | exact Upd.refl _ _ | refine Upd.alloc ?_ _ | refine Upd.drew ?_ | refine Upd.drewN ?_ _ | refine Upd.setCell ?_ ?_ _ | focus (left; simp; done) | focus (right; simp; done) | focus (right; simp; omega)))) hu1 g3 hc1 hc2 hg2
  exact bodyPost_ret (v := .agg #[.slice (some ⟨gh, oh, none⟩) m ch, .slice (some ⟨g1, 0, none⟩) n cap1]) (by simp [results, Try.results73, go_sem, q4, q5, n2, n4]) rfl ⟨gh, oh, ch, g1, 0, cap1, rfl, hfin, hu⟩
end
end Go.Proofs.Ytighgbdijagolaa

set_option linter.unusedVariables false
set_option linter.unusedSimpArgs false
namespace Go.Proofs.Ytighgbdijagolaa
open Go Go.RowKit

theorem RefM.add {w : World} {F : List Nat} {gh oh ch gc oc cc : Nat} {A : NS} (h : RefM w F gh oh ch gc oc cc A) {b : Nat} (h1 : gh ≠ b) (h2 : gc ≠ b) : RefM w (b :: F) gh oh ch gc oc cc A :=
  ⟨h.hcap, h.ccap, h.lt, ⟨fun m => by rcases List.mem_cons.1 m with e | e; exact h1 e; exact h.far.1 e, fun m => by rcases List.mem_cons.1 m with e | e; exact h2 e; exact h.far.2 e⟩, h.h, h.c0, h.c1, h.c2⟩
theorem RefM.less {w : World} {F G : List Nat} {gh oh ch gc oc cc : Nat} {A : NS} (h : RefM w F gh oh ch gc oc cc A) (hG : ∀ x, x ∈ G → x ∈ F) : RefM w G gh oh ch gc oc cc A :=
  ⟨h.hcap, h.ccap, h.lt, ⟨fun m => h.far.1 (hG _ m), fun m => h.far.2 (hG _ m)⟩, h.h, h.c0, h.c1, h.c2⟩
/-- It is stored into the result's own block. -/
theorem RefM.stored {w : World} {F : List Nat} {gh oh ch gc oc cc b : Nat} {A : NS} (h : RefM w (b :: F) gh oh ch gc oc cc A) (v0 v1 : Value) : RefM ((w.setCell ⟨b, 0, none⟩ v0).setCell ⟨b, 1, none⟩ v1) F gh oh ch gc oc cc A :=
  (h.upd (((Upd.refl (b :: F) w).setCell (Or.inl (by simp)) _).setCell (Or.inl (by simp)) _)).less (fun x hx => List.mem_cons_of_mem _ hx)
section
variable {w : World} {F : List Nat} {v : Value} {A : NS}
set_option maxHeartbeats 2000000 in
theorem rput_any (h : RefAt w F v A) (ok : A.Ok) (hF : ∀ x, x ∈ F → x < w.heap.size) (hh x k s : Int) :
    Calls Try.prog 51 #[v, .int .i64 hh, .int .i64 x, .agg #[.int .i64 k, .int .u64 s]] w fun e w' => ∃ v', e = .returned (.tuple #[v', .bool (putB A hh x)]) ∧ RefAt w' F v' (putN A hh x k s) ∧ Upd [] w w' := by
  obtain ⟨gh, oh, ch, gc, oc, cc, rfl, h⟩ := h
  have k1 := fun W (hW : Upd [] w W) => rhasN_any ⟨gh, oh, ch, gc, oc, cc, rfl, h.upd0 hW⟩ ok hh
  have k2 := fun W (hW : Upd [] w W) => rinN_any ⟨gh, oh, ch, gc, oc, cc, rfl, h.upd0 hW⟩ ok x
  have hlc := h.lt
  have k3 := fun W (hW : Upd [] w W) (hs : w.heap.size + 1 + 1 < W.heap.size) (i : Nat) (hi : i < A.cs.length) => rwith_any (F := (w.heap.size + 1 + 1) :: F) ⟨gh, oh, ch, gc, oc, cc, rfl, (h.upd0 hW).add (by omega) (by omega)⟩ ok (fun y hy => by rcases List.mem_cons.1 hy with rfl | hy; exact hs; exact Nat.lt_of_lt_of_le (hF y hy) hW.size) i hi ⟨hh, k, s⟩
  have h1 := h.hcap
  have h2 := h.ccap
  have h3 := ok.h1
  have h4 := ok.c1
  have H := Lib.hid h
  have FIN : Hid (putB A hh x = false → ∀ W, Upd [] w W → RefAt W F (refV gh oh ch gc oc cc A) (putN A hh x k s)) := fun hp W hW => by
    unfold putN; rw [if_neg (by rw [hp]; simp)]; exact ⟨gh, oh, ch, gc, oc, cc, rfl, H.out.upd0 hW⟩
  unfold refV at *
  generalize hn : A.cs.length = n at *
  generalize hm : A.hs.length = m at *
  have R : Hid (∀ W, Upd [] (((w.alloc (.cells #[.slice (some ⟨gh, oh, none⟩) m ch, .slice (some ⟨gc, oc, none⟩) n cc] 53)).alloc (.cells #[.int .i64 k, .int .u64 s] 57)).alloc (.cells #[.slice none 0 0, .slice none 0 0] 53)) W →
      W.cell? ⟨w.heap.size, 0, none⟩ = some (.slice (some ⟨gh, oh, none⟩) m ch) ∧ W.cell? ⟨w.heap.size, 1, none⟩ = some (.slice (some ⟨gc, oc, none⟩) n cc) ∧ W.cell? ⟨w.heap.size + 1, 0, none⟩ = some (.int .i64 k) ∧ W.cell? ⟨w.heap.size + 1, 1, none⟩ = some (.int .u64 s) ∧
      W.cell? ⟨w.heap.size + 1 + 1, 0, none⟩ = some (.slice none 0 0) ∧ W.cell? ⟨w.heap.size + 1 + 1, 1, none⟩ = some (.slice none 0 0) ∧ W.frozen? ⟨w.heap.size + 1 + 1, 0, none⟩ = false ∧ W.frozen? ⟨w.heap.size + 1 + 1, 1, none⟩ = false) := fun W h =>
    ⟨h.was (by go_simp), h.was (by go_simp), h.was (by go_simp), h.was (by go_simp), h.was (by go_simp), h.was (by go_simp), h.keptF (v := .slice none 0 0) (by go_simp) (by simp) (by go_simp), h.keptF (v := .slice none 0 0) (by go_simp) (by simp) (by go_simp)⟩
  have HN := Lib.hid (And.intro hn hm)
  by_cases hp : putB A hh x = true
  · have hq := (putB_iff _ _ _).1 hp
    have hx := (slotN_iff _ _).1 hq.2.1
    obtain ⟨i, rfl⟩ : ∃ i : Nat, x = i := ⟨x.toNat, by omega⟩
    have k4 := fun W hW hs => k3 W hW hs i (by omega)
    have e : putN A hh (i : Int) k s = withN A i ⟨hh, k, s⟩ := by unfold putN; rw [if_pos hp]; simp
    rw [hp, e]
    rw [hq.1] at k1
    rw [hq.2.2] at k2
    have hi : i < n := by omega
    clear h ok k3 FIN hp hq e hn hm hx
    go_enter Try.func51, Try.ntmps51
    go_wp2_with (first
      | ((go_at_call 37; (with_reducible refine (k1 _ (by (repeat (first | assumption | exact Upd.refl _ _ | refine Upd.alloc ?_ _ | refine Upd.drew ?_ | refine Upd.drewN ?_ _ | refine Upd.setCell ?_ ?_ _ | focus (left; simp; done) | focus (right; simp; done) | focus (right; simp; omega))))).mono ?_)); rintro e w1 ⟨rfl, hu1⟩; (have v1 : Upd [] w w1 := Upd.trans (by (repeat (first | assumption | exact Upd.refl _ _ | refine Upd.alloc ?_ _ | refine Upd.drew ?_ | refine Upd.drewN ?_ _ | refine Upd.setCell ?_ ?_ _ | focus (left; simp; done) | focus (right; simp; done) | focus (right; simp; omega)))) hu1); obtain ⟨q0, q1, q2, q3, q4, q5, q6, q7⟩ := R.out w1 hu1)
      | ((go_at_call 35; (with_reducible refine (k2 _ (by (repeat (first | assumption | exact Upd.refl _ _ | refine Upd.drew ?_ | refine Upd.alloc ?_ _ | (apply Upd.trans; rotate_left; assumption))))).mono ?_)); rintro e w2 ⟨rfl, hu2⟩; (have v2 : Upd [] w w2 := Upd.trans v1 hu2); obtain ⟨p0, p1, p2, p3, p4, p5, p6, p7⟩ := R.out w2 (hu1.trans hu2))
      | ((go_at_call 73; (with_reducible refine (k4 _ (by (repeat (first | assumption | exact Upd.refl _ _ | refine Upd.drew ?_ | refine Upd.alloc ?_ _ | (apply Upd.trans; rotate_left; assumption)))) (by have := hu1.size; have := hu2.size; simp at *; omega)).mono ?_)); rintro e w3 ⟨gh', oh', ch', gc', oc', cc', rfl, hM, hu3⟩; obtain ⟨r0, r1, r2, r3, r4, r5, r6, r7⟩ := R.out w3 ((hu1.trans hu2).trans hu3)))
    exact bodyPost_ret (v := .tuple #[.agg #[.slice (some ⟨gh', oh', none⟩) (withN A i ⟨hh, k, s⟩).hs.length ch', .slice (some ⟨gc', oc', none⟩) (withN A i ⟨hh, k, s⟩).cs.length cc'], .bool true]) (by simp [results, Try.results51, go_sem, r4, r5]) rfl
      ⟨_, rfl, ⟨gh', oh', ch', gc', oc', cc', rfl, hM.stored _ _⟩, Upd.setCell (Upd.setCell (Upd.trans (Upd.trans (Upd.trans (by (repeat (first | assumption | exact Upd.refl _ _ | refine Upd.alloc ?_ _ | refine Upd.drew ?_ | refine Upd.drewN ?_ _ | refine Upd.setCell ?_ ?_ _ | focus (left; simp; done) | focus (right; simp; done) | focus (right; simp; omega)))) hu1) hu2) hu3) (Or.inr (by simp; omega)) _) (Or.inr (by simp; omega)) _⟩
  · have hp' : putB A hh x = false := by simpa using hp
    rw [hp']
    have FI := Lib.hid (FIN.out hp')
    have hk : hasN A hh = false ∨ (hasN A hh = true ∧ (x < 0 ∨ n ≤ x)) ∨ (hasN A hh = true ∧ 0 ≤ x ∧ x < n ∧ inN A x = true) := by
      unfold putB slotN at hp'
      rw [hn] at hp'
      cases e1 : hasN A hh
      · exact Or.inl rfl
      · rw [e1] at hp'
        by_cases h0 : 0 ≤ x
        · by_cases h1 : x < n
          · refine Or.inr (Or.inr ⟨rfl, h0, h1, ?_⟩)
            simpa [h0, h1] using hp'
          · exact Or.inr (Or.inl ⟨rfl, Or.inr (by omega)⟩)
        · exact Or.inr (Or.inl ⟨rfl, Or.inl (by omega)⟩)
    clear h ok k3 FIN hp hp' hn hm
    rcases hk with e1 | ⟨e1, hx⟩ | ⟨e1, hx1, hx2, e2⟩
    · rw [e1] at k1
      clear e1 k2
      go_enter Try.func51, Try.ntmps51
      go_wp2_with (((go_at_call 37; (with_reducible refine (k1 _ (by (repeat (first | assumption | exact Upd.refl _ _ | refine Upd.alloc ?_ _ | refine Upd.drew ?_ | refine Upd.drewN ?_ _ | refine Upd.setCell ?_ ?_ _ | focus (left; simp; done) | focus (right; simp; done) | focus (right; simp; omega))))).mono ?_)); rintro e w1 ⟨rfl, hu1⟩; (have v1 : Upd [] w w1 := Upd.trans (by (repeat (first | assumption | exact Upd.refl _ _ | refine Upd.alloc ?_ _ | refine Upd.drew ?_ | refine Upd.drewN ?_ _ | refine Upd.setCell ?_ ?_ _ | focus (left; simp; done) | focus (right; simp; done) | focus (right; simp; omega)))) hu1); obtain ⟨q0, q1, q2, q3, q4, q5, q6, q7⟩ := R.out w1 hu1))
      exact bodyPost_ret (v := .tuple #[.agg #[.slice (some ⟨gh, oh, none⟩) m ch, .slice (some ⟨gc, oc, none⟩) n cc], .bool false]) (by simp [results, Try.results51, go_sem, q4, q5]) rfl
        ⟨_, rfl, FI.out _ (by (repeat (first | assumption | exact Upd.refl _ _ | refine Upd.alloc ?_ _ | refine Upd.drew ?_ | refine Upd.drewN ?_ _ | refine Upd.setCell ?_ ?_ _ | focus (left; simp; done) | focus (right; simp; done) | focus (right; simp; omega)))), by (repeat (first | assumption | exact Upd.refl _ _ | refine Upd.alloc ?_ _ | refine Upd.drew ?_ | refine Upd.drewN ?_ _ | refine Upd.setCell ?_ ?_ _ | focus (left; simp; done) | focus (right; simp; done) | focus (right; simp; omega)))⟩
    · rw [e1] at k1
      clear e1 k2
      rcases hx with hx | hx
      all_goals
        go_enter Try.func51, Try.ntmps51
        go_wp2_with (((go_at_call 37; (with_reducible refine (k1 _ (by (repeat (first | assumption | exact Upd.refl _ _ | refine Upd.alloc ?_ _ | refine Upd.drew ?_ | refine Upd.drewN ?_ _ | refine Upd.setCell ?_ ?_ _ | focus (left; simp; done) | focus (right; simp; done) | focus (right; simp; omega))))).mono ?_)); rintro e w1 ⟨rfl, hu1⟩; (have v1 : Upd [] w w1 := Upd.trans (by (repeat (first | assumption | exact Upd.refl _ _ | refine Upd.alloc ?_ _ | refine Upd.drew ?_ | refine Upd.drewN ?_ _ | refine Upd.setCell ?_ ?_ _ | focus (left; simp; done) | focus (right; simp; done) | focus (right; simp; omega)))) hu1); obtain ⟨q0, q1, q2, q3, q4, q5, q6, q7⟩ := R.out w1 hu1))
        exact bodyPost_ret (v := .tuple #[.agg #[.slice (some ⟨gh, oh, none⟩) m ch, .slice (some ⟨gc, oc, none⟩) n cc], .bool false]) (by simp [results, Try.results51, go_sem, q4, q5]) rfl
          ⟨_, rfl, FI.out _ (by (repeat (first | assumption | exact Upd.refl _ _ | refine Upd.alloc ?_ _ | refine Upd.drew ?_ | refine Upd.drewN ?_ _ | refine Upd.setCell ?_ ?_ _ | focus (left; simp; done) | focus (right; simp; done) | focus (right; simp; omega)))), by (repeat (first | assumption | exact Upd.refl _ _ | refine Upd.alloc ?_ _ | refine Upd.drew ?_ | refine Upd.drewN ?_ _ | refine Upd.setCell ?_ ?_ _ | focus (left; simp; done) | focus (right; simp; done) | focus (right; simp; omega)))⟩
    · rw [e1] at k1
      rw [e2] at k2
      clear e1 e2
      go_enter Try.func51, Try.ntmps51
      go_wp2_with (first
        | ((go_at_call 37; (with_reducible refine (k1 _ (by (repeat (first | assumption | exact Upd.refl _ _ | refine Upd.alloc ?_ _ | refine Upd.drew ?_ | refine Upd.drewN ?_ _ | refine Upd.setCell ?_ ?_ _ | focus (left; simp; done) | focus (right; simp; done) | focus (right; simp; omega))))).mono ?_)); rintro e w1 ⟨rfl, hu1⟩; (have v1 : Upd [] w w1 := Upd.trans (by (repeat (first | assumption | exact Upd.refl _ _ | refine Upd.alloc ?_ _ | refine Upd.drew ?_ | refine Upd.drewN ?_ _ | refine Upd.setCell ?_ ?_ _ | focus (left; simp; done) | focus (right; simp; done) | focus (right; simp; omega)))) hu1); obtain ⟨q0, q1, q2, q3, q4, q5, q6, q7⟩ := R.out w1 hu1)
        | ((go_at_call 35; (with_reducible refine (k2 _ (by (repeat (first | assumption | exact Upd.refl _ _ | refine Upd.drew ?_ | refine Upd.alloc ?_ _ | (apply Upd.trans; rotate_left; assumption))))).mono ?_)); rintro e w2 ⟨rfl, hu2⟩; (have v2 : Upd [] w w2 := Upd.trans v1 hu2); obtain ⟨p0, p1, p2, p3, p4, p5, p6, p7⟩ := R.out w2 (hu1.trans hu2)))
      exact bodyPost_ret (v := .tuple #[.agg #[.slice (some ⟨gh, oh, none⟩) m ch, .slice (some ⟨gc, oc, none⟩) n cc], .bool false]) (by simp [results, Try.results51, go_sem, p4, p5]) rfl
        ⟨_, rfl, FI.out _ (by (repeat (first | assumption | exact Upd.refl _ _ | refine Upd.alloc ?_ _ | refine Upd.drew ?_ | refine Upd.drewN ?_ _ | refine Upd.setCell ?_ ?_ _ | focus (left; simp; done) | focus (right; simp; done) | focus (right; simp; omega)))), by (repeat (first | assumption | exact Upd.refl _ _ | refine Upd.alloc ?_ _ | refine Upd.drew ?_ | refine Upd.drewN ?_ _ | refine Upd.setCell ?_ ?_ _ | focus (left; simp; done) | focus (right; simp; done) | focus (right; simp; omega)))⟩
end
end Go.Proofs.Ytighgbdijagolaa
