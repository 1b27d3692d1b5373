/-
  The document's nest (haycockref05): another cell; Put, Drop, Lower. Conditions: those of each lemma.
-/
import Derived.Test.YtechoojcgdjcdaaCells
import Derived.Test.YtechoojcgdjcdaaRefN
set_option linter.unusedVariables false
set_option linter.unusedSimpArgs false
namespace Go.Proofs.Ytechoojcgdjcdaa
open Go Go.RowKit

theorem addr_addo (g o j : Nat) : ((⟨g, o, none⟩ : Addr).add j) = ⟨g, o + j, none⟩ := by
  unfold Addr.add; split
  · subst_vars; simp
  · rfl
theorem own_some {w : World} {base size n g : Nat} {e : TypeId} {v : Value} {xs : List Value} (h : w.ownsRow base e size v n xs) (hb : v.ownBlock = some g) :
    ∃ cap, v = .slice (some ⟨g, 0, none⟩) n cap ∧ n ≤ cap ∧ cap ≤ 9223372036854775807 ∧ base ≤ g ∧ g < w.heap.size := by
  rcases h.2 with ⟨rfl, _⟩ | ⟨g', cap, cur, rfl, hb', hg, hnc, hcm, _⟩
  · cases hb
  · obtain rfl : g' = g := Option.some.inj hb
    exact ⟨cap, rfl, hnc, by unfold maxLen at hcm; exact hcm, hb', (h.lt g' rfl).2⟩
theorem own_set {w : World} {base size n g cap : Nat} {e : TypeId} {xs : List Value} (h : w.ownsRow base e size (.slice (some ⟨g, 0, none⟩) n cap) n xs) (j : Nat) (u : Value) :
    (w.setCell ⟨g, j, none⟩ u).ownsRow base e size (.slice (some ⟨g, 0, none⟩) n cap) n (xs.set j u) := by
  rcases h.2 with ⟨h1, _⟩ | ⟨g', cap', cur, h1, hb, hg, hn, hc, hs, ht⟩
  · cases h1
  · cases h1
    refine ⟨by rw [List.length_set]; exact h.1, Or.inr ⟨g, cap, cur.setIfInBounds j u, rfl, hb, ?_, hn, hc, by simp; exact hs, ?_⟩⟩
    · simp [World.setCell, Array.getElem?_modify, hg]
    · rw [Array.toList_setIfInBounds]
      by_cases hj : j < n * size
      · rw [List.take_set, ht]
      · have hl := h.1
        rw [List.take_set_of_le (by omega), ht, List.set_eq_of_length_le (by omega)]
theorem wpList_append_src {P : Program} {ops : Array Oper} {rest : List Oper} {o : Oper} {a : Act} {w : World} {Q : Exit → Act → World → Prop} (hgd : o.guard = none) (s x : Operand) (t : TypeId)
    (ho : o.op = .call { callee := .builtin .append, args := #[s, x], argTypes := #[t, t] })
    (base : Nat) (e : TypeId) (z : Value) (size bytes : Nat) (ht : P.underlying t = some (.slice e)) (hinfo : (P.info? e).map (fun i => (i.zero, i.size, i.bytes)) = some (some z, size, bytes))
    (hzs : z.cells.size = size) (hsz : 0 < size) (g0 cap0 n : Nat) (xs : List Value) (hs : a.eval s = .slice (some ⟨g0, 0, none⟩) n cap0) (hown : w.ownsRow base e size (.slice (some ⟨g0, 0, none⟩) n cap0) n xs)
    (gs os m cs : Nat) (news : List Value) (hx : a.eval x = .slice (some ⟨gs, os, none⟩) m cs) (hlen : news.length = m * size) (hcell : ∀ j u, news[j]? = some u → w.cell? ⟨gs, os + j, none⟩ = some u) (h1 : ∀ u ∈ news, u.oneCell' = true)
    (hn : n + m ≤ maxLen) (hbytes : (n + m) * bytes ≤ 140737488355328) (hbase : base ≤ w.heap.size)
    (h : ∀ g' cap' w', w'.ownsRow base e size (.slice (some ⟨g', 0, none⟩) (n + m) cap') (n + m) (xs ++ news) → Upd [g0] w w' → (g' = g0 ∨ w.heap.size ≤ g') → n + m ≤ cap' → cap' ≤ 9223372036854775807 → g' < w'.heap.size → wpList P ops Q rest (a.put o.dst (.slice (some ⟨g', 0, none⟩) (n + m) cap')) w') :
    wpList P ops Q (o :: rest) a w := by
  refine wpList_plain hgd fun K' hK' => ?_
  obtain ⟨i, hi, hz0, hz1, hz2⟩ := info_parts hinfo
  obtain ⟨v', w', hr, h2, h3, _, h5⟩ := run_append_own_at (P := P) w base t o.type e i z size bytes ht hi hz0 hz1 hz2 hzs hsz (.slice (some ⟨g0, 0, none⟩) n cap0) n xs hown ⟨gs, os, none⟩ m cs news hlen (fun j u hj => by rw [addr_addo]; exact hcell j u hj) h1 hn hbytes hbase
  unfold Oper.wp execOp
  simp only [ho, resolve, invoke, builtin, Sem.run_bind, Sem.run_pure, Result.andThen_ok, List.map_toArray, List.map_cons, List.map_nil, hs, hx, hr]
  have hb : ∃ g', v'.ownBlock = some g' ∧ (g' = g0 ∨ w.heap.size ≤ g') := by
    rcases h5 with h5 | h5
    · exact ⟨g0, h5, Or.inl rfl⟩
    · exact ⟨_, h5, Or.inr (Nat.le_refl _)⟩
  obtain ⟨g', hb1, hb2⟩ := hb
  obtain ⟨cap', rfl, hc1, hc2, hc3, hc4⟩ := own_some h2 hb1
  exact hK' _ _ (h g' cap' w' h2 ((Upd.refl _ _).grown h3 (fun k hk => Or.inl (by cases hk; simp))) hb2 hc1 hc2 hc4)

def clsV (cs : List Cl) : List Value := (List.range (cs.length * 3)).map (clCell (fun x => cs.getD x Cl.z))
theorem clsV_len (cs : List Cl) : (clsV cs).length = cs.length * 3 := by unfold clsV; simp
theorem clsV_get {cs : List Cl} {j : Nat} (hj : j < cs.length * 3) : (clsV cs)[j]? = some (clCell (fun x => cs.getD x Cl.z) j) := by unfold clsV; simp [hj]
theorem clsV_one (cs : List Cl) : ∀ u ∈ clsV cs, u.oneCell' = true := by
  intro u hu
  unfold clsV at hu
  obtain ⟨j, _, rfl⟩ := List.mem_map.1 hu
  unfold clCell; split; rfl; split <;> rfl
theorem clsV_set (cs : List Cl) (x : Nat) (c : Cl) : (((clsV cs).set (x * 3) (.int .i64 c.i)).set (x * 3 + 1) (.int .i64 c.k)).set (x * 3 + 2) (.int .u64 c.s) = clsV (cs.set x c) := by
  apply List.ext_getElem?
  intro j
  by_cases hj : j < cs.length * 3
  · have hl : j < (cs.set x c).length * 3 := by rw [List.length_set]; exact hj
    rw [clsV_get hl]
    simp only [List.getElem?_set, List.length_set, clsV_len]
    have e : ∀ y, (cs.set x c).getD y Cl.z = if y = x ∧ x < cs.length then c else cs.getD y Cl.z := fun y => by
      simp only [List.getD_eq_getElem?_getD, List.getElem?_set]
      by_cases h : x = y
      · subst h
        by_cases hx : x < cs.length
        · simp [hx]
        · simp [hx, List.getElem?_eq_none (Nat.le_of_not_lt hx)]
      · rw [if_neg h, if_neg (fun e => h e.1.symm)]
    simp only [clCell, e]
    by_cases h2 : x * 3 + 2 = j
    · rw [if_pos h2, if_pos (by omega), if_neg (by omega), if_neg (by omega), if_pos ⟨by omega, by omega⟩]
    · rw [if_neg h2]
      by_cases h1 : x * 3 + 1 = j
      · rw [if_pos h1, if_pos (by omega), if_neg (by omega), if_pos (by omega), if_pos ⟨by omega, by omega⟩]
      · rw [if_neg h1]
        by_cases h0 : x * 3 = j
        · rw [if_pos h0, if_pos (by omega), if_pos (by omega), if_pos ⟨by omega, by omega⟩]
        · have e3 : ¬ (j / 3 = x ∧ x < cs.length) := fun e => by have := e.1; omega
          rw [if_neg h0, clsV_get hj]
          simp only [clCell, e3, if_false]
  · rw [List.getElem?_eq_none (by simp only [List.length_set, clsV_len]; omega), List.getElem?_eq_none (by simp only [List.length_set, clsV_len]; omega)]
theorem refCellInfo : (Try.prog.info? 102).map (fun i => (i.zero, i.size, i.bytes)) = some (some (.agg #[.int .i64 0, .int .i64 0, .int .u64 0]), 3, 24) := by kernel_rfl
theorem boolInfo : (Try.prog.info? 4).map (fun i => (i.zero, i.size, i.bytes)) = some (some (.bool false), 1, 1) := by kernel_rfl
theorem RefM.news {w : World} {F : List Nat} {gh oh ch gc oc cc : Nat} {A : NS} (h : RefM w F gh oh ch gc oc cc A) (j : Nat) (u : Value) (hj : (clsV A.cs)[j]? = some u) : w.cell? ⟨gc, oc + j, none⟩ = some u := by
  have hl : j < A.cs.length * 3 := by have := (List.getElem?_eq_some_iff.1 hj).1; rwa [clsV_len] at this
  rw [clsV_get hl] at hj
  cases hj
  have hd : j / 3 < A.cs.length := by omega
  unfold clCell
  rcases (by omega : j % 3 = 0 ∨ j % 3 = 1 ∨ j % 3 = 2) with e | e | e
  · have := h.c0 (j / 3) hd
    rw [show oc + j / 3 * 3 = oc + j by omega] at this
    rw [this, if_pos e]; rfl
  · have := h.c1 (j / 3) hd
    rw [show oc + j / 3 * 3 + 1 = oc + j by omega] at this
    rw [this, if_neg (by omega), if_pos e]; rfl
  · have := h.c2 (j / 3) hd
    rw [show oc + j / 3 * 3 + 2 = oc + j by omega] at this
    rw [this, if_neg (by omega), if_neg (by omega)]; rfl
/-- The cells lie in a row of the call's own. -/
theorem RefM.own {w W : World} {F : List Nat} {gh oh ch gc oc cc : Nat} {A : NS} (h : RefM w F gh oh ch gc oc cc A) (hu : Upd [] w W) (hF : ∀ x, x ∈ F → x < w.heap.size) {g cap : Nat} {cs : List Cl}
    (ho : W.ownsRow w.heap.size 102 3 (.slice (some ⟨g, 0, none⟩) cs.length cap) cs.length (clsV cs)) (hc : cs.length ≤ cap ∧ cap ≤ 9223372036854775807) (hg : g < W.heap.size) : RefM W F gh oh ch g 0 cap ⟨A.hs, cs⟩ := by
  have h' := h.upd0 hu
  have hgl := (ho.lt g rfl).1
  have cell : ∀ j, j < cs.length * 3 → W.cell? ⟨g, 0 + j, none⟩ = some (clCell (fun x => cs.getD x Cl.z) j) := fun j hj => by
    rw [Nat.zero_add, ho.cellAt j hj]; exact clsV_get hj
  refine ⟨h'.hcap, hc, ⟨h'.lt.1, hg⟩, ⟨h'.far.1, fun m => by have := hF _ m; omega⟩, h'.h, fun x hx => ?_, fun x hx => ?_, fun x hx => ?_⟩
  · simp only at hx
    rw [cell (x * 3) (by omega), clCell0]; rfl
  · simp only at hx
    rw [Nat.add_assoc, cell (x * 3 + 1) (by omega), clCell1]; rfl
  · simp only at hx
    rw [Nat.add_assoc, cell (x * 3 + 2) (by omega), clCell2]; rfl
section
variable {w : World} {F : List Nat} {v : Value} {A : NS}
theorem with_fin {gh oh ch gc oc cc n g1 cap1 x m : Nat} {ci ck cs : Int} {wb w1 : World} (h : RefM w F gh oh ch gc oc cc A) (hF : ∀ x, x ∈ F → x < w.heap.size) (hn : A.cs.length = n)
    (ho1 : w1.ownsRow w.heap.size 102 3 (.slice (some ⟨g1, 0, none⟩) (0 + n) cap1) (0 + n) ([] ++ clsV A.cs)) (hb : Upd [] w wb) (hu1 : Upd [w.heap.size + 1 + 1 + 1] wb w1) (g3 : w.heap.size + 3 ≤ g1) (hc1 : 0 + n ≤ cap1) (hc2 : cap1 ≤ 9223372036854775807) (hg2 : g1 < w1.heap.size) :
    RefM (((((w1.setCell ⟨g1, x * 3, none⟩ (.int .i64 ci)).setCell ⟨g1, x * 3 + 1, none⟩ (.int .i64 ck)).setCell ⟨g1, x * 3 + 2, none⟩ (.int .u64 cs)).setCell ⟨w.heap.size + 1 + 1, 0, none⟩ (.slice (some ⟨gh, oh, none⟩) m ch)).setCell ⟨w.heap.size + 1 + 1, 1, none⟩ (.slice (some ⟨g1, 0, none⟩) n cap1)) F gh oh ch g1 0 cap1 ⟨A.hs, A.cs.set x ⟨ci, ck, cs⟩⟩ ∧
    Upd [] w (((((w1.setCell ⟨g1, x * 3, none⟩ (.int .i64 ci)).setCell ⟨g1, x * 3 + 1, none⟩ (.int .i64 ck)).setCell ⟨g1, x * 3 + 2, none⟩ (.int .u64 cs)).setCell ⟨w.heap.size + 1 + 1, 0, none⟩ (.slice (some ⟨gh, oh, none⟩) m ch)).setCell ⟨w.heap.size + 1 + 1, 1, none⟩ (.slice (some ⟨g1, 0, none⟩) n cap1)) := by
  have ho2 : w1.ownsRow w.heap.size 102 3 (.slice (some ⟨g1, 0, none⟩) n cap1) n (clsV A.cs) := by have := ho1; simp only [Nat.zero_add, List.nil_append] at this; exact this
  have ho3 := own_set (own_set (own_set ho2 (x * 3) (.int .i64 ci)) (x * 3 + 1) (.int .i64 ck)) (x * 3 + 2) (.int .u64 cs)
  rw [clsV_set A.cs x ⟨ci, ck, cs⟩] at ho3
  have hw1 : Upd [] w w1 := hb.joined hu1 (fun y hy => Or.inr (by simp at hy; omega))
  generalize hA : (((w1.setCell ⟨g1, x * 3, none⟩ (.int .i64 ci)).setCell ⟨g1, x * 3 + 1, none⟩ (.int .i64 ck)).setCell ⟨g1, x * 3 + 2, none⟩ (.int .u64 cs)) = wA at *
  have hwA : Upd [] w wA := by rw [← hA]; (repeat (first | assumption | exact Upd.refl _ _ | refine Upd.alloc ?_ _ | refine Upd.drew ?_ | refine Upd.drewN ?_ _ | refine Upd.setCell ?_ ?_ _ | focus (left; simp; done) | focus (right; simp; done) | focus (right; simp; omega)))
  generalize hB : ((wA.setCell ⟨w.heap.size + 1 + 1, 0, none⟩ (.slice (some ⟨gh, oh, none⟩) m ch)).setCell ⟨w.heap.size + 1 + 1, 1, none⟩ (.slice (some ⟨g1, 0, none⟩) n cap1)) = wB at *
  have hwB : Upd [] w wB := by rw [← hB]; (repeat (first | assumption | exact Upd.refl _ _ | refine Upd.alloc ?_ _ | refine Upd.drew ?_ | refine Upd.drewN ?_ _ | refine Upd.setCell ?_ ?_ _ | focus (left; simp; done) | focus (right; simp; done) | focus (right; simp; omega)))
  have hAB : Upd [w.heap.size + 1 + 1] wA wB := by rw [← hB]; (repeat (first | assumption | exact Upd.refl _ _ | refine Upd.alloc ?_ _ | refine Upd.drew ?_ | refine Upd.drewN ?_ _ | refine Upd.setCell ?_ ?_ _ | focus (left; simp; done) | focus (right; simp; done) | focus (right; simp; omega)))
  have hsA : g1 < wA.heap.size := (ho3.lt g1 rfl).2
  have ho4 : wB.ownsRow w.heap.size 102 3 (.slice (some ⟨g1, 0, none⟩) (A.cs.set x ⟨ci, ck, cs⟩).length cap1) (A.cs.set x ⟨ci, ck, cs⟩).length (clsV (A.cs.set x ⟨ci, ck, cs⟩)) := by
    rw [List.length_set, hn]
    exact owns_upd ho3 hAB (fun k hk => by cases hk; simp; omega)
  exact ⟨RefM.own h hwB hF ho4 (by rw [List.length_set, hn]; omega) (Nat.lt_of_lt_of_le hsA hAB.size), hwB⟩
set_option maxHeartbeats 2000000 in
theorem rwith_any (h : RefAt w F v A) (ok : A.Ok) (hF : ∀ x, x ∈ F → x < w.heap.size) (x : Nat) (hx : x < A.cs.length) (c : Cl) :
    Calls Try.prog 68 #[v, .int .i64 (x : Int), .agg #[.int .i64 c.i, .int .i64 c.k, .int .u64 c.s]] w fun e w' => ∃ gh oh ch gc oc cc, e = .returned (refV gh oh ch gc oc cc (withN A x c)) ∧ RefM w' F gh oh ch gc oc cc (withN A x c) ∧ Upd [] w w' := by
  obtain ⟨gh, oh, ch, gc, oc, cc, rfl, h⟩ := h
  have h1 := h.hcap
  have h2 := h.ccap
  have h3 := ok.h1
  have h4 := ok.c1
  have H := Lib.hid h
  have e : withN A x c = ⟨A.hs, A.cs.set x c⟩ := rfl
  unfold refV
  rw [e]
  have hset := clsV_set A.cs x c
  have HS := Lib.hid hset
  have hcl := Lib.hid (clsV_len A.cs)
  have hol := Lib.hid (clsV_one A.cs)
  have HF := Lib.hid hF
  have HZ : Hid (∀ j, j < A.cs.length * 3 → ([] ++ clsV A.cs)[j]? = some (clCell (fun x => A.cs.getD x Cl.z) j)) := fun j hj => by rw [List.nil_append]; exact clsV_get hj
  obtain ⟨ci, ck, cs⟩ := c
  simp only [List.length_set]
  clear h ok e hset hF
  generalize hn : A.cs.length = n at *
  have HN := Lib.hid hn
  clear hn
  generalize A.hs.length = m at *
  have hlc := H.out.lt
  go_enter Try.func68, Try.ntmps68
  go_wp2_with (at_builtin; refine wpList_append_src rfl _ _ 53 rfl w.heap.size 102 (.agg #[.int .i64 0, .int .i64 0, .int .u64 0]) 3 24 Try.underlying53 refCellInfo rfl (by decide) _ 0 0 [] rfl (own_lit_at _ _ (by simp) [] 102 w.heap.size 3 0 rfl (by simp; omega) (by unfold maxLen; omega)) gc oc n cc (clsV A.cs) rfl hcl.out ((H.out.upd0 (by (repeat (first | assumption | exact Upd.refl _ _ | refine Upd.alloc ?_ _ | refine Upd.drew ?_ | refine Upd.drewN ?_ _ | refine Upd.setCell ?_ ?_ _ | focus (left; simp; done) | focus (right; simp; done) | focus (right; simp; omega))))).news) hol.out (by unfold maxLen; omega) (by omega) (by simp; omega) ?_; intro g1 cap1 w1 ho1 hu1 hg1 hc1 hc2 hg2; (have g3 : w.heap.size + 3 ≤ g1 := by (rcases hg1 with h | h; (omega); (simp at h; omega))); (have n1 : g1 ≠ w.heap.size := by omega); (have n2 : g1 ≠ w.heap.size + 2 := by omega); (have n3 : ¬ w.heap.size = g1 := by omega); (have n4 : ¬ w.heap.size + 2 = g1 := by omega); clear hg1; (have q0 : w1.cell? ⟨w.heap.size + 1, 0, none⟩ = some (.int .i64 ci) := hu1.kept (by go_simp) (by first | (simp; done) | (simp; omega))); (have q1 : w1.cell? ⟨w.heap.size + 1, 1, none⟩ = some (.int .i64 ck) := hu1.kept (by go_simp) (by first | (simp; done) | (simp; omega))); (have q2 : w1.cell? ⟨w.heap.size + 1, 2, none⟩ = some (.int .u64 cs) := hu1.kept (by go_simp) (by first | (simp; done) | (simp; omega))); (have q3 : w1.cell? ⟨w.heap.size, 0, none⟩ = some (.slice (some ⟨gh, oh, none⟩) m ch) := hu1.kept (by go_simp) (by first | (simp; done) | (simp; omega))); (have q4 : w1.cell? ⟨w.heap.size + 2, 0, none⟩ = some (.slice none 0 0) := hu1.kept (by go_simp) (by first | (simp; done) | (simp; omega))); (have q5 : w1.cell? ⟨w.heap.size + 2, 1, none⟩ = some (.slice none 0 0) := hu1.kept (by go_simp) (by first | (simp; done) | (simp; omega))); (have q6 : w1.frozen? ⟨w.heap.size + 2, 0, none⟩ = false := hu1.keptF (v := .slice none 0 0) (by go_simp) (by first | (simp; done) | (simp; omega)) (by go_simp)); (have q7 : w1.frozen? ⟨w.heap.size + 2, 1, none⟩ = false := hu1.keptF (v := .slice none 0 0) (by go_simp) (by first | (simp; done) | (simp; omega)) (by go_simp)); (have z0 : w1.cell? ⟨g1, x * 3, none⟩ = some _ := (ho1.cellAt (x * 3) (by omega)).trans (HZ.out (x * 3) (by omega))); (have z1 : w1.cell? ⟨g1, x * 3 + 1, none⟩ = some _ := (ho1.cellAt (x * 3 + 1) (by omega)).trans (HZ.out (x * 3 + 1) (by omega))); (have z2 : w1.cell? ⟨g1, x * 3 + 2, none⟩ = some _ := (ho1.cellAt (x * 3 + 2) (by omega)).trans (HZ.out (x * 3 + 2) (by omega))); (have y0 := ho1.frozenAt (x * 3)); (have y1 := ho1.frozenAt (x * 3 + 1)); (have y2 := ho1.frozenAt (x * 3 + 2)))
  obtain ⟨hfin, hu⟩ := with_fin (x := x) (m := m) (ci := ci) (ck := ck) (cs := cs) H.out HF.out HN.out ho1 (by (repeat (first | assumption | exact Upd.refl _ _ | refine Upd.alloc ?_ _ | refine Upd.drew ?_ | refine Upd.drewN ?_ _ | refine Upd.setCell ?_ ?_ _ | focus (left; simp; done) | focus (right; simp; done) | focus (right; simp; omega)))) hu1 g3 hc1 hc2 hg2
  exact bodyPost_ret (v := .agg #[.slice (some ⟨gh, oh, none⟩) m ch, .slice (some ⟨g1, 0, none⟩) n cap1]) (by simp [results, Try.results68, go_sem, q4, q5, n2, n4]) rfl ⟨gh, oh, ch, g1, 0, cap1, rfl, hfin, hu⟩
end
end Go.Proofs.Ytechoojcgdjcdaa
