/-
  append of a whole slice, wherever it lies, in a region that draws its order; the document's nest (haycockref05): Make. Conditions: those of each lemma.
-/
import Derived.Test.YtighgbdijagolaaGr
import Derived.Deep.RegionHeldLaw
set_option linter.unusedVariables false
set_option linter.unusedSimpArgs false
namespace Go.Proofs.Ytighgbdijagolaa
open Go Go.RowKit

theorem wp_append_src {P : Program} {o : Oper} {a : Act} {w : World} {K : Act → World → Prop} {Q : Exit → Act → World → Prop} (s x : Operand) (t : TypeId)
    (ho : o.op = .call { callee := .builtin .append, args := #[s, x], argTypes := #[t, t] })
    (base : Nat) (e : TypeId) (z : Value) (size bytes : Nat) (ht : P.underlying t = some (.slice e)) (hinfo : (P.info? e).map (fun i => (i.zero, i.size, i.bytes)) = some (some z, size, bytes))
    (hzs : z.cells.size = size) (hsz : 0 < size) (g0 cap0 n : Nat) (xs : List Value) (hs : a.eval s = .slice (some ⟨g0, 0, none⟩) n cap0) (hown : w.ownsRow base e size (.slice (some ⟨g0, 0, none⟩) n cap0) n xs)
    (gs os m cs : Nat) (news : List Value) (hx : a.eval x = .slice (some ⟨gs, os, none⟩) m cs) (hlen : news.length = m * size) (hcell : ∀ j u, news[j]? = some u → w.cell? ⟨gs, os + j, none⟩ = some u) (h1 : ∀ u ∈ news, u.oneCell' = true)
    (hn : n + m ≤ maxLen) (hbytes : (n + m) * bytes ≤ 140737488355328) (hbase : base ≤ w.heap.size)
    (h : ∀ g' cap' w', w'.ownsRow base e size (.slice (some ⟨g', 0, none⟩) (n + m) cap') (n + m) (xs ++ news) → Upd [g0] w w' → (g' = g0 ∨ w.heap.size ≤ g') → n + m ≤ cap' → cap' ≤ 9223372036854775807 → g' < w'.heap.size → K (a.put o.dst (.slice (some ⟨g', 0, none⟩) (n + m) cap')) w') :
    Oper.wp P o a w K Q := by
  obtain ⟨i, hi, hz0, hz1, hz2⟩ := info_parts hinfo
  obtain ⟨v', w', hr, h2, h3, _, h5⟩ := run_append_own_at (P := P) w base t o.type e i z size bytes ht hi hz0 hz1 hz2 hzs hsz (.slice (some ⟨g0, 0, none⟩) n cap0) n xs hown ⟨gs, os, none⟩ m cs news hlen (fun j u hj => by rw [addr_addo]; exact hcell j u hj) h1 hn hbytes hbase
  unfold Oper.wp execOp
  simp only [ho, resolve, invoke, builtin, Sem.run_bind, Sem.run_pure, Result.andThen_ok, List.map_toArray, List.map_cons, List.map_nil, hs, hx, hr]
  have hb : ∃ g', v'.ownBlock = some g' ∧ (g' = g0 ∨ w.heap.size ≤ g') := by
    rcases h5 with h5 | h5
    · exact ⟨g0, h5, Or.inl rfl⟩
    · exact ⟨_, h5, Or.inr (Nat.le_refl _)⟩
  obtain ⟨g', hb1, hb2⟩ := hb
  obtain ⟨cap', rfl, hc1, hc2, hc3, hc4⟩ := own_some h2 hb1
  exact h g' cap' w' h2 ((Upd.refl _ _).grown h3 (fun k hk => Or.inl (by cases hk; simp))) hb2 hc1 hc2 hc4
theorem step_append_src {P : Program} {ops : Array Oper} {o : Oper} {a : Act} {w : World} {K : Act → World → Prop} {Q : Exit → Act → World → Prop} {E : Prop} (hgd : o.guard = none) (s x : Operand) (t : TypeId)
    (ho : o.op = .call { callee := .builtin .append, args := #[s, x], argTypes := #[t, t] })
    (base : Nat) (e : TypeId) (z : Value) (size bytes : Nat) (ht : P.underlying t = some (.slice e)) (hinfo : (P.info? e).map (fun i => (i.zero, i.size, i.bytes)) = some (some z, size, bytes))
    (hzs : z.cells.size = size) (hsz : 0 < size) (g0 cap0 n : Nat) (xs : List Value) (hs : a.eval s = .slice (some ⟨g0, 0, none⟩) n cap0) (hown : w.ownsRow base e size (.slice (some ⟨g0, 0, none⟩) n cap0) n xs)
    (gs os m cs : Nat) (news : List Value) (hx : a.eval x = .slice (some ⟨gs, os, none⟩) m cs) (hlen : news.length = m * size) (hcell : ∀ j u, news[j]? = some u → w.cell? ⟨gs, os + j, none⟩ = some u) (h1 : ∀ u ∈ news, u.oneCell' = true)
    (hn : n + m ≤ maxLen) (hbytes : (n + m) * bytes ≤ 140737488355328) (hbase : base ≤ w.heap.size)
    (h : ∀ g' cap' w', w'.ownsRow base e size (.slice (some ⟨g', 0, none⟩) (n + m) cap') (n + m) (xs ++ news) → Upd [g0] w w' → (g' = g0 ∨ w.heap.size ≤ g') → n + m ≤ cap' → cap' ≤ 9223372036854775807 → g' < w'.heap.size → K (a.put o.dst (.slice (some ⟨g', 0, none⟩) (n + m) cap')) w') :
    if Region.wanted o (yielded ops a.tmps) = true then Oper.wp P o a w K Q else E := by
  have hw : Region.wanted o (yielded ops a.tmps) = true := by simp [Region.wanted, hgd]
  rw [if_pos hw]
  exact wp_append_src s x t ho base e z size bytes ht hinfo hzs hsz g0 cap0 n xs hs hown gs os m cs news hx hlen hcell h1 hn hbytes hbase h
def boolsV (l : List Bool) : List Value := l.map Value.bool
theorem boolsV_one (l : List Bool) : ∀ u ∈ boolsV l, u.oneCell' = true := by
  intro u hu; unfold boolsV at hu; obtain ⟨x, _, rfl⟩ := List.mem_map.1 hu; rfl
theorem RefM.newsH {w : World} {F : List Nat} {gh oh ch gc oc cc : Nat} {A : NS} (h : RefM w F gh oh ch gc oc cc A) (j : Nat) (u : Value) (hj : (boolsV A.hs)[j]? = some u) : w.cell? ⟨gh, oh + j, none⟩ = some u := by
  unfold boolsV at hj
  rw [List.getElem?_map] at hj
  cases hq : A.hs[j]? with
  | none => rw [hq] at hj; cases hj
  | some b =>
    rw [hq] at hj
    simp at hj
    subst hj
    rw [h.h j (List.getElem?_eq_some_iff.1 hq).1]
    simp [List.getD_eq_getElem?_getD, hq]
/-- An empty slice of the call's own, wherever. -/
theorem own_empty {w : World} {g : Nat} {e : TypeId} {base size : Nat} (h : w.heap[g]? = some (.cells #[] e (0, 0))) (hb : base ≤ g) : w.ownsRow base e size (.slice (some ⟨g, 0, none⟩) 0 0) 0 [] :=
  ⟨by simp, Or.inr ⟨g, 0, #[], rfl, hb, h, Nat.le_refl _, by unfold maxLen; omega, by simp, by simp⟩⟩
theorem heap_new {w : World} {g : Nat} {o : Obj} (hg : g = w.heap.size) : (w.alloc o).heap[g]? = some o := by
  subst hg
  show (w.heap.push _)[w.heap.size]? = _; simp
theorem heap_old {w : World} {g : Nat} {o o' : Obj} (h : w.heap[g]? = some o) : (w.alloc o').heap[g]? = some o := by
  have hlt := (Array.getElem?_eq_some_iff.1 h).1
  rw [Below.heap_alloc _ _ _ hlt]; exact h
theorem one_news {w : World} {g : Nat} {u0 : Value} (h : w.cell? ⟨g, 0, none⟩ = some u0) (j : Nat) (u : Value) (hj : [u0][j]? = some u) : w.cell? ⟨g, 0 + j, none⟩ = some u := by
  match j, hj with
  | 0, hj => simp at hj; subst hj; exact h
section
variable {w : World} {F : List Nat} {v : Value} {A : NS}
theorem RefM.ownH {w W : World} {F : List Nat} {gh oh ch gc oc cc : Nat} {A : NS} (h : RefM w F gh oh ch gc oc cc A) (hu : Upd [] w W) (hF : ∀ x, x ∈ F → x < w.heap.size) {g cap : Nat} {hs : List Bool}
    (ho : W.ownsRow w.heap.size 4 1 (.slice (some ⟨g, 0, none⟩) hs.length cap) hs.length (boolsV hs)) (hc : hs.length ≤ cap ∧ cap ≤ 9223372036854775807) (hg : g < W.heap.size) : RefM W F g 0 cap gc oc cc ⟨hs, A.cs⟩ := by
  have h' := h.upd0 hu
  have hgl := (ho.lt g rfl).1
  refine ⟨hc, h'.ccap, ⟨hg, h'.lt.2⟩, ⟨fun m => by have := hF _ m; omega, h'.far.2⟩, fun j hj => ?_, h'.c0, h'.c1, h'.c2⟩
  simp only at hj
  rw [Nat.zero_add, ho.cellAt j (by omega)]
  unfold boolsV
  simp [List.getD_eq_getElem?_getD, hj]
theorem make_fin {gh oh ch gc oc cc m g3 cap3 gc' oc' n' cc' : Nat} {w9 : World} (h : RefM w F gh oh ch gc oc cc A) (hF : ∀ x, x ∈ F → x < w.heap.size) (hm : A.hs.length = m)
    (ho : w9.ownsRow w.heap.size 4 1 (.slice (some ⟨g3, 0, none⟩) (m + 1) cap3) (m + 1) (boolsV A.hs ++ [.bool true])) (hu : Upd [] w w9) (g3b : w.heap.size + 2 ≤ g3) (hc : m + 1 ≤ cap3) (hd : cap3 ≤ 9223372036854775807) (hl : g3 < w9.heap.size) :
    RefM ((w9.setCell ⟨w.heap.size + 1, 0, none⟩ (.slice (some ⟨g3, 0, none⟩) (m + 1) cap3)).setCell ⟨w.heap.size + 1, 1, none⟩ (.slice (some ⟨gc', oc', none⟩) n' cc')) F g3 0 cap3 gc oc cc ⟨A.hs ++ [true], A.cs⟩ ∧
    Upd [] w ((w9.setCell ⟨w.heap.size + 1, 0, none⟩ (.slice (some ⟨g3, 0, none⟩) (m + 1) cap3)).setCell ⟨w.heap.size + 1, 1, none⟩ (.slice (some ⟨gc', oc', none⟩) n' cc')) := by
  have hB : Upd [w.heap.size + 1] w9 ((w9.setCell ⟨w.heap.size + 1, 0, none⟩ (.slice (some ⟨g3, 0, none⟩) (m + 1) cap3)).setCell ⟨w.heap.size + 1, 1, none⟩ (.slice (some ⟨gc', oc', none⟩) n' cc')) := by (repeat (first | assumption | exact Upd.refl _ _ | refine Upd.alloc ?_ _ | refine Upd.drew ?_ | refine Upd.drewN ?_ _ | refine Upd.setCell ?_ ?_ _ | focus (left; simp; done) | focus (right; simp; done) | focus (right; simp; omega)))
  have hW : Upd [] w ((w9.setCell ⟨w.heap.size + 1, 0, none⟩ (.slice (some ⟨g3, 0, none⟩) (m + 1) cap3)).setCell ⟨w.heap.size + 1, 1, none⟩ (.slice (some ⟨gc', oc', none⟩) n' cc')) := hu.joined hB (fun y hy => Or.inr (by simp at hy; omega))
  generalize ((w9.setCell ⟨w.heap.size + 1, 0, none⟩ (.slice (some ⟨g3, 0, none⟩) (m + 1) cap3)).setCell ⟨w.heap.size + 1, 1, none⟩ (.slice (some ⟨gc', oc', none⟩) n' cc')) = W at *
  have hlen : (A.hs ++ [true]).length = m + 1 := by simp [hm]
  have ho2 : W.ownsRow w.heap.size 4 1 (.slice (some ⟨g3, 0, none⟩) (A.hs ++ [true]).length cap3) (A.hs ++ [true]).length (boolsV (A.hs ++ [true])) := by
    rw [hlen]
    have e : boolsV (A.hs ++ [true]) = boolsV A.hs ++ [.bool true] := by unfold boolsV; simp
    rw [e]
    exact owns_upd ho hB (fun k hk => by cases hk; simp; omega)
  exact ⟨RefM.ownH h hW hF ho2 (by rw [hlen]; omega) (Nat.lt_of_lt_of_le hl hB.size), hW⟩
set_option maxHeartbeats 4000000 in
theorem rmake_any (h : RefAt w F v A) (ok : A.Ok) (hF : ∀ x, x ∈ F → x < w.heap.size) :
    Calls Try.prog 50 #[v] w fun e w' => ∃ v', e = .returned (.tuple #[v', .int .i64 (makeV A)]) ∧ RefAt w' F v' (makeN A) ∧ Upd [] w w' := by
  obtain ⟨gh, oh, ch, gc, oc, cc, rfl, h⟩ := h
  have h1 := h.hcap
  have h2 := h.ccap
  have h3 := ok.h1
  have h4 := ok.c1
  have hlc := h.lt
  have H := Lib.hid h
  have HF := Lib.hid hF
  unfold makeV makeN
  by_cases hfull : 65536 < A.hs.length
  · rw [if_pos (by omega), if_pos hfull]
    have FI : Hid (∀ W, Upd [] w W → RefAt W F (refV gh oh ch gc oc cc A) A) := fun W hW => ⟨gh, oh, ch, gc, oc, cc, rfl, H.out.upd0 hW⟩
    unfold refV at *
    have hf2 : (65536 : Int) < (A.hs.length : Int) := by omega
    clear h ok hF hfull
    generalize A.cs.length = n at *
    generalize A.hs.length = m at *
    go_enter Try.func50, Try.ntmps50
    go_wp2
    exact bodyPost_ret (v := .tuple #[.agg #[.slice (some ⟨gh, oh, none⟩) m ch, .slice (some ⟨gc, oc, none⟩) n cc], .int .i64 0]) (by simp [results, Try.results50, go_sem]) rfl
      ⟨_, rfl, FI.out _ (by (repeat (first | assumption | exact Upd.refl _ _ | refine Upd.alloc ?_ _ | refine Upd.drew ?_ | refine Upd.drewN ?_ _ | refine Upd.setCell ?_ ?_ _ | focus (left; simp; done) | focus (right; simp; done) | focus (right; simp; omega)))), by (repeat (first | assumption | exact Upd.refl _ _ | refine Upd.alloc ?_ _ | refine Upd.drew ?_ | refine Upd.drewN ?_ _ | refine Upd.setCell ?_ ?_ _ | focus (left; simp; done) | focus (right; simp; done) | focus (right; simp; omega)))⟩
  · rw [if_neg (by omega), if_neg hfull]
    unfold refV
    have hf2 : ¬ (65536 : Int) < (A.hs.length : Int) := by omega
    have hbl : (boolsV A.hs).length = A.hs.length * 1 := by unfold boolsV; simp
    have HBL := Lib.hid hbl
    clear h ok hF hfull hbl
    generalize hn : A.cs.length = n at *
    generalize hm : A.hs.length = m at *
    have HN := Lib.hid (And.intro hn hm)
    clear hn hm
    obtain ⟨BB, hBB⟩ : ∃ BB, BB = ((w.alloc (.cells #[.slice (some ⟨gh, oh, none⟩) m ch, .slice (some ⟨gc, oc, none⟩) n cc] 53)).alloc (.cells #[.slice none 0 0, .slice none 0 0] 53)) := ⟨_, rfl⟩
    have HBB := Lib.hid hBB
    have h0B : Upd [] w BB := by rw [hBB]; (repeat (first | assumption | exact Upd.refl _ _ | refine Upd.alloc ?_ _ | refine Upd.drew ?_ | refine Upd.drewN ?_ _ | refine Upd.setCell ?_ ?_ _ | focus (left; simp; done) | focus (right; simp; done) | focus (right; simp; omega)))
    have hsB : BB.heap.size = w.heap.size + 2 := by rw [hBB]; simp
    have r0 : ∀ W, Upd [] BB W → W.cell? ⟨w.heap.size, 0, none⟩ = some (.slice (some ⟨gh, oh, none⟩) m ch) := fun W hW => hW.was (by rw [hBB]; go_simp)
    have r1 : ∀ W, Upd [] BB W → W.cell? ⟨w.heap.size, 1, none⟩ = some (.slice (some ⟨gc, oc, none⟩) n cc) := fun W hW => hW.was (by rw [hBB]; go_simp)
    have R2 : Hid (∀ W, Upd [] BB W → W.cell? ⟨w.heap.size + 1, 0, none⟩ = some (.slice none 0 0) ∧ W.cell? ⟨w.heap.size + 1, 1, none⟩ = some (.slice none 0 0) ∧ W.frozen? ⟨w.heap.size + 1, 0, none⟩ = false ∧ W.frozen? ⟨w.heap.size + 1, 1, none⟩ = false) := fun W hW =>
      ⟨hW.was (by rw [hBB]; go_simp), hW.was (by rw [hBB]; go_simp), hW.keptF (v := .slice none 0 0) (by rw [hBB]; go_simp) (by simp) (by rw [hBB]; go_simp), hW.keptF (v := .slice none 0 0) (by rw [hBB]; go_simp) (by simp) (by rw [hBB]; go_simp)⟩
    have HSB := Lib.hid hsB
    clear hBB hsB
    go_enter Try.func50, Try.ntmps50
    go_wp2
    rw [← HBB.out]
    have z0 : ∀ W, Upd [w.heap.size + 1] BB W → W.cell? ⟨w.heap.size, 0, none⟩ = some (.slice (some ⟨gh, oh, none⟩) m ch) := fun W hW => hW.kept (r0 BB (Upd.refl _ _)) (by first | (simp; done) | (simp; omega))
    have z1 : ∀ W, Upd [w.heap.size + 1] BB W → W.cell? ⟨w.heap.size, 1, none⟩ = some (.slice (some ⟨gc, oc, none⟩) n cc) := fun W hW => hW.kept (r1 BB (Upd.refl _ _)) (by first | (simp; done) | (simp; omega))
    have hT : ∀ W, Upd [w.heap.size + 1] BB W → Upd [] w W := fun W hW => h0B.joined hW (fun y hy => Or.inr (by simp at hy; omega))
    have HT := Lib.hid hT
    have hS0 : Upd [w.heap.size + 1] BB BB := Upd.refl _ _
    have hszB : w.heap.size + 2 ≤ BB.heap.size := by have := HSB.out; omega
    clear r0 r1 hT
    go_region_held_law (fun W => Upd [w.heap.size + 1] BB W) (repeat (first | assumption | exact Upd.refl _ _ | refine Upd.drew ?_ | refine Upd.alloc ?_ _ | refine Upd.setCell ?_ ?_ _ | focus (left; simp; done) | focus (right; simp; done) | focus (right; simp; omega) | (apply Upd.trans; rotate_left; assumption)))
      (first
        | (refine step_append_src (o := ⟨some 12, _, _, _, _, _⟩) (by rfl) (.tmp 9) (.tmp 11) 45 (by rfl) w.heap.size 4 (.bool false) 1 1 Try.underlying45 boolInfo rfl (by decide) _ 0 0 [] (by rfl) (own_empty (by first | exact heap_new (by simp) | exact heap_old (heap_new (by simp))) (by first | omega | (simp; omega))) gh oh m ch (boolsV A.hs) (by rfl) HBL.out ((H.out.upd0 (HT.out _ (by (repeat (first | assumption | exact Upd.refl _ _ | refine Upd.drew ?_ | refine Upd.alloc ?_ _ | refine Upd.setCell ?_ ?_ _ | focus (left; simp; done) | focus (right; simp; done) | focus (right; simp; omega) | (apply Upd.trans; rotate_left; assumption)))))).newsH) (boolsV_one _) (by unfold maxLen; omega) (by omega) (by first | omega | (simp; omega)) ?_
           intro g2 cap2 w8 ho2 hu2 hg2 hc2 hd2 hl2
           have hS2 : Upd [w.heap.size + 1] BB w8 := Upd.joined (S := [w.heap.size + 1]) (by (repeat (first | assumption | exact Upd.refl _ _ | refine Upd.drew ?_ | refine Upd.alloc ?_ _ | refine Upd.setCell ?_ ?_ _ | focus (left; simp; done) | focus (right; simp; done) | focus (right; simp; omega) | (apply Upd.trans; rotate_left; assumption)))) hu2 (fun y hy => Or.inr (by simp at hy; omega))
           have hS2' : Upd [] BB w8 := Upd.joined (S := []) (by (repeat (first | assumption | exact Upd.refl _ _ | refine Upd.alloc ?_ _ | refine Upd.drew ?_ | refine Upd.drewN ?_ _ | refine Upd.setCell ?_ ?_ _ | focus (left; simp; done) | focus (right; simp; done) | focus (right; simp; omega)))) hu2 (fun y hy => Or.inr (by simp at hy; omega))
           rw [Nat.zero_add, List.nil_append] at ho2
           have g2b : BB.heap.size ≤ g2 := by (rcases hg2 with h | h; (first | omega | (simp at h; omega)); (first | omega | (simp at h; omega)))
           simp only [Act.put, Nat.zero_add, List.setIfInBounds_toArray, List.set_cons_zero, List.set_cons_succ])
        | (refine step_append_src (o := ⟨some 14, _, _, _, _, _⟩) (by rfl) (.tmp 12) (.tmp 13) 45 (by rfl) w.heap.size 4 (.bool false) 1 1 Try.underlying45 boolInfo rfl (by decide) g2 cap2 m (boolsV A.hs) (by rfl) (owns_upd ho2 (S := []) (by (repeat (first | assumption | exact Upd.refl _ _ | refine Upd.alloc ?_ _ | refine Upd.drew ?_ | refine Upd.drewN ?_ _ | refine Upd.setCell ?_ ?_ _ | focus (left; simp; done) | focus (right; simp; done) | focus (right; simp; omega)))) (by simp)) _ 0 1 1 [.bool true] (by rfl) rfl (one_news (by first | (go_simp; done) | exact hu2.kept (by go_simp) (by first | (simp; done) | (simp; omega)))) (by simp [Value.oneCell']) (by unfold maxLen; omega) (by omega) (by have := hS2.size; first | omega | (simp; omega)) ?_
           intro g3 cap3 w9 ho3 hu3 hg3 hc3 hd3 hl3
           have hw9' : Upd [] BB w9 := Upd.joined (S := []) (by (repeat (first | assumption | exact Upd.refl _ _ | refine Upd.alloc ?_ _ | refine Upd.drew ?_ | refine Upd.drewN ?_ _ | refine Upd.setCell ?_ ?_ _ | focus (left; simp; done) | focus (right; simp; done) | focus (right; simp; omega)))) hu3 (fun y hy => Or.inr (by simp at hy; omega))
           obtain ⟨p0, p1, p2, p3⟩ := R2.out w9 hw9'
           have hw9 : Upd [w.heap.size + 1] BB w9 := Upd.joined (S := [w.heap.size + 1]) (by (repeat (first | assumption | exact Upd.refl _ _ | refine Upd.drew ?_ | refine Upd.alloc ?_ _ | refine Upd.setCell ?_ ?_ _ | focus (left; simp; done) | focus (right; simp; done) | focus (right; simp; omega) | (apply Upd.trans; rotate_left; assumption)))) hu3 (fun y hy => Or.inr (by simp at hy; omega))
           simp only [Act.put, List.setIfInBounds_toArray, List.set_cons_zero, List.set_cons_succ]))
    all_goals
      go_wp2
      obtain ⟨hfin, hu⟩ := make_fin (gc' := gc) (oc' := oc) (n' := n) (cc' := cc) H.out HF.out HN.out.2 ho3 (h0B.trans hw9') (by first | omega | (rcases hg3 with h | h; (omega); (first | omega | (simp at h; omega)))) hc3 hd3 hl3
      exact bodyPost_ret (v := .tuple #[.agg #[.slice (some ⟨g3, 0, none⟩) (m + 1) cap3, .slice (some ⟨gc, oc, none⟩) n cc], .int .i64 (m : Int)]) (by simp [results, Try.results50, go_sem, p0, p1]) rfl
        ⟨_, rfl, ⟨g3, 0, cap3, gc, oc, cc, by unfold refV; simp only [List.length_append, HN.out.1, HN.out.2, List.length_cons, List.length_nil], hfin⟩, hu⟩
end
end Go.Proofs.Ytighgbdijagolaa

set_option linter.unusedVariables false
set_option linter.unusedSimpArgs false
namespace Go.Proofs.Ytighgbdijagolaa
open Go Go.RowKit

def jc (a b : Int) (c : Cl) : Cl := if c.i = b then ⟨a, c.k, c.s⟩ else c
def jL (cs : List Cl) (a b : Int) (j : Nat) : List Cl := (cs.take j).map (jc a b) ++ cs.drop j
theorem jL_len (cs : List Cl) (a b : Int) (j : Nat) : (jL cs a b j).length = cs.length := by unfold jL; simp; omega
theorem jL_zero (cs : List Cl) (a b : Int) : jL cs a b 0 = cs := by unfold jL; simp
theorem jL_full (cs : List Cl) (a b : Int) : jL cs a b cs.length = cs.map (jc a b) := by unfold jL; simp
theorem jL_get (cs : List Cl) (a b : Int) (j : Nat) (hj : j < cs.length) : (jL cs a b j).getD j Cl.z = cs.getD j Cl.z := by
  unfold jL
  simp only [List.getD_eq_getElem?_getD]
  rw [List.getElem?_append_right (by simp; omega)]
  simp [Nat.min_eq_left (Nat.le_of_lt hj)]
theorem jL_succ (cs : List Cl) (a b : Int) (j : Nat) (hj : j < cs.length) : jL cs a b (j + 1) = (jL cs a b j).set j (jc a b (cs.getD j Cl.z)) := by
  apply List.ext_getElem?
  intro i
  unfold jL
  rw [List.getElem?_set]
  have e1 : cs.getD j Cl.z = cs[j] := by simp [List.getD_eq_getElem?_getD, hj]
  by_cases h : j = i
  · subst h
    rw [if_pos rfl, if_pos (by simp; omega), List.getElem?_append_left (by simp; omega), e1]
    simp [hj]
  · rw [if_neg h]
    rcases Nat.lt_or_ge i j with h1 | h1
    · rw [List.getElem?_append_left (by simp; omega), List.getElem?_append_left (by simp; omega)]
      simp only [List.getElem?_map, List.getElem?_take]
      rw [if_pos (by omega), if_pos (by omega)]
    · rw [List.getElem?_append_right (by simp; omega), List.getElem?_append_right (by simp; omega)]
      simp only [List.getElem?_drop, List.length_map, List.length_take]
      congr 1; omega
theorem jL_same (cs : List Cl) (a b : Int) (j : Nat) (hj : j < cs.length) (h : (cs.getD j Cl.z).i ≠ b) : jL cs a b (j + 1) = jL cs a b j := by
  rw [jL_succ cs a b j hj]
  have e : jc a b (cs.getD j Cl.z) = (jL cs a b j).getD j Cl.z := by rw [jL_get cs a b j hj]; unfold jc; rw [if_neg h]
  rw [e]
  apply List.ext_getElem?
  intro i
  rw [List.getElem?_set]
  by_cases h : j = i
  · subst h
    have hl : j < (jL cs a b j).length := by rw [jL_len]; exact hj
    rw [if_pos rfl, if_pos hl]
    simp [List.getD_eq_getElem?_getD, hl]
  · rw [if_neg h]
theorem own_mono2 {w : World} {base base' size n : Nat} {e : TypeId} {v : Value} {xs : List Value} (h : w.ownsRow base e size v n xs) (hb : base' ≤ base) : w.ownsRow base' e size v n xs := owns_mono h hb
section
variable {w : World} {F : List Nat} {v : Value} {A : NS}
theorem join_fin {gh oh ch gc oc cc m n g1 cap1 g2 cap2 : Nat} {w9 : World} {hs : List Bool} {cs : List Cl} (h : RefM w F gh oh ch gc oc cc A) (hF : ∀ x, x ∈ F → x < w.heap.size) (hm : hs.length = m) (hn : cs.length = n)
    (ho1 : w9.ownsRow (w.heap.size + 2) 4 1 (.slice (some ⟨g1, 0, none⟩) m cap1) m (boolsV hs)) (ho2 : w9.ownsRow (w.heap.size + 2) 81 3 (.slice (some ⟨g2, 0, none⟩) n cap2) n (clsV cs)) (hu : Upd [] w w9)
    (hc1 : m ≤ cap1 ∧ cap1 ≤ 9223372036854775807) (hc2 : n ≤ cap2 ∧ cap2 ≤ 9223372036854775807) :
    RefM ((w9.setCell ⟨w.heap.size + 1, 0, none⟩ (.slice (some ⟨g1, 0, none⟩) m cap1)).setCell ⟨w.heap.size + 1, 1, none⟩ (.slice (some ⟨g2, 0, none⟩) n cap2)) F g1 0 cap1 g2 0 cap2 ⟨hs, cs⟩ ∧
    Upd [] w ((w9.setCell ⟨w.heap.size + 1, 0, none⟩ (.slice (some ⟨g1, 0, none⟩) m cap1)).setCell ⟨w.heap.size + 1, 1, none⟩ (.slice (some ⟨g2, 0, none⟩) n cap2)) := by
  have hB : Upd [w.heap.size + 1] w9 ((w9.setCell ⟨w.heap.size + 1, 0, none⟩ (.slice (some ⟨g1, 0, none⟩) m cap1)).setCell ⟨w.heap.size + 1, 1, none⟩ (.slice (some ⟨g2, 0, none⟩) n cap2)) := by (repeat (first | assumption | exact Upd.refl _ _ | refine Upd.alloc ?_ _ | refine Upd.drew ?_ | refine Upd.drewN ?_ _ | refine Upd.setCell ?_ ?_ _ | focus (left; simp; done) | focus (right; simp; done) | focus (right; simp; omega)))
  have hW : Upd [] w ((w9.setCell ⟨w.heap.size + 1, 0, none⟩ (.slice (some ⟨g1, 0, none⟩) m cap1)).setCell ⟨w.heap.size + 1, 1, none⟩ (.slice (some ⟨g2, 0, none⟩) n cap2)) := hu.joined hB (fun y hy => Or.inr (by simp at hy; omega))
  generalize ((w9.setCell ⟨w.heap.size + 1, 0, none⟩ (.slice (some ⟨g1, 0, none⟩) m cap1)).setCell ⟨w.heap.size + 1, 1, none⟩ (.slice (some ⟨g2, 0, none⟩) n cap2)) = W at *
  have l1 := ho1.lt g1 rfl
  have l2 := ho2.lt g2 rfl
  have ho3 : W.ownsRow w.heap.size 4 1 (.slice (some ⟨g1, 0, none⟩) hs.length cap1) hs.length (boolsV hs) := by
    rw [hm]; exact owns_mono (owns_upd ho1 hB (fun k hk => by cases hk; simp; omega)) (by omega)
  have ho4 : W.ownsRow w.heap.size 81 3 (.slice (some ⟨g2, 0, none⟩) cs.length cap2) cs.length (clsV cs) := by
    rw [hn]; exact owns_mono (owns_upd ho2 hB (fun k hk => by cases hk; simp; omega)) (by omega)
  have hsz := hB.size
  have r1 := RefM.own h hW hF ho4 (by rw [hn]; exact hc2) (by omega)
  have r2 := RefM.ownH h hW hF ho3 (by rw [hm]; exact hc1) (by omega)
  exact ⟨⟨by show hs.length ≤ _ ∧ _; rw [hm]; exact hc1, r1.ccap, ⟨by omega, by omega⟩, ⟨r2.far.1, r1.far.2⟩, r2.h, r1.c0, r1.c1, r1.c2⟩, hW⟩
set_option maxHeartbeats 8000000 in
theorem rjoin_any (h : RefAt w F v A) (ok : A.Ok) (hF : ∀ x, x ∈ F → x < w.heap.size) (a b : Int) :
    Calls Try.prog 55 #[v, .int .i64 a, .int .i64 b] w fun e w' => ∃ v', e = .returned (.tuple #[v', .bool (joinB A a b)]) ∧ RefAt w' F v' (joinN A a b) ∧ Upd [] w w' := by
  obtain ⟨gh, oh, ch, gc, oc, cc, rfl, h⟩ := h
  have k1 := fun W (hW : Upd [] w W) => rhasN_any ⟨gh, oh, ch, gc, oc, cc, rfl, h.upd0 hW⟩ ok a
  have k2 := fun W (hW : Upd [] w W) => rhasN_any ⟨gh, oh, ch, gc, oc, cc, rfl, h.upd0 hW⟩ ok b
  have h1 := h.hcap
  have h2 := h.ccap
  have h3 := ok.h1
  have h4 := ok.c1
  have hlc := h.lt
  have H := Lib.hid h
  have HF := Lib.hid hF
  have FI : Hid (joinB A a b = false → ∀ W, Upd [] w W → RefAt W F (refV gh oh ch gc oc cc A) (joinN A a b)) := fun hp W hW => by
    unfold joinN; rw [if_neg (by rw [hp]; simp)]; exact ⟨gh, oh, ch, gc, oc, cc, rfl, H.out.upd0 hW⟩
  unfold refV at *
  have hbl : (boolsV A.hs).length = A.hs.length * 1 := by unfold boolsV; simp
  have HBL := Lib.hid hbl
  have HCL := Lib.hid (clsV_len A.cs)
  generalize hn : A.cs.length = n at *
  generalize hm : A.hs.length = m at *
  have HN := Lib.hid (And.intro hn hm)
  have R : Hid (∀ W, Upd [] ((w.alloc (.cells #[.slice (some ⟨gh, oh, none⟩) m ch, .slice (some ⟨gc, oc, none⟩) n cc] 53)).alloc (.cells #[.slice none 0 0, .slice none 0 0] 53)) W →
      W.cell? ⟨w.heap.size, 0, none⟩ = some (.slice (some ⟨gh, oh, none⟩) m ch) ∧ W.cell? ⟨w.heap.size, 1, none⟩ = some (.slice (some ⟨gc, oc, none⟩) n cc) ∧
      W.cell? ⟨w.heap.size + 1, 0, none⟩ = some (.slice none 0 0) ∧ W.cell? ⟨w.heap.size + 1, 1, none⟩ = some (.slice none 0 0) ∧ W.frozen? ⟨w.heap.size + 1, 0, none⟩ = false ∧ W.frozen? ⟨w.heap.size + 1, 1, none⟩ = false) := fun W h =>
    ⟨h.was (by go_simp), h.was (by go_simp), h.was (by go_simp), h.was (by go_simp), h.keptF (v := .slice none 0 0) (by go_simp) (by simp) (by go_simp), h.keptF (v := .slice none 0 0) (by go_simp) (by simp) (by go_simp)⟩
  by_cases hp : joinB A a b = true
  · have hq := (joinB_iff _ _ _).1 hp
    have hqa := (hasN_iff _ _).1 hq.1
    have hqb := (hasN_iff _ _).1 hq.2.1
    obtain ⟨y, rfl⟩ : ∃ y : Nat, b = y := ⟨b.toNat, by omega⟩
    have hym : y < m := by omega
    have hab : (a == (y : Int)) = false := by simpa using hq.2.2
    have e : joinN A a (y : Int) = ⟨A.hs.set y false, A.cs.map (jc a y)⟩ := by unfold joinN jc; rw [if_pos hp]; simp
    rw [hp, e]
    rw [hq.1] at k1
    rw [hq.2.1] at k2
    clear h ok FI hp hq hqa hqb e hn hm hF hbl
    go_enter Try.func55, Try.ntmps55
    go_wp2_with fail
    refine (k1 _ (by (repeat (first | assumption | exact Upd.refl _ _ | refine Upd.alloc ?_ _ | refine Upd.drew ?_ | refine Upd.drewN ?_ _ | refine Upd.setCell ?_ ?_ _ | focus (left; simp; done) | focus (right; simp; done) | focus (right; simp; omega))))).mono ?_
    rintro e w1 ⟨rfl, hu1⟩
    have v1 : Upd [] w w1 := Upd.trans (by (repeat (first | assumption | exact Upd.refl _ _ | refine Upd.alloc ?_ _ | refine Upd.drew ?_ | refine Upd.drewN ?_ _ | refine Upd.setCell ?_ ?_ _ | focus (left; simp; done) | focus (right; simp; done) | focus (right; simp; omega)))) hu1
    obtain ⟨q0, q1, _⟩ := R.out w1 hu1
    go_wp2_with fail
    refine (k2 _ v1).mono ?_
    rintro e w2 ⟨rfl, hu2⟩
    have v2 : Upd [] w w2 := Upd.trans v1 hu2
    obtain ⟨p0, p1, p2, p3, p4, p5⟩ := R.out w2 (hu1.trans hu2)
    have l2 : w.heap.size + 1 < w2.heap.size := World.block_lt_of_cell? w2 _ p2
    have l0 : w.heap.size < w2.heap.size := by omega
    clear q0 q1 k1 k2
    have v2s := v2.size
    have N2 := Lib.hid ((H.out.upd0 v2).newsH)
    have C2 := Lib.hid ((H.out.upd0 v2).news)
    have hg2 : gh < w2.heap.size ∧ gc < w2.heap.size := by omega
    go_wp2_with (first
      | (at_builtin; refine wpList_append_src (o := ⟨some 31, _, _, _, _, _⟩) (by rfl) _ _ 45 (by rfl) (w.heap.size + 2) 4 (.bool false) 1 1 Try.underlying45 boolInfo rfl (by decide) _ 0 0 [] (by rfl) (own_empty (heap_new (by simp)) (by first | omega | (simp; omega))) gh oh m ch (boolsV A.hs) (by rfl) HBL.out (fun j u hj => Upd.was (by (repeat (first | assumption | exact Upd.refl _ _ | refine Upd.alloc ?_ _ | refine Upd.drew ?_ | refine Upd.drewN ?_ _ | refine Upd.setCell ?_ ?_ _ | focus (left; simp; done) | focus (right; simp; done) | focus (right; simp; omega)))) (N2.out j u hj)) (boolsV_one _) (by unfold maxLen; omega) (by omega) (by first | omega | (simp; omega)) ?_; intro g3 cap3 w3 ho3 hu3 hg3 hc3 hd3 hl3; rw [Nat.zero_add, List.nil_append] at ho3; (have g3b : w2.heap.size ≤ g3 := by (rcases hg3 with h | h; (first | omega | (simp at h; omega)); (first | omega | (simp at h; omega)))); (have hu3' : Upd [] w2 w3 := Upd.joined (S := []) (by (repeat (first | assumption | exact Upd.refl _ _ | refine Upd.alloc ?_ _ | refine Upd.drew ?_ | refine Upd.drewN ?_ _ | refine Upd.setCell ?_ ?_ _ | focus (left; simp; done) | focus (right; simp; done) | focus (right; simp; omega)))) hu3 (fun z hz => Or.inr (by simp at hz; omega))); (have z0 : ∃ u, w3.cell? ⟨g3, y, none⟩ = some u := ⟨_, (ho3.cellAt y (by omega)).trans (List.getElem?_eq_getElem (by rw [HBL.out]; omega))⟩); obtain ⟨u0, z0⟩ := z0; (have z1 := ho3.frozenAt y); (have s0 := hu3'.was p0); (have s1 := hu3'.was p1); (have n0 : g3 ≠ w.heap.size := by omega); (have l03 : w.heap.size < w3.heap.size := Nat.lt_of_lt_of_le l0 hu3'.size); (have n1 : ¬ w.heap.size = g3 := by omega); simp only [Nat.zero_add])
      | (at_builtin; refine wpList_append_src (o := ⟨some 38, _, _, _, _, _⟩) (by rfl) _ _ 51 (by rfl) (w.heap.size + 2) 81 (.agg #[.int .i64 0, .int .i64 0, .int .u64 0]) 3 24 Try.underlying51 refCellInfo rfl (by decide) _ 0 0 [] (by rfl) (own_empty (heap_new (by simp)) (by have := hu3'.size; first | omega | (simp; omega))) gc oc n cc (clsV A.cs) (by rfl) HCL.out (fun j u hj => Upd.kept (S := [g3]) (w := w3) (by (repeat (first | assumption | exact Upd.refl _ _ | refine Upd.alloc ?_ _ | refine Upd.drew ?_ | refine Upd.drewN ?_ _ | refine Upd.setCell ?_ ?_ _ | focus (left; simp; done) | focus (right; simp; done) | focus (right; simp; omega)))) (hu3'.was (C2.out j u hj)) (by first | (simp; done) | (simp; omega))) (clsV_one _) (by unfold maxLen; omega) (by omega) (by have := hu3'.size; first | omega | (simp; omega)) ?_; intro g4 cap4 w4 ho4 hu4 hg4 hc4 hd4 hl4; rw [Nat.zero_add, List.nil_append] at ho4; simp only [Nat.zero_add]))
    have hl3 : g3 < w3.heap.size := hl3
    have B1 : Hid (w4.ownsRow (w.heap.size + 2) 4 1 (.slice (some ⟨g3, 0, none⟩) m cap3) m (boolsV (A.hs.set y false))) := by
      have e1 := own_set ho3 y (.bool false)
      rw [show (boolsV A.hs).set y (.bool false) = boolsV (A.hs.set y false) by unfold boolsV; rw [List.map_set]] at e1
      exact owns_upd (owns_upd e1 (S := []) ((Upd.refl _ _).alloc _) (by simp)) hu4 (fun k hk => by cases hk; simp; omega)
    have hw3 : Upd [] w w3 := v2.trans hu3'
    have l3s := hu3'.size
    have hw34 : Upd [] w ((w3.setCell ⟨g3, y, none⟩ (.bool false)).alloc (.cells #[] 81)) := by (repeat (first | assumption | exact Upd.refl _ _ | refine Upd.alloc ?_ _ | refine Upd.drew ?_ | refine Upd.drewN ?_ _ | refine Upd.setCell ?_ ?_ _ | focus (left; simp; done) | focus (right; simp; done) | focus (right; simp; omega)))
    have hw4 : Upd [] w w4 := hw34.joined hu4 (fun z hz => Or.inr (by simp at hz; omega))
    have hk : Upd [g3, w3.heap.size] w3 w4 := Upd.joined (S := [g3, w3.heap.size]) (by (repeat (first | assumption | exact Upd.refl _ _ | refine Upd.alloc ?_ _ | refine Upd.drew ?_ | refine Upd.drewN ?_ _ | refine Upd.setCell ?_ ?_ _ | focus (left; simp; done) | focus (right; simp; done) | focus (right; simp; omega)))) hu4 (fun z hz => Or.inl (by simp at hz; simp [hz]))
    have t0 : w4.cell? ⟨w.heap.size + 1, 0, none⟩ = some (.slice none 0 0) := hk.kept (hu3'.was p2) (by simp; omega)
    have t1 : w4.cell? ⟨w.heap.size + 1, 1, none⟩ = some (.slice none 0 0) := hk.kept (hu3'.was p3) (by simp; omega)
    have t2 : w4.frozen? ⟨w.heap.size + 1, 0, none⟩ = false := hk.keptF (hu3'.was p2) (by simp; omega) (hu3'.keptF p2 (by simp) p4)
    have t3 : w4.frozen? ⟨w.heap.size + 1, 1, none⟩ = false := hk.keptF (hu3'.was p3) (by simp; omega) (hu3'.keptF p3 (by simp) p5)
    have g4b : w3.heap.size ≤ g4 := by (rcases hg4 with h | h; (first | omega | (simp at h; omega)); (first | omega | (simp at h; omega)))
    have o4 : Hid (w4.ownsRow (w.heap.size + 2) 81 3 (.slice (some ⟨g4, 0, none⟩) n cap4) n (clsV A.cs)) := ho4
    have hg34 : g3 ≠ g4 := by omega
    have hw14 : w.heap.size + 1 < w4.heap.size := World.block_lt_of_cell? w4 _ t0
    clear ho3 ho4 hu3 hu4 hg3 hg4 z0 z1 s0 s1 p0 p1 p2 p3 p4 p5 n0 n1 hk hw34
    obtain ⟨W4, hW4⟩ : ∃ W4, W4 = w4 := ⟨_, rfl⟩
    subst hW4
    go_loopw [41] (fun i wr => ∃ j : Nat, j ≤ n ∧ i = .int .i64 (j : Int) ∧ wr.ownsRow (w.heap.size + 2) 81 3 (.slice (some ⟨g4, 0, none⟩) n cap4) n (clsV (jL A.cs a y j)) ∧ Upd [g4] W4 wr) (fun i _ => n - (intOf i).toNat)
    case atStart => exact ⟨0, by omega, rfl, by rw [jL_zero]; exact o4.out, Upd.refl _ _⟩
    case round =>
      obtain ⟨j, hj, rfl, ho, hu⟩ := hrel
      have hszr := hu.size
      by_cases hlt : j < n
      · have hlj : j < A.cs.length := by rw [HN.out.1]; exact hlt
        have hll : (jL A.cs a y j).length = n := by rw [jL_len, HN.out.1]
        have ge : (jL A.cs a y j).getD j Cl.z = A.c j := jL_get _ _ _ _ hlj
        have d0 : wr.cell? ⟨g4, j * 3, none⟩ = some (.int .i64 (A.c j).i) := by rw [ho.cellAt (j * 3) (by omega), clsV_get (by rw [hll]; omega), clCell0, ge]
        have d1 : wr.cell? ⟨g4, j * 3 + 1, none⟩ = some (.int .i64 (A.c j).k) := by rw [ho.cellAt (j * 3 + 1) (by omega), clsV_get (by rw [hll]; omega), clCell1, ge]
        have d2 : wr.cell? ⟨g4, j * 3 + 2, none⟩ = some (.int .u64 (A.c j).s) := by rw [ho.cellAt (j * 3 + 2) (by omega), clsV_get (by rw [hll]; omega), clCell2, ge]
        have f0 := ho.frozenAt (j * 3)
        have f1 := ho.frozenAt (j * 3 + 1)
        have f2 := ho.frozenAt (j * 3 + 2)
        have l4 := (ho.lt g4 rfl).2
        have hsucc := jL_succ A.cs a y j hlj
        have hset := clsV_set (jL A.cs a y j) j (jc a y (A.c j))
        have e1 : A.cs.getD j Cl.z = A.c j := rfl
        rw [e1] at hsucc
        have hsame := jL_same A.cs a y j hlj
        rw [e1] at hsame
        have HO := Lib.hid (And.intro ho (And.intro hsucc hset))
        have HS := Lib.hid hsame
        clear ho hsucc hset hsame ge e1
        by_cases hy : (A.c j).i = (y : Int)
        · have hb : ((A.c j).i == (y : Int)) = true := by simpa using hy
          have HY := Lib.hid hy
          clear hy
          have hjc : jc a y (A.c j) = ⟨a, (A.c j).k, (A.c j).s⟩ := by unfold jc; rw [if_pos HY.out]
          rw [hjc] at HO
          clear hjc
          generalize (A.c j).i = ci at *
          generalize (A.c j).k = ck at *
          generalize (A.c j).s = cs at *
          go_wp2
          go_roundw
          case rel =>
            obtain ⟨h1, h2, h3⟩ := HO.out
            refine ⟨j + 1, by omega, by go_num, ?_, by (repeat (first | assumption | exact Upd.refl _ _ | refine Upd.alloc ?_ _ | refine Upd.drew ?_ | refine Upd.drewN ?_ _ | refine Upd.setCell ?_ ?_ _ | focus (left; simp; done) | focus (right; simp; done) | focus (right; simp; omega)))⟩
            rw [h2, ← h3]
            exact owns_upd (own_set (own_set (own_set h1 (j * 3) (.int .i64 a)) (j * 3 + 1) (.int .i64 ck)) (j * 3 + 2) (.int .u64 cs)) (S := []) ((Upd.refl _ _).alloc _) (by simp)
          case measure => simp [intOf]; omega
        · have hb : ((A.c j).i == (y : Int)) = false := by simpa using hy
          have HS2 := Lib.hid (HS.out hy)
          clear hy
          generalize (A.c j).i = ci at *
          generalize (A.c j).k = ck at *
          generalize (A.c j).s = cs at *
          go_wp2
          go_roundw
          case rel =>
            refine ⟨j + 1, by omega, by go_num, ?_, by (repeat (first | assumption | exact Upd.refl _ _ | refine Upd.alloc ?_ _ | refine Upd.drew ?_ | refine Upd.drewN ?_ _ | refine Upd.setCell ?_ ?_ _ | focus (left; simp; done) | focus (right; simp; done) | focus (right; simp; omega)))⟩
            rw [HS2.out]
            exact owns_upd HO.out.1 (S := []) ((Upd.refl _ _).alloc _) (by simp)
          case measure => simp [intOf]; omega
      · obtain rfl : j = n := by omega
        have q0 : wr.cell? ⟨w.heap.size + 1, 0, none⟩ = some (.slice none 0 0) := hu.kept t0 (by simp; omega)
        have q1 : wr.cell? ⟨w.heap.size + 1, 1, none⟩ = some (.slice none 0 0) := hu.kept t1 (by simp; omega)
        have q2 := hu.keptF t0 (by simp; omega) t2
        have q3 := hu.keptF t1 (by simp; omega) t3
        have b1 := owns_upd B1.out hu (fun k hk => by cases hk; simp; omega)
        have hjn : clsV (jL A.cs a y j) = clsV (A.cs.map (jc a y)) := by rw [← HN.out.1, jL_full]
        rw [hjn] at ho
        have hwr : Upd [] w wr := hw4.joined hu (fun z hz => Or.inr (by simp at hz; omega))
        have HQ := Lib.hid (And.intro ho b1)
        clear ho b1 hjn t0 t1 t2 t3
        go_wp2
        obtain ⟨hfin, huf⟩ := join_fin (m := m) (n := j) (g1 := g3) (cap1 := cap3) (g2 := g4) (cap2 := cap4) (hs := A.hs.set y false) (cs := A.cs.map (jc a y)) H.out HF.out (by rw [List.length_set]; exact HN.out.2) (by rw [List.length_map]; exact HN.out.1) HQ.out.2 HQ.out.1 hwr ⟨by omega, by omega⟩ ⟨by omega, by omega⟩
        exact bodyPost_ret (v := .tuple #[.agg #[.slice (some ⟨g3, 0, none⟩) m cap3, .slice (some ⟨g4, 0, none⟩) j cap4], .bool true]) (by simp [results, Try.results55, go_sem, q0, q1]) rfl
          ⟨_, rfl, ⟨g3, 0, cap3, g4, 0, cap4, by unfold refV; simp only [List.length_set, List.length_map, HN.out.1, HN.out.2], hfin⟩, huf⟩
  · have hp' : joinB A a b = false := by simpa using hp
    rw [hp']
    have FI2 := Lib.hid (FI.out hp')
    have hk : hasN A a = false ∨ (hasN A a = true ∧ hasN A b = false) ∨ (hasN A a = true ∧ hasN A b = true ∧ a = b) := by
      unfold joinB at hp'
      cases e1 : hasN A a
      · exact Or.inl rfl
      · cases e2 : hasN A b
        · exact Or.inr (Or.inl ⟨rfl, rfl⟩)
        · rw [e1, e2] at hp'
          exact Or.inr (Or.inr ⟨rfl, rfl, by simpa using hp'⟩)
    clear h ok FI hp hp' hn hm hF hbl
    rcases hk with e1 | ⟨e1, e2⟩ | ⟨e1, e2, e3⟩
    · rw [e1] at k1
      clear e1 k2
      go_enter Try.func55, Try.ntmps55
      go_wp2_with (((go_at_call 37; (with_reducible refine (k1 _ (by (repeat (first | assumption | exact Upd.refl _ _ | refine Upd.alloc ?_ _ | refine Upd.drew ?_ | refine Upd.drewN ?_ _ | refine Upd.setCell ?_ ?_ _ | focus (left; simp; done) | focus (right; simp; done) | focus (right; simp; omega))))).mono ?_)); rintro e w1 ⟨rfl, hu1⟩; (have v1 : Upd [] w w1 := Upd.trans (by (repeat (first | assumption | exact Upd.refl _ _ | refine Upd.alloc ?_ _ | refine Upd.drew ?_ | refine Upd.drewN ?_ _ | refine Upd.setCell ?_ ?_ _ | focus (left; simp; done) | focus (right; simp; done) | focus (right; simp; omega)))) hu1); obtain ⟨q0, q1, q4, q5, q6, q7⟩ := R.out w1 hu1))
      exact bodyPost_ret (v := .tuple #[.agg #[.slice (some ⟨gh, oh, none⟩) m ch, .slice (some ⟨gc, oc, none⟩) n cc], .bool false]) (by simp [results, Try.results55, go_sem, q4, q5]) rfl
        ⟨_, rfl, FI2.out _ (by (repeat (first | assumption | exact Upd.refl _ _ | refine Upd.alloc ?_ _ | refine Upd.drew ?_ | refine Upd.drewN ?_ _ | refine Upd.setCell ?_ ?_ _ | focus (left; simp; done) | focus (right; simp; done) | focus (right; simp; omega)))), by (repeat (first | assumption | exact Upd.refl _ _ | refine Upd.alloc ?_ _ | refine Upd.drew ?_ | refine Upd.drewN ?_ _ | refine Upd.setCell ?_ ?_ _ | focus (left; simp; done) | focus (right; simp; done) | focus (right; simp; omega)))⟩
    all_goals
      rw [e1] at k1
      rw [e2] at k2
      try (subst e3)
      clear e1 e2
      go_enter Try.func55, Try.ntmps55
      go_wp2_with fail
      refine (k1 _ (by (repeat (first | assumption | exact Upd.refl _ _ | refine Upd.alloc ?_ _ | refine Upd.drew ?_ | refine Upd.drewN ?_ _ | refine Upd.setCell ?_ ?_ _ | focus (left; simp; done) | focus (right; simp; done) | focus (right; simp; omega))))).mono ?_
      rintro e w1 ⟨rfl, hu1⟩
      have v1 : Upd [] w w1 := Upd.trans (by (repeat (first | assumption | exact Upd.refl _ _ | refine Upd.alloc ?_ _ | refine Upd.drew ?_ | refine Upd.drewN ?_ _ | refine Upd.setCell ?_ ?_ _ | focus (left; simp; done) | focus (right; simp; done) | focus (right; simp; omega)))) hu1
      obtain ⟨q0, q1, _⟩ := R.out w1 hu1
      go_wp2_with fail
      refine (k2 _ v1).mono ?_
      rintro e w2 ⟨rfl, hu2⟩
      have v2 : Upd [] w w2 := Upd.trans v1 hu2
      obtain ⟨p0, p1, q4, q5, p4, p5⟩ := R.out w2 (hu1.trans hu2)
      go_wp2
      exact bodyPost_ret (v := .tuple #[.agg #[.slice (some ⟨gh, oh, none⟩) m ch, .slice (some ⟨gc, oc, none⟩) n cc], .bool false]) (by simp [results, Try.results55, go_sem, q4, q5]) rfl
        ⟨_, rfl, FI2.out _ (by (repeat (first | assumption | exact Upd.refl _ _ | refine Upd.alloc ?_ _ | refine Upd.drew ?_ | refine Upd.drewN ?_ _ | refine Upd.setCell ?_ ?_ _ | focus (left; simp; done) | focus (right; simp; done) | focus (right; simp; omega)))), by (repeat (first | assumption | exact Upd.refl _ _ | refine Upd.alloc ?_ _ | refine Upd.drew ?_ | refine Upd.drewN ?_ _ | refine Upd.setCell ?_ ?_ _ | focus (left; simp; done) | focus (right; simp; done) | focus (right; simp; omega)))⟩
end
end Go.Proofs.Ytighgbdijagolaa
