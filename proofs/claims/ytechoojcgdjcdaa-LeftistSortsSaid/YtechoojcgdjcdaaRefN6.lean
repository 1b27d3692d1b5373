/-
  append of a whole slice, wherever it lies, in a region that draws its order; the document's nest (haycockref05): Make. Conditions: those of each lemma.
-/
import Derived.Test.YtechoojcgdjcdaaRefN2
import Derived.Deep.RegionHeldLaw
set_option linter.unusedVariables false
set_option linter.unusedSimpArgs false
namespace Go.Proofs.Ytechoojcgdjcdaa
open Go Go.RowKit

theorem wp_append_src {P : Program} {o : Oper} {a : Act} {w : World} {K : Act → World → Prop} {Q : Exit → Act → World → Prop} (s x : Operand) (t : TypeId)
    (ho : o.op = .call { callee := .builtin .append, args := #[s, x], argTypes := #[t, t] })
    (base : Nat) (e : TypeId) (z : Value) (size bytes : Nat) (ht : P.underlying t = some (.slice e)) (hinfo : (P.info? e).map (fun i => (i.zero, i.size, i.bytes)) = some (some z, size, bytes))
    (hzs : z.cells.size = size) (hsz : 0 < size) (g0 cap0 n : Nat) (xs : List Value) (hs : a.eval s = .slice (some ⟨g0, 0, none⟩) n cap0) (hown : w.ownsRow base e size (.slice (some ⟨g0, 0, none⟩) n cap0) n xs)
    (gs os m cs : Nat) (news : List Value) (hx : a.eval x = .slice (some ⟨gs, os, none⟩) m cs) (hlen : news.length = m * size) (hcell : ∀ j u, news[j]? = some u → w.cell? ⟨gs, os + j, none⟩ = some u) (h1 : ∀ u ∈ news, u.oneCell' = true)
    (hn : n + m ≤ maxLen) (hbytes : (n + m) * bytes ≤ 140737488355328) (hbase : base ≤ w.heap.size)
    (h : ∀ g' cap' w', w'.ownsRow base e size (.slice (some ⟨g', 0, none⟩) (n + m) cap') (n + m) (xs ++ news) → Upd [g0] w w' → (g' = g0 ∨ w.heap.size ≤ g') → n + m ≤ cap' → cap' ≤ 9223372036854775807 → g' < w'.heap.size → K (a.put o.dst (.slice (some ⟨g', 0, none⟩) (n + m) cap')) w') :
    Oper.wp P o a w K Q := by
  obtain ⟨i, hi, hz0, hz1, hz2⟩ := info_parts hinfo
  obtain ⟨v', w', hr, h2, h3, _, h5⟩ := run_append_own_at (P := P) w base t o.type e i z size bytes ht hi hz0 hz1 hz2 hzs hsz (.slice (some ⟨g0, 0, none⟩) n cap0) n xs hown ⟨gs, os, none⟩ m cs news hlen (fun j u hj => by rw [addr_addo]; exact hcell j u hj) h1 hn hbytes hbase
  unfold Oper.wp execOp
  simp only [ho, resolve, invoke, builtin, Sem.run_bind, Sem.run_pure, Result.andThen_ok, List.map_toArray, List.map_cons, List.map_nil, hs, hx, hr]
  have hb : ∃ g', v'.ownBlock = some g' ∧ (g' = g0 ∨ w.heap.size ≤ g') := by
    rcases h5 with h5 | h5
    · exact ⟨g0, h5, Or.inl rfl⟩
    · exact ⟨_, h5, Or.inr (Nat.le_refl _)⟩
  obtain ⟨g', hb1, hb2⟩ := hb
  obtain ⟨cap', rfl, hc1, hc2, hc3, hc4⟩ := own_some h2 hb1
  exact h g' cap' w' h2 ((Upd.refl _ _).grown h3 (fun k hk => Or.inl (by cases hk; simp))) hb2 hc1 hc2 hc4
theorem step_append_src {P : Program} {ops : Array Oper} {o : Oper} {a : Act} {w : World} {K : Act → World → Prop} {Q : Exit → Act → World → Prop} {E : Prop} (hgd : o.guard = none) (s x : Operand) (t : TypeId)
    (ho : o.op = .call { callee := .builtin .append, args := #[s, x], argTypes := #[t, t] })
    (base : Nat) (e : TypeId) (z : Value) (size bytes : Nat) (ht : P.underlying t = some (.slice e)) (hinfo : (P.info? e).map (fun i => (i.zero, i.size, i.bytes)) = some (some z, size, bytes))
    (hzs : z.cells.size = size) (hsz : 0 < size) (g0 cap0 n : Nat) (xs : List Value) (hs : a.eval s = .slice (some ⟨g0, 0, none⟩) n cap0) (hown : w.ownsRow base e size (.slice (some ⟨g0, 0, none⟩) n cap0) n xs)
    (gs os m cs : Nat) (news : List Value) (hx : a.eval x = .slice (some ⟨gs, os, none⟩) m cs) (hlen : news.length = m * size) (hcell : ∀ j u, news[j]? = some u → w.cell? ⟨gs, os + j, none⟩ = some u) (h1 : ∀ u ∈ news, u.oneCell' = true)
    (hn : n + m ≤ maxLen) (hbytes : (n + m) * bytes ≤ 140737488355328) (hbase : base ≤ w.heap.size)
    (h : ∀ g' cap' w', w'.ownsRow base e size (.slice (some ⟨g', 0, none⟩) (n + m) cap') (n + m) (xs ++ news) → Upd [g0] w w' → (g' = g0 ∨ w.heap.size ≤ g') → n + m ≤ cap' → cap' ≤ 9223372036854775807 → g' < w'.heap.size → K (a.put o.dst (.slice (some ⟨g', 0, none⟩) (n + m) cap')) w') :
    if Region.wanted o (yielded ops a.tmps) = true then Oper.wp P o a w K Q else E := by
  have hw : Region.wanted o (yielded ops a.tmps) = true := by simp [Region.wanted, hgd]
  rw [if_pos hw]
  exact wp_append_src s x t ho base e z size bytes ht hinfo hzs hsz g0 cap0 n xs hs hown gs os m cs news hx hlen hcell h1 hn hbytes hbase h
def boolsV (l : List Bool) : List Value := l.map Value.bool
theorem boolsV_one (l : List Bool) : ∀ u ∈ boolsV l, u.oneCell' = true := by
  intro u hu; unfold boolsV at hu; obtain ⟨x, _, rfl⟩ := List.mem_map.1 hu; rfl
theorem RefM.newsH {w : World} {F : List Nat} {gh oh ch gc oc cc : Nat} {A : NS} (h : RefM w F gh oh ch gc oc cc A) (j : Nat) (u : Value) (hj : (boolsV A.hs)[j]? = some u) : w.cell? ⟨gh, oh + j, none⟩ = some u := by
  unfold boolsV at hj
  rw [List.getElem?_map] at hj
  cases hq : A.hs[j]? with
  | none => rw [hq] at hj; cases hj
  | some b =>
    rw [hq] at hj
    simp at hj
    subst hj
    rw [h.h j (List.getElem?_eq_some_iff.1 hq).1]
    simp [List.getD_eq_getElem?_getD, hq]
/-- An empty slice of the call's own, wherever. -/
theorem own_empty {w : World} {g : Nat} {e : TypeId} {base size : Nat} (h : w.heap[g]? = some (.cells #[] e (0, 0))) (hb : base ≤ g) : w.ownsRow base e size (.slice (some ⟨g, 0, none⟩) 0 0) 0 [] :=
  ⟨by simp, Or.inr ⟨g, 0, #[], rfl, hb, h, Nat.le_refl _, by unfold maxLen; omega, by simp, by simp⟩⟩
theorem heap_new {w : World} {g : Nat} {o : Obj} (hg : g = w.heap.size) : (w.alloc o).heap[g]? = some o := by
  subst hg
  show (w.heap.push _)[w.heap.size]? = _; simp
theorem heap_old {w : World} {g : Nat} {o o' : Obj} (h : w.heap[g]? = some o) : (w.alloc o').heap[g]? = some o := by
  have hlt := (Array.getElem?_eq_some_iff.1 h).1
  rw [Below.heap_alloc _ _ _ hlt]; exact h
theorem one_news {w : World} {g : Nat} {u0 : Value} (h : w.cell? ⟨g, 0, none⟩ = some u0) (j : Nat) (u : Value) (hj : [u0][j]? = some u) : w.cell? ⟨g, 0 + j, none⟩ = some u := by
  match j, hj with
  | 0, hj => simp at hj; subst hj; exact h
section
variable {w : World} {F : List Nat} {v : Value} {A : NS}
theorem RefM.ownH {w W : World} {F : List Nat} {gh oh ch gc oc cc : Nat} {A : NS} (h : RefM w F gh oh ch gc oc cc A) (hu : Upd [] w W) (hF : ∀ x, x ∈ F → x < w.heap.size) {g cap : Nat} {hs : List Bool}
    (ho : W.ownsRow w.heap.size 4 1 (.slice (some ⟨g, 0, none⟩) hs.length cap) hs.length (boolsV hs)) (hc : hs.length ≤ cap ∧ cap ≤ 9223372036854775807) (hg : g < W.heap.size) : RefM W F g 0 cap gc oc cc ⟨hs, A.cs⟩ := by
  have h' := h.upd0 hu
  have hgl := (ho.lt g rfl).1
  refine ⟨hc, h'.ccap, ⟨hg, h'.lt.2⟩, ⟨fun m => by have := hF _ m; omega, h'.far.2⟩, fun j hj => ?_, h'.c0, h'.c1, h'.c2⟩
  simp only at hj
  rw [Nat.zero_add, ho.cellAt j (by omega)]
  unfold boolsV
  simp [List.getD_eq_getElem?_getD, hj]
theorem make_fin {gh oh ch gc oc cc m g3 cap3 gc' oc' n' cc' : Nat} {w9 : World} (h : RefM w F gh oh ch gc oc cc A) (hF : ∀ x, x ∈ F → x < w.heap.size) (hm : A.hs.length = m)
    (ho : w9.ownsRow w.heap.size 4 1 (.slice (some ⟨g3, 0, none⟩) (m + 1) cap3) (m + 1) (boolsV A.hs ++ [.bool true])) (hu : Upd [] w w9) (g3b : w.heap.size + 2 ≤ g3) (hc : m + 1 ≤ cap3) (hd : cap3 ≤ 9223372036854775807) (hl : g3 < w9.heap.size) :
    RefM ((w9.setCell ⟨w.heap.size + 1, 0, none⟩ (.slice (some ⟨g3, 0, none⟩) (m + 1) cap3)).setCell ⟨w.heap.size + 1, 1, none⟩ (.slice (some ⟨gc', oc', none⟩) n' cc')) F g3 0 cap3 gc oc cc ⟨A.hs ++ [true], A.cs⟩ ∧
    Upd [] w ((w9.setCell ⟨w.heap.size + 1, 0, none⟩ (.slice (some ⟨g3, 0, none⟩) (m + 1) cap3)).setCell ⟨w.heap.size + 1, 1, none⟩ (.slice (some ⟨gc', oc', none⟩) n' cc')) := by
  have hB : Upd [w.heap.size + 1] w9 ((w9.setCell ⟨w.heap.size + 1, 0, none⟩ (.slice (some ⟨g3, 0, none⟩) (m + 1) cap3)).setCell ⟨w.heap.size + 1, 1, none⟩ (.slice (some ⟨gc', oc', none⟩) n' cc')) := by (repeat (first | assumption | exact Upd.refl _ _ | refine Upd.alloc ?_ _ | refine Upd.drew ?_ | refine Upd.drewN ?_ _ | refine Upd.setCell ?_ ?_ _ | focus (left; simp; done) | focus (right; simp; done) | focus (right; simp; omega)))
  have hW : Upd [] w ((w9.setCell ⟨w.heap.size + 1, 0, none⟩ (.slice (some ⟨g3, 0, none⟩) (m + 1) cap3)).setCell ⟨w.heap.size + 1, 1, none⟩ (.slice (some ⟨gc', oc', none⟩) n' cc')) := hu.joined hB (fun y hy => Or.inr (by simp at hy; omega))
  generalize ((w9.setCell ⟨w.heap.size + 1, 0, none⟩ (.slice (some ⟨g3, 0, none⟩) (m + 1) cap3)).setCell ⟨w.heap.size + 1, 1, none⟩ (.slice (some ⟨gc', oc', none⟩) n' cc')) = W at *
  have hlen : (A.hs ++ [true]).length = m + 1 := by simp [hm]
  have ho2 : W.ownsRow w.heap.size 4 1 (.slice (some ⟨g3, 0, none⟩) (A.hs ++ [true]).length cap3) (A.hs ++ [true]).length (boolsV (A.hs ++ [true])) := by
    rw [hlen]
    have e : boolsV (A.hs ++ [true]) = boolsV A.hs ++ [.bool true] := by unfold boolsV; simp
    rw [e]
    exact owns_upd ho hB (fun k hk => by cases hk; simp; omega)
  exact ⟨RefM.ownH h hW hF ho2 (by rw [hlen]; omega) (Nat.lt_of_lt_of_le hl hB.size), hW⟩
set_option maxHeartbeats 4000000 in
theorem rmake_any (h : RefAt w F v A) (ok : A.Ok) (hF : ∀ x, x ∈ F → x < w.heap.size) :
    Calls Try.prog 48 #[v] w fun e w' => ∃ v', e = .returned (.tuple #[v', .int .i64 (makeV A)]) ∧ RefAt w' F v' (makeN A) ∧ Upd [] w w' := by
  obtain ⟨gh, oh, ch, gc, oc, cc, rfl, h⟩ := h
  have h1 := h.hcap
  have h2 := h.ccap
  have h3 := ok.h1
  have h4 := ok.c1
  have hlc := h.lt
  have H := Lib.hid h
  have HF := Lib.hid hF
  unfold makeV makeN
  by_cases hfull : 65536 < A.hs.length
  · rw [if_pos (by omega), if_pos hfull]
    have FI : Hid (∀ W, Upd [] w W → RefAt W F (refV gh oh ch gc oc cc A) A) := fun W hW => ⟨gh, oh, ch, gc, oc, cc, rfl, H.out.upd0 hW⟩
    unfold refV at *
    have hf2 : (65536 : Int) < (A.hs.length : Int) := by omega
    clear h ok hF hfull
    generalize A.cs.length = n at *
    generalize A.hs.length = m at *
    go_enter Try.func48, Try.ntmps48
    go_wp2
    exact bodyPost_ret (v := .tuple #[.agg #[.slice (some ⟨gh, oh, none⟩) m ch, .slice (some ⟨gc, oc, none⟩) n cc], .int .i64 0]) (by simp [results, Try.results48, go_sem]) rfl
      ⟨_, rfl, FI.out _ (by (repeat (first | assumption | exact Upd.refl _ _ | refine Upd.alloc ?_ _ | refine Upd.drew ?_ | refine Upd.drewN ?_ _ | refine Upd.setCell ?_ ?_ _ | focus (left; simp; done) | focus (right; simp; done) | focus (right; simp; omega)))), by (repeat (first | assumption | exact Upd.refl _ _ | refine Upd.alloc ?_ _ | refine Upd.drew ?_ | refine Upd.drewN ?_ _ | refine Upd.setCell ?_ ?_ _ | focus (left; simp; done) | focus (right; simp; done) | focus (right; simp; omega)))⟩
  · rw [if_neg (by omega), if_neg hfull]
    unfold refV
    have hf2 : ¬ (65536 : Int) < (A.hs.length : Int) := by omega
    have hbl : (boolsV A.hs).length = A.hs.length * 1 := by unfold boolsV; simp
    have HBL := Lib.hid hbl
    clear h ok hF hfull hbl
    generalize hn : A.cs.length = n at *
    generalize hm : A.hs.length = m at *
    have HN := Lib.hid (And.intro hn hm)
    clear hn hm
    obtain ⟨BB, hBB⟩ : ∃ BB, BB = ((w.alloc (.cells #[.slice (some ⟨gh, oh, none⟩) m ch, .slice (some ⟨gc, oc, none⟩) n cc] 55)).alloc (.cells #[.slice none 0 0, .slice none 0 0] 55)) := ⟨_, rfl⟩
    have HBB := Lib.hid hBB
    have h0B : Upd [] w BB := by rw [hBB]; (repeat (first | assumption | exact Upd.refl _ _ | refine Upd.alloc ?_ _ | refine Upd.drew ?_ | refine Upd.drewN ?_ _ | refine Upd.setCell ?_ ?_ _ | focus (left; simp; done) | focus (right; simp; done) | focus (right; simp; omega)))
    have hsB : BB.heap.size = w.heap.size + 2 := by rw [hBB]; simp
    have r0 : ∀ W, Upd [] BB W → W.cell? ⟨w.heap.size, 0, none⟩ = some (.slice (some ⟨gh, oh, none⟩) m ch) := fun W hW => hW.was (by rw [hBB]; go_simp)
    have r1 : ∀ W, Upd [] BB W → W.cell? ⟨w.heap.size, 1, none⟩ = some (.slice (some ⟨gc, oc, none⟩) n cc) := fun W hW => hW.was (by rw [hBB]; go_simp)
    have R2 : Hid (∀ W, Upd [] BB W → W.cell? ⟨w.heap.size + 1, 0, none⟩ = some (.slice none 0 0) ∧ W.cell? ⟨w.heap.size + 1, 1, none⟩ = some (.slice none 0 0) ∧ W.frozen? ⟨w.heap.size + 1, 0, none⟩ = false ∧ W.frozen? ⟨w.heap.size + 1, 1, none⟩ = false) := fun W hW =>
      ⟨hW.was (by rw [hBB]; go_simp), hW.was (by rw [hBB]; go_simp), hW.keptF (v := .slice none 0 0) (by rw [hBB]; go_simp) (by simp) (by rw [hBB]; go_simp), hW.keptF (v := .slice none 0 0) (by rw [hBB]; go_simp) (by simp) (by rw [hBB]; go_simp)⟩
    have HSB := Lib.hid hsB
    clear hBB hsB
    go_enter Try.func48, Try.ntmps48
    go_wp2
    rw [← HBB.out]
    have z0 : ∀ W, Upd [w.heap.size + 1] BB W → W.cell? ⟨w.heap.size, 0, none⟩ = some (.slice (some ⟨gh, oh, none⟩) m ch) := fun W hW => hW.kept (r0 BB (Upd.refl _ _)) (by first | (simp; done) | (simp; omega))
    have z1 : ∀ W, Upd [w.heap.size + 1] BB W → W.cell? ⟨w.heap.size, 1, none⟩ = some (.slice (some ⟨gc, oc, none⟩) n cc) := fun W hW => hW.kept (r1 BB (Upd.refl _ _)) (by first | (simp; done) | (simp; omega))
    have hT : ∀ W, Upd [w.heap.size + 1] BB W → Upd [] w W := fun W hW => h0B.joined hW (fun y hy => Or.inr (by simp at hy; omega))
    have HT := Lib.hid hT
    have hS0 : Upd [w.heap.size + 1] BB BB := Upd.refl _ _
    have hszB : w.heap.size + 2 ≤ BB.heap.size := by have := HSB.out; omega
    clear r0 r1 hT
    go_region_held_law (fun W => Upd [w.heap.size + 1] BB W) (repeat (first | assumption | exact Upd.refl _ _ | refine Upd.drew ?_ | refine Upd.alloc ?_ _ | refine Upd.setCell ?_ ?_ _ | focus (left; simp; done) | focus (right; simp; done) | focus (right; simp; omega) | (apply Upd.trans; rotate_left; assumption)))
      (first
        | (refine step_append_src (o := ⟨some 12, _, _, _, _, _⟩) (by rfl) (.tmp 9) (.tmp 11) 45 (by rfl) w.heap.size 4 (.bool false) 1 1 Try.underlying45 boolInfo rfl (by decide) _ 0 0 [] (by rfl) (own_empty (by first | exact heap_new (by simp) | exact heap_old (heap_new (by simp))) (by first | omega | (simp; omega))) gh oh m ch (boolsV A.hs) (by rfl) HBL.out ((H.out.upd0 (HT.out _ (by (repeat (first | assumption | exact Upd.refl _ _ | refine Upd.drew ?_ | refine Upd.alloc ?_ _ | refine Upd.setCell ?_ ?_ _ | focus (left; simp; done) | focus (right; simp; done) | focus (right; simp; omega) | (apply Upd.trans; rotate_left; assumption)))))).newsH) (boolsV_one _) (by unfold maxLen; omega) (by omega) (by first | omega | (simp; omega)) ?_
           intro g2 cap2 w8 ho2 hu2 hg2 hc2 hd2 hl2
           have hS2 : Upd [w.heap.size + 1] BB w8 := Upd.joined (S := [w.heap.size + 1]) (by (repeat (first | assumption | exact Upd.refl _ _ | refine Upd.drew ?_ | refine Upd.alloc ?_ _ | refine Upd.setCell ?_ ?_ _ | focus (left; simp; done) | focus (right; simp; done) | focus (right; simp; omega) | (apply Upd.trans; rotate_left; assumption)))) hu2 (fun y hy => Or.inr (by simp at hy; omega))
           have hS2' : Upd [] BB w8 := Upd.joined (S := []) (by (repeat (first | assumption | exact Upd.refl _ _ | refine Upd.alloc ?_ _ | refine Upd.drew ?_ | refine Upd.drewN ?_ _ | refine Upd.setCell ?_ ?_ _ | focus (left; simp; done) | focus (right; simp; done) | focus (right; simp; omega)))) hu2 (fun y hy => Or.inr (by simp at hy; omega))
           rw [Nat.zero_add, List.nil_append] at ho2
           have g2b : BB.heap.size ≤ g2 := by (rcases hg2 with h | h; (first | omega | (simp at h; omega)); (first | omega | (simp at h; omega)))
           simp only [Act.put, Nat.zero_add, List.setIfInBounds_toArray, List.set_cons_zero, List.set_cons_succ])
        | (refine step_append_src (o := ⟨some 14, _, _, _, _, _⟩) (by rfl) (.tmp 12) (.tmp 13) 45 (by rfl) w.heap.size 4 (.bool false) 1 1 Try.underlying45 boolInfo rfl (by decide) g2 cap2 m (boolsV A.hs) (by rfl) (owns_upd ho2 (S := []) (by (repeat (first | assumption | exact Upd.refl _ _ | refine Upd.alloc ?_ _ | refine Upd.drew ?_ | refine Upd.drewN ?_ _ | refine Upd.setCell ?_ ?_ _ | focus (left; simp; done) | focus (right; simp; done) | focus (right; simp; omega)))) (by simp)) _ 0 1 1 [.bool true] (by rfl) rfl (one_news (by first | (go_simp; done) | exact hu2.kept (by go_simp) (by first | (simp; done) | (simp; omega)))) (by simp [Value.oneCell']) (by unfold maxLen; omega) (by omega) (by have := hS2.size; first | omega | (simp; omega)) ?_
           intro g3 cap3 w9 ho3 hu3 hg3 hc3 hd3 hl3
           have hw9' : Upd [] BB w9 := Upd.joined (S := []) (by (repeat (first | assumption | exact Upd.refl _ _ | refine Upd.alloc ?_ _ | refine Upd.drew ?_ | refine Upd.drewN ?_ _ | refine Upd.setCell ?_ ?_ _ | focus (left; simp; done) | focus (right; simp; done) | focus (right; simp; omega)))) hu3 (fun y hy => Or.inr (by simp at hy; omega))
           obtain ⟨p0, p1, p2, p3⟩ := R2.out w9 hw9'
           have hw9 : Upd [w.heap.size + 1] BB w9 := Upd.joined (S := [w.heap.size + 1]) (by (repeat (first | assumption | exact Upd.refl _ _ | refine Upd.drew ?_ | refine Upd.alloc ?_ _ | refine Upd.setCell ?_ ?_ _ | focus (left; simp; done) | focus (right; simp; done) | focus (right; simp; omega) | (apply Upd.trans; rotate_left; assumption)))) hu3 (fun y hy => Or.inr (by simp at hy; omega))
           simp only [Act.put, List.setIfInBounds_toArray, List.set_cons_zero, List.set_cons_succ]))
    all_goals
      go_wp2
      obtain ⟨hfin, hu⟩ := make_fin (gc' := gc) (oc' := oc) (n' := n) (cc' := cc) H.out HF.out HN.out.2 ho3 (h0B.trans hw9') (by first | omega | (rcases hg3 with h | h; (omega); (first | omega | (simp at h; omega)))) hc3 hd3 hl3
      exact bodyPost_ret (v := .tuple #[.agg #[.slice (some ⟨g3, 0, none⟩) (m + 1) cap3, .slice (some ⟨gc, oc, none⟩) n cc], .int .i64 (m : Int)]) (by simp [results, Try.results48, go_sem, p0, p1]) rfl
        ⟨_, rfl, ⟨g3, 0, cap3, gc, oc, cc, by unfold refV; simp only [List.length_append, HN.out.1, HN.out.2, List.length_cons, List.length_nil], hfin⟩, hu⟩
end
end Go.Proofs.Ytechoojcgdjcdaa
