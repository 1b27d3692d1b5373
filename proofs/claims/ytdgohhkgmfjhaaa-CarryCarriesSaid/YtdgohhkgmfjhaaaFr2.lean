/-
  The document's forests of layer 12 in memory: with, put. Conditions: those of each lemma.
-/
import Derived.Test.YtdgohhkgmfjhaaaFr
set_option linter.unusedVariables false
set_option linter.unusedSimpArgs false
namespace Go.Proofs.Ytdgohhkgmfjhaaa
open Go Go.RowKit

theorem kidsInfo : (Try.prog.info? 30).map (fun i => (i.zero, i.size, i.bytes)) = some (some (.slice none 0 0), 1, 24) := by kernel_rfl
theorem FrAt.vals {w : World} {F : List Nat} {a : Option Addr} {n cap : Nat} {Z : List (List Int)} (h : FrAt w F (.slice a n cap) Z) (hne : 0 < Z.length) :
    ∃ (g off : Nat) (vs : List Value), a = some ⟨g, off, none⟩ ∧ vs.length = Z.length ∧ (∀ j u, vs[j]? = some u → w.cell? ⟨g, off + j, none⟩ = some u) ∧ (∀ (j : Nat) (lj : List Int), Z[j]? = some lj → ∃ u, vs[j]? = some u ∧ SlI w F u lj) ∧ (∀ u ∈ vs, u.oneCell' = true) := by
  obtain ⟨a', cap', he, _, _, h3⟩ := h
  cases he
  obtain ⟨g, off, v0, rfl, _⟩ := h3 0 Z[0] (by simp [hne])
  have key : ∀ j (hj : j < Z.length), ∃ u, w.cell? ⟨g, off + j, none⟩ = some u ∧ SlI w F u Z[j] := fun j hj => by
    obtain ⟨g', off', vx, he, _, _, hc, hs⟩ := h3 j Z[j] (by simp [hj])
    simp only [Option.some.injEq, Addr.mk.injEq, and_true] at he
    obtain ⟨rfl, rfl⟩ := he
    exact ⟨vx, hc, hs⟩
  refine ⟨g, off, (List.range Z.length).map (fun j => (w.cell? ⟨g, off + j, none⟩).getD undef), rfl, by simp, fun j u hj => ?_, fun j lj hj' => ?_, fun u hu => ?_⟩
  · have hjl : j < Z.length := by have := (List.getElem?_eq_some_iff.1 hj).1; simpa using this
    obtain ⟨u', hc, _⟩ := key j hjl
    simp [hjl, hc] at hj
    rw [hc, hj]
  · have hjl : j < Z.length := (List.getElem?_eq_some_iff.1 hj').1
    obtain ⟨u', hc, hs⟩ := key j hjl
    rw [(List.getElem?_eq_some_iff.1 hj').2] at hs
    exact ⟨u', by simp [hjl, hc], hs⟩
  · simp only [List.mem_map, List.mem_range] at hu
    obtain ⟨j, hj, rfl⟩ := hu
    obtain ⟨u', hc, hs⟩ := key j hj
    obtain ⟨ax, cx, he, _⟩ := hs.shape'
    rw [hc, he]; rfl
theorem FrAt.of_own {w : World} {F : List Nat} {base : Nat} {v : Value} {vs : List Value} {Z : List (List Int)} (h : w.ownsRow base 30 1 v Z.length vs) (hF : ∀ g, g ∈ F → g < base) (hs : ∀ (j : Nat) (lj : List Int), Z[j]? = some lj → ∃ u, vs[j]? = some u ∧ SlI w F u lj) : FrAt w F v Z := by
  obtain ⟨a, cap, rfl, h1, h2, h3⟩ := (LstAt.of_owns h).open
  refine ⟨a, cap, rfl, h2, h1, fun x l hx => ?_⟩
  have hxl : x < Z.length := (List.getElem?_eq_some_iff.1 hx).1
  obtain ⟨g, rfl, hlo, hg, hc⟩ := h3 (by omega)
  obtain ⟨u, hu, hsu⟩ := hs x l hx
  exact ⟨g, 0, u, rfl, hg, fun hm => by have := hF g hm; omega, by rw [Nat.zero_add]; exact hc x u hu, hsu⟩
/-- append(s, x...) of a whole slice, wherever it lies, to a row of the call's own. -/
theorem wpList_append_all {P : Program} {ops : Array Oper} {rest : List Oper} {o : Oper} {a : Act} {w : World} {Q : Exit → Act → World → Prop} (hgd : o.guard = none) (s x : Operand) (t : TypeId)
    (ho : o.op = .call { callee := .builtin .append, args := #[s, x], argTypes := #[t, t] })
    (base : Nat) (e : TypeId) (z : Value) (size bytes : Nat) (ht : P.underlying t = some (.slice e)) (hinfo : (P.info? e).map (fun i => (i.zero, i.size, i.bytes)) = some (some z, size, bytes))
    (hzs : z.cells.size = size) (hsz : 0 < size) (v : Value) (n : Nat) (xs : List Value) (hs : a.eval s = v) (hown : w.ownsRow base e size v n xs)
    (g off m c : Nat) (news : List Value) (hx : a.eval x = .slice (some ⟨g, off, none⟩) m c) (hlen : news.length = m * size) (hnews : ∀ j u, news[j]? = some u → w.cell? ⟨g, off + j, none⟩ = some u) (h1 : ∀ u ∈ news, u.oneCell' = true)
    (hn : n + m ≤ maxLen) (hbytes : (n + m) * bytes ≤ 140737488355328) (hbase : base ≤ w.heap.size)
    (h : ∀ v' w', w'.ownsRow base e size v' (n + m) (xs ++ news) → Upd v.ownBlock.toList w w' → wpList P ops Q rest (a.put o.dst v') w') : wpList P ops Q (o :: rest) a w := by
  obtain ⟨i, hi, hz0, hz1, hz2⟩ := info_parts hinfo
  exact wpList_plain hgd fun _ hK => wp_append_own w s x t ho base e i z size bytes ht hi hz0 hz1 hz2 hzs hsz v n xs hs hown ⟨g, off, none⟩ m c news hx hlen (fun j u hj => by rw [Addr.add_lit]; exact hnews j u hj) h1 hn hbytes hbase (fun v' w' h2 h3 _ => hK _ _ (h v' w' h2 ((Upd.refl _ _).grown h3 (fun k hk => Or.inl (by simp [hk])))))

set_option maxHeartbeats 1000000 in
theorem zwith_any (w : World) (F : List Nat) (v vk : Value) (Z : List (List Int)) (x : Nat) (l : List Int) (h : FrAt w F v Z) (hk : SlI w F vk l) (hx : x < Z.length) (hZ : Z.length ≤ 65536) (hF : ∀ g, g ∈ F → g < w.heap.size) :
    Calls Try.prog 59 #[v, .int .i64 (x : Int), vk] w fun e w' => ∃ a c, e = .returned (.slice a Z.length c) ∧ FrAt w' F (.slice a Z.length c) (Z.set x l) ∧ Upd [] w w' := by
  obtain ⟨a, cap, rfl, h1, h2⟩ := h.shape
  obtain ⟨g, off, vs, rfl, hvl, hvc, hvs, hone⟩ := h.vals (by omega)
  obtain ⟨ak, ck, hke, hck⟩ := hk.shape'
  have hO := own_lit w [] 30 w.heap.size 1 0 rfl (Nat.le_refl _) (by unfold maxLen; omega)
  have HV := Lib.hid hvc
  have HS := Lib.hid hvs
  have HK := Lib.hid hk
  have hvc2 : ∀ j u, vs[j]? = some u → (w.alloc (.cells #[] 30)).cell? ⟨g, off + j, none⟩ = some u := fun j u hj => ((Upd.refl [] w).alloc _).was (hvc j u hj)
  subst hke
  clear hvc hvs hk h
  generalize hn : Z.length = n at *
  have HN := Lib.hid hn
  clear hn
  go_enter Try.func59, Try.ntmps59
  go_wp2_with (at_builtin; refine wpList_append_all rfl _ _ 43 rfl w.heap.size 30 (.slice none 0 0) 1 24 Try.underlying43 kidsInfo rfl (by decide) _ _ _ rfl hO g off n cap vs rfl (by omega) hvc2 hone (by unfold maxLen; omega) (by omega) (by simp) ?_; intro v2 w2 ho2 hu2; obtain ⟨g3, c3, rfl, hb3, hs3, hn3, hm3, hc3, hf3⟩ := own_shape ho2 (by omega); have q1 := hf3 x; have q2 : w2.cell? ⟨g3, x, none⟩ = some (vs.getD x undef) := hc3 x _ (by simp [List.getD_eq_getElem?_getD, hvl, hx]))
  go_ret
  have hu3 : Upd [w.heap.size] (w.alloc (.cells #[] 30)) w2 := hu2
  have hu4 : Upd [] w w2 := ((Upd.refl _ _).alloc _).joined hu3 (fun x hx => Or.inr (by simp at hx; omega))
  have ho4 := (ho2.stored x (.slice ak l.length ck)).1
  have hu5 : Upd [] w (w2.setCell ⟨g3, x, none⟩ (.slice ak l.length ck)) := hu4.setCell (Or.inr (by simp; omega)) _
  have hset : (Z.set x l).length = 0 + n := by rw [List.length_set, HN.out]; omega
  refine ⟨some ⟨g3, 0, none⟩, c3, by first | rfl | (show Ending.returned (Value.slice (some ⟨g3, 0, none⟩) (0 + n) c3) = _; rw [Nat.zero_add]), ?_, hu5⟩
  have ho5 : (w2.setCell ⟨g3, x, none⟩ (.slice ak l.length ck)).ownsRow w.heap.size 30 1 (.slice (some ⟨g3, 0, none⟩) n c3) (Z.set x l).length (vs.set x (.slice ak l.length ck)) := by
    rw [hset]; simpa using ho4
  refine FrAt.of_own ho5 hF (fun j lj hj => ?_)
  by_cases hjx : j = x
  · subst hjx
    rw [List.getElem?_set_self (by rw [HN.out]; exact hx)] at hj
    cases hj
    exact ⟨_, by rw [List.getElem?_set_self (by omega)], HK.out.upd hu5 (by simp)⟩
  · rw [List.getElem?_set_ne (fun e => hjx e.symm)] at hj
    obtain ⟨u, hu, hsu⟩ := HS.out j lj hj
    exact ⟨u, by rw [List.getElem?_set_ne (fun e => hjx e.symm)]; exact hu, hsu.upd hu5 (by simp)⟩

def putL (l : List Int) (x y : Int) : List Int := l.map (fun z => if z = x then y else z)
theorem putL_snoc (l : List Int) (x y z : Int) (k : Nat) (hk : l[k]? = some z) : putL (l.take (k + 1)) x y = putL (l.take k) x y ++ [if z = x then y else z] := by
  unfold putL
  rw [List.take_add_one, hk, List.map_append]; rfl
set_option maxHeartbeats 1000000 in
theorem zput_any (w : World) (F : List Nat) (v : Value) (l : List Int) (x y : Int) (h : SlI w F v l) (hl : l.length ≤ 65536) (hF : ∀ g, g ∈ F → g < w.heap.size) :
    Calls Try.prog 60 #[v, .int .i64 x, .int .i64 y] w fun e w' => ∃ a c, e = .returned (.slice a l.length c) ∧ SlI w' F (.slice a l.length c) (putL l x y) ∧ Upd [] w w' := by
  obtain ⟨a, cap, rfl, hlc, hcp, hp⟩ := h
  have HP := Lib.hid hp
  clear hp
  generalize hlen : l.length = len at *
  have HLEN := Lib.hid hlen
  clear hlen
  go_enter Try.func60, Try.ntmps60
  go_wp2
  have hO : OwnOff (w.alloc (.cells #[] 3)) w.heap.size (.slice (some ⟨w.heap.size, 0, none⟩) 0 0) [] := OwnOff.of_own (xs := []) (own_lit w [] 3 w.heap.size 1 0 rfl (Nat.le_refl _) (by unfold maxLen; omega))
  go_loopw [7, 13] (fun s7 s13 wr => ∃ k : Nat, k ≤ len ∧ s13 = .int .i64 (k : Int) ∧ OwnOff wr w.heap.size s7 (putL (l.take k) x y) ∧ Upd [] w wr) (fun _ s13 _ => len - (intOf s13).toNat)
  case atStart => exact ⟨0, by omega, rfl, hO, (Upd.refl _ _).alloc _⟩
  case round =>
    obtain ⟨k, hk, rfl, ho, hu⟩ := hrel
    have hpl : (putL (l.take k) x y).length ≤ 65536 := by unfold putL; rw [List.length_map, List.length_take, HLEN.out]; omega
    have hsz := hu.size
    by_cases hlt : k < len
    · obtain ⟨z, hz⟩ : ∃ z, l[k]? = some z := ⟨l[k]'(by rw [HLEN.out]; exact hlt), by simp⟩
      obtain ⟨g, off, rfl, hg, _, hc⟩ := HP.out k z hz
      have hc2 : wr.cell? ⟨g, off + k, none⟩ = some (.int .i64 z) := by rw [hu.cell hg (by simp)]; exact hc
      have hs := putL_snoc l x y z k hz
      obtain ⟨a7, c7, rfl, h71, h72, _⟩ := ho.shape
      by_cases hzx : z = x
      · subst hzx
        rw [if_pos rfl] at hs
        have HS := Lib.hid hs
        clear hs hz hc hO
        go_wp2_with (at_builtin; refine wpList_append_off rfl _ _ 30 rfl Try.underlying30 w.heap.size _ (putL (l.take k) z y) rfl (ho.upd ((Upd.refl [] _).alloc (.cells #[.int .i64 y] 3)) (by simp)) wr.heap.size y rfl (newCell0 wr [.int .i64 y] 3 0 _ rfl) (by omega) (by simp; omega) ?_; intro v2 w2 ho2 hu2 hv2)
        go_roundw
        case rel =>
          refine ⟨k + 1, by omega, by go_num, by rw [HS.out]; exact ho2, ?_⟩
          have hu3 : Upd (Value.slice a7 (putL (l.take k) z y).length c7).ownBlock.toList _ w2 := hu2
          exact (hu.alloc _).joined hu3 (fun g hg => Or.inr (ho.lt g (by simpa using hg)).1)
        case measure => simp [intOf]; omega
      · have b1 : (z == x) = false := by simpa using hzx
        rw [if_neg hzx] at hs
        have HS := Lib.hid hs
        clear hs hz hc hO hzx
        go_wp2_with (at_builtin; refine wpList_append_off rfl _ _ 30 rfl Try.underlying30 w.heap.size _ (putL (l.take k) x y) rfl (ho.upd ((Upd.refl [] _).alloc (.cells #[.int .i64 z] 3)) (by simp)) wr.heap.size z rfl (newCell0 wr [.int .i64 z] 3 0 _ rfl) (by omega) (by simp; omega) ?_; intro v2 w2 ho2 hu2 hv2)
        go_roundw
        case rel =>
          refine ⟨k + 1, by omega, by go_num, by rw [HS.out]; exact ho2, ?_⟩
          have hu3 : Upd (Value.slice a7 (putL (l.take k) x y).length c7).ownBlock.toList _ w2 := hu2
          exact (hu.alloc _).joined hu3 (fun g hg => Or.inr (ho.lt g (by simpa using hg)).1)
        case measure => simp [intOf]; omega
    · obtain rfl : k = len := by omega
      rw [List.take_of_length_le (by rw [HLEN.out]; omega)] at ho
      have hpl2 : (putL l x y).length = k := by unfold putL; rw [List.length_map, HLEN.out]
      have hslt := ho.lt
      obtain ⟨a7, c7, he, h71, h72, h73⟩ := ho.shape
      rw [hpl2] at he h71
      subst he
      have H73 := Lib.hid h73
      have HPL := Lib.hid hpl2
      clear h73 hpl2 hO
      go_wp2
      go_ret
      refine ⟨_, _, rfl, ⟨a7, c7, by rw [HPL.out], by rw [HPL.out]; exact h71, h72, fun j u hj => ?_⟩, hu⟩
      obtain ⟨g, off, rfl, hc⟩ := H73.out j u hj
      have := hslt g rfl
      exact ⟨g, off, rfl, this.2, fun hm => by have := hF g hm; omega, hc⟩
end Go.Proofs.Ytdgohhkgmfjhaaa
