/-
  Lists of integers in memory, and the document's Same. Conditions: those of each lemma.
-/
import Derived.Test.YtighgbdijagolaaGa
import Derived.Test.YtighgbdijagolaaProg
import Derived.Deep.RegionHeldLaw
import Derived.Deep.RegionLaw
set_option linter.unusedVariables false
set_option linter.unusedSimpArgs false
namespace Go.Proofs.Ytighgbdijagolaa
open Go Go.RowKit

theorem find_here {α : Type} (f : α → Bool) (l : List α) (k : Nat) (h : α) (hn : (l.take k).find? f = none) (hk : l[k]? = some h) (hf : f h = true) : l.find? f = some h := by
  induction l generalizing k with
  | nil => simp at hk
  | cons x r ih =>
    cases k with
    | zero => simp at hk; subst hk; simp [hf]
    | succ k =>
      simp only [List.take_succ_cons, List.find?_cons] at hn ⊢
      split at hn
      · cases hn
      · exact ih k hn (by simpa using hk)
theorem find_past {α : Type} (f : α → Bool) (l : List α) (k : Nat) (h : α) (hn : (l.take k).find? f = none) (hk : l[k]? = some h) (hf : f h = false) : (l.take (k + 1)).find? f = none := by
  rw [List.take_add_one, hk, List.find?_append, hn]
  simp [hf]

def ov (o : Option Int) : Int := o.getD 0
def ob (o : Option Int) : Bool := o.isSome

/-- A slice of the call's own, of these integers. -/
def OwnZ (w : World) (base : Nat) (v : Value) (l : List Int) : Prop := w.ownsRow base 3 1 v l.length (intsZ l)
theorem OwnZ.lst {w : World} {base : Nat} {v : Value} {l : List Int} (h : OwnZ w base v l) : LstAt w base v l.length (intsZ l) := LstAt.of_owns h
theorem same_len_ne {a b : List Int} (h : a.length ≠ b.length) : a ≠ b := fun e => h (by rw [e])
theorem same_at {a b : List Int} (hl : a.length = b.length) (h : ∀ k, k < a.length → a.getD k 0 = b.getD k 0) : a = b := by
  apply List.ext_getElem hl
  intro i h1 h2
  have := h i h1
  simpa [List.getD_eq_getElem?_getD, h1, h2] using this

set_option maxHeartbeats 1000000 in
theorem rsame_any (w : World) (lo : Nat) (va vb : Value) (za zb : List Int) (ha : LstAt w lo va za.length (intsZ za)) (hb : LstAt w lo vb zb.length (intsZ zb)) :
    Calls Try.prog 26 #[va, vb] w fun e w' => e = .returned (.bool (decide (za = zb))) ∧ ∃ k, w' = w.drewN k := by
  obtain ⟨a, ca, rfl, hca, hla, hpa⟩ := ha.open
  obtain ⟨b, cb, rfl, hcb, hlb, hpb⟩ := hb.open
  have HA := Lib.hid hpa
  have HB := Lib.hid hpb
  clear hpa hpb ha hb
  by_cases hl : za.length = zb.length
  · have hl' : ((za.length : Int) != (zb.length : Int)) = false := by rw [hl]; simp
    generalize hlen : za.length = len at *
    have HLEN := Lib.hid (And.intro hlen hl)
    have hll : zb.length = len := hl.symm
    rw [hll] at *
    clear hl hll hlen hl'
    go_enter Try.func26, Try.ntmps26
    go_wp2
    go_loopw [13] (fun i wr => ∃ k : Nat, k ≤ len ∧ i = .int .i64 (k : Int) ∧ (∀ j, j < k → za.getD j 0 = zb.getD j 0) ∧ ∃ d, wr = w.drewN d) (fun i _ => len - (intOf i).toNat)
    case atStart => exact ⟨0, by omega, rfl, fun j hj => by omega, 0, rfl⟩
    case round =>
      obtain ⟨k, hk, rfl, he, d, rfl⟩ := hrel
      have HE := Lib.hid he
      clear he
      by_cases hlt : k < len
      · obtain ⟨ga, rfl, _, _, hxa⟩ := HA.out (by omega)
        obtain ⟨gb, rfl, _, _, hxb⟩ := HB.out (by have := HLEN.out.2; omega)
        have c1 := hxa k (.int .i64 (za.getD k 0)) (by unfold intsZ; simp [List.getD_eq_getElem?_getD, HLEN.out.1, hlt])
        have c2 := hxb k (.int .i64 (zb.getD k 0)) (by unfold intsZ; simp [List.getD_eq_getElem?_getD, ← HLEN.out.2, hlt])
        have HP : Hid (∀ j, j < k + 1 → za.getD k 0 = zb.getD k 0 → za.getD j 0 = zb.getD j 0) := fun j hj e => by
          rcases (by omega : j < k ∨ j = k) with h | h
          · exact HE.out j h
          · rw [h]; exact e
        have HN : Hid (za.getD k 0 ≠ zb.getD k 0 → ¬ za = zb) := fun e1 e2 => e1 (by rw [e2])
        clear hxa hxb
        generalize za.getD k 0 = x1 at *
        generalize zb.getD k 0 = x2 at *
        by_cases hxx : x1 = x2
        · have b1 : (x1 != x2) = false := by simpa using hxx
          have HXX := Lib.hid hxx
          clear hxx
          go_wp2
          go_quiet (fail)
          go_wp2
          go_roundw
          case rel => exact ⟨k + 1, by omega, by go_num, fun j hj => HP.out j hj HXX.out, _, rfl⟩
          case measure => simp [intOf]; omega
        · have b1 : (x1 != x2) = true := by simpa using hxx
          have HXX := Lib.hid (HN.out hxx)
          clear hxx
          go_wp2
          go_quiet (fail)
          go_wp2
          go_ret
          exact ⟨ret_bool (by simp [HXX.out]), _, by rw [World.drewN_drewN]⟩
      · obtain rfl : k = len := by omega
        have HE2 := Lib.hid (same_at (by rw [HLEN.out.1, HLEN.out.2]) (fun j hj => HE.out j (by rw [← HLEN.out.1]; exact hj)))
        go_wp2
        go_ret
        exact ⟨ret_bool (by simp [HE2.out]), _, rfl⟩
  · have hl' : ((za.length : Int) != (zb.length : Int)) = true := by simp; omega
    have hne := Lib.hid (same_len_ne hl)
    clear hl
    go_enter Try.func26, Try.ntmps26
    go_wp2
    go_ret
    exact ⟨ret_bool (by simp [hne.out]), 0, rfl⟩


theorem rsame_true (w : World) (lo : Nat) (va vb : Value) (z : List Int) (ha : LstAt w lo va z.length (intsZ z)) (hb : LstAt w lo vb z.length (intsZ z)) :
    Calls Try.prog 26 #[va, vb] w fun e w' => e = .returned (.bool true) ∧ ∃ k, w' = w.drewN k :=
  (rsame_any w lo va vb z z ha hb).mono fun e w' ⟨he, h⟩ => ⟨by rw [he, decide_eq_true rfl], h⟩

end Go.Proofs.Ytighgbdijagolaa

set_option linter.unusedVariables false
set_option linter.unusedSimpArgs false
namespace Go.Proofs.Ytighgbdijagolaa
open Go Go.RowKit

/-- Of each thing: the slice that its children lie in, the children, and what is above; -1 where there is none. -/
structure CS where
  v : Nat → Value
  k : Nat → List Int
  u : Nat → Int
def CS.none : CS := ⟨fun _ => .slice Option.none 0 0, fun _ => [], fun _ => -1⟩
def nodeCell (S : CS) (j : Nat) : Value := if j % 2 = 0 then S.v (j / 2) else .int .i64 (S.u (j / 2))
theorem nodeCell0 (S : CS) (x : Nat) : nodeCell S (x * 2) = S.v x := by unfold nodeCell; rw [if_pos (by omega), show x * 2 / 2 = x by omega]
theorem nodeCell1 (S : CS) (x : Nat) : nodeCell S (x * 2 + 1) = .int .i64 (S.u x) := by unfold nodeCell; rw [if_neg (by omega), show (x * 2 + 1) / 2 = x by omega]
/-- The blocks in which children lie. -/
def CS.blk (S : CS) (n : Nat) : List Nat := (List.range n).filterMap (fun x => (S.v x).ownBlock)
theorem CS.mem_blk (S : CS) (n g : Nat) : g ∈ S.blk n ↔ ∃ x, x < n ∧ (S.v x).ownBlock = some g := by unfold CS.blk; simp

structure ForestAt (w : World) (bt ba lo n : Nat) (S : CS) : Prop where
  head : RowAt w bt 118 1 (fun _ => .slice (some ⟨ba, 0, none⟩) n n)
  row : RowAt w ba 120 (n * 2) (nodeCell S)
  own : ∀ x, x < n → w.ownsRow lo 3 1 (S.v x) (S.k x).length (intsZ (S.k x))
  sep : ∀ x y, x < n → y < n → x ≠ y → ∀ g, (S.v x).ownBlock = some g → (S.v y).ownBlock ≠ some g
  ne : bt ≠ ba
  lt1 : bt < lo
  lt2 : ba < lo
  low : lo ≤ w.heap.size
  le : n ≤ 65536
  len : ∀ x, x < n → (S.k x).length ≤ n
theorem ForestAt.blk_lo {w : World} {bt ba lo n : Nat} {S : CS} (h : ForestAt w bt ba lo n S) {g : Nat} (hg : g ∈ S.blk n) : lo ≤ g ∧ g < w.heap.size := by
  obtain ⟨x, hx, he⟩ := (S.mem_blk n g).1 hg
  exact (h.own x hx).lt g he
theorem ForestAt.upd {w w' : World} {F : List Nat} {bt ba lo n : Nat} {S : CS} (h : ForestAt w bt ba lo n S) (hu : Upd F w w') (h1 : bt ∉ F) (h2 : ba ∉ F) (h3 : ∀ g, g ∈ S.blk n → g ∉ F) : ForestAt w' bt ba lo n S :=
  ⟨h.head.upd hu h1, h.row.upd hu h2, fun x hx => owns_upd (h.own x hx) hu (fun k hk => h3 k ((S.mem_blk n k).2 ⟨x, hx, hk⟩)), h.sep, h.ne, h.lt1, h.lt2, Nat.le_trans h.low hu.size, h.le, h.len⟩
theorem ForestAt.upd0 {w w' : World} {bt ba lo n : Nat} {S : CS} (h : ForestAt w bt ba lo n S) (hu : Upd [] w w') : ForestAt w' bt ba lo n S := h.upd hu (by simp) (by simp) (by simp)

theorem nodeInfo : (Try.prog.info? 120).map (fun i => (i.zero, i.size, i.bytes)) = some (some (.agg #[.slice none 0 0, .int .i64 0]), 2, 32) := by kernel_rfl

set_option maxHeartbeats 400000 in
theorem carryNew_no (n : Int) (w : World) (h : n < 0 ∨ 65536 < n) :
    Calls Try.prog 45 #[.int .i64 n] w fun e w' => e = .returned (.tuple #[.pointer none, .int .i64 31]) ∧ w' = w := by
  rcases h with h | h
  all_goals
    go_enter Try.func45, Try.ntmps45
    go_wp2
    go_ret2
    exact ⟨rfl, rfl⟩

set_option maxHeartbeats 400000 in
theorem carryNew_yes (n : Nat) (w : World) (h : n ≤ 65536) :
    Calls Try.prog 45 #[.int .i64 (n : Int)] w fun e w' => ∃ bt ba, e = .returned (.tuple #[.pointer (some ⟨bt, 0, none⟩), .int .i64 0]) ∧ ForestAt w' bt ba w'.heap.size n CS.none ∧ Upd [] w w' ∧ w.heap.size ≤ bt ∧ w.heap.size ≤ ba := by
  go_enter Try.func45, Try.ntmps45
  go_wp2_with (at_make; refine wpList_make_row rfl _ 116 rfl 120 (.agg #[.slice none 0 0, .int .i64 0]) 2 32 Try.underlying116 nodeInfo n rfl (by omega) (by unfold maxLen; omega) ?_; intro w1 hr1 hu1)
  have hlt := hr1.lt
  have hz : ∀ j, j < n * 2 → (madeCells (Value.agg #[.slice none 0 0, .int .i64 0]).cells (n * 2)).toList.getD j undef = if j % 2 = 0 then .slice none 0 0 else .int .i64 0 := fun j hj => by
    rw [show (Value.agg #[.slice none 0 0, .int .i64 0]).cells = #[Value.slice none 0 0, Value.int .i64 0] from rfl]
    unfold madeCells
    simp [List.getD_eq_getElem?_getD, hj]
    rcases (by omega : j % 2 = 0 ∨ j % 2 = 1) with h2 | h2 <;> simp [h2]
  go_loopw [21] (fun i wr => ∃ (k : Nat) (f : Nat → Value), k ≤ n ∧ i = .int .i64 k ∧ RowAt wr w1.heap.size 118 1 (fun _ => .slice (some ⟨w.heap.size, 0, none⟩) n n) ∧ RowAt wr w.heap.size 120 (n * 2) f ∧ (∀ j, j < n * 2 → f j = if j % 2 = 0 then .slice none 0 0 else .int .i64 (if j < k * 2 then -1 else 0)) ∧ Upd [] w wr) (fun i _ => n - (intOf i).toNat)
  case atStart => exact ⟨0, _, by omega, rfl, rowAt_new _ _ _ |>.ext (fun j hj => by simp at hj; subst hj; rfl), hr1.alloc _, fun j hj => by rw [hz j hj, if_neg (show ¬ j < 0 * 2 by omega)], hu1.alloc _⟩
  case round =>
    obtain ⟨k, f, hk, rfl, hH, hR, hf, hu⟩ := hrel
    have HZ := Lib.hid hz
    clear hz
    by_cases hkn : k < n
    · have c0 := hH.cell 0 (by omega)
      have d1 := hR.cell (k * 2 + 1) (by omega)
      have e1 := hR.free (k * 2 + 1)
      have HF := Lib.hid hf
      clear hf
      go_wp2
      go_roundw
      case rel =>
        refine ⟨k + 1, _, by omega, by go_num, hH.far _ _ (by simp; omega), hR.set _ _, fun j hj => ?_, hu.setCell (Or.inr (by simp)) _⟩
        by_cases hj1 : j = k * 2 + 1
        · subst hj1
          rw [if_pos rfl, if_neg (by omega), if_pos (by omega)]
        · rw [if_neg hj1, HF.out j hj]
          by_cases h2 : j % 2 = 0
          · rw [if_pos h2, if_pos h2]
          · rw [if_neg h2, if_neg h2]
            by_cases h3 : j < k * 2
            · rw [if_pos h3, if_pos (by omega)]
            · rw [if_neg h3, if_neg (by omega)]
      case measure => simp [intOf]; omega
    · obtain rfl : k = n := by omega
      go_wp2
      go_ret2
      exact ⟨_, _, rfl, ⟨hH, hR.ext (fun j hj => by rw [hf j hj, if_pos (show j < k * 2 by omega)]; rfl), fun x hx => World.ownsRow_nil _ _ _ _, fun x y _ _ _ g hg => by simp [CS.none, Value.ownBlock] at hg, by omega, hH.lt, hR.lt, Nat.le_refl _, h, fun x hx => Nat.zero_le _⟩, hu, hu1.size, Nat.le_refl _⟩

theorem has_any (bt ba lo n : Nat) (S : CS) (x : Int) (w : World) (h : ForestAt w bt ba lo n S) (b : Bool) (hb : b = decide (0 ≤ x ∧ x < n)) :
    Calls Try.prog 76 #[.pointer (some ⟨bt, 0, none⟩), .int .i64 x] w fun e w' => e = .returned (.bool b) ∧ w' = w := by
  have hle := h.le
  have c0 := h.head.cell 0 (by omega)
  clear h
  subst hb
  by_cases h0 : 0 ≤ x
  · by_cases h1 : x < n
    · go_enter Try.func76, Try.ntmps76
      go_wp2
      go_ret
      exact ⟨ret_bool (by simp [h0, h1]), rfl⟩
    · go_enter Try.func76, Try.ntmps76
      go_wp2
      go_ret
      exact ⟨ret_bool (by simp [h0, h1]), rfl⟩
  · go_enter Try.func76, Try.ntmps76
    go_wp2
    go_ret
    exact ⟨ret_bool (by simp; omega), rfl⟩
/-- Is it a thing above which there is none? -/
def rootB (n : Nat) (S : CS) (x : Int) : Bool := decide (0 ≤ x ∧ x < n) && S.u x.toNat == -1
def degOf (n : Nat) (S : CS) (x : Int) : Int := if 0 ≤ x ∧ x < n then (S.k x.toNat).length else 0
def upO (n : Nat) (S : CS) (x : Int) : Option Int := if 0 ≤ x ∧ x < n then (if S.u x.toNat = -1 then none else some (S.u x.toNat)) else none
def kidsOf (n : Nat) (S : CS) (x : Int) : List Int := if 0 ≤ x ∧ x < n then S.k x.toNat else []

set_option maxHeartbeats 400000 in
theorem root_any (bt ba lo n : Nat) (S : CS) (x : Int) (w : World) (h : ForestAt w bt ba lo n S) :
    Calls Try.prog 115 #[.pointer (some ⟨bt, 0, none⟩), .int .i64 x] w fun e w' => e = .returned (.bool (rootB n S x)) ∧ w' = w := by
  by_cases hx : 0 ≤ x ∧ x < n
  · obtain ⟨k, rfl⟩ : ∃ k : Nat, x = k := ⟨x.toNat, by omega⟩
    have hk : k < n := by omega
    have hle := h.le
    have c0 := h.head.cell 0 (by omega)
    have d1 := h.row.cellAt (k * 2 + 1) (by omega) (nodeCell1 S k)
    have k1 := has_any bt ba lo n S k w h true (by simp [hk])
    have e : rootB n S k = (S.u k == -1) := by unfold rootB; rw [decide_eq_true hx]; simp
    rw [e]
    clear h e hx
    generalize S.u k = u at *
    go_enter Try.func115, Try.ntmps115
    go_wp2_with (go_at_call 76; refine (k1).mono ?_; rintro e w' ⟨rfl, rfl⟩)
    go_ret
    exact ⟨rfl, rfl⟩
  · have k1 := has_any bt ba lo n S x w h false (by simpa using hx)
    have e : rootB n S x = false := by unfold rootB; rw [decide_eq_false hx]; rfl
    rw [e]
    clear h e hx
    go_enter Try.func115, Try.ntmps115
    go_wp2_with (go_at_call 76; refine (k1).mono ?_; rintro e w' ⟨rfl, rfl⟩)
    go_ret
    exact ⟨rfl, rfl⟩

set_option maxHeartbeats 400000 in
theorem degree_any (bt ba lo n : Nat) (S : CS) (x : Int) (w : World) (h : ForestAt w bt ba lo n S) :
    Calls Try.prog 57 #[.pointer (some ⟨bt, 0, none⟩), .int .i64 x] w fun e w' => e = .returned (.int .i64 (degOf n S x)) ∧ w' = w := by
  by_cases hx : 0 ≤ x ∧ x < n
  · obtain ⟨k, rfl⟩ : ∃ k : Nat, x = k := ⟨x.toNat, by omega⟩
    have hk : k < n := by omega
    have hle := h.le
    have c0 := h.head.cell 0 (by omega)
    obtain ⟨a, cap, hv, _⟩ := own_slice (h.own k hk)
    have d0 := h.row.cellAt (k * 2) (by omega) ((nodeCell0 S k).trans hv)
    have k1 := has_any bt ba lo n S k w h true (by simp [hk])
    have e : degOf n S k = ((S.k k).length : Int) := by unfold degOf; rw [if_pos hx]; simp
    rw [e]
    clear h e hx hv
    generalize (S.k k).length = u at *
    go_enter Try.func57, Try.ntmps57
    go_wp2_with (go_at_call 76; refine (k1).mono ?_; rintro e w' ⟨rfl, rfl⟩)
    go_ret
    exact ⟨rfl, rfl⟩
  · have k1 := has_any bt ba lo n S x w h false (by simpa using hx)
    have e : degOf n S x = 0 := by unfold degOf; rw [if_neg hx]
    rw [e]
    clear h e hx
    go_enter Try.func57, Try.ntmps57
    go_wp2_with (go_at_call 76; refine (k1).mono ?_; rintro e w' ⟨rfl, rfl⟩)
    go_ret
    exact ⟨rfl, rfl⟩

set_option maxHeartbeats 400000 in
theorem up_any (bt ba lo n : Nat) (S : CS) (x : Int) (w : World) (h : ForestAt w bt ba lo n S) :
    Calls Try.prog 153 #[.pointer (some ⟨bt, 0, none⟩), .int .i64 x] w fun e w' => e = .returned (.tuple #[.int .i64 (ov (upO n S x)), .bool (ob (upO n S x))]) ∧ w' = w := by
  by_cases hx : 0 ≤ x ∧ x < n
  · obtain ⟨k, rfl⟩ : ∃ k : Nat, x = k := ⟨x.toNat, by omega⟩
    have hk : k < n := by omega
    have hle := h.le
    have c0 := h.head.cell 0 (by omega)
    have d1 := h.row.cellAt (k * 2 + 1) (by omega) (nodeCell1 S k)
    have k1 := has_any bt ba lo n S k w h true (by simp [hk])
    have e : upO n S k = if S.u k = -1 then none else some (S.u k) := by unfold upO; rw [if_pos hx]; simp
    rw [e]
    clear h e hx
    generalize S.u k = u at *
    by_cases hu : u = -1
    · subst hu
      go_enter Try.func153, Try.ntmps153
      go_wp2_with (go_at_call 76; refine (k1).mono ?_; rintro e w' ⟨rfl, rfl⟩)
      go_ret2
      exact ⟨rfl, rfl⟩
    · have b1 : (u == -1) = false := by simpa using hu
      rw [if_neg hu]
      clear hu
      go_enter Try.func153, Try.ntmps153
      go_wp2_with (go_at_call 76; refine (k1).mono ?_; rintro e w' ⟨rfl, rfl⟩)
      go_ret2
      exact ⟨rfl, rfl⟩
  · have k1 := has_any bt ba lo n S x w h false (by simpa using hx)
    have e : upO n S x = none := by unfold upO; rw [if_neg hx]
    rw [e]
    clear h e hx
    go_enter Try.func153, Try.ntmps153
    go_wp2_with (go_at_call 76; refine (k1).mono ?_; rintro e w' ⟨rfl, rfl⟩)
    go_ret2
    exact ⟨rfl, rfl⟩
end Go.Proofs.Ytighgbdijagolaa

set_option linter.unusedVariables false
set_option linter.unusedSimpArgs false
namespace Go.Proofs.Ytighgbdijagolaa
open Go Go.RowKit

set_option maxHeartbeats 400000 in
theorem clone_any (w : World) (lo : Nat) (v : Value) (z : List Int) (h : LstAt w lo v z.length (intsZ z)) (hz : z.length ≤ 65536) :
    Calls Try.prog 160 #[v] w fun e w' => ∃ v', e = .returned v' ∧ LstAt w' w.heap.size v' z.length (intsZ z) ∧ Upd [] w w' := by
  have h0 := h
  obtain ⟨a, cap, rfl, hcp, hlc, hp⟩ := h.open
  have hl := intsZ_len z
  generalize hzz : intsZ z = zs at *
  have h1 : ∀ u ∈ zs, u.oneCell' = true := by rw [← hzz]; exact intsZ_one z
  generalize z.length = len at *
  clear hzz
  cases a with
  | none =>
    have hn : len = 0 := by
      rcases Nat.eq_zero_or_pos len with h | h
      · exact h
      · obtain ⟨g, hg, _⟩ := hp h; cases hg
    subst hn
    have hzs : zs = [] := List.eq_nil_of_length_eq_zero hl
    subst hzs
    have hs := fun (W : World) => Lib.run_eql_slice_nil (P := Try.prog) W 63 3 none 0 cap 0 0 Try.underlying63
    clear hp h h0
    go_enter Try.func160, Try.ntmps160
    go_wp2
    go_ret
    exact ⟨_, rfl, Or.inl ⟨rfl, rfl, rfl⟩, Upd.refl _ _⟩
  | some a =>
    have hs := fun (W : World) => Lib.run_eql_slice_nil (P := Try.prog) W 63 3 (some a) len cap 0 0 Try.underlying63
    have hL := h.upd ((Upd.refl [] w).alloc (.cells #[] 3)) (by simp)
    have hO := own_lit w [] 3 w.heap.size 1 0 rfl (Nat.le_refl _) (by unfold maxLen; omega)
    clear hp h h0
    go_enter Try.func160, Try.ntmps160
    go_wp2_with (at_builtin; refine wpList_append_lst rfl _ _ 63 rfl w.heap.size 3 (.int .i64 0) 1 8 Try.underlying63 intInfo rfl (by decide) _ _ _ rfl hO lo len zs _ rfl hL (by omega) h1 (by unfold maxLen; omega) (by omega) (by simp) ?_; intro v2 w2 ho2 hu2)
    go_ret
    have hu3 : Upd [w.heap.size] (w.alloc (.cells #[] 3)) w2 := hu2
    refine ⟨_, rfl, ?_, ((Upd.refl _ _).alloc _).joined hu3 (fun x hx => Or.inr (by simp at hx; omega))⟩
    have := LstAt.of_owns ho2
    simpa using this

/-- Do the first j things of a row stand as they should? -/
def rowOk (n : Nat) (S : CS) (l : List Int) (i : Nat) : Bool := rootB n S (l.getD i 0) && (i == 0 || decide (degOf n S (l.getD (i - 1) 0) < degOf n S (l.getD i 0)))
def rowTo (n : Nat) (S : CS) (l : List Int) (j : Nat) : Bool := (List.range j).all (rowOk n S l)
theorem rowTo_succ (n : Nat) (S : CS) (l : List Int) (j : Nat) : rowTo n S l (j + 1) = (rowTo n S l j && rowOk n S l j) := by
  unfold rowTo; rw [List.range_succ, List.all_append]; simp
theorem rowTo_no (n : Nat) (S : CS) (l : List Int) (j : Nat) (h : rowTo n S l j = true) (hj : rowOk n S l j = false) (m : Nat) (hm : j < m) : rowTo n S l m = false := by
  unfold rowTo
  rw [List.all_eq_false]
  exact ⟨j, by simp [hm], by simp [hj]⟩
def rowB (n : Nat) (S : CS) (l : List Int) : Bool := rowTo n S l l.length

set_option maxHeartbeats 1000000 in
theorem row_any (bt ba lo n lo2 : Nat) (S : CS) (v : Value) (l : List Int) (w : World) (h : ForestAt w bt ba lo n S) (hv : LstAt w lo2 v l.length (intsZ l)) :
    Calls Try.prog 107 #[.pointer (some ⟨bt, 0, none⟩), v] w fun e w' => e = .returned (.bool (rowB n S l)) ∧ w' = w := by
  obtain ⟨a, cap, rfl, hcp, hlc, hp⟩ := hv.open
  have HP := Lib.hid hp
  clear hp hv
  unfold rowB
  generalize hlen : l.length = len at *
  have HLEN := Lib.hid hlen
  clear hlen
  have kR := fun x => root_any bt ba lo n S x w h
  have kD := fun x => degree_any bt ba lo n S x w h
  clear h
  go_enter Try.func107, Try.ntmps107
  go_wp2
  go_loop [9] (fun i => ∃ k : Nat, k ≤ len ∧ i = .int .i64 (k : Int) ∧ rowTo n S l k = true) (fun i => len - (intOf i).toNat)
  case atStart => exact ⟨0, by omega, rfl, rfl⟩
  case round =>
    obtain ⟨k, hk, rfl, ht⟩ := hrel
    by_cases hlt : k < len
    · obtain ⟨g, rfl, _, _, hx⟩ := HP.out (by omega)
      have c1 := hx k (.int .i64 (l.getD k 0)) (by unfold intsZ; simp [List.getD_eq_getElem?_getD, HLEN.out, hlt])
      have c2 : 0 < k → w.cell? ⟨g, k - 1, none⟩ = some (.int .i64 (l.getD (k - 1) 0)) := fun hk0 => by
        have hk1 : k - 1 < l.length := by rw [HLEN.out]; omega
        exact hx (k - 1) (.int .i64 (l.getD (k - 1) 0)) (by unfold intsZ; simp [List.getD_eq_getElem?_getD, hk1])
      have hsu := rowTo_succ n S l k
      have hno := rowTo_no n S l k ht
      rw [ht, Bool.true_and] at hsu
      unfold rowOk at hsu hno
      have HS := Lib.hid hsu
      have HN := Lib.hid hno
      have k1 := kR (l.getD k 0)
      have k2 := kD (l.getD k 0)
      have k3 := kD (l.getD (k - 1) 0)
      clear hx hsu hno ht kR kD
      generalize l.getD k 0 = x at *
      generalize l.getD (k - 1) 0 = y at *
      generalize rootB n S x = b at *
      generalize degOf n S x = d at *
      generalize degOf n S y = d2 at *
      cases b with
      | false =>
        go_wp2_with (go_at_call 115; refine (k1).mono ?_; rintro e w' ⟨rfl, rfl⟩)
        go_ret
        exact ⟨ret_bool (HN.out rfl _ hlt).symm, rfl⟩
      | true =>
        by_cases hk0 : k = 0
        · subst hk0
          clear c2
          go_wp2_with (go_at_call 115; refine (k1).mono ?_; rintro e w' ⟨rfl, rfl⟩)
          go_round
          case rel => exact ⟨1, by omega, rfl, HS.out⟩
          case measure => simp [intOf]; omega
        · have c3 := c2 (by omega)
          have hk1 : 1 ≤ k := by omega
          clear c2
          obtain ⟨k', rfl⟩ : ∃ k', k = k' + 1 := ⟨k - 1, by omega⟩
          simp only [Nat.add_sub_cancel] at c3
          by_cases hd : d2 < d
          · have hd' : ¬ (d ≤ d2) := by omega
            go_wp2_with (first | (go_at_call 115; (with_reducible refine (k1).mono ?_); rintro e w' ⟨rfl, rfl⟩) | (go_at_call 57; (with_reducible refine (k3).mono ?_); rintro e w' ⟨rfl, rfl⟩) | (go_at_call 57; (with_reducible refine (k2).mono ?_); rintro e w' ⟨rfl, rfl⟩))
            go_round
            case rel => exact ⟨k' + 1 + 1, by omega, by go_num, by rw [HS.out]; simp [hd]⟩
            case measure => simp [intOf]; omega
          · have hd' : d ≤ d2 := by omega
            go_wp2_with (first | (go_at_call 115; (with_reducible refine (k1).mono ?_); rintro e w' ⟨rfl, rfl⟩) | (go_at_call 57; (with_reducible refine (k3).mono ?_); rintro e w' ⟨rfl, rfl⟩) | (go_at_call 57; (with_reducible refine (k2).mono ?_); rintro e w' ⟨rfl, rfl⟩))
            go_ret
            exact ⟨ret_bool (HN.out (by simp; omega) _ hlt).symm, rfl⟩
    · obtain rfl : k = len := by omega
      go_wp2
      go_ret
      exact ⟨by first | rfl | exact ret_bool ht.symm, rfl⟩
end Go.Proofs.Ytighgbdijagolaa

set_option linter.unusedVariables false
set_option linter.unusedSimpArgs false
namespace Go.Proofs.Ytighgbdijagolaa
open Go Go.RowKit

def CS.setV (S : CS) (x : Nat) (v : Value) (l : List Int) : CS := ⟨fun y => if y = x then v else S.v y, fun y => if y = x then l else S.k y, S.u⟩
def CS.setU (S : CS) (x : Nat) (p : Int) : CS := ⟨S.v, S.k, fun y => if y = x then p else S.u y⟩
theorem CS.setU_blk (S : CS) (x : Nat) (p : Int) (n : Nat) : (S.setU x p).blk n = S.blk n := rfl
theorem CS.setV_blk (S : CS) (x : Nat) (v : Value) (l : List Int) (n g : Nat) (h : g ∈ (S.setV x v l).blk n) : g ∈ S.blk n ∨ v.ownBlock = some g := by
  obtain ⟨y, hy, he⟩ := (CS.mem_blk _ n g).1 h
  unfold CS.setV at he
  simp only at he
  split at he
  · exact Or.inr he
  · exact Or.inl ((CS.mem_blk _ n g).2 ⟨y, hy, he⟩)

theorem ForestAt.setUp {w : World} {bt ba lo n : Nat} {S : CS} (h : ForestAt w bt ba lo n S) (x : Nat) (hx : x < n) (p : Int) : ForestAt (w.setCell ⟨ba, x * 2 + 1, none⟩ (.int .i64 p)) bt ba lo n (S.setU x p) := by
  have hu : Upd [ba] w (w.setCell ⟨ba, x * 2 + 1, none⟩ (.int .i64 p)) := (Upd.refl _ _).setCell (Or.inl (by simp)) _
  refine ⟨h.head.upd hu (by simp; exact h.ne), (h.row.set _ _).ext (fun j hj => ?_), fun y hy => owns_upd (h.own y hy) hu (fun k hk hm => ?_), h.sep, h.ne, h.lt1, h.lt2, Nat.le_trans h.low hu.size, h.le, h.len⟩
  · unfold nodeCell CS.setU
    simp only
    by_cases hj1 : j = x * 2 + 1
    · subst hj1; rw [if_pos rfl, if_neg (by omega), show (x * 2 + 1) / 2 = x by omega, if_pos rfl]
    · rw [if_neg hj1]
      by_cases h2 : j % 2 = 0
      · rw [if_pos h2, if_pos h2]
      · rw [if_neg h2, if_neg h2, if_neg (by omega)]
  · have := ((h.own y hy).lt k hk).1
    have := h.lt2
    simp at hm; omega
theorem ForestAt.setKids {w w1 : World} {bt ba lo n : Nat} {S : CS} (h : ForestAt w bt ba lo n S) (x : Nat) (hx : x < n) (v : Value) (l : List Int) {F : List Nat} (hu : Upd F w w1) (hF : ∀ g, g ∈ F → (S.v x).ownBlock = some g)
    (ho : w1.ownsRow lo 3 1 v l.length (intsZ l)) (hb : ∀ g, v.ownBlock = some g → (S.v x).ownBlock = some g ∨ w.heap.size ≤ g) (hl : l.length ≤ n) : ForestAt (w1.setCell ⟨ba, x * 2, none⟩ v) bt ba lo n (S.setV x v l) := by
  have hFx : ∀ g, g ∈ F → lo ≤ g ∧ g < w.heap.size := fun g hg => (h.own x hx).lt g (hF g hg)
  have hl1 := h.lt1
  have hl2 := h.lt2
  have hu2 : Upd [ba] w1 (w1.setCell ⟨ba, x * 2, none⟩ v) := (Upd.refl _ _).setCell (Or.inl (by simp)) _
  have hr := h.row.upd hu (fun hm => by have := hFx _ hm; omega)
  refine ⟨(h.head.upd hu (fun hm => by have := hFx _ hm; omega)).upd hu2 (by simp; exact h.ne), (hr.set _ _).ext (fun j hj => ?_), fun y hy => ?_, ?_, h.ne, h.lt1, h.lt2, Nat.le_trans (Nat.le_trans h.low hu.size) hu2.size, h.le, ?_⟩
  · unfold nodeCell CS.setV
    simp only
    by_cases hj1 : j = x * 2
    · subst hj1; rw [if_pos rfl, if_pos (by omega), show (x * 2) / 2 = x by omega, if_pos rfl]
    · rw [if_neg hj1]
      by_cases h2 : j % 2 = 0
      · rw [if_pos h2, if_pos h2, if_neg (by omega)]
      · rw [if_neg h2, if_neg h2]
  · unfold CS.setV
    simp only
    by_cases hyx : y = x
    · rw [if_pos hyx, if_pos hyx]
      exact owns_upd ho hu2 (fun k hk hm => by have := (ho.lt k hk).1; simp at hm; omega)
    · rw [if_neg hyx, if_neg hyx]
      have h1 := h.own y hy
      have h2 := owns_upd h1 hu (fun k hk hm => h.sep y x hy hx hyx k hk (hF k hm))
      exact owns_upd h2 hu2 (fun k hk hm => by have := (h1.lt k hk).1; simp at hm; omega)
  · intro y z hy hz hyz g hg
    unfold CS.setV at hg ⊢
    simp only at hg ⊢
    by_cases hyx : y = x
    · rw [if_pos hyx] at hg
      rw [if_neg (fun e => hyz (by rw [hyx, e]))]
      rcases hb g hg with h1 | h1
      · exact h.sep x z hx hz (by omega) g h1
      · intro h2
        have := ((h.own z hz).lt g h2).2
        omega
    · rw [if_neg hyx] at hg
      by_cases hzx : z = x
      · rw [if_pos hzx]
        intro h2
        rcases hb g h2 with h1 | h1
        · exact h.sep y x hy hx hyx g hg h1
        · have := ((h.own y hy).lt g hg).2
          omega
      · rw [if_neg hzx]; exact h.sep y z hy hz hyz g hg
  · intro y hy
    unfold CS.setV
    simp only
    by_cases hyx : y = x
    · rw [if_pos hyx]; exact hl
    · rw [if_neg hyx]; exact h.len y hy

end Go.Proofs.Ytighgbdijagolaa

set_option linter.unusedVariables false
set_option linter.unusedSimpArgs false
namespace Go.Proofs.Ytighgbdijagolaa
open Go Go.RowKit

def linkS (S : CS) (v : Value) (a b : Nat) : CS := (S.setV a v (S.k a ++ [(b : Int)])).setU b a

set_option maxHeartbeats 1000000 in
theorem link_yes (bt ba lo n : Nat) (S : CS) (a b : Nat) (w : World) (h : ForestAt w bt ba lo n S) (ha : a < n) (hb : b < n) (hra : rootB n S a = true) (hrb : rootB n S b = true) (hne : a ≠ b) (hd : degOf n S a = degOf n S b) (hlen : (S.k a).length + 1 ≤ n) :
    Calls Try.prog 118 #[.pointer (some ⟨bt, 0, none⟩), .int .i64 (a : Int), .int .i64 (b : Int)] w fun e w' => ∃ v, e = .returned (.bool true) ∧ ForestAt w' bt ba lo n (linkS S v a b) ∧ Upd (ba :: S.blk n) w w' ∧ (∀ g, g ∈ (linkS S v a b).blk n → g ∈ S.blk n ∨ w.heap.size ≤ g) := by
  have hle := h.le
  have hl1 := h.lt1
  have hl2 := h.lt2
  have hlow := h.low
  have hnb := h.ne
  have k1 := root_any bt ba lo n S a w h
  have k2 := root_any bt ba lo n S b w h
  have k3 := degree_any bt ba lo n S a w h
  have k4 := degree_any bt ba lo n S b w h
  rw [hra] at k1
  rw [hrb] at k2
  rw [hd] at k3
  have b1 : ((a : Int) == (b : Int)) = false := by simp; omega
  have ho := h.own a ha
  obtain ⟨sa, cap, hv, hcap⟩ := own_slice ho
  have hFx : ∀ g, g ∈ (S.v a).ownBlock.toList → lo ≤ g ∧ g < w.heap.size := fun g hg => ho.lt g (by simpa using hg)
  have r1 : ∀ W, Upd (S.v a).ownBlock.toList w W → W.cell? ⟨bt, 0, none⟩ = some (.slice (some ⟨ba, 0, none⟩) n n) := fun W hW => by
    rw [hW.cell h.head.lt (fun hm => by have := hFx _ hm; simp at this; omega)]; exact h.head.cell 0 (by omega)
  have r2 : ∀ W, Upd (S.v a).ownBlock.toList w W → W.cell? ⟨ba, a * 2, none⟩ = some (S.v a) := fun W hW => by
    rw [hW.cell h.row.lt (fun hm => by have := hFx _ hm; simp at this; omega)]; exact h.row.cellAt (a * 2) (by omega) (nodeCell0 S a)
  have r3 : ∀ W, Upd (S.v a).ownBlock.toList w W → W.cell? ⟨ba, b * 2 + 1, none⟩ = some (.int .i64 (S.u b)) := fun W hW => by
    rw [hW.cell h.row.lt (fun hm => by have := hFx _ hm; simp at this; omega)]; exact h.row.cellAt (b * 2 + 1) (by omega) (nodeCell1 S b)
  have q1 : ∀ W, Upd (S.v a).ownBlock.toList w W → W.frozen? ⟨ba, a * 2, none⟩ = false := fun W hW => by
    rw [hW.frozen h.row.lt (fun hm => by have := hFx _ hm; simp at this; omega)]; exact h.row.free _
  have q2 : ∀ W, Upd (S.v a).ownBlock.toList w W → W.frozen? ⟨ba, b * 2 + 1, none⟩ = false := fun W hW => by
    rw [hW.frozen h.row.lt (fun hm => by have := hFx _ hm; simp at this; omega)]; exact h.row.free _
  have s0 : Upd (S.v a).ownBlock.toList w w := Upd.refl _ _
  have H := Lib.hid h
  have HV := Lib.hid hv
  have hk := intsZ_len (S.k a)
  have HLEN := Lib.hid hlen
  generalize hva : S.v a = va at *
  have HVA := Lib.hid hva
  subst hv
  clear h hra hrb hd hva hne
  go_enter Try.func118, Try.ntmps118
  go_wp2_with (first
    | (go_at_call 115; (with_reducible refine (k1).mono ?_); rintro e w9 ⟨rfl, hw9⟩; rw [hw9]; clear hw9 w9)
    | (go_at_call 115; (with_reducible refine (k2).mono ?_); rintro e w9 ⟨rfl, hw9⟩; rw [hw9]; clear hw9 w9)
    | (go_at_call 57; (with_reducible refine (k3).mono ?_); rintro e w9 ⟨rfl, hw9⟩; rw [hw9]; clear hw9 w9)
    | (go_at_call 57; (with_reducible refine (k4).mono ?_); rintro e w9 ⟨rfl, hw9⟩; rw [hw9]; clear hw9 w9))
  have s1 : Upd (Value.slice sa (S.k a).length cap).ownBlock.toList w (w.drew.alloc (.cells #[.int .i64 (b : Int)] 3)) := s0.drew.alloc _
  have g1 := r1 _ s0
  have g2 := r2 _ s0
  have a1 := r1 _ (s0.alloc (.cells #[.int .i64 (b : Int)] 3))
  have a2 := r2 _ (s0.alloc (.cells #[.int .i64 (b : Int)] 3))
  go_region_law
    (first
      | (refine step_append_one rfl _ _ 63 rfl lo 3 (.int .i64 0) 1 8 Try.underlying63 intInfo rfl (by decide) (.slice sa (S.k a).length cap) (S.k a).length (intsZ (S.k a)) rfl (ho.drew.alloc _) w.heap.size [.int .i64 (b : Int)] rfl rfl (fun j u hj => newCell0 w [.int .i64 (b : Int)] 3 j u hj) (by simp [Value.oneCell']) (by unfold maxLen; omega) (by omega) (by simp; omega) ?_
         intro v2 w2 ho2 hu2 hv2
         have hS2 : Upd (Value.slice sa (S.k a).length cap).ownBlock.toList w w2 := s1.trans hu2
         have g3 := r1 _ hS2
         have g4 := r2 _ hS2
         have g5 := q1 _ hS2
         obtain ⟨a2, cap2, rfl, hcap2⟩ := own_slice ho2))
  all_goals
    have ho3 : w2.ownsRow lo 3 1 (.slice a2 ((S.k a).length + 1) cap2) (S.k a ++ [(b : Int)]).length (intsZ (S.k a ++ [(b : Int)])) := by rw [intsZ_append, List.length_append]; exact ho2
    have hF := H.out.setKids a ha (.slice a2 ((S.k a).length + 1) cap2) (S.k a ++ [(b : Int)]) hS2 (fun g hg => by rw [HVA.out]; simpa using hg) ho3 (fun g hg => by
      rcases hv2 with h | h
      · rw [h] at hg; exact Or.inl (by rw [HVA.out]; exact hg)
      · rw [h] at hg; simp at hg; exact Or.inr (by omega)) (by rw [List.length_append]; exact hlen)
    have e0 := hF.head.cell 0 (by omega)
    have e1 := hF.row.cell (b * 2 + 1) (by omega)
    have e2 := hF.row.free (b * 2 + 1)
    have HF := Lib.hid hF
    have HV2 := Lib.hid hv2
    clear hF hv2 ho2 ho3 r1 r2 r3 q1 q2
    go_wp2
    go_ret
    refine ⟨_, rfl, HF.out.setUp b hb a, ?_, fun g hg => ?_⟩
    · refine ((hS2.mono (fun g hg => ?_)).setCell (Or.inl (by simp)) _).setCell (Or.inl (by simp)) _
      simp only [List.mem_cons]
      refine Or.inr ((S.mem_blk n g).2 ⟨a, ha, ?_⟩)
      rw [HVA.out]; simpa using hg
    · rcases S.setV_blk a (.slice a2 ((S.k a).length + 1) cap2) (S.k a ++ [(b : Int)]) n g hg with h | h
      · exact Or.inl h
      · rcases HV2.out with h2 | h2
        · exact Or.inl ((S.mem_blk n g).2 ⟨a, ha, by rw [HVA.out, ← h2]; exact h⟩)
        · rw [h2] at h; simp at h; exact Or.inr (by omega)
end Go.Proofs.Ytighgbdijagolaa
