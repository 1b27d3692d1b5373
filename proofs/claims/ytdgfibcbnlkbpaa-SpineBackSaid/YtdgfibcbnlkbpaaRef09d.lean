/-
  The document's trees (haycockref09): Cut, Turn, Root. Conditions: those of each lemma.
-/
import Derived.Test.YtdgfibcbnlkbpaaRef09c
set_option linter.unusedVariables false
set_option linter.unusedSimpArgs false
namespace Go.Proofs.Ytdgfibcbnlkbpaa
open Go Go.RowKit

def cutL (l : List Hg) (x : Int) : List Hg := l.filter (fun h => h.x != x)
def turnL (l : List Hg) (p : Int) : List Hg := l.map (fun h => if h.p = p then ⟨h.p, h.x, !h.r⟩ else h)

theorem cut_snoc (l : List Hg) (x : Int) (k : Nat) (h : Hg) (hk : l[k]? = some h) : cutL (l.take (k + 1)) x = cutL (l.take k) x ++ (if h.x = x then [] else [h]) := by
  unfold cutL
  rw [List.take_add_one, hk, List.filter_append]
  congr 1
  by_cases e : h.x = x <;> simp [e]
theorem turn_snoc (l : List Hg) (p : Int) (k : Nat) (h : Hg) (hk : l[k]? = some h) : turnL (l.take (k + 1)) p = turnL (l.take k) p ++ [if h.p = p then ⟨h.p, h.x, !h.r⟩ else h] := by
  unfold turnL
  rw [List.take_add_one, hk, List.map_append]; rfl
theorem cut_len (l : List Hg) (x : Int) : (cutL l x).length ≤ l.length := List.length_filter_le _ _

set_option maxHeartbeats 2000000 in
theorem rcut_any (w : World) (lo : Nat) (n x : Int) (v : Value) (l : List Hg) (h : LstAt w lo v l.length (hgCells l)) (hl : l.length ≤ 1000) (hlo : lo ≤ w.heap.size) :
    Calls Try.prog 53 #[.agg #[.int .i64 n, v], .int .i64 x] w fun e w' => ∃ v', e = .returned (.tuple #[.agg #[.int .i64 n, v'], .int .i64 (ov (upL l x)), .bool (ob (upL l x))]) ∧ LstAt w' w.heap.size v' (cutL l x).length (hgCells (cutL l x)) ∧ Upd [] w w' := by
  obtain ⟨a, cap, rfl, hcp, hlc, hp⟩ := h.open
  have k3 := fun W (hW : Upd [] w W) => rup_any W lo n x (.slice a l.length cap) l (h.upd hW (by simp))
  have HP := Lib.hid hp
  clear hp h
  generalize hlen : l.length = len at *
  have HLEN := Lib.hid hlen
  clear hlen
  generalize ob (upL l x) = z1 at k3
  generalize ov (upL l x) = z2 at k3
  have r0 : ∀ W, Upd [] ((w.alloc (.cells #[.int .i64 n, .slice a len cap] 52)).alloc (.cells #[.int .i64 0, .slice none 0 0] 52)) W → W.cell? ⟨w.heap.size, 0, none⟩ = some (.int .i64 n) := fun W h => h.was (by simp)
  have r1 : ∀ W, Upd [] ((w.alloc (.cells #[.int .i64 n, .slice a len cap] 52)).alloc (.cells #[.int .i64 0, .slice none 0 0] 52)) W → W.cell? ⟨w.heap.size, 1, none⟩ = some (.slice a len cap) := fun W h => h.was (by simp)
  go_enter Try.func53, Try.ntmps53
  go_wp2_with (go_at_call 57; refine (k3 _ (((Upd.refl _ _).alloc _).alloc _)).mono ?_; rintro e w1 ⟨rfl, hq⟩; have g0 := r0 _ hq; have g1 := r1 _ hq; have g2 := ((Upd.refl [] w1).alloc (.cells #[.int .i64 n, .slice none 0 0] 52)).was g0; have g3 := ((Upd.refl [] w1).alloc (.cells #[.int .i64 n, .slice none 0 0] 52)).was g1)
  have hR := (rowAt_new (w.alloc (.cells #[.int .i64 n, .slice a len cap] 52)) [.int .i64 0, .slice none 0 0] 52).upd hq (by simp)
  rw [World.size_alloc] at hR
  have hs1 := hq.size
  simp only [World.size_alloc] at hs1
  have hB : ∀ W, Upd [w1.heap.size] (w1.alloc (.cells #[.int .i64 n, .slice none 0 0] 52)) W → Upd [] w W := fun W hW => ((((Upd.refl [] w).alloc _).alloc _).trans hq).joined (((Upd.refl [w1.heap.size] w1).alloc _).trans hW) (fun x hx => Or.inr (by simp at hx; omega))
  have q1 : ∀ W, Upd [w1.heap.size] (w1.alloc (.cells #[.int .i64 n, .slice none 0 0] 52)) W → RowAt W (w.heap.size + 1) 52 2 (fun j => [Value.int .i64 0, .slice none 0 0].getD j undef) := fun W hW => (hR.alloc _).upd hW (by simp; omega)
  clear r0 r1 hR
  go_loopw [24] (fun i wr => ∃ (k : Nat) (vo : Value), k ≤ len ∧ i = .int .i64 (k : Int) ∧ RowAt wr w1.heap.size 52 2 (fun j => if j = 0 then .int .i64 n else vo) ∧ wr.ownsRow (w1.heap.size + 1) 88 3 vo (cutL (l.take k) x).length (hgCells (cutL (l.take k) x)) ∧ Upd [w1.heap.size] (w1.alloc (.cells #[.int .i64 n, .slice none 0 0] 52)) wr) (fun i _ => len - (intOf i).toNat)
  case atStart => exact ⟨0, .slice none 0 0, by omega, rfl, (rowAt_new w1 [.int .i64 n, .slice none 0 0] 52).ext (fun j hj => by simp at hj; rcases (by omega : j = 0 ∨ j = 1) with rfl | rfl <;> rfl), World.ownsRow_nil _ _ _ _, Upd.refl _ _⟩
  case round =>
    obtain ⟨k, vo, hk, rfl, hrow, hown, hu⟩ := hrel
    have hul := hu.size
    simp only [World.size_alloc] at hul
    by_cases hlt : k < len
    · obtain ⟨g, rfl, hg1, hg2, hx⟩ := HP.out (by omega)
      obtain ⟨⟨hp, hxx, hr⟩, hhk⟩ : ∃ hh, l[k]? = some hh := ⟨l[k]'(by rw [HLEN.out]; exact hlt), by simp⟩
      obtain ⟨z0, z1', z2'⟩ := hg_at l k _ hhk
      have c0 := (hB _ hu).was (hx _ _ z0)
      have c1 := (hB _ hu).was (hx _ _ z1')
      have c2 := (hB _ hu).was (hx _ _ z2')
      have d1 := ((Upd.refl [] wr).alloc (.cells #[.int .i64 hp, .int .i64 hxx, .bool hr] 88)).was (hrow.cellAt 1 (by omega) (v := vo) rfl)
      have hcl : (cutL (l.take k) x).length ≤ 1000 := by have := cut_len (l.take k) x; rw [List.length_take] at this; omega
      have HS := Lib.hid (cut_snoc l x k _ hhk)
      have HB := Lib.hid hB
      have HQ := Lib.hid q1
      clear hx z0 z1' z2' hhk hB q1
      by_cases hxe : hxx = x
      · have b1 : (hxx != x) = false := by simpa using hxe
        rw [if_pos hxe] at HS
        clear hxe
        go_wp2
        go_roundw
        case rel => exact ⟨k + 1, vo, by omega, by go_num, hrow.alloc _, by rw [HS.out, List.append_nil]; exact hown.alloc _, hu.alloc _⟩
        case measure => simp [intOf]; omega
      · have b1 : (hxx != x) = true := by simpa using hxe
        rw [if_neg hxe] at HS
        clear hxe
        go_wp2_with ((at_builtin; refine wpList_append_sep rfl _ _ 50 rfl (w1.heap.size + 1) 88 (.agg #[.int .i64 0, .int .i64 0, .bool false]) 3 24 Try.underlying50 hungInfo rfl (by decide) _ _ _ rfl (hown.alloc _) [.int .i64 (hp), .int .i64 (hxx), .bool (hr)] rfl (by simp [Value.oneCell']) (by first | rfl | (rw [World.size_alloc]; rfl)) (by unfold maxLen; omega) (by omega) ((by simp; omega)) ?_; intro v2 w2 ho2 hu2 hs2); obtain ⟨a2, cap2, rfl, hc2⟩ := own_slice ho2; have hb2 := below_of_own (hown.alloc _) (by simp; omega) hu2; have hrow2 := (hrow.alloc _).same (hb2.block _ (by omega)); have e1 := hrow2.cellAt 1 (by omega) (v := vo) rfl; have e2 := hrow2.free 1)
        have hu3 := (hu.alloc _).over hb2 (by simp)
        go_roundw
        case rel => exact ⟨k + 1, _, by omega, by go_num, (hrow2.set 1 _).ext (fun j hj => by rcases (by omega : j = 0 ∨ j = 1) with rfl | rfl <;> rfl), by rw [HS.out, hg_append, List.length_append]; exact owns_upd ho2 ((Upd.refl [w1.heap.size] _).setCell (Or.inl (by simp)) _) (fun k hk hm => by have := (ho2.lt k hk).1; simp at hm; omega), hu3.setCell (Or.inl (by simp)) _⟩
        case measure => simp [intOf]; omega
    · obtain rfl : k = len := by omega
      have d0 := hrow.cellAt 0 (by omega) (v := .int .i64 n) rfl
      have d1 := hrow.cellAt 1 (by omega) (v := vo) rfl
      have e0 := (q1 _ hu).cellAt 0 (by omega) rfl
      have e1 := (q1 _ hu).cellAt 1 (by omega) rfl
      have f0 := (q1 _ hu).free 0
      have f1 := (q1 _ hu).free 1
      have hBB := hB _ hu
      rw [List.take_of_length_le (by rw [HLEN.out]; omega)] at hown
      obtain ⟨a2, cap2, rfl, hc2⟩ := own_slice hown
      clear hB q1
      go_wp2
      refine bodyPost_ret (v := .tuple #[.agg #[.int .i64 n, .slice a2 (cutL l x).length cap2], .int .i64 z2, .bool z1]) (by simp [results, Try.results53, go_sem, e0, e1]) rfl ⟨_, rfl, ?_, ?_⟩
      · exact (LstAt.of_owns (owns_upd hown (((Upd.refl [w.heap.size + 1] _).setCell (Or.inl (by simp)) _).setCell (Or.inl (by simp)) _) (fun k hk hm => by have := (hown.lt k hk).1; simp at hm; omega))).mono (by omega)
      · exact (hBB.setCell (Or.inr (by simp)) _).setCell (Or.inr (by simp)) _
end Go.Proofs.Ytdgfibcbnlkbpaa
