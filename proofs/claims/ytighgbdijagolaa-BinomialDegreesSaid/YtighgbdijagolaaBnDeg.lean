/-
  Binomial heaps: Nest.Degrees; binary digits. Conditions: those of each lemma.
-/
import Derived.Test.YtighgbdijagolaaGbk
set_option linter.unusedVariables false
set_option linter.unusedSimpArgs false
namespace Go.Proofs.Ytighgbdijagolaa
open Go Go.RowKit

/-- The places of the ones of a number's binary digits, from place b on. -/
def digB : Nat → Nat → Nat → List Nat
  | 0, _, _ => []
  | f + 1, b, M => if M = 0 then [] else if M % 2 = 1 then b :: digB f (b + 1) (M / 2) else digB f (b + 1) (M / 2)
theorem dig_eq : ∀ (f b M : Nat) (l : List Nat), M < 2 ^ f → l.Pairwise (· < ·) → (∀ d, d ∈ l → b ≤ d) → (l.map (2 ^ ·)).sum = 2 ^ b * M → l = digB f b M
  | 0, b, M, l, hM, hs, hb, hw => by
    have : M = 0 := by omega
    subst this
    exact bits_zero hw
  | f + 1, b, M, l, hM, hs, hb, hw => by
    have hM2 : M / 2 < 2 ^ f := by rw [Nat.pow_succ] at hM; omega
    unfold digB
    by_cases h0 : M = 0
    · rw [if_pos h0]
      subst h0
      exact bits_zero hw
    · rw [if_neg h0]
      by_cases h1 : M % 2 = 1
      · rw [if_pos h1]
        obtain ⟨t, rfl, h2, h3⟩ := bits_odd hs hb hw h1
        rw [List.pairwise_cons] at hs
        rw [dig_eq f (b + 1) (M / 2) t hM2 hs.2 h2 h3]
      · rw [if_neg h1]
        obtain ⟨h2, h3⟩ := bits_even hs hb hw (by omega)
        exact dig_eq f (b + 1) (M / 2) l hM2 hs h2 h3
/-- The degrees of a heap's roots. -/
def degsR (A : NS) (G : BG) (q : Int) : List Int := if hasN A q then (G.R q.toNat).map (degF A.cs.length G.F) else []
def degsN (A : NS) (G : BG) (h : Nat) : List Nat := (G.R h).map (fun x => (degF A.cs.length G.F x).toNat)
def natsI (l : List Nat) : List Int := l.map (fun x : Nat => (x : Int))
theorem degF_nn (n : Nat) (F : CF) (x : Int) : 0 ≤ degF n F x := by unfold degF; split <;> omega
theorem degs_dig {A : NS} {G : BG} (I : BnI A G) (ok : A.Ok) {h : Nat} (h1 : 1 ≤ h) : degsN A G h = digB 17 0 (lenN A h) := by
  refine dig_eq 17 0 _ _ ?_ ?_ (fun d _ => Nat.zero_le _) ?_
  · have := lenN_le ok (h : Int); omega
  · unfold degsN
    rw [List.pairwise_map]
    exact (I.rh.row h).2.imp (fun {a b} hab => by have := degF_nn A.cs.length G.F a; omega)
  · have := I.w h h1
    unfold wt at this
    rw [Nat.pow_zero, Nat.one_mul, ← this]
    unfold degsN
    rw [List.map_map]
    rfl
theorem degsR_dig {A : NS} {G : BG} (I : BnI A G) (ok : A.Ok) (q : Int) : degsR A G q = natsI (digB 17 0 (lenN A q)) := by
  unfold degsR
  cases hh : hasN A q with
  | false => rw [if_neg (by simp), lenN_zero ok hh]; rfl
  | true =>
    have := (hasN_iff _ _).1 hh
    obtain ⟨h, rfl⟩ : ∃ h : Nat, q = h := ⟨q.toNat, by omega⟩
    rw [if_pos rfl, Int.toNat_natCast, ← degs_dig I ok (by omega)]
    unfold degsN natsI
    rw [List.map_map]
    exact List.map_congr_left (fun x _ => by have := degF_nn A.cs.length G.F x; simp only [Function.comp]; omega)
section
variable {w : World} {p : Nat} {FF : List Nat} {A : NS} {st : Nat} {G : BG}
set_option maxHeartbeats 2000000 in
theorem bdeg_any (h : BnK w p FF A st G) (q : Int) :
    Calls Try.prog 27 #[.pointer (some ⟨p, 0, none⟩), .int .i64 q] w fun e w' => ∃ v, e = .returned v ∧ w'.ownsRow w.heap.size 3 1 v (degsR A G q).length (intsZ (degsR A G q)) ∧ Upd [] w w' := by
  obtain ⟨⟨B, F, gr, cr, lo, S, vs, rfl, rfl, M, eF⟩, I⟩ := h
  unfold degsR
  cases hh : hasN A q with
  | false =>
    rw [if_neg (by simp)]
    have kr := brow_no M q hh
    clear M I hh eF
    go_enter Try.func27, Try.ntmps27
    go_wp2_with ((go_at_call 56; (with_reducible refine (kr).mono ?_); rintro e w9 ⟨rfl, hw9⟩; rw [hw9]; clear hw9 w9))
    go_loopw [5, 12] (fun s5 s12 wr => s5 = .slice none 0 0 ∧ s12 = .int .i64 0 ∧ wr = w) (fun _ _ _ => 0)
    case atStart => exact ⟨rfl, rfl, rfl⟩
    case round =>
      obtain ⟨rfl, rfl, rfl⟩ := hrel
      go_wp2
      go_ret
      exact ⟨_, rfl, World.ownsRow_nil _ _ _ _, Upd.refl _ _⟩
  | true =>
    rw [if_pos rfl]
    obtain ⟨k, rfl, hk1, hkv⟩ := M.hq hh
    rw [Int.toNat_natCast]
    obtain ⟨a, cap, hv, hl1, hl2⟩ := M.shape hkv
    have kr := brow_yes M k hh hv
    have hsl : SlI w [] (vs.getD k undef) (G.R k) := (M.each k hkv).sl (fun g _ => by simp)
    rw [hv] at hsl
    have kd := fun W (hW : Upd [] w W) (x : Int) => degree_any B.bt B.ba lo A.cs.length S x W (M.cubes.upd0 hW)
    have ed : ∀ x, degOf A.cs.length S x = degF A.cs.length G.F x := fun x => by rw [← eF]; rfl
    have hb : ∀ x, x ∈ G.R k → degF A.cs.length G.F x ≤ 65536 := fun x hx => by
      obtain ⟨y, rfl, hy, _⟩ := bn_in I hx
      rw [degF_nat _ _ hy]
      have := I.fh.f.len hy
      have := M.cubes.le
      omega
    have h1 := M.h1
    have hrl : (G.R k).length ≤ 65536 := Nat.le_trans (nodup_le A.cs.length _ (I.rh.row k).nodup (fun z hz => ⟨((I.rh.row k).1 z hz).1, ((I.rh.row k).1 z hz).2.1⟩)) M.cubes.le
    have HS := Lib.hid hsl
    have HD := Lib.hid (And.intro ed hb)
    clear M I hh eF hv hsl ed hb
    generalize hln : (G.R k).length = n at *
    have HL := Lib.hid hln
    clear hln
    go_enter Try.func27, Try.ntmps27
    go_wp2_with ((go_at_call 56; (with_reducible refine (kr).mono ?_); rintro e w9 ⟨rfl, hw9⟩; rw [hw9]; clear hw9 w9))
    go_loopw [5, 12] (fun s5 s12 wr => ∃ j : Nat, j ≤ n ∧ s12 = .int .i64 (j : Int) ∧ wr.ownsRow w.heap.size 3 1 s5 j (intsZ (((G.R k).take j).map (degF A.cs.length G.F))) ∧ Upd [] w wr) (fun _ s12 _ => n - (intOf s12).toNat)
    case atStart => exact ⟨0, by omega, rfl, by simpa [intsZ] using World.ownsRow_nil _ _ _ _, Upd.refl _ _⟩
    case round =>
      obtain ⟨j, hj, rfl, ho, hu⟩ := hrel
      rename World => wr
      by_cases hjn : j < n
      · obtain ⟨x, hxx⟩ : ∃ x, (G.R k)[j]? = some x := ⟨(G.R k)[j]'(by rw [HL.out]; exact hjn), by simp⟩
        obtain ⟨a4, c4, e4, _, _, h4⟩ := HS.out
        have ea : a = a4 := by injection e4
        subst ea
        obtain ⟨g4, o4, rfl, _, _, hc4⟩ := h4 j x hxx
        have hc5 := hu.was hc4
        have kd1 := kd wr hu x
        rw [HD.out.1] at kd1
        have h1r := hu.was h1
        obtain ⟨a5, c5, rfl, hc6⟩ := own_slice ho
        have hw1 : IntKind.i64.wrap ((j : Int) + 1) = (j : Int) + 1 := IntWalk.i64_in _ (by omega)
        have et : ((G.R k).take (j + 1)).map (degF A.cs.length G.F) = ((G.R k).take j).map (degF A.cs.length G.F) ++ [degF A.cs.length G.F x] := by rw [List.take_add_one, hxx]; simp
        have ET := Lib.hid et
        have hsz := hu.size
        have HU := Lib.hid hu
        have hjI : (j : Int) < (n : Int) := by omega
        clear e4 h4 hc4 hxx et
        generalize degF A.cs.length G.F x = d at *
        go_wp2_with (first
          | (go_at_call 57; (with_reducible refine (kd1).mono ?_); rintro e w9 ⟨rfl, hw9⟩; rw [hw9]; clear hw9 w9)
          | (at_builtin; refine wpList_append_sep rfl _ _ 63 rfl w.heap.size 3 (.int .i64 0) 1 8 Try.underlying63 intInfo rfl (by decide) _ _ _ rfl (ho) [.int .i64 d] rfl (by simp [Value.oneCell']) (by first | rfl | (rw [World.size_alloc]; rfl)) (by unfold maxLen; omega) (by omega) ((by omega)) ?_; intro v2 w2 ho2 hu2 hsep2))
        go_roundw
        case rel =>
          refine ⟨j + 1, by omega, by go_num, ?_, HU.out.own ho (Nat.le_refl _) hu2⟩
          rw [ET.out, intsZ_append]; exact ho2
        case measure => simp [intOf]; omega
      · obtain rfl : j = n := by omega
        obtain ⟨a5, c5, rfl, hc6⟩ := own_slice ho
        have hfin : ((G.R k).take j).map (degF A.cs.length G.F) = (G.R k).map (degF A.cs.length G.F) := by rw [List.take_of_length_le (by rw [HL.out]; omega)]
        rw [hfin] at ho
        have HO := Lib.hid (And.intro ho hu)
        clear ho hu hfin
        go_wp2
        go_ret
        exact ⟨_, rfl, by rw [List.length_map, HL.out]; exact HO.out.1, HO.out.2⟩
end
end Go.Proofs.Ytighgbdijagolaa
