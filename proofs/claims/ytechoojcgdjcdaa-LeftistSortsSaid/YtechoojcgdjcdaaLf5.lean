/-
  Leftist heaps: mend. Conditions: those of each lemma.
-/
import Derived.Test.YtechoojcgdjcdaaLf4
import Derived.Test.YtechoojcgdjcdaaBt2
set_option linter.unusedVariables false
set_option linter.unusedSimpArgs false
namespace Go.Proofs.Ytechoojcgdjcdaa
open Go Go.RowKit

/-- On the way up with mending. -/
structure Mend (S0 : TS) (rk0 : Nat → Nat) (T : BT) (X : List Nat) (S : TS) (rk : Nat → Nat) (P : List Fr) (was x : Nat) (l r : BT) : Prop where
  isT : IsT S (-1) (plug P (.node x l r)).root (plug P (.node x l r))
  perm : (plug P (.node x l r)).nodes.Perm X
  rl : RkOk rk l
  rr : RkOk rk r
  rx : rk x = was
  rP : RkP rk P was
  far : ∀ y, y ∉ X → S0.at S y ∧ rk y = rk0 y
  res : mendT P was x l r = T
structure MendEnd (S0 : TS) (rk0 : Nat → Nat) (T : BT) (X : List Nat) (S : TS) (rk : Nat → Nat) : Prop where
  isT : IsT S (-1) T.root T
  isR : RkOk rk T
  far : ∀ y, y ∉ X → S0.at S y ∧ rk y = rk0 y
section
variable {S0 S S2 : TS} {rk0 rk rk2 : Nat → Nat} {T : BT} {X : List Nat} {P : List Fr} {was x : Nat} {l r : BT}
theorem Mend.parts (h : Mend S0 rk0 T X S rk P was x l r) (hX : X.Nodup) : x ∈ X ∧ (BT.node x l r).nodes.Nodup ∧ (∀ y, y ∈ (BT.node x l r).nodes → y ∈ X) ∧ (∀ y, y ∈ ctxN P → y ≠ x ∧ y ∈ X) ∧ (ctxN P).Nodup := by
  have hp := (plug_nodes P (.node x l r)).symm.trans h.perm
  have hn := hp.nodup_iff.2 hX
  rw [List.nodup_append] at hn
  refine ⟨hp.mem_iff.1 (by simp [BT.nodes]), hn.1, fun y hy => hp.mem_iff.1 (List.mem_append_left _ hy), fun y hy => ⟨fun e => hn.2.2 x (by simp [BT.nodes]) y hy e.symm, hp.mem_iff.1 (List.mem_append_right _ hy)⟩, hn.2.1⟩
theorem Mend.settled (h : Mend S0 rk0 T X S rk P was x l r) (hX : X.Nodup) (hT2 : IsT S2 (upP P) x (settleT x l r)) (hs : ∀ y, y ≠ x → S.at S2 y) (hk : ∀ y, y ≠ x → rk2 y = rk y) :
    IsT S2 (-1) (plug P (settleT x l r)).root (plug P (settleT x l r)) ∧ RkP rk2 P was ∧ (∀ y, y ∉ X → S0.at S2 y ∧ rk2 y = rk0 y) ∧ (plug P (settleT x l r)).nodes.Perm X := by
  obtain ⟨p1, p2, p3, p4, p5⟩ := h.parts hX
  refine ⟨(isT_plug _ _).2 ⟨by rw [settle_root]; exact hT2, ?_⟩, h.rP.frame (fun y hy => hk y (p4 y hy).1), fun y hy => ?_, ?_⟩
  · have := ((isT_plug _ _).1 h.isT).2
    rw [settle_root]
    exact this.frame (fun y hy => hs y (p4 y hy).1)
  · have hne : y ≠ x := fun e => hy (by rw [e]; exact p1)
    have a1 := h.far y hy
    have a2 := hs y hne
    exact ⟨⟨a2.1.trans a1.1.1, a2.2.1.trans a1.1.2.1, a2.2.2.trans a1.1.2.2⟩, (hk y hne).trans a1.2⟩
  · exact (plug_nodes P _).trans (((settle_nodes x l r).append_right _).trans ((plug_nodes P (.node x l r)).symm.trans h.perm))
theorem Mend.stay (h : Mend S0 rk0 T X S rk P was x l r) (hX : X.Nodup) (hT2 : IsT S2 (upP P) x (settleT x l r)) (hr2 : RkOk rk2 (settleT x l r)) (hs : ∀ y, y ≠ x → S.at S2 y) (hk : ∀ y, y ≠ x → rk2 y = rk y)
    (e : (settleT x l r).rank = was) : MendEnd S0 rk0 T X S2 rk2 := by
  obtain ⟨a1, a2, a3, a4⟩ := h.settled hX hT2 hs hk
  have hT : T = plug P (settleT x l r) := by
    rw [← h.res]
    cases P with
    | nil => rfl
    | cons f P => unfold mendT; rw [if_pos e]
  rw [hT]
  exact ⟨a1, (rk_plug _ _).2 ⟨hr2, by rw [e]; exact a2⟩, a3⟩
theorem Mend.top (h : Mend S0 rk0 T X S rk [] was x l r) (hX : X.Nodup) (hT2 : IsT S2 (upP []) x (settleT x l r)) (hr2 : RkOk rk2 (settleT x l r)) (hs : ∀ y, y ≠ x → S.at S2 y) (hk : ∀ y, y ≠ x → rk2 y = rk y) :
    MendEnd S0 rk0 T X S2 rk2 := by
  obtain ⟨a1, a2, a3, a4⟩ := h.settled hX hT2 hs hk
  have hT : T = plug [] (settleT x l r) := by rw [← h.res]; rfl
  rw [hT]
  exact ⟨a1, hr2, a3⟩
theorem Mend.up {f : Fr} (h : Mend S0 rk0 T X S rk (f :: P) was x l r) (hX : X.Nodup) (hT2 : IsT S2 (upP (f :: P)) x (settleT x l r)) (hr2 : RkOk rk2 (settleT x l r)) (hs : ∀ y, y ≠ x → S.at S2 y) (hk : ∀ y, y ≠ x → rk2 y = rk y)
    (e : (settleT x l r).rank ≠ was) : ∃ l' r', Mend S0 rk0 T X S2 rk2 P (upRank f was) f.1 l' r' := by
  obtain ⟨a1, a2, a3, a4⟩ := h.settled hX hT2 hs hk
  have hres := h.res
  unfold mendT at hres
  rw [if_neg e] at hres
  unfold plug at a1 a4
  by_cases hsd : f.2.1 = true
  · rw [if_pos hsd] at hres
    have e1 : plug1 f (settleT x l r) = .node f.1 f.2.2 (settleT x l r) := by unfold plug1; rw [if_pos hsd]
    rw [e1] at a1 a4
    exact ⟨_, _, a1, a4, a2.1, hr2, a2.2.1, a2.2.2, a3, hres⟩
  · rw [if_neg hsd] at hres
    have e1 : plug1 f (settleT x l r) = .node f.1 (settleT x l r) f.2.2 := by unfold plug1; rw [if_neg hsd]
    rw [e1] at a1 a4
    exact ⟨_, _, a1, a4, hr2, a2.1, a2.2.1, a2.2.2, a3, hres⟩
end
theorem ctx_fst : ∀ {P : List Fr}, (ctxN P).Nodup → (P.map (·.1)).Nodup ∧ ∀ y, y ∈ P.map (·.1) → y ∈ ctxN P
  | [], _ => ⟨List.nodup_nil, fun y hy => by cases hy⟩
  | f :: P, h => by
    simp only [ctxN, List.nodup_cons, List.mem_append, not_or, List.nodup_append] at h
    obtain ⟨h1, h2⟩ := ctx_fst (P := P) h.2.2.1
    refine ⟨List.nodup_cons.2 ⟨fun hm => h.1.2 (h2 _ hm), h1⟩, fun y hy => ?_⟩
    simp only [List.map_cons, List.mem_cons] at hy
    rcases hy with rfl | hy
    · simp [ctxN]
    · simp [ctxN, h2 y hy]
theorem idx_at {L done rest : List Nat} {x : Nat} (hL : L.Nodup) (e : L = done ++ x :: rest) : L.idxOf x = done.length ∧ done.length < L.length := by
  subst e
  have hx : x ∉ done := fun hm => by
    rw [List.nodup_append] at hL
    exact hL.2.2 x hm x (by simp) rfl
  refine ⟨by rw [List.idxOf_append, if_neg hx]; simp, by simp⟩
section
variable {w : World} {B : LB} {F : List Nat} {gt ct : Nat} {A : NS} {st : Nat} {S : TS} {rk : Nat → Nat} {tops : List Int}
set_option maxHeartbeats 8000000 in
theorem lmend_any (h : LfM w B F gt ct A st S rk tops) {P : List Fr} {was x : Nat} {l r : BT} (hM : Mend S rk (mendT P was x l r) (plug P (.node x l r)).nodes S rk P was x l r) (hX : (plug P (.node x l r)).nodes.Nodup)
    (hlt : ∀ y, y ∈ (plug P (.node x l r)).nodes → y < A.cs.length) :
    Calls Try.prog 139 #[.pointer (some ⟨B.n0, 0, none⟩), .int .i64 (x : Int)] w fun e w' => e = .returned (.tuple #[]) ∧ Upd [B.ba, B.br] w w' ∧
      ∃ S' rk', LfM w' B F gt ct A st S' rk' tops ∧ MendEnd S rk (mendT P was x l r) (plug P (.node x l r)).nodes S' rk' := by
  generalize hT : mendT P was x l r = T at *
  generalize hXX : (plug P (.node x l r)).nodes = X at *
  have hL : (x :: P.map (·.1)).Nodup := by
    obtain ⟨p1, p2, p3, p4, p5⟩ := hM.parts hX
    obtain ⟨q1, q2⟩ := ctx_fst p5
    exact List.nodup_cons.2 ⟨fun hm => (p4 x (q2 x hm)).1 rfl, q1⟩
  generalize hLL : x :: P.map (·.1) = L at *
  have hblk := h.lt
  have hcF := h.cF
  have hs := Lib.hid h.sep
  have hA := h.cells.ok.c1
  have HM0 := Lib.hid h
  have MM := Lib.hid hM
  have HX := Lib.hid hX
  have HL := Lib.hid hL
  have HLL := Lib.hid hLL
  have HLT := Lib.hid hlt
  clear h hM hX hL hlt hT hXX hblk hLL
  go_enter Try.func139, Try.ntmps139
  go_wp2
  go_loopw [1] (fun a wr => ∃ (S1 : TS) (rk1 : Nat → Nat), LfM wr B F gt ct A st S1 rk1 tops ∧ Upd [B.ba, B.br] w wr ∧ ((∃ (P1 : List Fr) (was1 x1 : Nat) (l1 r1 : BT) (dn : List Nat), a = .int .i64 (x1 : Int) ∧ L = dn ++ x1 :: P1.map (·.1) ∧ Mend S rk T X S1 rk1 P1 was1 x1 l1 r1) ∨ (a = .int .i64 (-1) ∧ MendEnd S rk T X S1 rk1))) (fun a _ => if intOf a = -1 then 0 else L.length - L.idxOf (intOf a).toNat)
  case atStart => exact ⟨S, rk, HM0.out, Upd.refl _ _, Or.inl ⟨P, was, x, l, r, [], rfl, HLL.out.symm, MM.out⟩⟩
  case round =>
    obtain ⟨S1, rk1, hM, hu, hor⟩ := hrel
    rename World => w5
    rcases hor with ⟨P1, was1, x1, l1, r1, dn, rfl, hLe, hMe⟩ | ⟨rfl, hE⟩
    · have hxb : ((x1 : Int) != -1) = true := by simp
      obtain ⟨p1, p2, p3, p4, p5⟩ := hMe.parts HX.out
      have hx1 := HLT.out x1 p1
      have h0 := hM.h0
      have h2 := hM.h2
      have d0 := hM.ranks.cell x1 hx1
      have ex := hMe.rx
      rw [ex] at d0
      have hT1 := ((isT_plug _ _).1 hMe.isT).1
      have ks := lsettle_tree hM (p := upP P1) hT1 hMe.rl hMe.rr p2 (fun y hy => HLT.out y (p3 y hy))
      have ME := Lib.hid hMe
      have HLe := Lib.hid hLe
      have hu1 : S1.u x1 = upP P1 := hT1.2.1
      have HPU := Lib.hid hu1
      clear hMe p1 p2 p3 p4 p5 hT1 hM ex hLe hu1
      go_wp2_with fail
      refine ks.mono ?_
      rintro e w7 ⟨rfl, hu7, S3, rk3, hM7, hT7, hr7, hs7, hsu, hk7⟩
      have e7 : rk3 x1 = (settleT x1 l1 r1).rank := by
        have := hr7.root (by unfold settleT; split <;> simp)
        rw [settle_root] at this
        simpa using this
      have g2 := hM7.h2
      have g1 := hM7.h1
      have d7 := hM7.ranks.cell x1 hx1
      rw [e7] at d7
      have hsu2 : S3.u x1 = upP P1 := hsu.trans HPU.out
      have ku := up_any B.bt B.ba A.cs.length S3 (x1 : Int) w7 hM7.trees
      rw [show upOf A.cs.length S3 (x1 : Int) = upP P1 by unfold upOf; rw [if_pos (by omega)]; simpa using hsu2] at ku
      have HM7 := Lib.hid hM7
      have HQ7 := Lib.hid (And.intro hT7 (And.intro hr7 (And.intro hs7 hk7)))
      have HU7 := Lib.hid (hu.trans hu7)
      have hrk : ∃ k3, (settleT x1 l1 r1).rank = k3 := ⟨_, rfl⟩
      obtain ⟨k3, hrk⟩ := hrk
      rw [hrk] at d7
      have HRK := Lib.hid hrk
      clear hM7 hT7 hr7 hs7 hk7 hu hu7 hsu hsu2 e7 ks h0 h2 d0 hrk HPU
      by_cases he : k3 = was1
      · have hb : ((k3 : Int) == (was1 : Int)) = true := by rw [he]; simp
        go_wp2
        exact bodyPost_ret (v := .tuple #[]) (by simp [results, Try.results139, go_sem]) rfl ⟨rfl, HU7.out, S3, rk3, HM7.out, ME.out.stay HX.out HQ7.out.1 HQ7.out.2.1 HQ7.out.2.2.1 HQ7.out.2.2.2 (HRK.out.trans he)⟩
      · have hb : ((k3 : Int) == (was1 : Int)) = false := by simp; omega
        have HNE := Lib.hid (show (settleT x1 l1 r1).rank ≠ was1 from fun e => he (HRK.out.symm.trans e))
        generalize hz : upP P1 = z at *
        clear he
        go_wp2_with (first
          | (go_at_call 103; (with_reducible refine (ku).mono ?_); rintro e w8 ⟨rfl, kk, rfl⟩)
          | (go_at_call 86; (with_reducible refine (lkid_any _ _).mono ?_); rintro e w9 ⟨rfl, hw9⟩; rw [hw9]; clear hw9 w9)
          | fail)
        cases P1 with
        | nil =>
          subst hz
          refine ⟨⟨S3, rk3, HM7.out.upd0 ((Upd.refl _ _).drewN kk), HU7.out.drewN kk, Or.inr ⟨rfl, ME.out.top HX.out HQ7.out.1 HQ7.out.2.1 HQ7.out.2.2.1 HQ7.out.2.2.2⟩⟩, ?_⟩
          have hi := idx_at HL.out HLe.out
          show (if ((-1 : Int)) = -1 then 0 else _) < (if ((x1 : Int)) = -1 then 0 else L.length - L.idxOf ((x1 : Int)).toNat)
          rw [if_pos rfl, if_neg (by omega), Int.toNat_natCast, hi.1]
          omega
        | cons f P2 =>
          subst hz
          obtain ⟨l2, r2, hM2⟩ := ME.out.up HX.out HQ7.out.1 HQ7.out.2.1 HQ7.out.2.2.1 HQ7.out.2.2.2 HNE.out
          refine ⟨⟨S3, rk3, HM7.out.upd0 ((Upd.refl _ _).drewN kk), HU7.out.drewN kk, Or.inl ⟨P2, _, f.1, l2, r2, dn ++ [x1], rfl, by rw [HLe.out]; simp, hM2⟩⟩, ?_⟩
          have hi := idx_at HL.out HLe.out
          have hi2 := idx_at (done := dn ++ [x1]) (x := f.1) (rest := P2.map (·.1)) HL.out (by rw [HLe.out]; simp)
          show (if ((f.1 : Int)) = -1 then 0 else L.length - L.idxOf ((f.1 : Int)).toNat) < (if ((x1 : Int)) = -1 then 0 else L.length - L.idxOf ((x1 : Int)).toNat)
          rw [if_neg (by omega), if_neg (by omega), Int.toNat_natCast, Int.toNat_natCast, hi.1, hi2.1]
          rw [List.length_append, List.length_singleton] at hi2 ⊢
          omega
    · go_wp2
      (first | go_end0 | go_ret)
      exact ⟨rfl, hu, S1, rk1, hM, hE⟩
end
end Go.Proofs.Ytechoojcgdjcdaa
