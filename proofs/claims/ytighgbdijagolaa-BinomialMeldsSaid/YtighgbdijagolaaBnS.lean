/-
  Binomial heaps beside the document's nest, plainly: what comes in, what is melded, what is first. No program in sight. Conditions: those of each lemma.
-/
import Derived.Test.YtighgbdijagolaaBnR
set_option linter.unusedVariables false
set_option linter.unusedSimpArgs false
namespace Go.Proofs.Ytighgbdijagolaa

/-- A slot comes into a heap. -/
def putG (A' : NS) (h x : Nat) (G : BG) : BG := addG (aheadN A') A'.cs.length h [(x : Int)] G
def putQ (A' : NS) (h x : Nat) (G : BG) : Nat := (carC (aheadN A') A'.cs.length G.F (G.R h) [(x : Int)]).q
/-- All of one heap come into another one. -/
def meldB (G : BG) (b : Nat) : BG := ⟨G.F, setR G.R b []⟩
def meldG (A' : NS) (a b : Nat) (G : BG) : BG := addG (aheadN A') A'.cs.length a (G.R b) (meldB G b)
def meldQ (A' : NS) (a b : Nat) (G : BG) : Nat := (carC (aheadN A') A'.cs.length G.F (G.R a) (G.R b)).q
theorem rowF_nil (n : Nat) (F : CF) : RowF n F [] := ⟨fun x hx => (by cases hx), List.Pairwise.nil⟩
theorem bn_new (n : Nat) : BnI (NS.new n) BG.none := by
  have hc := fun y => NS.new_c n y
  have hn : (NS.new n).cs.length = n := by simp [NS.new]
  refine ⟨⟨by rw [hn]; exact fok_none n, fun y p hy hu => ?_, fun y p hy hu => ?_, fun y hy hh => ⟨rfl, rfl⟩⟩, ⟨fun h => rowF_nil _ _, fun h y => ⟨fun hm => (by cases hm), fun hm => ?_⟩⟩, fun h hh => ?_⟩
  · have : (-1 : Int) = p := hu
    omega
  · have : (-1 : Int) = p := hu
    omega
  · have h2 := hm.2.2.2
    rw [hc] at h2
    simp [Cl.z] at h2
    omega
  · have : ¬ 0 < lenN (NS.new n) (h : Int) := fun hp => by
      obtain ⟨y, _, h2, h3⟩ := lenN_pos.1 hp
      rw [hc] at h2
      simp [Cl.z] at h2
      omega
    show (0 : Nat) = _
    omega
theorem make_c (A : NS) (y : Nat) : (makeN A).c y = A.c y := by unfold makeN; split <;> rfl
theorem make_cs (A : NS) : (makeN A).cs = A.cs := by unfold makeN; split <;> rfl
section
variable {A : NS} {G : BG}
theorem bn_make (B : BnI A G) : BnI (makeN A) G := by
  have hc := make_c A
  have hs : (makeN A).cs.length = A.cs.length := by rw [make_cs]
  refine ⟨⟨by rw [hs]; exact B.fh.f, fun y p hy hu => by rw [hc, hc]; exact B.fh.home y p (by rw [← hs]; exact hy) hu, fun y p hy hu => (lt3_same (hc p) (hc y)).2 (B.fh.ord y p (by rw [← hs]; exact hy) hu), fun y hy hh => B.fh.alone y (by rw [← hs]; exact hy) (by rw [← hc]; exact hh)⟩,
    ⟨fun h => by rw [hs]; exact B.rh.row h, fun h y => by rw [hs, hc]; exact B.rh.mem h y⟩, fun h hh => by rw [hs, lenN_make]; exact B.w h hh⟩
theorem put_bn {h x : Nat} (k s : Int) (B : BnI A G) (ok : A.Ok) (hB : putB A h x = true) :
    BnI (putN A h x k s) (putG (putN A h x k s) h x G) ∧ putQ (putN A h x k s) h x G + ((putG (putN A h x k s) h x G).R h).length = (G.R h).length + 1 ∧
      RowF A.cs.length G.F [(x : Int)] ∧ (∀ z, z ∈ G.R h → z ∉ [(x : Int)]) ∧ (∀ z, z ∈ G.R h ∨ z ∈ [(x : Int)] → inN (putN A h x k s) z = true) ∧ (putN A h x k s).cs.length = A.cs.length := by
  obtain ⟨b1, b2, b3⟩ := (putB_iff _ _ _).1 hB
  have b4 := (hasN_iff _ _).1 b1
  have hx : x < A.cs.length := by have := (slotN_iff _ _).1 b2; omega
  have hh1 : 1 ≤ h := by omega
  have h0 : ¬ 0 < (A.c x).i := fun hp => by rw [(inN_nat _ _).2 ⟨hx, hp⟩] at b3; cases b3
  have eA : putN A h x k s = withN A x ⟨h, k, s⟩ := by unfold putN; rw [if_pos hB, Int.toNat_natCast]
  have hcs : (putN A h x k s).cs.length = A.cs.length := by rw [eA]; exact len_with _ _ _
  have hc : ∀ y, (putN A h x k s).c y = if y = x then ⟨h, k, s⟩ else A.c y := fun y => by
    rw [eA, c_with]
    by_cases e : y = x
    · rw [if_pos ⟨e, hx⟩, if_pos e]
    · rw [if_neg (fun h => e h.1), if_neg e]
  have al := B.fh.alone x hx h0
  have hne : ∀ y p : Nat, y < A.cs.length → G.F.u y = p → y ≠ x ∧ p ≠ x := fun y p hy hu => ⟨fun e => by subst e; rw [al.1] at hu; omega, fun e => by
    subst e
    have := (B.fh.f.above hy hu).2
    rw [al.2] at this; cases this⟩
  have hF : FH A.cs.length G.F (fun y => ((putN A h x k s).c y).i) (lt3 (putN A h x k s)) := by
    refine ⟨B.fh.f, fun y p hy hu => ?_, fun y p hy hu => ?_, fun y hy hh => ?_⟩
    · obtain ⟨e1, e2⟩ := hne y p hy hu
      rw [hc, hc, if_neg e1, if_neg e2]; exact B.fh.home y p hy hu
    · obtain ⟨e1, e2⟩ := hne y p hy hu
      exact (lt3_same (by rw [hc, if_neg e2]) (by rw [hc, if_neg e1])).2 (B.fh.ord y p hy hu)
    · by_cases e : y = x
      · rw [hc, if_pos e] at hh
        simp only at hh
        omega
      · rw [hc, if_neg e] at hh
        exact B.fh.alone y hy hh
  have hin : ∀ y : Nat, y < A.cs.length → ((putN A h x k s).c y).i = (h : Int) → inN (putN A h x k s) (y : Int) = true := fun y hy e => (inN_nat _ _).2 ⟨by omega, by omega⟩
  have hl : RowF A.cs.length G.F [(x : Int)] := ⟨fun z hz => by simp at hz; subst hz; exact ⟨by omega, by omega, by simpa using al.1⟩, List.pairwise_singleton _ _⟩
  have hd : ∀ z, z ∈ G.R h → z ∉ [(x : Int)] := fun z hz hm => by
    simp at hm
    subst hm
    have := ((B.rh.mem h x).1 hz).2.2.2
    omega
  have hm : ∀ y : Nat, y < A.cs.length ∧ G.F.u y = -1 ∧ ((putN A h x k s).c y).i = (h : Int) ↔ (y : Int) ∈ G.R h ∨ (y : Int) ∈ [(x : Int)] := fun y => by
    rw [B.rh.mem h y]
    simp only [List.mem_singleton]
    by_cases e : y = x
    · subst e
      rw [hc, if_pos rfl]
      exact ⟨fun _ => Or.inr rfl, fun _ => ⟨hx, al.1, rfl⟩⟩
    · rw [hc, if_neg e]
      constructor
      · rintro ⟨a1, a2, a3⟩; exact Or.inl ⟨hh1, a1, a2, a3⟩
      · rintro (⟨_, a1, a2, a3⟩ | a4)
        · exact ⟨a1, a2, a3⟩
        · omega
  obtain ⟨r1, r2, r3, r4⟩ := add_sound (G := G) (lt := aheadN (putN A h x k s)) (h := h) hF ok.c1 (aheadN_asym _) (fun y p hy hp h1 h2 hne ha => ahead_no (hin y hy h1) (hin p hp h2) hne ha) hh1 B.rh.row (fun q y hq => by
    rw [B.rh.mem q y]
    by_cases e : y = x
    · subst e
      rw [hc, if_pos rfl]
      constructor
      · rintro ⟨a1, _, _, a3⟩; omega
      · rintro ⟨a1, _, _, a3⟩; simp only at a3; omega
    · rw [hc, if_neg e]) hm hl hd
  unfold putG putQ
  rw [hcs]
  refine ⟨⟨by rw [hcs]; exact r1, by rw [hcs]; exact r2, fun q hq => ?_⟩, by simpa using r4, hl, hd, fun z hz => ?_, rfl⟩
  · rw [hcs, r3 q]
    have hlen := lenN_with A x ⟨h, k, s⟩ (q : Int) hx
    rw [← eA] at hlen
    rw [if_neg (by omega)] at hlen
    have wx : wt A.cs.length G.F [(x : Int)] = 1 := by
      unfold wt
      simp only [List.map_cons, List.map_nil, List.sum_cons, List.sum_nil]
      rw [degF_nat _ _ hx, al.2]; rfl
    have wq := B.w q hq
    by_cases e : q = h
    · subst e
      rw [if_pos ⟨rfl, by omega⟩] at hlen
      rw [if_pos rfl, wx]
      omega
    · rw [if_neg (fun h => e (by have := h.1; simp only at this; omega))] at hlen
      rw [if_neg e]
      omega
  · have key : ∃ y : Nat, z = y ∧ y < A.cs.length ∧ ((putN A h x k s).c y).i = (h : Int) := by
      rcases hz with hz | hz
      · have hr := (B.rh.row h).1 z hz
        obtain ⟨y, rfl⟩ := Int.eq_ofNat_of_zero_le hr.1
        have := (hm y).2 (Or.inl hz)
        exact ⟨y, rfl, this.1, this.2.2⟩
      · simp at hz
        subst hz
        have := (hm x).2 (Or.inr (by simp))
        exact ⟨x, rfl, this.1, this.2.2⟩
    obtain ⟨y, rfl, h1, h2⟩ := key
    exact hin y h1 h2
theorem meld_bn {a b : Nat} (B : BnI A G) (ok : A.Ok) (hj : joinB A a b = true) :
    BnI (joinN A a b) (meldG (joinN A a b) a b G) ∧ meldQ (joinN A a b) a b G + ((meldG (joinN A a b) a b G).R a).length = (G.R a).length + (G.R b).length ∧
      (∀ z, z ∈ G.R a → z ∉ G.R b) ∧ (∀ z, z ∈ G.R a ∨ z ∈ G.R b → inN (joinN A a b) z = true) := by
  obtain ⟨j1, j2, j3⟩ := (joinB_iff _ _ _).1 hj
  have a1 := (hasN_iff _ _).1 j1
  have a2 := (hasN_iff _ _).1 j2
  have hab : a ≠ b := fun e => j3 (by rw [e])
  have ha1 : 1 ≤ a := by omega
  have hcs := joinN_len A (a : Int) (b : Int)
  have hc : ∀ y : Nat, y < A.cs.length → ((joinN A a b).c y).i = if (A.c y).i = b then (a : Int) else (A.c y).i := fun y hy => by
    rw [join_c hj]
    simp only
    by_cases e : (A.c y).i = b
    · rw [if_pos ⟨e, hy⟩, if_pos e]
    · rw [if_neg (fun h => e h.1), if_neg e]
  have hF : FH A.cs.length G.F (fun y => ((joinN A a b).c y).i) (lt3 (joinN A a b)) := by
    refine ⟨B.fh.f, fun y p hy hu => ?_, fun y p hy hu => ?_, fun y hy hh => ?_⟩
    · have hp := (B.fh.f.above hy hu).1
      have e : (A.c y).i = (A.c p).i ∧ 0 < (A.c y).i := B.fh.home y p hy hu
      rw [hc y hy, hc p hp, ← e.1]
      refine ⟨rfl, ?_⟩
      split
      · omega
      · exact e.2
    · exact (join_lt3 hj p y).2 (B.fh.ord y p hy hu)
    · rw [hc y hy] at hh
      split at hh
      · omega
      · exact B.fh.alone y hy hh
  have hin : ∀ y : Nat, y < A.cs.length → ((joinN A a b).c y).i = (a : Int) → inN (joinN A a b) (y : Int) = true := fun y hy e => (inN_nat _ _).2 ⟨by omega, by omega⟩
  have eRa : (meldB G b).R a = G.R a := by unfold meldB setR; simp only [if_neg hab]
  have hd : ∀ z, z ∈ G.R a → z ∉ G.R b := fun z hz hm => by
    have hr := (B.rh.row a).1 z hz
    obtain ⟨y, rfl⟩ := Int.eq_ofNat_of_zero_le hr.1
    have e1 := ((B.rh.mem a y).1 hz).2.2.2
    have e2 := ((B.rh.mem b y).1 hm).2.2.2
    omega
  have hm : ∀ y : Nat, y < A.cs.length ∧ G.F.u y = -1 ∧ ((joinN A a b).c y).i = (a : Int) ↔ (y : Int) ∈ G.R a ∨ (y : Int) ∈ G.R b := fun y => by
    rw [B.rh.mem a y, B.rh.mem b y]
    constructor
    · rintro ⟨c1, c2, c3⟩
      rw [hc y c1] at c3
      split at c3
      · rename_i e; exact Or.inr ⟨by omega, c1, c2, e⟩
      · exact Or.inl ⟨ha1, c1, c2, c3⟩
    · rintro (⟨_, c1, c2, c3⟩ | ⟨_, c1, c2, c3⟩)
      · exact ⟨c1, c2, by rw [hc y c1, if_neg (by omega)]; exact c3⟩
      · exact ⟨c1, c2, by rw [hc y c1, if_pos c3]⟩
  obtain ⟨r1, r2, r3, r4⟩ := add_sound (G := meldB G b) (lt := aheadN (joinN A a b)) (h := a) (l := G.R b) hF ok.c1 (aheadN_asym _) (fun y p hy hp h1 h2 hne ha => ahead_no (hin y hy h1) (hin p hp h2) hne ha) ha1
    (fun q => by
      unfold meldB setR
      simp only
      split
      · exact rowF_nil _ _
      · exact B.rh.row q) (fun q y hq => by
      unfold meldB setR
      simp only
      by_cases e : q = b
      · rw [if_pos e]
        constructor
        · intro h; cases h
        · rintro ⟨_, c1, _, c3⟩
          rw [hc y c1] at c3
          split at c3 <;> omega
      · rw [if_neg e, B.rh.mem q y]
        constructor
        · rintro ⟨c0, c1, c2, c3⟩
          exact ⟨c0, c1, c2, by rw [hc y c1, if_neg (by omega)]; exact c3⟩
        · rintro ⟨c0, c1, c2, c3⟩
          rw [hc y c1] at c3
          split at c3
          · omega
          · exact ⟨c0, c1, c2, c3⟩) (fun y => by rw [eRa]; exact hm y) (B.rh.row b) (fun z hz => by rw [eRa] at hz; exact hd z hz)
  rw [eRa] at r4
  unfold meldG meldQ
  rw [hcs]
  refine ⟨⟨by rw [hcs]; exact r1, by rw [hcs]; exact r2, fun q hq => ?_⟩, r4, hd, fun z hz => ?_⟩
  · rw [hcs, r3 q, lenN_join ok hj (q : Int)]
    have wq := B.w q hq
    have wa := B.w a ha1
    have wb := B.w b (by omega)
    have eF : (meldB G b).F = G.F := rfl
    rw [eRa, eF]
    by_cases e : q = a
    · rw [if_pos e, if_pos (by omega)]; omega
    · rw [if_neg e, if_neg (by omega)]
      by_cases e2 : q = b
      · subst e2
        rw [if_pos rfl]
        unfold meldB setR
        simp only [if_true]
        rfl
      · rw [if_neg (by omega)]
        unfold meldB setR
        simp only [if_neg e2]
        exact wq
  · have key : ∃ y : Nat, z = y := by
      rcases hz with hz | hz
      · exact ⟨z.toNat, by have := (B.rh.row a).1 z hz; omega⟩
      · exact ⟨z.toNat, by have := (B.rh.row b).1 z hz; omega⟩
    obtain ⟨y, rfl⟩ := key
    have := (hm y).2 hz
    exact hin y this.1 this.2.2
/-- Each slot of a heap has a root above it, or is one. -/
theorem bn_top (B : BnI A G) : ∀ (m y : Nat), A.cs.length ≤ m + (G.F.k y).length → y < A.cs.length → 0 < (A.c y).i → ∃ T, T < A.cs.length ∧ G.F.u T = -1 ∧ (A.c T).i = (A.c y).i ∧ (T = y ∨ lt3 A T y)
  | m, y, hm, hy, hh => by
    rcases B.fh.f.up y hy with h1 | ⟨p, hp, h1, h2⟩
    · exact ⟨y, hy, h1, rfl, Or.inl rfl⟩
    · have hd := B.fh.f.udeg hy h1
      have hl := B.fh.f.len hp
      have ho : (A.c y).i = (A.c p).i ∧ 0 < (A.c y).i := B.fh.home y p hy h1
      match m, hm with
      | 0, hm => omega
      | m + 1, hm =>
        obtain ⟨T, t1, t2, t3, t4⟩ := bn_top B m p (by omega) hp (by omega)
        refine ⟨T, t1, t2, by rw [t3, ho.1], Or.inr ?_⟩
        have hl := B.fh.ord y p hy h1
        rcases t4 with e | e
        · rw [e]; exact hl
        · exact lt3_trans e hl
/-- The best of a row. -/
def best2 (lt : Int → Int → Bool) : Int → List Int → Int
  | b, [] => b
  | b, x :: t => best2 lt (if lt x b then x else b) t
theorem best2_in (lt : Int → Int → Bool) : ∀ (l : List Int) (b : Int), best2 lt b l ∈ b :: l
  | [], b => by simp [best2]
  | x :: t, b => by
    have key : ∀ c, best2 lt c t ∈ c :: t := fun c => best2_in lt t c
    unfold best2
    cases e : lt x b with
    | true =>
      rw [if_pos rfl]
      exact List.mem_cons_of_mem _ (key x)
    | false =>
      rw [if_neg (by simp)]
      rcases List.mem_cons.1 (key b) with h | h
      · rw [h]; simp
      · exact List.mem_cons_of_mem _ (List.mem_cons_of_mem _ h)
theorem best2_first {lt : Int → Int → Bool} {P : Int → Prop} (tr : ∀ a b c, P a → P b → P c → lt a b = true → lt b c = true → lt a c = true) (tot : ∀ a b, P a → P b → a ≠ b → lt a b = false → lt b a = true) :
    ∀ (l : List Int) (b : Int), P b → (∀ x, x ∈ l → P x) → ∀ x, x ∈ b :: l → x = best2 lt b l ∨ lt (best2 lt b l) x = true
  | [], b, _, _, x, hx => by simp at hx; subst hx; exact Or.inl rfl
  | y :: t, b, hb, hl, x, hx => by
    have hy := hl y (by simp)
    have ht := fun z hz => hl z (List.mem_cons_of_mem _ hz)
    unfold best2
    have hP : P (if lt y b then y else b) := by split; exact hy; exact hb
    have ih := best2_first tr tot t (if lt y b then y else b) hP ht
    have hbest : P (best2 lt (if lt y b then y else b) t) := by
      rcases List.mem_cons.1 (best2_in lt t (if lt y b then y else b)) with e | e
      · rw [e]; exact hP
      · exact ht _ e
    have via : ∀ z, P z → lt (if lt y b then y else b) z = true → z = best2 lt (if lt y b then y else b) t ∨ lt (best2 lt (if lt y b then y else b) t) z = true := fun z hz h => by
      rcases ih _ (List.mem_cons_self) with e | e
      · rw [← e]; exact Or.inr h
      · exact Or.inr (tr _ _ _ hbest hP hz e h)
    by_cases e : lt y b = true
    · rw [if_pos e] at ih via ⊢
      rcases List.mem_cons.1 hx with e1 | hx
      · subst e1; exact via x hb e
      · exact ih x hx
    · rw [if_neg e] at ih via ⊢
      have e : lt y b = false := by simpa using e
      rcases List.mem_cons.1 hx with e1 | hx
      · subst e1; exact ih x (by simp)
      · rcases List.mem_cons.1 hx with e1 | hx
        · subst e1
          by_cases exb : x = b
          · subst exb; exact ih x (by simp)
          · exact via x hy (tot x b hy hb exb e)
        · exact ih x (List.mem_cons_of_mem _ hx)
theorem bn_in (B : BnI A G) {h : Nat} {z : Int} (hz : z ∈ G.R h) : ∃ y : Nat, z = y ∧ y < A.cs.length ∧ inN A z = true ∧ (A.c y).i = h ∧ G.F.u y = -1 := by
  have hr := (B.rh.row h).1 z hz
  obtain ⟨y, rfl⟩ := Int.eq_ofNat_of_zero_le hr.1
  have := (B.rh.mem h y).1 hz
  have h4 : (A.c y).i = h := this.2.2.2
  exact ⟨y, rfl, this.2.1, (inN_nat _ _).2 ⟨this.2.1, by omega⟩, h4, this.2.2.1⟩
theorem bn_min (B : BnI A G) {h : Nat} (h1 : 1 ≤ h) {x : Int} {t : List Int} (hR : G.R h = x :: t) : ∃ m : Nat, best2 (aheadN A) x t = m ∧ minN A (h : Int) = some m ∧ m < A.cs.length ∧ G.F.u m = -1 ∧ (A.c m).i = h := by
  have hin : ∀ z, z ∈ x :: t → ∃ y : Nat, z = y ∧ y < A.cs.length ∧ inN A z = true ∧ (A.c y).i = h ∧ G.F.u y = -1 := fun z hz => bn_in B (by rw [hR]; exact hz)
  obtain ⟨m, e, m1, m2, m3, m4⟩ := hin _ (best2_in (aheadN A) t x)
  refine ⟨m, e, (minN_some (by omega)).2 ⟨m1, m3, fun y hy hh => ?_⟩, m1, m4, m3⟩
  have F := best2_first (lt := aheadN A) (P := fun z => ∃ y : Nat, z = y ∧ inN A z = true) (fun a b c ha hb hc h1 h2 => by
    obtain ⟨a, rfl, _⟩ := ha
    obtain ⟨b, rfl, _⟩ := hb
    obtain ⟨c, rfl, _⟩ := hc
    rw [ahead_nat] at h1 h2 ⊢
    simp only [Bool.and_eq_true, decide_eq_true_eq] at h1 h2 ⊢
    exact ⟨⟨h1.1.1, h2.1.2⟩, lt3_trans h1.2 h2.2⟩) (fun a b ha hb hne h1 => by
    obtain ⟨a, rfl, ia⟩ := ha
    obtain ⟨b, rfl, ib⟩ := hb
    have := ahead_no ia ib (fun e => hne (by rw [e])) h1
    rw [ahead_nat, ia, ib]
    simpa using this) t x (by obtain ⟨y, e, _, i, _⟩ := hin x (by simp); exact ⟨y, e, i⟩) (fun z hz => by obtain ⟨y, e, _, i, _⟩ := hin z (List.mem_cons_of_mem _ hz); exact ⟨y, e, i⟩)
  obtain ⟨T, t1, t2, t3, t4⟩ := bn_top B A.cs.length y (by omega) hy (by omega)
  have hT : (T : Int) ∈ x :: t := by rw [← hR]; exact (B.rh.mem h T).2 ⟨h1, t1, t2, by rw [t3]; exact hh⟩
  have hmT : T = m ∨ lt3 A m T := by
    rcases F _ hT with e2 | e2
    · rw [e] at e2; exact Or.inl (by omega)
    · rw [e, ahead_nat] at e2
      simp only [Bool.and_eq_true, decide_eq_true_eq] at e2
      exact Or.inr e2.2
  rcases t4 with e1 | e1
  · subst e1; exact hmT
  · rcases hmT with e2 | e2
    · subst e2; exact Or.inr e1
    · exact Or.inr (lt3_trans e2 e1)
theorem bn_none (B : BnI A G) {h : Nat} (h1 : 1 ≤ h) (hR : G.R h = []) : minN A (h : Int) = none := by
  have := B.w h h1
  rw [hR] at this
  exact (minN_none (by omega)).2 this.symm
end
end Go.Proofs.Ytighgbdijagolaa
