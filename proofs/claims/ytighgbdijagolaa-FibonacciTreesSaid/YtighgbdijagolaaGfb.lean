/-
  Fibonacci heaps beside the document's nest, plainly: the first slot; the first slot comes out. No program in sight. Conditions: those of each lemma.
-/
import Derived.Test.YtighgbdijagolaaGfa
import Derived.Test.YtighgbdijagolaaNestB
set_option linter.unusedVariables false
set_option linter.unusedSimpArgs false
namespace Go.Proofs.Ytighgbdijagolaa

/-- The roots of a table come to their heap, one behind the other. -/
def rtsL (lt : Nat → Nat → Bool) (h : Nat) : List Int → FG → Nat → FG × Nat
  | [], G, q => (G, q)
  | y :: t, G, q => if y = -1 then rtsL lt h t G q else rtsL lt h t (rootG lt h [y.toNat] G) (q + rootQ h G)
def plT (T : List Int) : List Nat := T.filterMap (fun y => if y = -1 then none else some y.toNat)
theorem plT_cons (y : Int) (t : List Int) : plT (y :: t) = if y = -1 then plT t else y.toNat :: plT t := by
  unfold plT; rw [List.filterMap_cons]; split <;> rename_i h <;> by_cases e : y = -1 <;> simp_all
theorem plT_len : ∀ T : List Int, (plT T).length = occ T
  | [] => rfl
  | y :: t => by
    rw [plT_cons]
    have ih := plT_len t
    unfold occ at *
    by_cases e : y = -1
    · rw [if_pos e, List.filter_cons_of_neg (by simpa using e)]; exact ih
    · rw [if_neg e, List.filter_cons_of_pos (by simpa using e)]; simp [ih]
/-- Some roots of a heap are in its ring, others are each in a ring of its own. -/
structure RI (n : Nat) (hom : Nat → Int) (L : Nat → Nat → Prop) (h : Nat) (ps : List Nat) (G : FG) : Prop where
  ff : FF n G hom L (fun _ => 0)
  fr : FR n G hom L (some h)
  ring : Ring G.nx (G.R h)
  top : ∀ t s, G.R h = t :: s → ∀ y, y ∈ s → L t y
  mem : ∀ y, y ∈ G.R h → RtF n G hom h y
  nd : ps.Nodup
  pr : ∀ z, z ∈ ps → RtF n G hom h z ∧ G.nx z = z ∧ z ∉ G.R h
  all : ∀ z, RtF n G hom h z → z ∈ G.R h ∨ z ∈ ps
section
variable {n : Nat} {hom : Nat → Int} {L : Nat → Nat → Prop} {h : Nat} {G : FG}
theorem RI.step {lt : Nat → Nat → Bool} {z : Nat} {ps : List Nat} (H : RI n hom L h (z :: ps) G) (h1 : 1 ≤ h) (hl : ∀ G, LtOk n G hom h L lt) (tr : ∀ a b c, L a b → L b c → L a c) :
    RI n hom L h ps (rootG lt h [z] G) ∧ ((rootG lt h [z] G).R h).length = (G.R h).length + 1 := by
  obtain ⟨z1, z2, z3⟩ := H.pr z (by simp)
  have hnd := List.nodup_cons.1 H.nd
  obtain ⟨c1, c2, c3, c4, c5⟩ := rootG_core H.ff h1 (hl G) tr H.ring (ring_one.2 z2) (fun y hy hm => by simp at hm; subst hm; exact z3 hy) H.mem (fun y hy => by simp at hy; subst hy; exact z1) H.top (fun y hy => by cases hy)
  obtain ⟨s1, s2, s3, s4⟩ := rootG_same lt h [z] G
  have rt : ∀ g y, RtF n (rootG lt h [z] G) hom g y ↔ RtF n G hom g y := fun g y => by unfold RtF; rw [s1]
  have mem' : ∀ y, y ∈ (rootG lt h [z] G).R h ↔ y ∈ G.R h ∨ y = z := fun y => by rw [c3.mem_iff]; simp
  refine ⟨⟨c1, ⟨fun g hg => ?_, fun g y hg => ?_, fun g t s hg hR => ?_⟩, c2, c4, fun y hy => ?_, hnd.2, fun y hy => ?_, fun y hy => ?_⟩, by rw [c3.length_eq]; simp⟩
  · have hgh : g ≠ h := fun e => hg (by rw [e])
    rw [s4 g hgh]
    refine c5 _ (H.fr.ring g hg) (fun y hy => ?_)
    have hm := (H.fr.mem g y hg).1 hy
    refine ⟨fun hm2 => hgh ?_, fun hm2 => hgh ?_⟩
    · have := (H.mem y hm2).2.2; have := hm.2.2.2; omega
    · simp at hm2; subst hm2; have := z1.2.2; have := hm.2.2.2; omega
  · have hgh : g ≠ h := fun e => hg (by rw [e])
    rw [s4 g hgh, s1]; exact H.fr.mem g y hg
  · have hgh : g ≠ h := fun e => hg (by rw [e])
    rw [s4 g hgh] at hR; exact H.fr.top g t s hg hR
  · rw [rt]
    rcases (mem' y).1 hy with hy | rfl
    · exact H.mem y hy
    · exact z1
  · obtain ⟨y1, y2, y3⟩ := H.pr y (by simp [hy])
    have hyz : y ≠ z := fun e => hnd.1 (e ▸ hy)
    refine ⟨(rt h y).2 y1, ring_one.1 (c5 [y] (ring_one.2 y2) (fun w hw => by simp at hw; subst hw; exact ⟨y3, by simpa using hyz⟩)), fun hm => ?_⟩
    rcases (mem' y).1 hm with hm | hm
    · exact y3 hm
    · exact hyz hm
  · rcases H.all y ((rt h y).1 hy) with a | a
    · exact Or.inl ((mem' y).2 (Or.inl a))
    · rcases List.mem_cons.1 a with a | a
      · exact Or.inl ((mem' y).2 (Or.inr a))
      · exact Or.inr a
theorem rootQ_min (h : Nat) (G : FG) : rootQ h G = min 1 (G.R h).length := by
  unfold rootQ
  cases G.R h with
  | nil => simp
  | cons t s => simp
theorem rts_ok {lt : Nat → Nat → Bool} (h1 : 1 ≤ h) (hl : ∀ G, LtOk n G hom h L lt) (tr : ∀ a b c, L a b → L b c → L a c) : ∀ (T : List Int) (G : FG) (q : Nat), RI n hom L h (plT T) G →
    RI n hom L h [] (rtsL lt h T G q).1 ∧ ((rtsL lt h T G q).1.up = G.up ∧ (rtsL lt h T G q).1.mr = G.mr ∧ (rtsL lt h T G q).1.K = G.K ∧ ∀ g, g ≠ h → (rtsL lt h T G q).1.R g = G.R g) ∧
      ((rtsL lt h T G q).1.R h).Perm (G.R h ++ plT T) ∧ (rtsL lt h T G q).2 + min 1 ((rtsL lt h T G q).1.R h).length = q + occ T + min 1 (G.R h).length
  | [], G, q, H => ⟨H, ⟨rfl, rfl, rfl, fun _ _ => rfl⟩, by simp [plT, rtsL], by simp [rtsL, occ]⟩
  | y :: t, G, q, H => by
    rw [plT_cons] at H
    unfold rtsL
    by_cases e : y = -1
    · rw [if_pos e] at H ⊢
      obtain ⟨r1, r2, r3, r4⟩ := rts_ok h1 hl tr t G q H
      refine ⟨r1, r2, by rw [plT_cons, if_pos e]; exact r3, ?_⟩
      have : occ (y :: t) = occ t := by unfold occ; rw [List.filter_cons_of_neg (by simpa using e)]
      rw [this]; exact r4
    · rw [if_neg e] at H ⊢
      obtain ⟨k1, k2⟩ := H.step h1 hl tr
      obtain ⟨s1, s2, s3, s4⟩ := rootG_same lt h [y.toNat] G
      obtain ⟨r1, r2, r3, r4⟩ := rts_ok h1 hl tr t _ (q + rootQ h G) k1
      have hp : ((rootG lt h [y.toNat] G).R h).Perm (G.R h ++ [y.toNat]) := by
        obtain ⟨z1, z2, z3⟩ := H.pr y.toNat (by simp)
        exact (rootG_core H.ff h1 (hl G) tr H.ring (ring_one.2 z2) (fun w hw hm => by simp at hm; subst hm; exact z3 hw) H.mem (fun w hw => by simp at hw; subst hw; exact z1) H.top (fun w hw => by cases hw)).2.2.1
      refine ⟨r1, ⟨r2.1.trans s1, r2.2.1.trans s2, r2.2.2.1.trans s3, fun g hg => (r2.2.2.2 g hg).trans (s4 g hg)⟩, ?_, ?_⟩
      · rw [plT_cons, if_neg e]
        exact r3.trans ((hp.append_right (plT t)).trans (by simp))
      · have : occ (y :: t) = occ t + 1 := by unfold occ; rw [List.filter_cons_of_pos (by simpa using e)]; rfl
        rw [this]
        rw [rootQ_min] at r4
        rw [rootQ_min]
        omega
/-- The roots of a table have each another degree. -/
theorem TT.degs {T : List Int} (H : TT n hom L h T [] G) : (plT T).Pairwise (fun a b => (G.K a).length ≠ (G.K b).length) := by
  unfold plT
  rw [List.pairwise_filterMap, List.pairwise_iff_getElem]
  intro i j hi hj hij a ha b hb
  have f : ∀ (i : Nat) (hi : i < T.length) (a : Nat), (if T[i] = -1 then none else some T[i].toNat) = some a → (G.K a).length = i := fun i hi a ha => by
    rcases H.tab i T[i] (List.getElem?_eq_getElem hi) with e | ⟨z, e1, _, e2, _⟩
    · rw [if_pos e] at ha; cases ha
    · rw [if_neg (by omega)] at ha
      have : T[i].toNat = a := by injection ha
      obtain rfl : z = a := by omega
      exact e2
  rw [f i hi a ha, f j hj b hb]; omega
theorem TT.ri {T : List Int} (H : TT n hom L h T [] G) : RI n hom L h (plT T) G := by
  have hm : ∀ z, z ∈ plT T ↔ (z : Int) ∈ T := fun z => by
    unfold plT
    rw [List.mem_filterMap]
    constructor
    · rintro ⟨y, hy, e⟩
      by_cases e1 : y = -1
      · rw [if_pos e1] at e; cases e
      · rw [if_neg e1] at e
        have e2 : y.toNat = z := by injection e
        obtain ⟨i, hi⟩ := List.mem_iff_getElem?.1 hy
        rcases H.tab i y hi with e3 | ⟨w, e3, _⟩
        · exact absurd e3 e1
        · rw [show (z : Int) = y by omega]; exact hy
    · intro hz
      exact ⟨z, hz, by rw [if_neg (by omega)]; simp⟩
  refine ⟨H.ff, H.fr, by rw [H.zero]; exact Ring.nil _, fun t s e => (by rw [H.zero] at e; cases e), fun y hy => (by rw [H.zero] at hy; cases hy), H.degs.imp (fun {a b} hab e => hab (by rw [e])), fun z hz => ?_, fun z hz => ?_⟩
  · obtain ⟨i, hi⟩ := List.mem_iff_getElem?.1 ((hm z).1 hz)
    rcases H.tab i z hi with e3 | ⟨w, e3, e4, _⟩
    · omega
    · obtain rfl : z = w := by omega
      exact ⟨e4, H.one z e4, by rw [H.zero]; simp⟩
  · rcases H.all z hz with a | a
    · cases a
    · exact Or.inr ((hm z).2 a)
end
/-- Fibonacci heaps beside the document's nest. -/
structure FbI (A : NS) (G : FG) : Prop where
  ff : FF A.cs.length G (fun y => (A.c y).i) (lt3 A) (fun _ => 0)
  fr : FR A.cs.length G (fun y => (A.c y).i) (lt3 A) none
theorem FR.all {n : Nat} {G : FG} {hom : Nat → Int} {L : Nat → Nat → Prop} (H : FR n G hom L none) (h : Nat) : Ring G.nx (G.R h) ∧ (∀ y, y ∈ G.R h ↔ 1 ≤ h ∧ RtF n G hom h y) ∧ ∀ t s, G.R h = t :: s → ∀ y, y ∈ s → L t y :=
  ⟨H.ring h (by simp), fun y => H.mem h y (by simp), fun t s e => H.top h t s (by simp) e⟩
section
variable {A : NS} {G : FG}
/-- The first slot of a heap is a root. -/
theorem FbI.root_of_min (I : FbI A G) {h : Int} {m : Nat} (hm : minN A h = some m) : RtF A.cs.length G (fun y => (A.c y).i) h.toNat m ∧ 1 ≤ h.toNat := by
  have h0 : 0 < h := by
    apply Classical.byContradiction
    intro hn
    rw [minN_neg hn] at hm; cases hm
  obtain ⟨h1, h2, h3⟩ := (minN_some h0).1 hm
  refine ⟨⟨h1, ?_, by show (A.c m).i = _; rw [h2]; omega⟩, by omega⟩
  rcases I.ff.upK m h1 with e | ⟨p, hp, e, _⟩
  · exact e
  · have ho := I.ff.ord m p h1 e
    have hh := (I.ff.home m p h1 e).1
    have hh' : (A.c m).i = (A.c p).i := hh
    rcases h3 p hp (by rw [← hh', h2]) with e2 | e2
    · subst e2; exact absurd ho lt3_irr
    · exact absurd ho (lt3_asym e2)
theorem FbI.min_some (I : FbI A G) {h : Nat} {t : Nat} {s : List Nat} (hR : G.R h = t :: s) : minN A (h : Int) = some t ∧ 1 ≤ h ∧ t < A.cs.length ∧ G.up t = -1 ∧ (A.c t).i = h := by
  obtain ⟨r1, r2, r3⟩ := I.fr.all h
  obtain ⟨h1, t1, t2, t3⟩ := (r2 t).1 (by rw [hR]; simp)
  have t3' : (A.c t).i = (h : Int) := t3
  refine ⟨?_, h1, t1, t2, t3'⟩
  cases hm : minN A (h : Int) with
  | none =>
    have := (minN_none (by omega)).1 hm
    have hp : 0 < lenN A (h : Int) := lenN_pos.2 ⟨t, t1, t3', by omega⟩
    omega
  | some m =>
    obtain ⟨m1, m2⟩ := I.root_of_min hm
    rw [Int.toNat_natCast] at m1
    have hmem := (r2 m).2 ⟨h1, m1⟩
    rw [hR] at hmem
    rcases List.mem_cons.1 hmem with e | e
    · rw [e]
    · have a1 := r3 t s hR m e
      obtain ⟨_, _, h3⟩ := (minN_some (by omega)).1 hm
      rcases h3 t t1 t3' with e2 | e2
      · rw [e2]
      · exact absurd a1 (lt3_asym e2)
theorem FbI.min_none (I : FbI A G) {h : Nat} (hR : G.R h = []) : minN A (h : Int) = none := by
  cases hm : minN A (h : Int) with
  | none => rfl
  | some m =>
    obtain ⟨m1, m2⟩ := I.root_of_min hm
    rw [Int.toNat_natCast] at m1 m2
    have := ((I.fr.all h).2.1 m).2 ⟨m2, m1⟩
    rw [hR] at this; cases this
/-- The first slot is ahead of all others. -/
theorem FbI.first (I : FbI A G) {h : Nat} {t : Nat} {s : List Nat} (hR : G.R h = t :: s) {y : Nat} (hy : y < A.cs.length) (hh : (A.c y).i = h) (hne : y ≠ t) : lt3 A t y := by
  obtain ⟨m1, m2, _⟩ := I.min_some hR
  obtain ⟨_, _, h3⟩ := (minN_some (by omega)).1 m1
  exact (h3 y hy hh).resolve_left hne
theorem FbI.out (I : FbI A G) {h : Nat} {z : Nat} (hz : z ∈ G.R h) : 1 ≤ h ∧ z < A.cs.length ∧ G.up z = -1 ∧ (A.c z).i = h ∧ inN A (z : Int) = true := by
  obtain ⟨h1, t1, t2, t3⟩ := ((I.fr.all h).2.1 z).1 hz
  have t3' : (A.c z).i = (h : Int) := t3
  exact ⟨h1, t1, t2, t3', (inN_nat _ _).2 ⟨t1, by omega⟩⟩
end
end Go.Proofs.Ytighgbdijagolaa

set_option linter.unusedVariables false
set_option linter.unusedSimpArgs false
namespace Go.Proofs.Ytighgbdijagolaa

def ltN (A : NS) (a b : Nat) : Bool := decide (lt3 A a b)
theorem ltN_ok (A : NS) (n : Nat) (G : FG) (hom : Nat → Int) (h : Nat) : LtOk n G hom h (lt3 A) (ltN A) := fun a b _ _ _ _ hne =>
  ⟨fun e => by unfold ltN at e; simpa using e, fun e => by
    unfold ltN at e
    have e' : ¬ lt3 A a b := by simpa using e
    exact (lt3_total hne).resolve_left e'⟩
/-- The rings of a heap's roots without the first one, each by itself. -/
def ext3 (h x : Nat) (rs : List Nat) (G : FG) : FG := { prtL (x :: rs) (raiseG G x) with R := putF G.R h [] }
def extD (A : NS) (h x : Nat) (rs : List Nat) (G : FG) : TD := tid (ltN A) rs ⟨[], ext3 h x rs G, 0⟩
def ext4 (A : NS) (h x : Nat) (rs : List Nat) (G : FG) : FG × Nat := rtsL (ltN A) h (extD A h x rs G).T (extD A h x rs G).G 0
section
variable {A : NS} {G : FG}
theorem ext_fb (I : FbI A G) (ok : A.Ok) {h x : Nat} {s : List Nat} (hR : G.R h = x :: s) :
    (Ring (raiseG G x).nx (x :: (kl (G.K x) ++ s)) ∧ (∀ z, z ∈ x :: (kl (G.K x) ++ s) → z < A.cs.length)) ∧
    TT A.cs.length (fun y => ((dropN A x).c y).i) (lt3 A) h [] (kl (G.K x) ++ s) (ext3 h x (kl (G.K x) ++ s) G) ∧
    (∀ z, z < A.cs.length → ((dropN A (x : Int)).c z).i = (h : Int) → inN A (z : Int) = true) ∧
    RI A.cs.length (fun y => ((dropN A x).c y).i) (lt3 A) h (plT (extD A h x (kl (G.K x) ++ s) G).T) (extD A h x (kl (G.K x) ++ s) G).G ∧ (extD A h x (kl (G.K x) ++ s) G).G.R h = [] ∧
    FbI (dropN A x) (ext4 A h x (kl (G.K x) ++ s) G).1 ∧
    (extD A h x (kl (G.K x) ++ s) G).q + (ext4 A h x (kl (G.K x) ++ s) G).2 ≤ (G.K x).length + s.length ∧
    (extD A h x (kl (G.K x) ++ s) G).q + ((ext4 A h x (kl (G.K x) ++ s) G).1.R h).length = (G.K x).length + s.length ∧
    (((ext4 A h x (kl (G.K x) ++ s) G).1.R h).Pairwise (fun a b => ((ext4 A h x (kl (G.K x) ++ s) G).1.K a).length ≠ ((ext4 A h x (kl (G.K x) ++ s) G).1.K b).length)) ∧
    (∀ g, g ≠ h → (ext4 A h x (kl (G.K x) ++ s) G).1.R g = G.R g) ∧ (∀ y, y ∈ (extD A h x (kl (G.K x) ++ s) G).T → y = -1 ∨ 0 ≤ y) ∧ (extD A h x (kl (G.K x) ++ s) G).T.length ≤ A.cs.length + 1 ∧ (ext4 A h x (kl (G.K x) ++ s) G).1.mr = (extD A h x (kl (G.K x) ++ s) G).G.mr := by
  obtain ⟨m1, h1, hx, ux, hxh⟩ := I.min_some hR
  obtain ⟨_, _, _, _, hin⟩ := I.out (h := h) (z := x) (by rw [hR]; simp)
  have hc := fun y => drop_c hin y
  have hcl := drop_len A (x : Int)
  have h0 : (0 : Int) < (A.c x).i := by omega
  obtain ⟨rF, r1, r2⟩ := I.ff.raise hx ux h0
  have mx := I.ff.free x hx ux
  have up1 := raise_up G ux
  have K1 := raise_K G x
  obtain ⟨q1, q2, q3⟩ := I.fr.all h
  rw [hR] at q1
  have rootk : ∀ z, G.up z = -1 → z ∉ G.K x := fun z hz => I.ff.notkid hx hz
  have ring1 : Ring (raiseG G x).nx (x :: (kl (G.K x) ++ s)) := by
    have := r2 [] s q1 (fun z hz => rootk z (((q2 z).1 (by rw [hR]; exact hz)).2.2.1))
    exact this
  have sr : ∀ z, z ∈ s → RtF A.cs.length G (fun y => (A.c y).i) h z := fun z hz => ((q2 z).1 (by rw [hR]; simp [hz])).2
  have kr : ∀ z, z ∈ G.K x → z < A.cs.length ∧ G.up z = x ∧ (A.c z).i = h := fun z hz => by
    obtain ⟨k1, k2⟩ := I.ff.kid x z hx hz
    have k3 : (A.c z).i = (A.c x).i := (I.ff.home z x k1 k2).1
    exact ⟨k1, k2, by omega⟩
  have rsm : ∀ z, z ∈ kl (G.K x) ++ s ↔ z ∈ G.K x ∨ z ∈ s := fun z => by simp [mem_kl]
  have up1z : ∀ z, z ∈ x :: (kl (G.K x) ++ s) → z < A.cs.length ∧ (raiseG G x).up z = -1 ∧ 0 < (A.c z).i := fun z hz => by
    rw [up1]
    rcases List.mem_cons.1 hz with rfl | hz
    · exact ⟨hx, by rw [ux]; split <;> rfl, h0⟩
    · rcases (rsm z).1 hz with hz | hz
      · exact ⟨(kr z hz).1, by rw [if_pos hz], by have := (kr z hz).2.2; omega⟩
      · have a := sr z hz
        have a3 : (A.c z).i = h := a.2.2
        exact ⟨a.1, by rw [if_neg (rootk z a.2.1)]; exact a.2.1, by omega⟩
  have hnd := List.nodup_cons.1 ring1.nd
  obtain ⟨p1, p2, p3⟩ := prtL_ok (x :: (kl (G.K x) ++ s)) (raiseG G x) rF ring1 up1z
  obtain ⟨e1, e2, e3, e4⟩ := prtL_same (x :: (kl (G.K x) ++ s)) (raiseG G x)
  -- behind the cuts
  have up3 : ∀ z, (ext3 h x (kl (G.K x) ++ s) G).up z = if z ∈ G.K x then -1 else G.up z := fun z => by
    show (prtL (x :: (kl (G.K x) ++ s)) (raiseG G x)).up z = _
    rw [e1, up1]
  have K3 : (ext3 h x (kl (G.K x) ++ s) G).K = putF G.K x [] := by
    show (prtL (x :: (kl (G.K x) ++ s)) (raiseG G x)).K = _
    rw [e3, K1]
  have upx : (ext3 h x (kl (G.K x) ++ s) G).up x = -1 := by rw [up3, ux]; split <;> rfl
  have hom' : ∀ z, z ≠ x → ((dropN A (x : Int)).c z).i = (A.c z).i := fun z hz => by rw [hc, if_neg hz]
  have homx : ((dropN A (x : Int)).c x).i = 0 := by rw [hc, if_pos rfl]; rfl
  have F3 : FF A.cs.length (ext3 h x (kl (G.K x) ++ s) G) (fun y => ((dropN A (x : Int)).c y).i) (lt3 A) (fun _ => 0) := by
    refine (p1.setR (putF G.R h [])).mono (fun y p hy hu ho => ?_) (fun y hy h2 => ?_)
    · have hu' : (ext3 h x (kl (G.K x) ++ s) G).up y = p := hu
      have hyx : y ≠ x := fun e => by subst e; rw [upx] at hu'; omega
      have hpx : p ≠ x := fun e => by
        have hk := (p1.setR (putF G.R h [])).above hy hu
        have hk2 : y ∈ (ext3 h x (kl (G.K x) ++ s) G).K p := hk.2
        rw [K3, e, putF_at] at hk2; cases hk2
      have hh := p1.home y p hy hu
      have hh1 : (A.c y).i = (A.c p).i := hh.1
      have hh2 : 0 < (A.c y).i := hh.2
      exact ⟨by simp only [hom' y hyx, hom' p hpx]; exact hh1, by simp only [hom' y hyx]; exact hh2, ho⟩
    · by_cases e : y = x
      · subst e
        exact ⟨upx, by show (ext3 h y (kl (G.K y) ++ s) G).K y = []; rw [K3, putF_at], p2 y (by simp)⟩
      · have h3 : ¬ 0 < (A.c y).i := by simp only [hom' y e] at h2; exact h2
        exact p1.alone y hy h3
  have rt3 : ∀ g z, RtF A.cs.length (ext3 h x (kl (G.K x) ++ s) G) (fun y => ((dropN A (x : Int)).c y).i) g z → 1 ≤ g → z ≠ x ∧ (A.c z).i = g ∧ (z ∈ G.K x ∨ G.up z = -1) := fun g z hz hg => by
    obtain ⟨a1, a2, a3⟩ := hz
    have hzx : z ≠ x := fun e => by subst e; simp only [homx] at a3; omega
    simp only [hom' z hzx] at a3
    rw [up3] at a2
    refine ⟨hzx, a3, ?_⟩
    split at a2
    · rename_i hk; exact Or.inl hk
    · exact Or.inr a2
  have R3 : ∀ g, g ≠ h → (ext3 h x (kl (G.K x) ++ s) G).R g = G.R g := fun g hg => putF_ne _ _ hg
  have fr3 : FR A.cs.length (ext3 h x (kl (G.K x) ++ s) G) (fun y => ((dropN A (x : Int)).c y).i) (lt3 A) (some h) := by
    refine ⟨fun g hg => ?_, fun g z hg => ?_, fun g t s' hg hR' => ?_⟩
    all_goals have hgh : g ≠ h := fun e => hg (by rw [e])
    · rw [R3 g hgh]
      obtain ⟨a1, a2, _⟩ := I.fr.all g
      have hz : ∀ z, z ∈ G.R g → G.up z = -1 ∧ (A.c z).i = g := fun z hz => ⟨((a2 z).1 hz).2.2.1, ((a2 z).1 hz).2.2.2⟩
      refine p3 _ (r1 _ a1 (fun hm => hgh (by have := (hz x hm).2; omega)) (fun z hm => rootk z (hz z hm).1)) (fun z hm hm2 => ?_)
      have hzg := (hz z hm).2
      rcases List.mem_cons.1 hm2 with e | hm2
      · subst e; exact hgh (by omega)
      · rcases (rsm z).1 hm2 with hm2 | hm2
        · have := (kr z hm2).2.2; exact hgh (by omega)
        · have : (A.c z).i = h := (sr z hm2).2.2
          exact hgh (by omega)
    · rw [R3 g hgh, (I.fr.all g).2.1 z]
      constructor
      · rintro ⟨a0, a1, a2, a3⟩
        have a3' : (A.c z).i = g := a3
        have hzx : z ≠ x := fun e => by subst e; exact hgh (by omega)
        exact ⟨a0, a1, by rw [up3, if_neg (rootk z a2)]; exact a2, by simp only [hom' z hzx]; exact a3'⟩
      · rintro ⟨a0, a1, a2, a3⟩
        obtain ⟨b1, b2, b3⟩ := rt3 g z ⟨a1, a2, a3⟩ a0
        rcases b3 with b3 | b3
        · have := (kr z b3).2.2; exact absurd (show g = h by omega) hgh
        · exact ⟨a0, a1, b3, b2⟩
    · rw [R3 g hgh] at hR'
      exact (I.fr.all g).2.2 t s' hR'
  have T3 : TT A.cs.length (fun y => ((dropN A (x : Int)).c y).i) (lt3 A) h [] (kl (G.K x) ++ s) (ext3 h x (kl (G.K x) ++ s) G) := by
    refine ⟨F3, fr3, putF_at _ _ _, fun z hz => ?_, fun d y hy => by simp at hy, hnd.2, fun z hz => ?_, fun z hz => ?_⟩
    · obtain ⟨b1, b2, b3⟩ := rt3 h z hz h1
      refine p2 z ?_
      simp only [List.mem_cons, rsm]
      rcases b3 with b3 | b3
      · exact Or.inr (Or.inl b3)
      · have := (q2 z).2 ⟨h1, hz.1, b3, b2⟩
        rw [hR] at this
        rcases List.mem_cons.1 this with e | e
        · exact absurd e b1
        · exact Or.inr (Or.inr e)
    · have hzx : z ≠ x := fun e => hnd.1 (e ▸ hz)
      have a := up1z z (by simp [hz])
      refine ⟨a.1, by rw [up3, ← up1]; exact a.2.1, ?_⟩
      simp only [hom' z hzx]
      rcases (rsm z).1 hz with b | b
      · exact (kr z b).2.2
      · exact (sr z b).2.2
    · obtain ⟨b1, b2, b3⟩ := rt3 h z hz h1
      left
      rw [rsm]
      rcases b3 with b3 | b3
      · exact Or.inl b3
      · have := (q2 z).2 ⟨h1, hz.1, b3, b2⟩
        rw [hR] at this
        rcases List.mem_cons.1 this with e | e
        · exact absurd e b1
        · exact Or.inr e
  obtain ⟨t1, t2, t3, t4⟩ := tid_ok h1 (fun G => ltN_ok A A.cs.length G _ h) (kl (G.K x) ++ s) ⟨[], ext3 h x (kl (G.K x) ++ s) G, 0⟩ T3 (by simp)
  have eD : tid (ltN A) (kl (G.K x) ++ s) ⟨[], ext3 h x (kl (G.K x) ++ s) G, 0⟩ = extD A h x (kl (G.K x) ++ s) G := rfl
  rw [eD] at t1 t2 t3 t4
  have hri := t1.ri
  obtain ⟨u1, u2, u3, u4⟩ := rts_ok h1 (fun G => ltN_ok A A.cs.length G _ h) (fun a b c => lt3_trans) _ _ 0 hri
  have e4' : rtsL (ltN A) h (extD A h x (kl (G.K x) ++ s) G).T (extD A h x (kl (G.K x) ++ s) G).G 0 = ext4 A h x (kl (G.K x) ++ s) G := rfl
  rw [e4'] at u1 u2 u3 u4
  rw [t1.zero, List.nil_append] at u3
  rw [t1.zero] at u4
  have hlen := u3.length_eq
  rw [plT_len] at hlen
  have ho0 : occ (TD.mk [] (ext3 h x (kl (G.K x) ++ s) G) 0).T = 0 := rfl
  have hl2 : (kl (G.K x) ++ s).length = (G.K x).length + s.length := by rw [List.length_append, kl_len]
  have hq0 : (TD.mk [] (ext3 h x (kl (G.K x) ++ s) G) 0).q = 0 := rfl
  rw [ho0, hl2, hq0] at t2
  simp only [List.length_nil] at u4
  refine ⟨⟨ring1, fun z hz => (up1z z hz).1⟩, T3, fun z hz hh => ?_, hri, t1.zero, ⟨?_, ?_⟩, ?_, ?_, ?_, ?_, fun y hy => ?_, t4, u2.2.1⟩
  · have hzx : z ≠ x := fun e => by subst e; rw [homx] at hh; omega
    rw [hom' z hzx] at hh
    exact (inN_nat _ _).2 ⟨hz, by omega⟩
  · rw [hcl]
    refine u1.ff.mono (fun y p hy hu ho => ?_) (fun y hy h2 => u1.ff.alone y hy h2)
    have hh := u1.ff.home y p hy hu
    have hh1 : ((dropN A (x : Int)).c y).i = ((dropN A (x : Int)).c p).i := hh.1
    have hh2 : 0 < ((dropN A (x : Int)).c y).i := hh.2
    have hyx : y ≠ x := fun e => by rw [e, homx] at hh2; omega
    have hpx : p ≠ x := fun e => by rw [e, homx] at hh1; omega
    exact ⟨hh.1, hh.2, (lt3_same (by rw [hc, if_neg hpx]) (by rw [hc, if_neg hyx])).2 ho⟩
  · rw [hcl]
    have mm : ∀ g y, y ∈ (ext4 A h x (kl (G.K x) ++ s) G).1.R g ↔ 1 ≤ g ∧ y < A.cs.length ∧ (ext4 A h x (kl (G.K x) ++ s) G).1.up y = -1 ∧ ((dropN A (x : Int)).c y).i = g := fun g y => by
      by_cases e : g = h
      · subst e
        constructor
        · intro hm; exact ⟨h1, u1.mem y hm⟩
        · rintro ⟨_, a⟩
          rcases u1.all y a with b | b
          · exact b
          · cases b
      · exact u1.fr.mem g y (by simp; exact e)
    refine ⟨fun g _ => ?_, fun g y _ => mm g y, fun g t s' _ hR' y hy => ?_⟩
    · by_cases e : g = h
      · subst e; exact u1.ring
      · exact u1.fr.ring g (by simp; exact e)
    · have hL : lt3 A t y := by
        by_cases e : g = h
        · subst e; exact u1.top t s' hR' y hy
        · exact u1.fr.top g t s' (by simp; exact e) hR' y hy
      have ht := (mm g t).1 (by rw [hR']; simp)
      have hy' := (mm g y).1 (by rw [hR']; simp [hy])
      have htx : t ≠ x := fun e => by subst e; rw [homx] at ht; omega
      have hyx : y ≠ x := fun e => by subst e; rw [homx] at hy'; omega
      exact (lt3_same (by rw [hc, if_neg htx]) (by rw [hc, if_neg hyx])).2 hL
  · omega
  · omega
  · rw [u2.2.2.1]
    exact u3.symm.pairwise (l := plT _) t1.degs (fun {a b} h => Ne.symm h)
  · intro g hg
    rw [u2.2.2.2 g hg, t3]
    exact R3 g hg
  · obtain ⟨i, hi⟩ := List.mem_iff_getElem?.1 hy
    rcases t1.tab i y hi with e | ⟨z, e, _⟩
    · exact Or.inl e
    · exact Or.inr (by omega)
end
end Go.Proofs.Ytighgbdijagolaa

set_option linter.unusedVariables false
set_option linter.unusedSimpArgs false
namespace Go.Proofs.Ytighgbdijagolaa

/-- A ring without one of its things, told from what follows that. -/
def aft (l : List Nat) (x : Nat) : List Nat := (l.dropWhile (fun z => z != x)).tail ++ l.takeWhile (fun z => z != x)
theorem split_nat {l : List Nat} {x : Nat} (hx : x ∈ l) (hn : l.Nodup) : ∃ a b, l = a ++ x :: b ∧ x ∉ a ∧ x ∉ b ∧ l.takeWhile (fun z => z != x) = a ∧ (l.dropWhile (fun z => z != x)).tail = b := by
  obtain ⟨a, b, rfl⟩ := List.append_of_mem hx
  rw [List.nodup_append, List.nodup_cons] at hn
  have h1 : x ∉ a := fun h => hn.2.2 x h x (by simp) rfl
  have hp : ∀ z, z ∈ a → (z != x) = true := fun z hz => by simp; intro e; subst e; exact h1 hz
  refine ⟨a, b, rfl, h1, hn.2.1.1, ?_, ?_⟩
  · rw [List.takeWhile_append_of_pos hp, List.takeWhile_cons_of_neg (by simp)]; simp
  · rw [List.dropWhile_append_of_pos hp, List.dropWhile_cons_of_neg (by simp)]; rfl
theorem aft_eq {l : List Nat} {x : Nat} (hx : x ∈ l) (hn : l.Nodup) : ∃ a b, l = a ++ x :: b ∧ aft l x = b ++ a ∧ x ∉ a ∧ x ∉ b := by
  obtain ⟨a, b, h1, h2, h3, h4, h5⟩ := split_nat hx hn
  exact ⟨a, b, h1, by unfold aft; rw [h4, h5], h2, h3⟩
/-- A slot comes off that above it, behind the first root. -/
def offG (h x : Nat) (G : FG) : FG :=
  { (match G.R h with | [] => prt G x | t :: _ => spl (prt G x) t x) with
    up := putF G.up x (-1), mr := putF G.mr x false, K := putF G.K (G.up x).toNat (aft (G.K (G.up x).toNat) x), R := match G.R h with | [] => G.R | t :: s => putF G.R h (t :: x :: s) }
def casG : Nat → Nat → Nat → FG → FG
  | 0, _, _, G => G
  | f + 1, h, x, G => if G.up x = -1 then G else if G.mr x = false then { G with mr := putF G.mr x true } else casG f h (G.up x).toNat (offG h x G)
def marks (n : Nat) (G : FG) : Nat := ((List.range n).filter G.mr).length
theorem marks_le {n : Nat} {G : FG} : marks n G ≤ n := by unfold marks; exact Nat.le_trans (List.length_filter_le _ _) (by simp)
theorem filter_put {p : Nat → Bool} {x : Nat} {b : Bool} : ∀ l : List Nat, l.Nodup → x ∈ l → (l.filter (putF p x b)).length + (if p x then 1 else 0) = (l.filter p).length + (if b then 1 else 0)
  | [], _, h => by cases h
  | y :: t, hn, hx => by
    rw [List.nodup_cons] at hn
    by_cases e : y = x
    · subst e
      have hc : t.filter (putF p y b) = t.filter p := List.filter_congr (fun z hz => putF_ne _ _ (fun e => hn.1 (e ▸ hz)))
      have h1 : putF p y b y = b := putF_at _ _ _
      rw [List.filter_cons, List.filter_cons, h1, hc]
      cases b <;> cases p y <;> simp
    · have ih := filter_put (p := p) (b := b) t hn.2 (by rcases List.mem_cons.1 hx with h | h; exact absurd h.symm e; exact h)
      have h1 : putF p x b y = p y := putF_ne _ _ e
      rw [List.filter_cons, List.filter_cons, h1]
      cases p y <;> simp <;> omega
theorem marks_put {n : Nat} {G : FG} {x : Nat} {b : Bool} {mr : Nat → Bool} (hx : x < n) (hm : mr = putF G.mr x b) (G' : FG) (e : G'.mr = mr) : marks n G' + (if G.mr x then 1 else 0) = marks n G + (if b then 1 else 0) := by
  unfold marks
  rw [e, hm]
  exact filter_put _ List.nodup_range (by simpa using hx)
section
variable {n : Nat} {G : FG} {hom : Nat → Int} {L M : Nat → Nat → Prop} {ex : Nat → Nat}
theorem off_ok (H : FF n G hom L ex) (R : FR n G hom M none) {h x p t : Nat} {s : List Nat} (hR : G.R h = t :: s) (hx : x < n) (ux : G.up x = p) (hpx : p ≠ x) (hh : hom x = h) (hL : M t x) :
    FF n (offG h x G) hom L (fun c => if c = p then ex c + 1 else ex c) ∧ FR n (offG h x G) hom M none ∧ (offG h x G).up = putF G.up x (-1) ∧ (offG h x G).mr = putF G.mr x false ∧ (offG h x G).K = putF G.K p (aft (G.K p) x) ∧
      (offG h x G).R = putF G.R h (t :: x :: s) ∧ (∃ a b, G.K p = a ++ x :: b ∧ aft (G.K p) x = b ++ a) ∧ G.nx x = (aft (G.K p) x).headD x := by
  obtain ⟨hp, hxk⟩ := H.above hx ux
  obtain ⟨q1, q2, q3⟩ := R.all h
  obtain ⟨h1, ht, ut, htm⟩ := (q2 t).1 (by rw [hR]; simp)
  have hrk := H.ring p hp
  obtain ⟨a, b, eK, eA, xa, xb⟩ := aft_eq hxk hrk.nd
  have hkp : ∀ z, z ∈ G.K p → z < n ∧ G.up z = p := fun z hz => H.kid p z hp hz
  have hrot : Ring G.nx (x :: (b ++ a)) := by rw [eK] at hrk; exact Ring.rot (a := a) (b := x :: b) hrk
  have hmem : ∀ z, z ∈ x :: (b ++ a) ↔ z ∈ G.K p := fun z => by rw [eK]; simp; grind
  have hall : ∀ z, z ∈ x :: (b ++ a) → z < n := fun z hz => (hkp z ((hmem z).1 hz)).1
  obtain ⟨p1, p2⟩ := H.rg.part hrot hall
  have hpm : G.pv x ∈ G.K p := by
    rw [← hmem]
    rcases List.eq_nil_or_concat (b ++ a) with e | ⟨c, y, e⟩
    · rw [e] at hrot
      have e1 := ring_one.1 hrot
      have := H.rg.pn x hx
      rw [e1] at this
      rw [this]; simp
    · rw [List.concat_eq_append] at e
      have := H.rg.last (x := x) (y := y) (a := c) (by rw [List.cons_append, ← e]; exact hrot) (hall y (by rw [e]; simp))
      rw [this, e]; simp
  have hpv := hkp _ hpm
  have htx : t ≠ x := fun e => by subst e; omega
  have htp : t ≠ G.pv x := fun e => by rw [← e] at hpv; omega
  have ux' : (offG h x G).up = putF G.up x (-1) := rfl
  have mx' : (offG h x G).mr = putF G.mr x false := rfl
  have K' : (offG h x G).K = putF G.K p (b ++ a) := by show putF G.K (G.up x).toNat _ = _; rw [ux, Int.toNat_natCast, eA]
  have R' : (offG h x G).R = putF G.R h (t :: x :: s) := by show (match G.R h with | [] => G.R | t :: s => putF G.R h (t :: x :: s)) = _; rw [hR]
  have nx' : (offG h x G).nx = swapN (swapN G.nx x (G.pv x)) t x := by unfold offG; rw [hR]; rfl
  have pv' : (offG h x G).pv = swapP (swapN G.nx x (G.pv x)) (swapP G.nx G.pv x (G.pv x)) t x := by unfold offG; rw [hR]; rfl
  have far : ∀ l, Ring G.nx l → x ∉ l → G.pv x ∉ l → t ∉ l → Ring (offG h x G).nx l := fun l hl e1 e2 e3 => by rw [nx']; exact (hl.swap_far e1 e2).swap_far e3 e1
  have upn : ∀ y, y ≠ x → (offG h x G).up y = G.up y := fun y hy => by rw [ux', putF_ne _ _ hy]
  have upx : (offG h x G).up x = -1 := by rw [ux', putF_at]
  have Kp : (offG h x G).K p = b ++ a := by rw [K', putF_at]
  have Kn : ∀ y, y ≠ p → (offG h x G).K y = G.K y := fun y hy => by rw [K', putF_ne _ _ hy]
  have notx : ∀ y, y < n → y ≠ p → x ∉ G.K y := fun y hy hyp hm => hyp (by have := (H.kid y x hy hm).2; omega)
  have hpos : (0 : Int) < hom p ∧ (0 : Int) < hom x := by
    have := H.home x p hx ux
    exact ⟨by rw [← this.1]; exact this.2, this.2⟩
  have hlen : (G.K p).length = (b ++ a).length + 1 := by rw [eK]; simp; omega
  have mono : ∀ c, c ≠ x → (G.K c).length + (if G.mr c then 1 else 0) + ex c ≤ ((offG h x G).K c).length + (if (offG h x G).mr c then 1 else 0) + (if c = p then ex c + 1 else ex c) := fun c hc => by
    rw [mx', putF_ne _ _ hc]
    by_cases e : c = p
    · rw [e, Kp, hlen, if_pos rfl]; omega
    · rw [Kn c e, if_neg e]; omega
  refine ⟨⟨?_, fun y z hy hz => ?_, fun y hy => ?_, fun y hy => ?_, fun y q hy hu => ?_, fun y q hy hu => ?_, fun y hy h0 => ?_, fun y hy hu => ?_, fun y d hy => ?_⟩, ⟨fun g _ => ?_, fun g y _ => ?_, fun g t' s' _ hR' => ?_⟩, ux', mx', by rw [eA]; exact K', R', ⟨a, b, eK, eA⟩, by rw [eA]; exact (ring_cons.1 hrot).2.1⟩
  · rw [nx', pv']
    exact (H.rg.swap hx hpv.1).swap ht hx
  · by_cases e : y = p
    · subst e
      rw [Kp] at hz
      have hzk : z ∈ G.K y := (hmem z).1 (by simp at hz ⊢; exact Or.inr hz)
      have hzx : z ≠ x := fun e => by subst e; simp at hz; rcases hz with h | h; exact xb h; exact xa h
      rw [upn z hzx]; exact H.kid y z hy hzk
    · rw [Kn y e] at hz
      have hzx : z ≠ x := fun e2 => notx y hy e (e2 ▸ hz)
      rw [upn z hzx]; exact H.kid y z hy hz
  · by_cases e : y = x
    · subst e; exact Or.inl upx
    · rw [upn y e]
      rcases H.upK y hy with e1 | ⟨q, hq, e1, e2⟩
      · exact Or.inl e1
      · refine Or.inr ⟨q, hq, e1, ?_⟩
        by_cases e3 : q = p
        · subst e3
          rw [Kp]
          rcases List.mem_cons.1 ((hmem y).2 e2) with e4 | e4
          · exact absurd e4 e
          · exact e4
        · rw [Kn q e3]; exact e2
  · by_cases e : y = p
    · subst e
      rw [Kp, nx']
      exact p2.swap_far (fun hm => by have := (hkp t ((hmem t).1 (by simp at hm ⊢; exact Or.inr hm))).2; omega) (fun hm => by simp at hm; rcases hm with h | h; exact xb h; exact xa h)
    · rw [Kn y e]
      exact far _ (H.ring y hy) (notx y hy e) (fun hm => e (by have := (H.kid y _ hy hm).2; omega)) (H.notkid hy ut)
  · have hyx : y ≠ x := fun e => by subst e; rw [upx] at hu; omega
    rw [upn y hyx] at hu; exact H.home y q hy hu
  · have hyx : y ≠ x := fun e => by subst e; rw [upx] at hu; omega
    rw [upn y hyx] at hu; exact H.ord y q hy hu
  · obtain ⟨a1, a2, a3⟩ := H.alone y hy h0
    have hyx : y ≠ x := fun e => h0 (by rw [e]; exact hpos.2)
    have hyp : y ≠ p := fun e => h0 (by rw [e]; exact hpos.1)
    have hyv : y ≠ G.pv x := fun e => by rw [← e] at hpv; omega
    have hyt : y ≠ t := fun e => h0 (by rw [e, htm]; omega)
    exact ⟨by rw [upn y hyx]; exact a1, by rw [Kn y hyp]; exact a2, by rw [nx', swapN_far hyt hyx, swapN_far hyx hyv]; exact a3⟩
  · rw [mx']
    by_cases e : y = x
    · rw [e, putF_at]
    · rw [upn y e] at hu
      rw [putF_ne _ _ e]; exact H.free y hy hu
  · by_cases e : y = p
    · subst e
      rw [Kp]
      have m1 : few (offG h x G) (fun c => if c = y then ex c + 1 else ex c) (b ++ a) d ≤ few G ex (b ++ a) d := few_mono d (fun c hc => mono c (fun e => by subst e; simp at hc; rcases hc with h | h; exact xb h; exact xa h))
      have m2 : few G ex (G.K y) d = few G ex (x :: (b ++ a)) d := few_perm _ _ (by rw [eK]; exact List.perm_append_comm (l₁ := a) (l₂ := x :: b)) d
      rw [few_cons] at m2
      have m3 := H.cnt y d hy
      omega
    · rw [Kn y e]
      exact Nat.le_trans (few_mono d (fun c hc => mono c (fun e2 => notx y hy e (e2 ▸ hc)))) (H.cnt y d hy)
  · obtain ⟨r1, r2, _⟩ := R.all g
    by_cases e : g = h
    · subst e
      rw [R', putF_at, nx']
      have hs1 : Ring (swapN G.nx x (G.pv x)) (t :: s) := by
        rw [← hR]
        exact r1.swap_far (fun hm => by have := ((r2 x).1 hm).2.2.1; omega) (fun hm => by have := ((r2 _).1 hm).2.2.1; omega)
      exact Ring.join hs1 p1 (fun z hz hm => by
        simp at hm; subst hm
        have := ((r2 z).1 (by rw [hR]; exact hz)).2.2.1
        omega)
    · rw [R', putF_ne _ _ e]
      exact far _ r1 (fun hm => by have := ((r2 x).1 hm).2.2.1; omega) (fun hm => by have := ((r2 _).1 hm).2.2.1; omega) (fun hm => e (by have := ((r2 t).1 hm).2.2.2; omega))
  · rw [R']
    have old := (R.all g).2.1 y
    by_cases e : g = h
    · subst e
      rw [putF_at]
      have : y ∈ t :: x :: s ↔ y = x ∨ y ∈ G.R g := by rw [hR]; simp; grind
      rw [this, old]
      by_cases e2 : y = x
      · subst e2; simp [upx, h1, hx, hh]
      · rw [upn y e2]; simp [e2, RtF]
    · rw [putF_ne _ _ e, old]
      by_cases e2 : y = x
      · subst e2
        constructor
        · rintro ⟨_, _, a2, _⟩; omega
        · rintro ⟨_, _, _, a3⟩; exact absurd (show g = h by omega) e
      · rw [upn y e2]; exact Iff.rfl
  · rw [R'] at hR'
    by_cases e : g = h
    · subst e
      rw [putF_at] at hR'
      have e1 : t = t' := by injection hR'
      have e2 : x :: s = s' := by injection hR'
      subst e1 e2
      intro y hy
      rcases List.mem_cons.1 hy with rfl | hy
      · exact hL
      · exact q3 t s hR y hy
    · rw [putF_ne _ _ e] at hR'
      exact (R.all g).2.2 t' s' hR'
/-- Who lost one already comes off, too. -/
theorem cas_ok (irr : ∀ a, ¬ L a a) {h t : Nat} : ∀ (f p : Nat) (s : List Nat) (G : FG), FF n G hom L (fun c => if c = p then 1 else 0) → FR n G hom M none → G.R h = t :: s → p < n → hom p = h → 1 ≤ h → (∀ y, y < n → hom y = h → y ≠ t → M t y) → marks n G < f →
    FF n (casG f h p G) hom L (fun _ => 0) ∧ FR n (casG f h p G) hom M none ∧ (∃ s', (casG f h p G).R h = t :: s') ∧ (∀ g, g ≠ h → (casG f h p G).R g = G.R g) ∧
      (G.R h).length ≤ ((casG f h p G).R h).length ∧ ((casG f h p G).R h).length + marks n (casG f h p G) ≤ (G.R h).length + marks n G + 1 ∧ marks n (casG f h p G) ≤ marks n G + 1 ∧ (∀ y, G.up y = -1 → (casG f h p G).up y = -1)
  | 0, p, s, G, H, R, hR, hp, hh, h1, hf, hm => by omega
  | f + 1, p, s, G, H, R, hR, hp, hh, h1, hf, hm => by
    unfold casG
    by_cases e : G.up p = -1
    · rw [if_pos e]
      refine ⟨⟨H.rg, H.kid, H.upK, H.ring, H.home, H.ord, H.alone, H.free, fun x d hx => ?_⟩, R, ⟨s, hR⟩, fun _ _ => rfl, Nat.le_refl _, by omega, by omega, fun _ h => h⟩
      rw [few_ext (G := G) (ex := fun c => if c = p then 1 else 0) d (fun c hc => by
        have hcp : c ≠ p := fun e2 => H.notkid hx e (e2 ▸ hc)
        rw [if_neg hcp])]
      exact H.cnt x d hx
    · rw [if_neg e]
      by_cases e2 : G.mr p = false
      · rw [if_pos e2]
        have hmk := marks_put (G := G) (b := true) hp rfl { G with mr := putF G.mr p true } rfl
        rw [e2] at hmk
        simp only [Bool.false_eq_true, if_false, if_true] at hmk
        refine ⟨⟨H.rg, H.kid, H.upK, H.ring, H.home, H.ord, H.alone, fun y hy hu => ?_, fun x d hx => ?_⟩, ⟨R.ring, R.mem, R.top⟩, ⟨s, hR⟩, fun _ _ => rfl, Nat.le_refl _, by show (G.R h).length + _ ≤ _; omega, by omega, fun _ h => h⟩
        · have hyp : y ≠ p := fun e3 => e (e3 ▸ hu)
          show putF G.mr p true y = false
          rw [putF_ne _ _ hyp]; exact H.free y hy hu
        · have := few_ext (G := G) (G' := { G with mr := putF G.mr p true }) (ex := fun c => if c = p then 1 else 0) (ex' := fun _ => 0) (l := G.K x) d (fun c hc => by
            by_cases e3 : c = p
            · subst e3
              show (G.K c).length + (if putF G.mr c true c = true then 1 else 0) + 0 = _
              rw [putF_at, e2]; simp
            · show (G.K c).length + (if putF G.mr p true c = true then 1 else 0) + 0 = _
              rw [putF_ne _ _ e3, if_neg e3])
          show few { G with mr := putF G.mr p true } (fun _ => 0) (G.K x) d ≤ d
          rw [this]
          exact H.cnt x d hx
      · rw [if_neg e2]
        obtain ⟨q, hq, uq, hpq⟩ := (H.upK p hp).resolve_left e
        rw [uq, Int.toNat_natCast]
        have hqp : q ≠ p := fun e3 => by subst e3; exact irr _ (H.ord q q hp uq)
        have htp : p ≠ t := fun e3 => by
          subst e3
          have := ((R.all h).2.1 p).1 (by rw [hR]; simp)
          exact e this.2.2.1
        obtain ⟨o1, o2, o3, o4, o5, o6, o7, _⟩ := off_ok H R hR hp uq hqp hh (hf p hp hh htp)
        have hqh : hom q = h := by have := (H.home p q hp uq).1; omega
        have hmk := marks_put (G := G) (b := false) hp rfl (offG h p G) o4
        have e2' : G.mr p = true := by simpa using e2
        rw [e2'] at hmk
        simp only [Bool.false_eq_true, if_false, if_true] at hmk
        have o1' : FF n (offG h p G) hom L (fun c => if c = q then 1 else 0) := by
          refine ⟨o1.rg, o1.kid, o1.upK, o1.ring, o1.home, o1.ord, o1.alone, o1.free, fun x d hx => ?_⟩
          have hupp : (offG h p G).up p = -1 := by rw [o3, putF_at]
          rw [few_ext (G := offG h p G) (ex := fun c => if c = q then (if c = p then 1 else 0) + 1 else if c = p then 1 else 0) d (fun c hc => by
            have hcp : c ≠ p := fun e3 => o1.notkid hx hupp (e3 ▸ hc)
            rw [if_neg hcp])]
          exact o1.cnt x d hx
        have oR : (offG h p G).R h = t :: p :: s := by rw [o6, putF_at]
        obtain ⟨r1, r2, r3, r4, r5, r6, r7, r8⟩ := cas_ok irr f q (p :: s) (offG h p G) o1' o2 oR hq hqh h1 hf (by omega)
        rw [oR] at r5 r6
        rw [hR]
        simp only [List.length_cons] at r5 r6 ⊢
        refine ⟨r1, r2, r3, fun g hg => by rw [r4 g hg, o6, putF_ne _ _ hg], by omega, by omega, by omega, fun y hy => r8 y ?_⟩
        have hyp : y ≠ p := fun e3 => e (e3 ▸ hy)
        rw [o3, putF_ne _ _ hyp]; exact hy
end
end Go.Proofs.Ytighgbdijagolaa

set_option linter.unusedVariables false
set_option linter.unusedSimpArgs false
namespace Go.Proofs.Ytighgbdijagolaa

/-- A slot that isn't topmost comes to the topmost ones. -/
def looseG (n h x : Nat) (G : FG) : FG := if G.up x = -1 then G else casG (marks n (offG h x G) + 1) h (G.up x).toNat (offG h x G)
def topG (h x : Nat) (G : FG) : FG := { G with R := putF G.R h (x :: aft (G.R h) x) }
def decG1 (A' : NS) (h x : Nat) (G : FG) : FG := if G.up x ≠ -1 ∧ ltN A' x (G.up x).toNat = true then looseG A'.cs.length h x G else G
def decG (A' : NS) (h x : Nat) (G : FG) : FG := if hdI ((decG1 A' h x G).R h) ≠ x ∧ ltN A' x (hdI ((decG1 A' h x G).R h)).toNat = true then topG h x (decG1 A' h x G) else decG1 A' h x G
def decQ (A' : NS) (h x : Nat) (G : FG) : Nat := (if G.up x = -1 then 0 else 1) + (if hdI ((decG1 A' h x G).R h) = x then 0 else 1)
def midR (l k : List Nat) (x : Nat) : List Nat := l.takeWhile (fun z => z != x) ++ (k ++ (l.dropWhile (fun z => z != x)).tail)
def delG2 (h x : Nat) (G : FG) : FG := { prt (raiseG G x) x with R := putF G.R h (midR (G.R h) (kl (G.K x)) x) }
def insG (A' : NS) (h x : Nat) (G : FG) : FG := rootG (ltN A') h [x] G
def melG (A' : NS) (a b : Nat) (G : FG) : FG := match G.R b with
  | [] => { G with R := putF G.R b [] }
  | x :: r => { rootG (ltN A') a (x :: r) G with R := putF (rootG (ltN A') a (x :: r) G).R b [] }
def melQ (a b : Nat) (G : FG) : Nat := if G.R b = [] then 0 else rootQ a G
section
variable {A : NS} {G : FG}
theorem loose_ok {n : Nat} {hom : Nat → Int} {L M : Nat → Nat → Prop} (irr : ∀ a, ¬ L a a) {h x t p : Nat} {s : List Nat} (H : FF n G hom L (fun _ => 0)) (H1 : FF n (offG h x G) hom L (fun c => if c = p then 0 + 1 else 0)) (R : FR n (offG h x G) hom M none) (hR : G.R h = t :: s) (hR1 : (offG h x G).R h = t :: x :: s) (hRo : ∀ g, g ≠ h → (offG h x G).R g = G.R g)
    (ux : G.up x = p) (hup : (offG h x G).up = putF G.up x (-1)) (hmr : (offG h x G).mr = putF G.mr x false) (hx : x < n) (hp : p < n) (hh : hom p = h) (h1 : 1 ≤ h) (hf : ∀ y, y < n → hom y = h → y ≠ t → M t y) :
    FF n (looseG n h x G) hom L (fun _ => 0) ∧ FR n (looseG n h x G) hom M none ∧ (∃ s', (looseG n h x G).R h = t :: s') ∧ (∀ g, g ≠ h → (looseG n h x G).R g = G.R g) ∧ (looseG n h x G).up x = -1 ∧
      (G.R h).length ≤ ((looseG n h x G).R h).length ∧ ((looseG n h x G).R h).length + marks n (looseG n h x G) ≤ (G.R h).length + marks n G + 2 ∧ marks n (looseG n h x G) ≤ marks n G + 1 := by
  have e : looseG n h x G = casG (marks n (offG h x G) + 1) h p (offG h x G) := by unfold looseG; rw [ux, if_neg (by omega), Int.toNat_natCast]
  rw [e]
  obtain ⟨r1, r2, r3, r4, r5, r6, r7, r8⟩ := cas_ok (M := M) irr (marks n (offG h x G) + 1) p (x :: s) (offG h x G) (by simpa using H1) R hR1 hp hh h1 hf (by omega)
  have hmk := marks_put (G := G) (b := false) hx rfl (offG h x G) hmr
  simp only [Bool.false_eq_true, if_false] at hmk
  rw [hR1] at r5 r6
  rw [hR]
  simp only [List.length_cons] at r5 r6 ⊢
  exact ⟨r1, r2, r3, fun g hg => (r4 g hg).trans (hRo g hg), r8 x (by rw [hup, putF_at]), by omega, by omega, by omega⟩
theorem FR.imp {n : Nat} {hom : Nat → Int} {L M : Nat → Nat → Prop} {g : Option Nat} (R : FR n G hom L g) (h : ∀ g t s, G.R g = t :: s → ∀ y, y ∈ s → L t y → M t y) : FR n G hom M g :=
  ⟨R.ring, R.mem, fun g t s hg hR y hy => h g t s hR y hy (R.top g t s hg hR y hy)⟩
/-- Behind what comes off in a Decrease. -/
theorem dec1_fb (I : FbI A G) {x h : Nat} {k s0 : Int} (hB : lowB A x k s0 = true) (hx : x < A.cs.length) (hh : (A.c x).i = h) (h1 : 1 ≤ h) :
    ∃ t s, G.R h = t :: s ∧ (∀ p : Nat, G.up x = p → p ≠ x ∧
      FF A.cs.length (offG h x G) (fun y => (A.c y).i) (lt3 (lowN A x k s0)) (fun c => if c = p then 0 + 1 else 0) ∧ FR A.cs.length (offG h x G) (fun y => (A.c y).i) (fun a y => y ≠ x → lt3 (lowN A x k s0) a y) none ∧ (offG h x G).R h = t :: x :: s ∧
      (∀ y, y < A.cs.length → (A.c y).i = h → y ≠ t → y ≠ x → lt3 (lowN A x k s0) t y)) ∧
    FF A.cs.length (decG1 (lowN A x k s0) h x G) (fun y => (A.c y).i) (lt3 (lowN A x k s0)) (fun _ => 0) ∧ FR A.cs.length (decG1 (lowN A x k s0) h x G) (fun y => (A.c y).i) (fun a y => y ≠ x → lt3 (lowN A x k s0) a y) none ∧
      (∃ s', (decG1 (lowN A x k s0) h x G).R h = t :: s') ∧ (∀ g, g ≠ h → (decG1 (lowN A x k s0) h x G).R g = G.R g) ∧ ((decG1 (lowN A x k s0) h x G).up x = -1 ∨ (t ≠ x ∧ lt3 (lowN A x k s0) t x)) ∧
      (G.R h).length ≤ ((decG1 (lowN A x k s0) h x G).R h).length ∧ ((decG1 (lowN A x k s0) h x G).R h).length + marks A.cs.length (decG1 (lowN A x k s0) h x G) ≤ (G.R h).length + marks A.cs.length G + 2 ∧ marks A.cs.length (decG1 (lowN A x k s0) h x G) ≤ marks A.cs.length G + 1 := by
  have hc := low_c hB hx
  have hle := lowB_le hB
  rw [Int.toNat_natCast] at hle
  have low : ∀ a y, y ≠ x → lt3 A a y → lt3 (lowN A x k s0) a y := fun a y hy hl => by
    by_cases e : a = x
    · subst e
      exact lt3_lower hl (by rw [hc, if_neg hy]) (by rw [hc, if_pos rfl]; exact hle)
    · exact (lt3_same (by rw [hc, if_neg e]) (by rw [hc, if_neg hy])).2 hl
  obtain ⟨t, s, hR⟩ : ∃ t s, G.R h = t :: s := by
    cases hRR : G.R h with
    | nil =>
      have h2 := I.min_none hRR
      have h3 := (minN_none (A := A) (h := (h : Int)) (by omega)).1 h2
      have : 0 < lenN A (h : Int) := lenN_pos.2 ⟨x, hx, hh, by omega⟩
      omega
    | cons t s => exact ⟨t, s, rfl⟩
  have hfirst : ∀ y, y < A.cs.length → (A.c y).i = h → y ≠ t → y ≠ x → lt3 (lowN A x k s0) t y := fun y hy hyh hyt hyx => low t y hyx (I.first hR hy hyh hyt)
  have F' : FF A.cs.length G (fun y => (A.c y).i) (fun a y => y ≠ x → lt3 (lowN A x k s0) a y) (fun _ => 0) := I.ff.mono (fun y p hy hu ho => ⟨(I.ff.home y p hy hu).1, (I.ff.home y p hy hu).2, fun hyx => low p y hyx ho⟩) I.ff.alone
  have R' : FR A.cs.length G (fun y => (A.c y).i) (fun a y => y ≠ x → lt3 (lowN A x k s0) a y) none := I.fr.imp (fun g t s hR y hy hl hyx => low t y hyx hl)
  have off : ∀ p : Nat, G.up x = p → p ≠ x ∧ FF A.cs.length (offG h x G) (fun y => (A.c y).i) (lt3 (lowN A x k s0)) (fun c => if c = p then 0 + 1 else 0) ∧ FR A.cs.length (offG h x G) (fun y => (A.c y).i) (fun a y => y ≠ x → lt3 (lowN A x k s0) a y) none ∧ (offG h x G).R h = t :: x :: s ∧
      ((offG h x G).up = putF G.up x (-1) ∧ (offG h x G).mr = putF G.mr x false ∧ ∀ g, g ≠ h → (offG h x G).R g = G.R g) := fun p hp => by
    have hpx : p ≠ x := fun e => by subst e; exact lt3_irr (I.ff.ord p p hx hp)
    obtain ⟨o1, o2, o3, o4, o5, o6, _, _⟩ := off_ok F' R' hR hx hp hpx hh (fun h => absurd rfl h)
    refine ⟨hpx, o1.mono (fun y q hy hu ho => ⟨(o1.home y q hy hu).1, (o1.home y q hy hu).2, ho (fun e => ?_)⟩) o1.alone, o2, by rw [o6, putF_at], o3, o4, fun g hg => by rw [o6, putF_ne _ _ hg]⟩
    subst e; rw [o3, putF_at] at hu; omega
  refine ⟨t, s, hR, fun p hp => ⟨(off p hp).1, (off p hp).2.1, (off p hp).2.2.1, (off p hp).2.2.2.1, hfirst⟩, ?_⟩
  by_cases hup : G.up x = -1
  · have e : decG1 (lowN A x k s0) h x G = G := by unfold decG1; rw [if_neg (by simp [hup])]
    rw [e]
    exact ⟨F'.mono (fun y p hy hu ho => ⟨(F'.home y p hy hu).1, (F'.home y p hy hu).2, ho (fun e => by subst e; omega)⟩) F'.alone, R', ⟨s, hR⟩, fun _ _ => rfl, Or.inl hup, Nat.le_refl _, by omega, by omega⟩
  · obtain ⟨p, hp, ux, _⟩ := (I.ff.upK x hx).resolve_left hup
    have hph : (A.c p).i = h := by have : (A.c x).i = (A.c p).i := (I.ff.home x p hx ux).1; omega
    cases hl : ltN (lowN A x k s0) x (G.up x).toNat with
    | true =>
      have e : decG1 (lowN A x k s0) h x G = looseG A.cs.length h x G := by unfold decG1; rw [if_pos ⟨hup, hl⟩, low_len]
      rw [e]
      obtain ⟨o0, o1, o2, o3, o4, o5, o6⟩ := off p ux
      -- the order holds of all but x, which is above none of itself
      have hL : lt3 (lowN A x k s0) x p := by rw [ux, Int.toNat_natCast] at hl; unfold ltN at hl; simpa using hl
      obtain ⟨r1, r2, r3, r4, r5, r6, r7, r8⟩ := by
        have e' : looseG A.cs.length h x G = casG (marks A.cs.length (offG h x G) + 1) h p (offG h x G) := by unfold looseG; rw [ux, if_neg (by omega), Int.toNat_natCast]
        have := cas_ok (M := fun a y => y ≠ x → lt3 (lowN A x k s0) a y) (L := lt3 (lowN A x k s0)) (fun a => lt3_irr) (marks A.cs.length (offG h x G) + 1) p (x :: s) (offG h x G) (by simpa using o1) o2 o3 hp hph h1 (fun y hy hyh hyt hyx => hfirst y hy hyh hyt hyx) (by omega)
        rw [← e'] at this
        exact this
      have hmk := marks_put (G := G) (b := false) hx rfl (offG h x G) o5
      simp only [Bool.false_eq_true, if_false] at hmk
      rw [o3] at r5 r6
      rw [hR]
      simp only [List.length_cons] at r5 r6 ⊢
      exact ⟨r1, r2, r3, fun g hg => (r4 g hg).trans (o6 g hg), Or.inl (r8 x (by rw [o4, putF_at])), by omega, by omega, by omega⟩
    | false =>
      have e : decG1 (lowN A x k s0) h x G = G := by unfold decG1; rw [if_neg (by simp [hl])]
      rw [e]
      have hpx : p ≠ x := (off p ux).1
      have hnl : lt3 (lowN A x k s0) p x := by
        rw [ux, Int.toNat_natCast] at hl
        unfold ltN at hl
        have : ¬ lt3 (lowN A x k s0) x p := by simpa using hl
        exact (lt3_total hpx).resolve_right this
      have htx : t ≠ x := fun e => by
        subst e
        have := (I.min_some hR).2.2.2.1
        omega
      refine ⟨F'.mono (fun y q hy hu ho => ⟨(F'.home y q hy hu).1, (F'.home y q hy hu).2, ?_⟩) F'.alone, R', ⟨s, hR⟩, fun _ _ => rfl, Or.inr ⟨htx, ?_⟩, Nat.le_refl _, by omega, by omega⟩
      · by_cases e2 : y = x
        · subst e2
          obtain rfl : q = p := by omega
          exact hnl
        · exact ho e2
      · by_cases e2 : p = t
        · subst e2; exact hnl
        · exact lt3_trans (hfirst p hp hph e2 hpx) hnl
theorem dec_fb (I : FbI A G) {x h : Nat} {k s0 : Int} (hB : lowB A x k s0 = true) (hx : x < A.cs.length) (hh : (A.c x).i = h) (h1 : 1 ≤ h) :
    FbI (lowN A x k s0) (decG (lowN A x k s0) h x G) ∧ (∀ g, g ≠ h → (decG (lowN A x k s0) h x G).R g = G.R g) ∧ (G.R h).length ≤ ((decG (lowN A x k s0) h x G).R h).length ∧
      ((decG (lowN A x k s0) h x G).R h).length + marks A.cs.length (decG (lowN A x k s0) h x G) ≤ (G.R h).length + marks A.cs.length G + 2 ∧ marks A.cs.length (decG (lowN A x k s0) h x G) ≤ marks A.cs.length G + 1 := by
  obtain ⟨t, s, hR, _, f1, f2, ⟨s', hR1⟩, f4, f5, f6, f7, f8⟩ := dec1_fb I hB hx hh h1
  have hi : ∀ y, ((lowN A x k s0).c y).i = (A.c y).i := low_i hB hx
  have hl := low_len A x k s0
  obtain ⟨q1, q2, q3⟩ := f2.all h
  rw [hR1] at q1
  have hnd := List.nodup_cons.1 q1.nd
  have hF : ∀ G', FF A.cs.length G' (fun y => (A.c y).i) (lt3 (lowN A x k s0)) (fun _ => 0) → FF (lowN A x k s0).cs.length G' (fun y => ((lowN A x k s0).c y).i) (lt3 (lowN A x k s0)) (fun _ => 0) := fun G' H => by
    rw [hl, show (fun y => ((lowN A x k s0).c y).i) = (fun y => (A.c y).i) from funext hi]; exact H
  have hRR : ∀ G', FR A.cs.length G' (fun y => (A.c y).i) (lt3 (lowN A x k s0)) none → FR (lowN A x k s0).cs.length G' (fun y => ((lowN A x k s0).c y).i) (lt3 (lowN A x k s0)) none := fun G' H => by
    rw [hl, show (fun y => ((lowN A x k s0).c y).i) = (fun y => (A.c y).i) from funext hi]; exact H
  -- x is in no other ring
  have xg : ∀ g, g ≠ h → x ∉ (decG1 (lowN A x k s0) h x G).R g := fun g hg hm => by
    have := (((f2.all g).2.1 x).1 hm).2.2.2
    simp only at this
    omega
  by_cases hc : hdI ((decG1 (lowN A x k s0) h x G).R h) ≠ x ∧ ltN (lowN A x k s0) x (hdI ((decG1 (lowN A x k s0) h x G).R h)).toNat = true
  · have e : decG (lowN A x k s0) h x G = topG h x (decG1 (lowN A x k s0) h x G) := by unfold decG; rw [if_pos hc]
    rw [e]
    rw [hR1] at hc
    have htx : t ≠ x := fun e2 => hc.1 (by rw [e2]; rfl)
    have hlt : lt3 (lowN A x k s0) x t := by
      have := hc.2
      unfold ltN hdI at this
      simpa using this
    have ux : (decG1 (lowN A x k s0) h x G).up x = -1 := f5.resolve_right (fun h' => lt3_asym hlt h'.2)
    have hm : x ∈ t :: s' := by rw [← hR1]; exact (q2 x).2 ⟨h1, hx, ux, hh⟩
    obtain ⟨a, b, e1, e2, xa, xb⟩ := aft_eq hm q1.nd
    have eR : (topG h x (decG1 (lowN A x k s0) h x G)).R h = x :: (b ++ a) := by
      show putF _ h _ h = _
      rw [putF_at, hR1, e2]
    have eR' : ∀ g, g ≠ h → (topG h x (decG1 (lowN A x k s0) h x G)).R g = (decG1 (lowN A x k s0) h x G).R g := fun g hg => putF_ne _ _ hg
    have hmm : ∀ z, z ∈ x :: (b ++ a) ↔ z ∈ t :: s' := fun z => by rw [e1]; simp; grind
    have hlen : (x :: (b ++ a)).length = ((decG1 (lowN A x k s0) h x G).R h).length := by rw [hR1, e1]; simp; omega
    refine ⟨⟨hF _ (f1.setR _), hRR _ ⟨fun g _ => ?_, fun g y _ => ?_, fun g t' s'' _ hR' y hy => ?_⟩⟩, fun g hg => by rw [eR' g hg, f4 g hg], by rw [eR, hlen]; exact f6, by rw [eR, hlen]; exact f7, f8⟩
    · by_cases eg : g = h
      · subst eg
        rw [eR]
        rw [e1] at q1
        exact Ring.rot (a := a) (b := x :: b) q1
      · rw [eR' g eg]; exact (f2.all g).1
    · by_cases eg : g = h
      · subst eg
        rw [eR, hmm, ← hR1]; exact q2 y
      · rw [eR' g eg]; exact (f2.all g).2.1 y
    · by_cases eg : g = h
      · subst eg
        rw [eR] at hR'
        have e3 : x = t' := by injection hR'
        have e4 : b ++ a = s'' := by injection hR'
        subst e3 e4
        have hy2 := (hmm y).1 (by simp only [List.mem_cons]; exact Or.inr hy)
        have hyx : y ≠ x := fun e => by subst e; simp at hy; rcases hy with h | h; exact xb h; exact xa h
        rcases List.mem_cons.1 hy2 with rfl | hy2
        · exact hlt
        · exact lt3_trans hlt (q3 t s' hR1 y hy2 hyx)
      · rw [eR' g eg] at hR'
        have hyx : y ≠ x := fun e => xg g eg (by rw [hR', ← e]; simp [hy])
        exact (f2.all g).2.2 t' s'' hR' y hy hyx
  · have e : decG (lowN A x k s0) h x G = decG1 (lowN A x k s0) h x G := by unfold decG; rw [if_neg hc]
    rw [e]
    refine ⟨⟨hF _ f1, hRR _ (f2.imp (fun g t' s'' hR' y hy hl2 => ?_))⟩, f4, f6, f7, f8⟩
    by_cases eyx : y = x
    · by_cases eg : g = h
      · subst eg
        rw [hR1] at hR' hc
        have e3 : t = t' := by injection hR'
        have e4 : s' = s'' := by injection hR'
        subst e3 e4 eyx
        have hty : t ≠ y := fun e => hnd.1 (e ▸ hy)
        have : ¬ lt3 (lowN A y k s0) y t := fun hlt => hc ⟨fun e => hty (by have : (t : Int) = (y : Int) := e; omega), by unfold ltN hdI; simpa using hlt⟩
        exact (lt3_total hty).resolve_right this
      · subst eyx
        exact absurd (by rw [hR']; simp [hy]) (xg g eg)
    · exact hl2 eyx
end
end Go.Proofs.Ytighgbdijagolaa

set_option linter.unusedVariables false
set_option linter.unusedSimpArgs false
namespace Go.Proofs.Ytighgbdijagolaa

theorem RI.done {n : Nat} {hom : Nat → Int} {L : Nat → Nat → Prop} {h : Nat} {G : FG} (H : RI n hom L h [] G) (h1 : 1 ≤ h) : FR n G hom L none := by
  refine ⟨fun g _ => ?_, fun g y _ => ?_, fun g t s _ hR => ?_⟩
  all_goals by_cases e : g = h
  · subst e; exact H.ring
  · exact H.fr.ring g (by simp; exact e)
  · subst e
    constructor
    · intro hm; exact ⟨h1, H.mem y hm⟩
    · rintro ⟨_, a⟩
      rcases H.all y a with b | b
      · exact b
      · cases b
  · exact H.fr.mem g y (by simp; exact e)
  · subst e; exact H.top t s hR
  · exact H.fr.top g t s (by simp; exact e) hR
section
variable {A : NS} {G : FG}
theorem fb_new (n : Nat) : FbI (NS.new n) FG.none := by
  have hl : (NS.new n).cs.length = n := by simp [NS.new]
  have hz : ∀ y, ((NS.new n).c y).i = 0 := fun y => by rw [NS.new_c]; rfl
  refine ⟨⟨⟨fun x hx => hx, fun x hx => hx, fun _ _ => rfl, fun _ _ => rfl⟩, fun x y _ hy => (by cases hy), fun y _ => Or.inl rfl, fun x _ => Ring.nil _, fun y p _ hu => ?_, fun y p _ hu => ?_, fun y _ _ => ⟨rfl, rfl, rfl⟩, fun y _ _ => rfl, fun x d _ => Nat.zero_le _⟩, ⟨fun h _ => Ring.nil _, fun h y _ => ?_, fun h t s _ e => (by cases e)⟩⟩
  · have : (-1 : Int) = p := hu
    omega
  · have : (-1 : Int) = p := hu
    omega
  · constructor
    · intro hm; cases hm
    · rintro ⟨h1, _, _, h2⟩
      simp only [hz] at h2
      omega
theorem fb_make (I : FbI A G) : FbI (makeN A) G := by
  have e1 : (makeN A).cs = A.cs := by unfold makeN; split <;> rfl
  have e2 : ∀ y, (makeN A).c y = A.c y := fun y => by unfold NS.c; rw [e1]
  have e3 : (fun y => ((makeN A).c y).i) = (fun y => (A.c y).i) := funext (fun y => by rw [e2])
  refine ⟨?_, ?_⟩
  · rw [e1, e3]
    exact I.ff.mono (fun y p hy hu ho => ⟨(I.ff.home y p hy hu).1, (I.ff.home y p hy hu).2, (lt3_same (e2 p) (e2 y)).2 ho⟩) I.ff.alone
  · rw [e1, e3]
    exact I.fr.imp (fun g t s _ y _ hl => (lt3_same (e2 t) (e2 y)).2 hl)
theorem ins_fb (I : FbI A G) (ok : A.Ok) {h x : Nat} (k s : Int) (hB : putB A h x = true) :
    FbI (putN A h x k s) (insG (putN A h x k s) h x G) ∧ ((insG (putN A h x k s) h x G).R h).length = (G.R h).length + 1 ∧ (∀ g, g ≠ h → (insG (putN A h x k s) h x G).R g = G.R g) ∧ (insG (putN A h x k s) h x G).mr = G.mr ∧ 1 ≤ h ∧ x < A.cs.length ∧
      inN (putN A h x k s) (x : Int) = true ∧ (∀ t s', G.R h = t :: s' → inN (putN A h x k s) (t : Int) = true) ∧ (putN A h x k s).cs.length = A.cs.length := by
  obtain ⟨b1, b2, b3⟩ := (putB_iff _ _ _).1 hB
  have b4 := (hasN_iff _ _).1 b1
  have b5 := (slotN_iff _ _).1 b2
  have hx : x < A.cs.length := by omega
  have h1 : 1 ≤ h := by omega
  have eP : putN A h x k s = withN A x ⟨h, k, s⟩ := by unfold putN; rw [hB]; rfl
  have hc : ∀ y, (putN A h x k s).c y = if y = x then ⟨h, k, s⟩ else A.c y := fun y => by rw [eP, c_with]; simp [hx]
  have hl : (putN A h x k s).cs.length = A.cs.length := by rw [eP, len_with]
  have x0 : ¬ 0 < (A.c x).i := fun h' => by
    have : inN A (x : Int) = true := (inN_nat _ _).2 ⟨hx, h'⟩
    rw [this] at b3; cases b3
  obtain ⟨ax, kx, nx⟩ := I.ff.alone x hx x0
  have hom : ∀ y, y ≠ x → ((putN A h x k s).c y).i = (A.c y).i := fun y hy => by rw [hc, if_neg hy]
  have homx : ((putN A h x k s).c x).i = h := by rw [hc, if_pos rfl]
  have inx : ∀ y, 0 < (A.c y).i → y ≠ x := fun y hy e => x0 (e ▸ hy)
  have lts : ∀ a y, a ≠ x → y ≠ x → (lt3 (putN A h x k s) a y ↔ lt3 A a y) := fun a y ha hy => lt3_same (by rw [hc, if_neg ha]) (by rw [hc, if_neg hy])
  have F' : FF A.cs.length G (fun y => ((putN A h x k s).c y).i) (lt3 (putN A h x k s)) (fun _ => 0) := I.ff.mono (fun y p hy hu ho => by
    have hh := I.ff.home y p hy hu
    have hy1 : 0 < (A.c y).i := hh.2
    have hp1 : 0 < (A.c p).i := by have : (A.c y).i = (A.c p).i := hh.1; omega
    have e1 := inx y hy1
    have e2 := inx p hp1
    exact ⟨by simp only [hom y e1, hom p e2]; exact hh.1, by simp only [hom y e1]; exact hy1, (lts p y e2 e1).2 ho⟩) (fun y hy h0 => by
    by_cases e : y = x
    · subst e; exact ⟨ax, kx, nx⟩
    · simp only [hom y e] at h0; exact I.ff.alone y hy h0)
  have mR : ∀ g z, z ∈ G.R g → z ≠ x ∧ (A.c z).i = g ∧ 1 ≤ g := fun g z hz => by
    have := I.out hz
    exact ⟨inx z (by have := this.2.2.2.1; omega), this.2.2.2.1, this.1⟩
  have mm : ∀ g z, z ≠ x → (z ∈ G.R g ↔ 1 ≤ g ∧ z < A.cs.length ∧ G.up z = -1 ∧ ((putN A h x k s).c z).i = g) := fun g z hz => by rw [hom z hz]; exact (I.fr.all g).2.1 z
  have H : RI A.cs.length (fun y => ((putN A h x k s).c y).i) (lt3 (putN A h x k s)) h [x] G := by
    refine ⟨F', ⟨fun g _ => (I.fr.all g).1, fun g z hg => ?_, fun g t s' _ hR y hy => ?_⟩, (I.fr.all h).1, fun t s' hR y hy => ?_, fun z hz => ?_, by simp, fun z hz => ?_, fun z hz => ?_⟩
    · by_cases e : z = x
      · subst e
        constructor
        · intro hm; exact absurd rfl (mR g z hm).1
        · rintro ⟨_, _, _, h2⟩
          simp only [homx] at h2
          exact absurd (by congr 1; omega : some g = some h) hg
      · exact mm g z e
    · have e1 := (mR g t (by rw [hR]; simp)).1
      have e2 := (mR g y (by rw [hR]; simp [hy])).1
      exact (lts t y e1 e2).2 ((I.fr.all g).2.2 t s' hR y hy)
    · have e1 := (mR h t (by rw [hR]; simp)).1
      have e2 := (mR h y (by rw [hR]; simp [hy])).1
      exact (lts t y e1 e2).2 ((I.fr.all h).2.2 t s' hR y hy)
    · exact ((mm h z (mR h z hz).1).1 hz).2
    · simp at hz; subst hz
      exact ⟨⟨hx, ax, homx⟩, nx, fun hm => (mR h z hm).1 rfl⟩
    · by_cases e : z = x
      · exact Or.inr (by simp [e])
      · exact Or.inl ((mm h z e).2 ⟨h1, hz⟩)
  obtain ⟨r1, r2⟩ := H.step h1 (fun G => ltN_ok _ _ _ _ _) (fun a b c => lt3_trans)
  obtain ⟨s1, s2, s3, s4⟩ := rootG_same (ltN (putN A h x k s)) h [x] G
  refine ⟨⟨by rw [hl]; exact r1.ff, by rw [hl]; exact r1.done h1⟩, r2, s4, s2, h1, hx, (inN_nat _ _).2 ⟨by rw [hl]; exact hx, by rw [homx]; omega⟩, fun t s' hR => ?_, hl⟩
  have := I.out (h := h) (z := t) (by rw [hR]; simp)
  exact (inN_nat _ _).2 ⟨by rw [hl]; exact this.2.1, by rw [hom t (mR h t (by rw [hR]; simp)).1]; omega⟩
theorem mel_fb (I : FbI A G) (ok : A.Ok) {a b : Nat} (hj : joinB A a b = true) :
    FbI (joinN A a b) (melG (joinN A a b) a b G) ∧ ((melG (joinN A a b) a b G).R a).length = (G.R a).length + (G.R b).length ∧ (melG (joinN A a b) a b G).R b = [] ∧ (∀ g, g ≠ a → g ≠ b → (melG (joinN A a b) a b G).R g = G.R g) ∧ (melG (joinN A a b) a b G).mr = G.mr ∧ a ≠ b ∧
      (∀ t g s', G.R g = t :: s' → inN (joinN A a b) (t : Int) = true) := by
  obtain ⟨j1, j2, j3⟩ := (joinB_iff _ _ _).1 hj
  have a4 := (hasN_iff _ _).1 j1
  have b4 := (hasN_iff _ _).1 j2
  have hab : a ≠ b := fun e => j3 (by rw [e])
  have h1 : 1 ≤ a := by omega
  have h2 : 1 ≤ b := by omega
  have hl := joinN_len A a b
  have hom : ∀ y, y < A.cs.length → ((joinN A a b).c y).i = if (A.c y).i = b then (a : Int) else (A.c y).i := fun y hy => by
    rw [join_c hj]
    simp only
    by_cases e : (A.c y).i = b
    · rw [if_pos ⟨e, hy⟩, if_pos e]
    · rw [if_neg (fun h => e h.1), if_neg e]
  have lts := join_lt3 hj
  have eL : ∀ x y, lt3 (joinN A a b) x y = lt3 A x y := fun x y => propext (lts x y)
  have F' : FF A.cs.length G (fun y => ((joinN A a b).c y).i) (lt3 (joinN A a b)) (fun _ => 0) := I.ff.mono (fun y p hy hu ho => by
    have hh := I.ff.home y p hy hu
    have hp := (I.ff.above hy hu).1
    have e1 : (A.c y).i = (A.c p).i := hh.1
    have e2 : 0 < (A.c y).i := hh.2
    refine ⟨by simp only [hom y hy, hom p hp, e1], ?_, (lts p y).2 ho⟩
    simp only [hom y hy]
    split <;> omega) (fun y hy h0 => I.ff.alone y hy (fun h' => h0 (by
      have e2 : 0 < (A.c y).i := h'
      simp only [hom y hy]; split <;> omega)))
  have rt : ∀ g z, RtF A.cs.length G (fun y => ((joinN A a b).c y).i) g z ↔ z < A.cs.length ∧ G.up z = -1 ∧ (if (A.c z).i = b then (a : Int) else (A.c z).i) = g := fun g z => by
    unfold RtF
    constructor
    · rintro ⟨x1, x2, x3⟩; exact ⟨x1, x2, by rw [← hom z x1]; exact x3⟩
    · rintro ⟨x1, x2, x3⟩; exact ⟨x1, x2, by show ((joinN A a b).c z).i = _; rw [hom z x1]; exact x3⟩
  have inj : ∀ t g s', G.R g = t :: s' → inN (joinN A a b) (t : Int) = true := fun t g s' hR => by
    have := I.out (h := g) (z := t) (by rw [hR]; simp)
    refine (inN_nat _ _).2 ⟨by rw [hl]; exact this.2.1, ?_⟩
    rw [hom t this.2.1]
    split <;> omega
  have oth : ∀ g, g ≠ a → g ≠ b → ∀ z, z ∈ G.R g ↔ 1 ≤ g ∧ RtF A.cs.length G (fun y => ((joinN A a b).c y).i) g z := fun g ga gb z => by
    rw [rt, (I.fr.all g).2.1 z]
    unfold RtF
    simp only
    constructor
    · rintro ⟨x0, x1, x2, x3⟩; exact ⟨x0, x1, x2, by rw [if_neg (by omega)]; exact x3⟩
    · rintro ⟨x0, x1, x2, x3⟩
      refine ⟨x0, x1, x2, ?_⟩
      split at x3
      · omega
      · exact x3
  have topg : ∀ g t s', G.R g = t :: s' → ∀ y, y ∈ s' → lt3 (joinN A a b) t y := fun g t s' hR y hy => (lts t y).2 ((I.fr.all g).2.2 t s' hR y hy)
  have ab : ∀ z, (z ∈ G.R a ∨ z ∈ G.R b) ↔ RtF A.cs.length G (fun y => ((joinN A a b).c y).i) a z := fun z => by
    rw [rt, (I.fr.all a).2.1 z, (I.fr.all b).2.1 z]
    unfold RtF
    simp only
    constructor
    · rintro (⟨_, x1, x2, x3⟩ | ⟨_, x1, x2, x3⟩)
      · exact ⟨x1, x2, by rw [if_neg (by omega)]; exact x3⟩
      · exact ⟨x1, x2, by rw [if_pos x3]⟩
    · rintro ⟨x1, x2, x3⟩
      split at x3
      · rename_i e; exact Or.inr ⟨h2, x1, x2, e⟩
      · exact Or.inl ⟨h1, x1, x2, x3⟩
  have nb : ∀ z, ¬ RtF A.cs.length G (fun y => ((joinN A a b).c y).i) b z := fun z hz => by
    rw [rt] at hz
    have x3 := hz.2.2
    split at x3 <;> omega
  cases hRb : G.R b with
  | nil =>
    have e : melG (joinN A a b) a b G = { G with R := putF G.R b [] } := by unfold melG; rw [hRb]
    have eR : ({ G with R := putF G.R b [] } : FG).R = G.R := by
      show putF G.R b [] = G.R
      funext z; unfold putF; by_cases ez : z = b
      · rw [if_pos ez, ez, hRb]
      · rw [if_neg ez]
    rw [e]
    refine ⟨⟨by rw [hl]; exact F'.setR _, ?_⟩, by rw [eR]; simp, putF_at _ _ _, fun g _ hg => putF_ne _ _ hg, rfl, hab, inj⟩
    rw [hl]
    refine ⟨fun g _ => by rw [eR]; exact (I.fr.all g).1, fun g y _ => ?_, fun g t s _ hR => by rw [eR] at hR; exact topg g t s hR⟩
    rw [eR]
    by_cases ga : g = a
    · subst ga
      have := ab y
      rw [hRb] at this
      simp only [List.not_mem_nil, or_false] at this
      rw [this]
      exact ⟨fun h => ⟨h1, h⟩, fun h => h.2⟩
    · by_cases gb : g = b
      · subst gb
        rw [hRb]
        constructor
        · intro hm; cases hm
        · rintro ⟨_, hz⟩; exact absurd hz (nb y)
      · exact oth g ga gb y
  | cons x r =>
    have e : melG (joinN A a b) a b G = { rootG (ltN (joinN A a b)) a (x :: r) G with R := putF (rootG (ltN (joinN A a b)) a (x :: r) G).R b [] } := by unfold melG; rw [hRb]
    rw [e]
    have rb := (I.fr.all b).1
    rw [hRb] at rb
    obtain ⟨c1, c2, c3, c4, c5⟩ := rootG_core (lt := ltN (joinN A a b)) (h := a) F' h1 (ltN_ok _ _ _ _ _) (fun _ _ _ => lt3_trans) (I.fr.all a).1 rb (fun z hz hm => by
        have x1 := (I.out hz).2.2.2.1
        have x2 := (I.out (h := b) (z := z) (by rw [hRb]; exact hm)).2.2.2.1
        omega) (fun z hz => (ab z).1 (Or.inl hz)) (fun z hz => (ab z).1 (Or.inr (by rw [hRb]; exact hz))) (topg a) (topg b x r hRb)
    obtain ⟨s1, s2, s3, s4⟩ := rootG_same (ltN (joinN A a b)) a (x :: r) G
    generalize rootG (ltN (joinN A a b)) a (x :: r) G = G1 at *
    have eRa : putF G1.R b [] a = G1.R a := putF_ne _ _ hab
    have eRg : ∀ g, g ≠ a → g ≠ b → putF G1.R b [] g = G.R g := fun g ga gb => (putF_ne _ _ gb).trans (s4 g ga)
    refine ⟨⟨by rw [hl]; exact c1.setR _, ?_⟩, ?_, putF_at _ _ _, eRg, s2, hab, inj⟩
    · rw [hl]
      refine ⟨fun g _ => ?_, fun g y _ => ?_, fun g t s _ hR => ?_⟩
      all_goals by_cases ga : g = a
      · subst ga
        show Ring G1.nx (putF G1.R b [] g)
        rw [eRa]; exact c2
      · show Ring G1.nx (putF G1.R b [] g)
        by_cases gb : g = b
        · rw [gb, putF_at]; exact Ring.nil _
        · rw [eRg g ga gb]
          refine c5 _ (I.fr.all g).1 (fun z hz => ?_)
          have x0 := (I.out hz).2.2.2.1
          exact ⟨fun hm => ga (by have := (I.out hm).2.2.2.1; omega), fun hm => gb (by have := (I.out (h := b) (z := z) (by rw [hRb]; exact hm)).2.2.2.1; omega)⟩
      · subst ga
        show y ∈ putF G1.R b [] g ↔ 1 ≤ g ∧ y < _ ∧ G1.up y = -1 ∧ _
        rw [eRa, c3.mem_iff, s1]
        have := ab y
        rw [hRb] at this
        rw [List.mem_append, this]
        exact ⟨fun h => ⟨h1, h⟩, fun h => h.2⟩
      · show y ∈ putF G1.R b [] g ↔ 1 ≤ g ∧ y < _ ∧ G1.up y = -1 ∧ _
        rw [s1]
        by_cases gb : g = b
        · subst gb
          rw [putF_at]
          constructor
          · intro hm; cases hm
          · rintro ⟨_, hz⟩; exact absurd hz (nb y)
        · rw [eRg g ga gb]; exact oth g ga gb y
      · subst ga
        have hR' : putF G1.R b [] g = t :: s := hR
        rw [eRa] at hR'
        exact c4 t s hR'
      · have hR' : putF G1.R b [] g = t :: s := hR
        by_cases gb : g = b
        · rw [gb, putF_at] at hR'; cases hR'
        · rw [eRg g ga gb] at hR'; exact topg g t s hR'
    · show (putF G1.R b [] a).length = _
      rw [eRa, c3.length_eq, List.length_append]
end
end Go.Proofs.Ytighgbdijagolaa

set_option linter.unusedVariables false
set_option linter.unusedSimpArgs false
namespace Go.Proofs.Ytighgbdijagolaa

section
variable {A : NS} {G : FG}
/-- Behind what comes off in a Delete. -/
theorem del1_fb (I : FbI A G) {x h t : Nat} {s : List Nat} (hR : G.R h = t :: s) (hx : x < A.cs.length) (hh : (A.c x).i = h) (htx : t ≠ x) :
    (∀ p : Nat, G.up x = p → p ≠ x ∧ p < A.cs.length ∧ (A.c p).i = h ∧ FF A.cs.length (offG h x G) (fun y => (A.c y).i) (lt3 A) (fun c => if c = p then 0 + 1 else 0) ∧ FR A.cs.length (offG h x G) (fun y => (A.c y).i) (lt3 A) none ∧ (offG h x G).R h = t :: x :: s) ∧
    FF A.cs.length (looseG A.cs.length h x G) (fun y => (A.c y).i) (lt3 A) (fun _ => 0) ∧ FR A.cs.length (looseG A.cs.length h x G) (fun y => (A.c y).i) (lt3 A) none ∧ (∃ s', (looseG A.cs.length h x G).R h = t :: s') ∧ (∀ g, g ≠ h → (looseG A.cs.length h x G).R g = G.R g) ∧ (looseG A.cs.length h x G).up x = -1 ∧
      (G.R h).length ≤ ((looseG A.cs.length h x G).R h).length ∧ ((looseG A.cs.length h x G).R h).length + marks A.cs.length (looseG A.cs.length h x G) ≤ (G.R h).length + marks A.cs.length G + 2 ∧ marks A.cs.length (looseG A.cs.length h x G) ≤ marks A.cs.length G + 1 := by
  obtain ⟨m1, h1, ht, ut, hth⟩ := I.min_some hR
  have off : ∀ p : Nat, G.up x = p → (p ≠ x ∧ p < A.cs.length ∧ (A.c p).i = h ∧ FF A.cs.length (offG h x G) (fun y => (A.c y).i) (lt3 A) (fun c => if c = p then 0 + 1 else 0) ∧ FR A.cs.length (offG h x G) (fun y => (A.c y).i) (lt3 A) none ∧ (offG h x G).R h = t :: x :: s) ∧
      ((offG h x G).up = putF G.up x (-1) ∧ (offG h x G).mr = putF G.mr x false ∧ ∀ g, g ≠ h → (offG h x G).R g = G.R g) := fun p hp => by
    have hpx : p ≠ x := fun e => by subst e; exact lt3_irr (I.ff.ord p p hx hp)
    obtain ⟨o1, o2, o3, o4, o5, o6, _, _⟩ := off_ok I.ff I.fr hR hx hp hpx hh (I.first hR hx hh (Ne.symm htx))
    have hph : (A.c x).i = (A.c p).i := (I.ff.home x p hx hp).1
    exact ⟨⟨hpx, (I.ff.above hx hp).1, by omega, o1, o2, by rw [o6, putF_at]⟩, o3, o4, fun g hg => by rw [o6, putF_ne _ _ hg]⟩
  refine ⟨fun p hp => (off p hp).1, ?_⟩
  by_cases hup : G.up x = -1
  · have e : looseG A.cs.length h x G = G := by unfold looseG; rw [if_pos hup]
    rw [e]
    exact ⟨I.ff, I.fr, ⟨s, hR⟩, fun _ _ => rfl, hup, Nat.le_refl _, by omega, by omega⟩
  · obtain ⟨p, hp, ux, _⟩ := (I.ff.upK x hx).resolve_left hup
    obtain ⟨⟨o0, _, hph, o1, o2, o3⟩, o4, o5, o6⟩ := off p ux
    exact loose_ok (fun a => lt3_irr) I.ff o1 o2 hR o3 o6 ux o4 o5 hx hp hph h1 (fun y hy hyh hyt => I.first hR hy hyh hyt)
theorem del_fb (I : FbI A G) (ok : A.Ok) {x h t : Nat} {s : List Nat} (hR : G.R h = t :: s) (hx : x < A.cs.length) (ux : G.up x = -1) (hh : (A.c x).i = h) (htx : t ≠ x) :
    FbI (dropN A x) (delG2 h x G) ∧ hdI ((delG2 h x G).R h) = t ∧ ((delG2 h x G).R h).length + 1 = (G.R h).length + (G.K x).length ∧ (∀ g, g ≠ h → (delG2 h x G).R g = G.R g) ∧ marks A.cs.length (delG2 h x G) ≤ marks A.cs.length G := by
  obtain ⟨m1, h1, ht, ut, hth⟩ := I.min_some hR
  have h0 : (0 : Int) < (A.c x).i := by omega
  have hin : inN A (x : Int) = true := (inN_nat _ _).2 ⟨hx, h0⟩
  have hc := fun y => drop_c hin y
  have hcl := drop_len A (x : Int)
  obtain ⟨q1, q2, q3⟩ := I.fr.all h
  have hm : x ∈ G.R h := (q2 x).2 ⟨h1, hx, ux, hh⟩
  obtain ⟨a, b, e1, xa, xb, e2, e3⟩ := split_nat hm q1.nd
  have hmid : midR (G.R h) (kl (G.K x)) x = a ++ (kl (G.K x) ++ b) := by unfold midR; rw [e2, e3]
  obtain ⟨a', ea⟩ : ∃ a', a = t :: a' := by
    rw [hR] at e1
    cases a with
    | nil => simp at e1; exact absurd e1.1 htx
    | cons y a' => simp at e1; exact ⟨a', by rw [e1.1]⟩
  obtain ⟨rF, r1, r2⟩ := I.ff.raise hx ux h0
  have up1 := raise_up G ux
  have mr1 := raise_mr G (I.ff.free x hx ux)
  have K1 := raise_K G x
  have rootk : ∀ z, G.up z = -1 → z ∉ G.K x := fun z hz => I.ff.notkid hx hz
  have rr : ∀ z, z ∈ G.R h → z < A.cs.length ∧ G.up z = -1 ∧ (A.c z).i = h := fun z hz => ((q2 z).1 hz).2
  have kr : ∀ z, z ∈ G.K x → z < A.cs.length ∧ G.up z = x ∧ (A.c z).i = h := fun z hz => by
    obtain ⟨k1, k2⟩ := I.ff.kid x z hx hz
    have k3 : (A.c z).i = (A.c x).i := (I.ff.home z x k1 k2).1
    exact ⟨k1, k2, by omega⟩
  rw [e1] at q1
  have g1 := r2 a b q1 (fun z hz => rootk z (rr z (by rw [e1]; exact hz)).2.1)
  have g2 : Ring (raiseG G x).nx (x :: ((kl (G.K x) ++ b) ++ a)) := Ring.rot (a := a) (b := x :: (kl (G.K x) ++ b)) g1
  have mm : ∀ z, z ∈ x :: ((kl (G.K x) ++ b) ++ a) ↔ z ∈ G.R h ∨ z ∈ G.K x := fun z => by rw [e1]; simp [mem_kl]; grind
  have all : ∀ z, z ∈ x :: ((kl (G.K x) ++ b) ++ a) → z < A.cs.length ∧ (raiseG G x).up z = -1 ∧ (A.c z).i = h := fun z hz => by
    rw [up1]
    rcases (mm z).1 hz with hz | hz
    · exact ⟨(rr z hz).1, by rw [if_neg (rootk z (rr z hz).2.1)]; exact (rr z hz).2.1, (rr z hz).2.2⟩
    · exact ⟨(kr z hz).1, by rw [if_pos hz], (kr z hz).2.2⟩
  obtain ⟨p1, p2⟩ := rF.rg.part g2 (fun z hz => (all z hz).1)
  have hnd := List.nodup_cons.1 g2.nd
  have hpm : (raiseG G x).pv x ∈ x :: ((kl (G.K x) ++ b) ++ a) := by
    rcases List.eq_nil_or_concat ((kl (G.K x) ++ b) ++ a) with e | ⟨c, y, e⟩
    · rw [e] at g2
      have e1 := ring_one.1 g2
      have := rF.rg.pn x hx
      rw [e1] at this
      rw [this]; simp
    · rw [List.concat_eq_append] at e
      have := rF.rg.last (x := x) (y := y) (a := c) (by rw [List.cons_append, ← e]; exact g2) (all y (by rw [e]; simp)).1
      rw [this, e]; simp
  have hpv := all _ hpm
  have p3 : Ring (swapN (raiseG G x).nx x ((raiseG G x).pv x)) (a ++ (kl (G.K x) ++ b)) := Ring.rot (a := kl (G.K x) ++ b) (b := a) p2
  have F2 := rF.spl hx hpv.1 (all x (by simp)).2.1 hpv.2.1 h0 (by have := hpv.2.2; show 0 < (A.c _).i; omega)
  have R2 : (delG2 h x G).R h = a ++ (kl (G.K x) ++ b) := by show putF G.R h _ h = _; rw [putF_at, hmid]
  have R2' : ∀ g, g ≠ h → (delG2 h x G).R g = G.R g := fun g hg => putF_ne _ _ hg
  have up2 : (delG2 h x G).up = (raiseG G x).up := rfl
  have K2 : (delG2 h x G).K = putF G.K x [] := K1
  have nx2 : (delG2 h x G).nx = swapN (raiseG G x).nx x ((raiseG G x).pv x) := rfl
  have hom' : ∀ z, z ≠ x → ((dropN A (x : Int)).c z).i = (A.c z).i := fun z hz => by rw [hc, if_neg hz]
  have homx : ((dropN A (x : Int)).c x).i = 0 := by rw [hc, if_pos rfl]; rfl
  have lts : ∀ y z, y ≠ x → z ≠ x → (lt3 (dropN A (x : Int)) y z ↔ lt3 A y z) := fun y z hy hz => lt3_same (by rw [hc, if_neg hy]) (by rw [hc, if_neg hz])
  have F3 : FF A.cs.length (delG2 h x G) (fun y => ((dropN A (x : Int)).c y).i) (lt3 (dropN A (x : Int))) (fun _ => 0) := by
    refine (F2.setR _).mono (fun y p hy hu ho => ?_) (fun y hy h2 => ?_)
    · have hu' : (raiseG G x).up y = p := hu
      have hyx : y ≠ x := fun e => by subst e; rw [(all y (by simp)).2.1] at hu'; omega
      have hpx : p ≠ x := fun e => by
        have hk2 : y ∈ (raiseG G x).K p := (rF.above hy hu').2
        rw [K1, e, putF_at] at hk2; cases hk2
      have hh1 : (A.c y).i = (A.c p).i := (rF.home y p hy hu').1
      have hh2 : 0 < (A.c y).i := (rF.home y p hy hu').2
      exact ⟨by simp only [hom' y hyx, hom' p hpx]; exact hh1, by simp only [hom' y hyx]; exact hh2, (lts p y hpx hyx).2 ho⟩
    · by_cases e : y = x
      · subst e
        exact ⟨(all y (by simp)).2.1, by show (raiseG G y).K y = []; rw [K1, putF_at], ring_one.1 p1⟩
      · have h3 : ¬ 0 < (A.c y).i := by simp only [hom' y e] at h2; exact h2
        exact F2.alone y hy h3
  have htop : ∀ y, y ∈ a' ++ (kl (G.K x) ++ b) → y ≠ x ∧ lt3 A t y := fun y hy => by
    have hyx : y ≠ x := fun e => by
      subst e
      refine hnd.1 ?_
      rw [ea]
      simp only [List.mem_append, List.mem_cons] at hy ⊢
      rcases hy with h | h | h
      · exact Or.inr (Or.inr h)
      · exact Or.inl (Or.inl h)
      · exact Or.inl (Or.inr h)
    refine ⟨hyx, ?_⟩
    simp only [List.mem_append, mem_kl] at hy
    have old : y ∈ s → lt3 A t y := fun h => q3 t s hR y h
    rw [hR, ea] at e1
    simp only [List.cons_append, List.cons.injEq, true_and] at e1
    rcases hy with h | h | h
    · exact old (by rw [e1]; simp [h])
    · exact I.first hR (kr y h).1 (kr y h).2.2 (fun e => by have := (kr y h).2.1; rw [e, ut] at this; omega)
    · exact old (by rw [e1]; simp [h])
  refine ⟨⟨by rw [hcl]; exact F3, ?_⟩, by rw [R2, ea]; rfl, ?_, R2', ?_⟩
  · rw [hcl]
    refine ⟨fun g _ => ?_, fun g y _ => ?_, fun g t' s' _ hR' y hy => ?_⟩
    all_goals by_cases eg : g = h
    · rw [eg, R2, nx2]; exact p3
    · rw [R2' g eg, nx2]
      have old := (I.fr.all g)
      have hz : ∀ z, z ∈ G.R g → G.up z = -1 ∧ (A.c z).i = g := fun z hz => ⟨((old.2.1 z).1 hz).2.2.1, ((old.2.1 z).1 hz).2.2.2⟩
      have hr := r1 _ old.1 (fun hm => eg (by have := (hz x hm).2; omega)) (fun z hm => rootk z (hz z hm).1)
      exact hr.swap_far (fun hm => eg (by have := (hz x hm).2; omega)) (fun hm => eg (by have := (hz _ hm).2; have := hpv.2.2; omega))
    · rw [eg, R2, up2]
      have : y ∈ a ++ (kl (G.K x) ++ b) ↔ y ≠ x ∧ (y ∈ G.R h ∨ y ∈ G.K x) := by
        rw [← mm]
        constructor
        · intro hm
          refine ⟨fun e => hnd.1 (by rw [e] at hm; simp only [List.mem_append] at hm ⊢; rcases hm with h | h | h; exact Or.inr h; exact Or.inl (Or.inl h); exact Or.inl (Or.inr h)), ?_⟩
          simp only [List.mem_cons, List.mem_append] at hm ⊢
          rcases hm with h | h | h
          · exact Or.inr (Or.inr h)
          · exact Or.inr (Or.inl (Or.inl h))
          · exact Or.inr (Or.inl (Or.inr h))
        · rintro ⟨hyx, hm⟩
          simp only [List.mem_cons, List.mem_append] at hm ⊢
          rcases hm with h | (h | h) | h
          · exact absurd h hyx
          · exact Or.inr (Or.inl h)
          · exact Or.inr (Or.inr h)
          · exact Or.inl h
      rw [this]
      constructor
      · rintro ⟨hyx, hm⟩
        have := all y ((mm y).2 hm)
        exact ⟨h1, this.1, this.2.1, by simp only [hom' y hyx]; exact this.2.2⟩
      · rintro ⟨_, a1, a2, a3⟩
        have hyx : y ≠ x := fun e => by subst e; simp only [homx] at a3; omega
        simp only [hom' y hyx] at a3
        rw [up1] at a2
        refine ⟨hyx, ?_⟩
        split at a2
        · rename_i hk; exact Or.inr hk
        · exact Or.inl ((q2 y).2 ⟨h1, a1, a2, a3⟩)
    · rw [R2' g eg, up2, (I.fr.all g).2.1 y]
      constructor
      · rintro ⟨a0, a1, a2, a3⟩
        have a3' : (A.c y).i = g := a3
        have hyx : y ≠ x := fun e => by subst e; exact eg (by omega)
        exact ⟨a0, a1, by rw [up1, if_neg (rootk y a2)]; exact a2, by simp only [hom' y hyx]; exact a3'⟩
      · rintro ⟨a0, a1, a2, a3⟩
        have hyx : y ≠ x := fun e => by subst e; simp only [homx] at a3; omega
        simp only [hom' y hyx] at a3
        rw [up1] at a2
        split at a2
        · rename_i hk
          have := (kr y hk).2.2
          exact absurd (show g = h by omega) eg
        · exact ⟨a0, a1, a2, a3⟩
    · rw [eg, R2, ea] at hR'
      have e4 : t = t' := by injection hR'
      have e5 : a' ++ (kl (G.K x) ++ b) = s' := by injection hR'
      subst e4 e5
      have := htop y hy
      exact (lts t y htx this.1).2 this.2
    · rw [R2' g eg] at hR'
      have xt : t' ≠ x := fun e => eg (by have := (I.out (h := g) (z := t') (by rw [hR']; simp)).2.2.2.1; rw [e] at this; omega)
      have xy : y ≠ x := fun e => eg (by have := (I.out (h := g) (z := y) (by rw [hR']; simp [hy])).2.2.2.1; rw [e] at this; omega)
      exact (lts t' y xt xy).2 ((I.fr.all g).2.2 t' s' hR' y hy)
  · rw [R2, e1]; simp [kl_len]; omega
  · unfold marks
    have : (delG2 h x G).mr = (raiseG G x).mr := rfl
    rw [this]
    rw [← List.countP_eq_length_filter, ← List.countP_eq_length_filter]
    refine List.countP_mono_left (fun z _ hz => ?_)
    rw [mr1] at hz
    split at hz
    · cases hz
    · exact hz
end
end Go.Proofs.Ytighgbdijagolaa
