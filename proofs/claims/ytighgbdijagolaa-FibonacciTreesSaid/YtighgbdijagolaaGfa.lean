/-
  Rings, plainly: what follows what; two that change what follows them. No program in sight. Conditions: those of each lemma.
-/
import Derived.Test.YtighgbdijagolaaGa
set_option linter.unusedVariables false
set_option linter.unusedSimpArgs false
namespace Go.Proofs.Ytighgbdijagolaa

/-- Along a list each is followed by the next one, the last by z. -/
def Trk (nx : Nat → Nat) : List Nat → Nat → Prop
  | [], _ => True
  | x :: t, z => nx x = t.headD z ∧ Trk nx t z
theorem headD_app (a b : List Nat) (z : Nat) : (a ++ b).headD z = a.headD (b.headD z) := by cases a <;> rfl
theorem trk_app {nx : Nat → Nat} : ∀ (a b : List Nat) (z : Nat), Trk nx (a ++ b) z ↔ Trk nx a (b.headD z) ∧ Trk nx b z
  | [], b, z => by simp [Trk]
  | x :: t, b, z => by
    show (nx x = (t ++ b).headD z ∧ Trk nx (t ++ b) z) ↔ (nx x = t.headD (b.headD z) ∧ Trk nx t (b.headD z)) ∧ Trk nx b z
    rw [trk_app t b z, headD_app, and_assoc]
theorem Trk.far {nx nx' : Nat → Nat} : ∀ {l : List Nat} {z : Nat}, Trk nx l z → (∀ w, w ∈ l → nx' w = nx w) → Trk nx' l z
  | [], _, _, _ => trivial
  | x :: t, z, h, e => ⟨(e x (by simp)).trans h.1, Trk.far h.2 (fun w hw => e w (by simp [hw]))⟩
/-- A ring, told from one on. -/
def Ring (nx : Nat → Nat) (l : List Nat) : Prop := l.Nodup ∧ Trk nx l (l.headD 0)
theorem Ring.nil (nx : Nat → Nat) : Ring nx [] := ⟨List.nodup_nil, trivial⟩
theorem Ring.nd {nx : Nat → Nat} {l : List Nat} (h : Ring nx l) : l.Nodup := h.1
theorem ring_cons {nx : Nat → Nat} {x : Nat} {t : List Nat} : Ring nx (x :: t) ↔ (x :: t).Nodup ∧ nx x = t.headD x ∧ Trk nx t x := Iff.rfl
theorem ring_one {nx : Nat → Nat} {x : Nat} : Ring nx [x] ↔ nx x = x := by
  rw [ring_cons]; simp [Trk]
theorem Ring.far {nx nx' : Nat → Nat} {l : List Nat} (h : Ring nx l) (e : ∀ w, w ∈ l → nx' w = nx w) : Ring nx' l := ⟨h.1, h.2.far e⟩
theorem nodup_rot {a b : List Nat} (h : (a ++ b).Nodup) : (b ++ a).Nodup := (List.perm_append_comm (l₁ := a) (l₂ := b)).nodup_iff.1 h
theorem Ring.rot {nx : Nat → Nat} : ∀ {a b : List Nat}, Ring nx (a ++ b) → Ring nx (b ++ a)
  | [], b, h => by simpa using h
  | a0 :: a, [], h => by simpa using h
  | a0 :: a, b0 :: b, h => by
    refine ⟨nodup_rot h.1, ?_⟩
    have h2 := (trk_app _ _ _).1 h.2
    exact (trk_app _ _ _).2 ⟨h2.2, h2.1⟩
/-- What follows two things changes places. -/
def swapN (nx : Nat → Nat) (x y : Nat) : Nat → Nat := fun z => if z = x then nx y else if z = y then nx x else nx z
def swapP (nx pv : Nat → Nat) (x y : Nat) : Nat → Nat := fun z => if z = nx x then y else if z = nx y then x else pv z
theorem swapN_far {nx : Nat → Nat} {x y z : Nat} (h1 : z ≠ x) (h2 : z ≠ y) : swapN nx x y z = nx z := by unfold swapN; rw [if_neg h1, if_neg h2]
theorem Ring.swap_far {nx : Nat → Nat} {l : List Nat} (h : Ring nx l) {x y : Nat} (h1 : x ∉ l) (h2 : y ∉ l) : Ring (swapN nx x y) l :=
  h.far (fun w hw => swapN_far (fun e => h1 (e ▸ hw)) (fun e => h2 (e ▸ hw)))
theorem Ring.join {nx : Nat → Nat} {x y : Nat} {s t : List Nat} (h : Ring nx (x :: s)) (k : Ring nx (y :: t)) (d : ∀ z, z ∈ x :: s → z ∉ y :: t) : Ring (swapN nx x y) (x :: t ++ y :: s) := by
  obtain ⟨n1, e1, r1⟩ := ring_cons.1 h
  obtain ⟨n2, e2, r2⟩ := ring_cons.1 k
  have n1' := List.nodup_cons.1 n1
  have n2' := List.nodup_cons.1 n2
  have hxy : y ≠ x := fun e => d x (by simp) (by simp [e])
  have sx : swapN nx x y x = nx y := by unfold swapN; rw [if_pos rfl]
  have sy : swapN nx x y y = nx x := by unfold swapN; rw [if_neg hxy, if_pos rfl]
  refine ring_cons.2 ⟨?_, ?_, ?_⟩
  · have : (x :: t ++ y :: s).Perm ((x :: s) ++ (y :: t)) := by
      show (x :: (t ++ y :: s)).Perm (x :: (s ++ y :: t))
      refine List.Perm.cons x ?_
      exact (List.perm_middle).trans ((List.Perm.cons y List.perm_append_comm).trans List.perm_middle.symm)
    refine this.nodup_iff.2 (List.nodup_append.2 ⟨n1, n2, fun a ha b hb e => ?_⟩)
    subst e; exact d a ha hb
  · show swapN nx x y x = (t ++ y :: s).headD x
    rw [sx, e2, headD_app]; rfl
  · show Trk (swapN nx x y) (t ++ y :: s) x
    refine (trk_app _ _ _).2 ⟨?_, ?_, ?_⟩
    · exact r2.far (fun w hw => swapN_far (fun e => d x (by simp) (by subst e; simp [hw])) (fun e => n2'.1 (e ▸ hw)))
    · rw [sy, e1]
    · exact r1.far (fun w hw => swapN_far (fun e => n1'.1 (e ▸ hw)) (fun e => d w (by simp [hw]) (by subst e; simp)))
theorem Ring.cut {nx : Nat → Nat} {x y : Nat} {a b : List Nat} (h : Ring nx (x :: a ++ y :: b)) : Ring (swapN nx x y) (x :: b) ∧ Ring (swapN nx x y) (y :: a) := by
  have h' : Ring nx (x :: (a ++ y :: b)) := h
  obtain ⟨n1, e1, r1⟩ := ring_cons.1 h'
  have r2 := (trk_app _ _ _).1 r1
  obtain ⟨r3, r4, r5⟩ : Trk nx a y ∧ nx y = b.headD x ∧ Trk nx b x := ⟨r2.1, r2.2.1, r2.2.2⟩
  have n2 := List.nodup_cons.1 n1
  have n3 := List.nodup_append.1 n2.2
  have n4 := List.nodup_cons.1 n3.2.1
  have hxy : y ≠ x := fun e => n2.1 (by subst e; simp)
  have sx : swapN nx x y x = nx y := by unfold swapN; rw [if_pos rfl]
  have sy : swapN nx x y y = nx x := by unfold swapN; rw [if_neg hxy, if_pos rfl]
  have xb : x ∉ b := fun hm => n2.1 (by simp [hm])
  have xa : x ∉ a := fun hm => n2.1 (by simp [hm])
  have ya : y ∉ a := fun hm => n3.2.2 y hm y (by simp) rfl
  refine ⟨ring_cons.2 ⟨List.nodup_cons.2 ⟨xb, n4.2⟩, by rw [sx, r4], r5.far (fun w hw => swapN_far (fun e => xb (e ▸ hw)) (fun e => n4.1 (e ▸ hw)))⟩,
    ring_cons.2 ⟨List.nodup_cons.2 ⟨ya, n3.1⟩, ?_, r3.far (fun w hw => swapN_far (fun e => xa (e ▸ hw)) (fun e => ya (e ▸ hw)))⟩⟩
  rw [sy, e1, headD_app]; rfl
/-- What follows, and what it follows, of n things. -/
structure Rg (n : Nat) (nx pv : Nat → Nat) : Prop where
  nn : ∀ x, x < n → nx x < n
  pp : ∀ x, x < n → pv x < n
  pn : ∀ x, x < n → pv (nx x) = x
  np : ∀ x, x < n → nx (pv x) = x
section
variable {n : Nat} {nx pv : Nat → Nat}
theorem Rg.inj (h : Rg n nx pv) {x y : Nat} (hx : x < n) (hy : y < n) (e : nx x = nx y) : x = y := by
  rw [← h.pn x hx, ← h.pn y hy, e]
theorem Rg.swap (h : Rg n nx pv) {x y : Nat} (hx : x < n) (hy : y < n) : Rg n (swapN nx x y) (swapP nx pv x y) := by
  refine ⟨fun z hz => ?_, fun z hz => ?_, fun z hz => ?_, fun z hz => ?_⟩
  · unfold swapN
    split
    · exact h.nn y hy
    · split
      · exact h.nn x hx
      · exact h.nn z hz
  · unfold swapP
    split
    · exact hy
    · split
      · exact hx
      · exact h.pp z hz
  · unfold swapN swapP
    by_cases e1 : z = x
    · rw [if_pos e1]
      by_cases e2 : nx y = nx x
      · rw [if_pos e2, e1]; exact h.inj hy hx e2
      · rw [if_neg e2, if_pos rfl, e1]
    · rw [if_neg e1]
      by_cases e2 : z = y
      · rw [if_pos e2, if_pos rfl, e2]
      · rw [if_neg e2, if_neg (fun e => e1 (h.inj hz hx e)), if_neg (fun e => e2 (h.inj hz hy e))]; exact h.pn z hz
  · unfold swapN swapP
    by_cases e1 : z = nx x
    · rw [if_pos e1]
      by_cases e2 : y = x
      · rw [if_pos e2, e2, e1]
      · rw [if_neg e2, if_pos rfl, e1]
    · rw [if_neg e1]
      by_cases e2 : z = nx y
      · rw [if_pos e2, if_pos rfl, e2]
      · rw [if_neg e2, if_neg (fun e => e1 (by rw [← e, h.np z hz])), if_neg (fun e => e2 (by rw [← e, h.np z hz]))]; exact h.np z hz
/-- What a thing that comes out of its ring follows. -/
theorem Rg.last (h : Rg n nx pv) {x y : Nat} {a : List Nat} (hr : Ring nx (x :: a ++ [y])) (hy : y < n) : pv x = y := by
  have h' : Ring nx (x :: (a ++ [y])) := hr
  have r2 := (trk_app _ _ _).1 (ring_cons.1 h').2.2
  have : nx y = x := r2.2.1
  rw [← this]; exact h.pn y hy
/-- A thing comes out of its ring. -/
theorem Rg.part (h : Rg n nx pv) {x : Nat} {l : List Nat} (hr : Ring nx (x :: l)) (hl : ∀ z, z ∈ x :: l → z < n) : Ring (swapN nx x (pv x)) [x] ∧ Ring (swapN nx x (pv x)) l := by
  have hx : x < n := hl x (by simp)
  rcases List.eq_nil_or_concat l with rfl | ⟨a, y, e⟩
  · have e1 := ring_one.1 hr
    have e2 : pv x = x := by have := h.pn x hx; rw [e1] at this; exact this
    rw [e2]
    refine ⟨ring_one.2 ?_, Ring.nil _⟩
    unfold swapN; rw [if_pos rfl]; exact e1
  · have e' : l = a ++ [y] := by rw [e, List.concat_eq_append]
    subst e'
    have hy : y < n := hl y (by simp)
    rw [h.last hr hy]
    have := Ring.cut (b := []) hr
    exact ⟨this.1, Ring.rot (a := [y]) (b := a) this.2⟩
end
/-- A ring's things from one on, as they are gone through. -/
def orb (nx : Nat → Nat) (x : Nat) : Nat → Nat → List Nat
  | 0, _ => []
  | f + 1, y => if y = x then [] else y :: orb nx x f (nx y)
theorem getD_head (t : List Nat) (z : Nat) : t.headD z = t.getD 0 z := by cases t <;> rfl
/-- What follows the k-th thing of a ring. -/
theorem Trk.at {nx : Nat → Nat} : ∀ {l : List Nat} {z : Nat}, Trk nx l z → ∀ k (hk : k < l.length), nx l[k] = l.getD (k + 1) z
  | [], _, _, k, hk => by simp at hk
  | x :: t, z, h, 0, hk => by
    show nx x = (x :: t).getD 1 z
    rw [h.1, getD_head]; simp [List.getD_eq_getElem?_getD]
  | x :: t, z, h, k + 1, hk => by
    have := Trk.at h.2 k (by simpa using hk)
    show nx (t[k]'(by simpa using hk)) = (x :: t).getD (k + 1 + 1) z
    rw [this]; simp [List.getD_eq_getElem?_getD]
theorem Ring.at {nx : Nat → Nat} {x : Nat} {t : List Nat} (h : Ring nx (x :: t)) (k : Nat) (hk : k < (x :: t).length) : nx (x :: t)[k] = (x :: t).getD (k + 1) x := Trk.at h.2 k hk
theorem nodup_bound : ∀ (n : Nat) (l : List Nat), l.Nodup → (∀ x, x ∈ l → x < n) → l.length ≤ n
  | 0, l, _, h => by
    cases l with
    | nil => simp
    | cons x t => have := h x (by simp); omega
  | n + 1, l, hd, h => by
    by_cases hm : n ∈ l
    · have h1 := nodup_bound n (l.erase n) (hd.erase n) (fun x hx => by
        have h2 := (List.Nodup.mem_erase_iff hd).1 hx
        have := h x h2.2
        omega)
      rw [List.length_erase_of_mem hm] at h1
      omega
    · have := nodup_bound n l hd (fun x hx => by
        have := h x hx
        have : x ≠ n := fun e => hm (e ▸ hx)
        omega)
      omega
def natI (l : List Nat) : List Int := l.map (fun x : Nat => (x : Int))
theorem natI_len (l : List Nat) : (natI l).length = l.length := by unfold natI; simp
theorem natI_app (a b : List Nat) : natI (a ++ b) = natI a ++ natI b := by unfold natI; simp
end Go.Proofs.Ytighgbdijagolaa

set_option linter.unusedVariables false
set_option linter.unusedSimpArgs false
namespace Go.Proofs.Ytighgbdijagolaa

/-- What follows each slot, what it follows, what is above it, whether it is marked; its children, and a heap's topmost slots, as their rings are gone through. -/
structure FG where
  nx : Nat → Nat
  pv : Nat → Nat
  up : Nat → Int
  mr : Nat → Bool
  K : Nat → List Nat
  R : Nat → List Nat
def FG.none : FG := ⟨id, id, fun _ => -1, fun _ => false, fun _ => [], fun _ => []⟩
def hdI (l : List Nat) : Int := match l with | [] => -1 | x :: _ => (x : Int)
def putF {α : Type} (f : Nat → α) (x : Nat) (v : α) : Nat → α := fun z => if z = x then v else f z
/-- What follows two things changes places. -/
def spl (G : FG) (x y : Nat) : FG := { G with nx := swapN G.nx x y, pv := swapP G.nx G.pv x y }
def prt (G : FG) (x : Nat) : FG := spl G x (G.pv x)
/-- A ring comes to the topmost slots of a heap. -/
def rootL (lt : Bool) (R l : List Nat) : List Nat := match R with
  | [] => l
  | t :: s => match l with
    | [] => t :: s
    | x :: r => if lt then x :: s ++ t :: r else t :: r ++ x :: s
def rootG (lt : Nat → Nat → Bool) (h : Nat) (l : List Nat) (G : FG) : FG := match G.R h, l with
  | t :: s, x :: r => { spl G t x with R := putF G.R h (rootL (lt x t) (t :: s) (x :: r)) }
  | _, l => { G with R := putF G.R h l }
def rootQ (h : Nat) (G : FG) : Nat := if G.R h = [] then 0 else 1
/-- One root comes below another one. -/
def underG (G : FG) (y x : Nat) : FG :=
  let G1 := match G.K x with | [] => G | k :: _ => spl G k y
  { G1 with up := putF G.up y x, mr := putF G.mr y false, K := putF G.K x (match G.K x with | [] => [y] | k :: t => y :: (t ++ [k])) }
/-- A slot's children come to the topmost ones. -/
def raiseG (G : FG) (x : Nat) : FG := match G.K x with
  | [] => G
  | k :: t => { spl G x k with up := putF (fun z => if z ∈ k :: t then -1 else G.up z) x (-1), mr := putF (fun z => if z ∈ k :: t then false else G.mr z) x false, K := putF G.K x [] }
end Go.Proofs.Ytighgbdijagolaa

set_option linter.unusedVariables false
set_option linter.unusedSimpArgs false
namespace Go.Proofs.Ytighgbdijagolaa

/-- How many of some children have less than d children, those that they lost of late counted in. -/
def few (G : FG) (ex : Nat → Nat) (l : List Nat) (d : Nat) : Nat := (l.filter (fun c => decide ((G.K c).length + (if G.mr c then 1 else 0) + ex c < d))).length
/-- Trees of slots in heaps, their children in rings. L: what has to be between a slot and that above it. -/
structure FF (n : Nat) (G : FG) (hom : Nat → Int) (L : Nat → Nat → Prop) (ex : Nat → Nat) : Prop where
  rg : Rg n G.nx G.pv
  kid : ∀ x y, x < n → y ∈ G.K x → y < n ∧ G.up y = x
  upK : ∀ y, y < n → G.up y = -1 ∨ ∃ p : Nat, p < n ∧ G.up y = p ∧ y ∈ G.K p
  ring : ∀ x, x < n → Ring G.nx (G.K x)
  home : ∀ y p : Nat, y < n → G.up y = p → hom y = hom p ∧ 0 < hom y
  ord : ∀ y p : Nat, y < n → G.up y = p → L p y
  alone : ∀ y, y < n → ¬ 0 < hom y → G.up y = -1 ∧ G.K y = [] ∧ G.nx y = y
  free : ∀ y, y < n → G.up y = -1 → G.mr y = false
  cnt : ∀ x d, x < n → few G ex (G.K x) d ≤ d
/-- The rings of topmost slots, but those of heap g. -/
structure FR (n : Nat) (G : FG) (hom : Nat → Int) (L : Nat → Nat → Prop) (g : Option Nat) : Prop where
  ring : ∀ h, some h ≠ g → Ring G.nx (G.R h)
  mem : ∀ h y : Nat, some h ≠ g → (y ∈ G.R h ↔ 1 ≤ h ∧ y < n ∧ G.up y = -1 ∧ hom y = h)
  top : ∀ h t s, some h ≠ g → G.R h = t :: s → ∀ y, y ∈ s → L t y
section
variable {n : Nat} {G : FG} {hom : Nat → Int} {L : Nat → Nat → Prop} {ex : Nat → Nat}
theorem FF.kid_iff (H : FF n G hom L ex) {x y : Nat} (hx : x < n) (hy : y < n) : y ∈ G.K x ↔ G.up y = x := by
  constructor
  · intro h; exact (H.kid x y hx h).2
  · intro h
    rcases H.upK y hy with h1 | ⟨p, hp, h1, h2⟩
    · omega
    · obtain rfl : x = p := by omega
      exact h2
theorem FF.klen (H : FF n G hom L ex) {x : Nat} (hx : x < n) : (G.K x).length ≤ n := nodup_bound n _ (H.ring x hx).nd (fun y hy => (H.kid x y hx hy).1)
theorem FF.above (H : FF n G hom L ex) {y p : Nat} (hy : y < n) (h : G.up y = p) : p < n ∧ y ∈ G.K p := by
  rcases H.upK y hy with h1 | ⟨q, hq, h1, h2⟩
  · omega
  · obtain rfl : p = q := by omega
    exact ⟨hq, h2⟩
theorem few_le (G : FG) (ex : Nat → Nat) (l : List Nat) (d : Nat) : few G ex l d ≤ l.length := List.length_filter_le _ _
theorem few_perm (G : FG) (ex : Nat → Nat) {l l' : List Nat} (h : l.Perm l') (d : Nat) : few G ex l d = few G ex l' d := (h.filter _).length_eq
theorem few_ext {G G' : FG} {ex ex' : Nat → Nat} {l : List Nat} (d : Nat) (h : ∀ c, c ∈ l → (G'.K c).length + (if G'.mr c then 1 else 0) + ex' c = (G.K c).length + (if G.mr c then 1 else 0) + ex c) : few G' ex' l d = few G ex l d := by
  unfold few
  congr 1
  exact List.filter_congr (fun c hc => by rw [h c hc])
/-- Where each counts no less, no more are below. -/
theorem few_mono {G G' : FG} {ex ex' : Nat → Nat} {l : List Nat} (d : Nat) (h : ∀ c, c ∈ l → (G.K c).length + (if G.mr c then 1 else 0) + ex c ≤ (G'.K c).length + (if G'.mr c then 1 else 0) + ex' c) : few G' ex' l d ≤ few G ex l d := by
  unfold few
  induction l with
  | nil => simp
  | cons c t ih =>
    have ih' := ih (fun c hc => h c (by simp [hc]))
    have hc := h c (by simp)
    by_cases h1 : (G'.K c).length + (if G'.mr c then 1 else 0) + ex' c < d
    · have h2 : (G.K c).length + (if G.mr c then 1 else 0) + ex c < d := by omega
      rw [List.filter_cons_of_pos (by simpa using h1), List.filter_cons_of_pos (by simpa using h2)]
      simpa using ih'
    · rw [List.filter_cons_of_neg (by simpa using h1)]
      by_cases h2 : (G.K c).length + (if G.mr c then 1 else 0) + ex c < d
      · rw [List.filter_cons_of_pos (by simpa using h2)]
        simp only [List.length_cons]; omega
      · rw [List.filter_cons_of_neg (by simpa using h2)]
        exact ih'
theorem few_cons (G : FG) (ex : Nat → Nat) (c : Nat) (l : List Nat) (d : Nat) : few G ex (c :: l) d = (if (G.K c).length + (if G.mr c then 1 else 0) + ex c < d then 1 else 0) + few G ex l d := by
  unfold few
  rw [List.filter_cons]
  by_cases h : (G.K c).length + (if G.mr c then 1 else 0) + ex c < d
  · rw [if_pos (by simpa using h), if_pos h]; simp; omega
  · rw [if_neg (by simpa using h), if_neg h]; omega
theorem putF_at {α : Type} (f : Nat → α) (x : Nat) (v : α) : putF f x v x = v := by unfold putF; rw [if_pos rfl]
theorem putF_ne {α : Type} (f : Nat → α) {x z : Nat} (v : α) (h : z ≠ x) : putF f x v z = f z := by unfold putF; rw [if_neg h]
/-- The children of what another root came below. -/
def addK (l : List Nat) (y : Nat) : List Nat := match l with | [] => [y] | k :: t => y :: (t ++ [k])
theorem addK_perm (l : List Nat) (y : Nat) : (addK l y).Perm (y :: l) := by
  cases l with
  | nil => exact List.Perm.refl _
  | cons k t => exact List.Perm.cons y (List.perm_append_comm (l₁ := t) (l₂ := [k]))
theorem under_up (G : FG) (y x : Nat) : (underG G y x).up = putF G.up y x := rfl
theorem under_mr (G : FG) (y x : Nat) : (underG G y x).mr = putF G.mr y false := rfl
theorem under_K (G : FG) (y x : Nat) : (underG G y x).K = putF G.K x (addK (G.K x) y) := rfl
theorem under_R (G : FG) (y x : Nat) : (underG G y x).R = G.R := by unfold underG; cases G.K x <;> rfl
/-- What follows a slot behind it: a root's, but the new child's, is as before. -/
theorem under_nx (G : FG) (y x : Nat) : (underG G y x).nx = match G.K x with | [] => G.nx | k :: _ => swapN G.nx k y := by unfold underG; cases G.K x <;> rfl
theorem under_pv (G : FG) (y x : Nat) : (underG G y x).pv = match G.K x with | [] => G.pv | k :: _ => swapP G.nx G.pv k y := by unfold underG; cases G.K x <;> rfl
theorem FF.under (H : FF n G hom L ex) {x y : Nat} (hx : x < n) (hy : y < n) (ux : G.up x = -1) (uy : G.up y = -1) (hne : x ≠ y) (hh : hom y = hom x) (h0 : 0 < hom x) (hL : L x y) (sy : G.nx y = y) (hd : (G.K y).length = (G.K x).length) (hex : ex y = 0) :
    FF n (underG G y x) hom L ex ∧ (∀ z, z < n → z ≠ y → G.up z = -1 → (underG G y x).nx z = G.nx z) ∧ (∀ l : List Nat, Ring G.nx l → y ∉ l → (∀ z, z ∈ l → z ∉ G.K x) → Ring (underG G y x).nx l) := by
  have kx : ∀ a z, a < n → z ∈ G.K a → z ≠ x ∧ z ≠ y := fun a z ha hz => by
    have := (H.kid a z ha hz).2
    exact ⟨fun e => by subst e; omega, fun e => by subst e; omega⟩
  have far : ∀ z, z ≠ y → z ∉ G.K x → (underG G y x).nx z = G.nx z := fun z h1 h2 => by
    rw [under_nx]
    cases hK : G.K x with
    | nil => rfl
    | cons k t => exact swapN_far (fun e => h2 (by rw [hK, e]; simp)) h1
  have nk : ∀ z, G.up z = -1 → z ∉ G.K x := fun z hu hm => by
    have := (H.kid x z hx hm).2
    omega
  have rl : ∀ l : List Nat, Ring G.nx l → y ∉ l → (∀ z, z ∈ l → z ∉ G.K x) → Ring (underG G y x).nx l := fun l hr h1 h2 => hr.far (fun z hz => far z (fun e => h1 (e ▸ hz)) (h2 z hz))
  have mem : ∀ z, z ∈ addK (G.K x) y ↔ z = y ∨ z ∈ G.K x := fun z => by rw [(addK_perm _ _).mem_iff]; simp
  refine ⟨⟨?_, fun a z ha hz => ?_, fun z hz => ?_, fun a ha => ?_, fun z p hz hu => ?_, fun z p hz hu => ?_, fun z hz h1 => ?_, fun z hz hu => ?_, fun a d ha => ?_⟩, fun z hz h1 h2 => far z h1 (nk z h2), rl⟩
  · rw [under_nx, under_pv]
    cases hK : G.K x with
    | nil => exact H.rg
    | cons k t => exact H.rg.swap (H.kid x k hx (by rw [hK]; simp)).1 hy
  · rw [under_K] at hz
    rw [under_up]
    by_cases e : a = x
    · subst e
      rw [putF_at, mem] at hz
      rcases hz with rfl | hz
      · exact ⟨hy, putF_at _ _ _⟩
      · exact ⟨(H.kid a z ha hz).1, by rw [putF_ne _ _ (kx a z ha hz).2]; exact (H.kid a z ha hz).2⟩
    · rw [putF_ne _ _ e] at hz
      exact ⟨(H.kid a z ha hz).1, by rw [putF_ne _ _ (kx a z ha hz).2]; exact (H.kid a z ha hz).2⟩
  · rw [under_up, under_K]
    by_cases e : z = y
    · subst e
      exact Or.inr ⟨x, hx, putF_at _ _ _, by rw [putF_at, mem]; exact Or.inl rfl⟩
    · rw [putF_ne _ _ e]
      rcases H.upK z hz with h1 | ⟨p, hp, h1, h2⟩
      · exact Or.inl h1
      · refine Or.inr ⟨p, hp, h1, ?_⟩
        by_cases e2 : p = x
        · rw [e2, putF_at, mem]; rw [e2] at h2; exact Or.inr h2
        · rw [putF_ne _ _ e2]; exact h2
  · rw [under_K]
    by_cases e : a = x
    · subst e
      rw [putF_at, under_nx]
      have hr := H.ring a ha
      cases hK : G.K a with
      | nil => exact ring_one.2 sy
      | cons k t =>
        rw [hK] at hr
        have hj := Ring.join hr (ring_one.2 sy) (fun z hz hm => by
          simp at hm; subst hm
          exact (kx a z ha (by rw [hK]; exact hz)).2 rfl)
        exact Ring.rot (a := [k]) (b := y :: t) hj
    · rw [putF_ne _ _ e]
      exact rl _ (H.ring a ha) (fun hm => (kx a y ha hm).2 rfl) (fun z hz hm => e (by
        have := (H.kid a z ha hz).2
        have := (H.kid x z hx hm).2
        omega))
  · rw [under_up] at hu
    by_cases e : z = y
    · subst e; rw [putF_at] at hu
      obtain rfl : p = x := by omega
      exact ⟨hh, by omega⟩
    · rw [putF_ne _ _ e] at hu; exact H.home z p hz hu
  · rw [under_up] at hu
    by_cases e : z = y
    · subst e; rw [putF_at] at hu
      obtain rfl : p = x := by omega
      exact hL
    · rw [putF_ne _ _ e] at hu; exact H.ord z p hz hu
  · have e1 : z ≠ y := fun e => h1 (by rw [e, hh]; exact h0)
    have e2 : z ≠ x := fun e => h1 (by rw [e]; exact h0)
    obtain ⟨a1, a2, a3⟩ := H.alone z hz h1
    exact ⟨by rw [under_up, putF_ne _ _ e1]; exact a1, by rw [under_K, putF_ne _ _ e2]; exact a2, by rw [far z e1 (nk z a1)]; exact a3⟩
  · rw [under_up] at hu
    rw [under_mr]
    by_cases e : z = y
    · subst e; rw [putF_at]
    · rw [putF_ne _ _ e] at hu ⊢; exact H.free z hz hu
  · have old : ∀ b : Nat, b < n → few (underG G y x) ex (G.K b) d = few G ex (G.K b) d := fun b hb => few_ext d (fun c hc => by
      have := kx b c hb hc
      rw [under_K, under_mr, putF_ne _ _ this.1, putF_ne _ _ this.2])
    by_cases e : a = x
    · subst e
      rw [show (underG G y a).K a = addK (G.K a) y from putF_at _ _ _, few_perm _ _ (addK_perm _ _), few_cons, old a ha, under_K, under_mr, putF_at, putF_ne _ _ (Ne.symm hne), hex]
      have h1 := H.cnt a d ha
      have h2 := few_le G ex (G.K a) d
      simp only [Bool.false_eq_true, if_false, Nat.add_zero]
      split <;> omega
    · rw [show (underG G y x).K a = G.K a from putF_ne _ _ e, old a ha]
      exact H.cnt a d ha
end
end Go.Proofs.Ytighgbdijagolaa

set_option linter.unusedVariables false
set_option linter.unusedSimpArgs false
namespace Go.Proofs.Ytighgbdijagolaa

def padT (T : List Int) (d : Nat) : List Int := T ++ List.replicate (d + 1 - T.length) (-1)
def occ (T : List Int) : Nat := (T.filter (fun y => decide (y ≠ -1))).length
structure TD where
  T : List Int
  G : FG
  q : Nat
/-- A root comes into the table of roots by their degrees. -/
def tin (lt : Nat → Nat → Bool) : Nat → List Int → Nat → FG → Nat → TD
  | 0, T, x, G, q => ⟨T, G, q⟩
  | f + 1, T, x, G, q =>
    if (padT T (G.K x).length).getD (G.K x).length (-1) = -1 then ⟨(padT T (G.K x).length).set (G.K x).length x, G, q⟩
    else if lt ((padT T (G.K x).length).getD (G.K x).length (-1)).toNat x then tin lt f ((padT T (G.K x).length).set (G.K x).length (-1)) ((padT T (G.K x).length).getD (G.K x).length (-1)).toNat (underG G x ((padT T (G.K x).length).getD (G.K x).length (-1)).toNat) (q + 1)
    else tin lt f ((padT T (G.K x).length).set (G.K x).length (-1)) x (underG G ((padT T (G.K x).length).getD (G.K x).length (-1)).toNat x) (q + 1)
/-- Roots, one behind the other. -/
def tid (lt : Nat → Nat → Bool) : List Nat → TD → TD
  | [], D => D
  | x :: rs, D => tid lt rs (tin lt (occ D.T + 1) D.T x D.G D.q)
theorem pad_len (T : List Int) (d : Nat) : (padT T d).length = max T.length (d + 1) := by unfold padT; simp; omega
theorem occ_app (a b : List Int) : occ (a ++ b) = occ a + occ b := by unfold occ; simp
theorem occ_rep (k : Nat) : occ (List.replicate k (-1)) = 0 := by
  unfold occ
  rw [List.length_eq_zero_iff, List.filter_eq_nil_iff]
  intro a ha
  have := List.eq_of_mem_replicate ha
  simp [this]
theorem occ_pad (T : List Int) (d : Nat) : occ (padT T d) = occ T := by unfold padT; rw [occ_app, occ_rep]; omega
theorem occ_set : ∀ (T : List Int) (d : Nat) (v u : Int), T[d]? = some u → occ (T.set d v) + (if u = -1 then 0 else 1) = occ T + (if v = -1 then 0 else 1)
  | [], d, v, u, h => by simp at h
  | a :: t, 0, v, u, h => by
    have e : a = u := by simpa using h
    subst e
    have c : ∀ z : Int, occ (z :: t) = (if z = -1 then 0 else 1) + occ t := fun z => by
      unfold occ
      by_cases hz : z = -1
      · rw [List.filter_cons_of_neg (by simpa using hz), if_pos hz]; omega
      · rw [List.filter_cons_of_pos (by simpa using hz), if_neg hz]; simp; omega
    show occ (v :: t) + _ = _
    rw [c, c]; omega
  | a :: t, d + 1, v, u, h => by
    have ih := occ_set t d v u (by simpa using h)
    have c : ∀ l : List Int, occ (a :: l) = (if a = -1 then 0 else 1) + occ l := fun l => by
      unfold occ
      by_cases hz : a = -1
      · rw [List.filter_cons_of_neg (by simpa using hz), if_pos hz]; omega
      · rw [List.filter_cons_of_pos (by simpa using hz), if_neg hz]; simp; omega
    show occ (a :: t.set d v) + _ = _
    rw [c, c]; omega
/-- A root of heap h. -/
def RtF (n : Nat) (G : FG) (hom : Nat → Int) (h : Nat) (z : Nat) : Prop := z < n ∧ G.up z = -1 ∧ hom z = h
/-- A table of roots by their degrees, and the roots that are not in it yet. -/
structure TT (n : Nat) (hom : Nat → Int) (L : Nat → Nat → Prop) (h : Nat) (T : List Int) (xs : List Nat) (G : FG) : Prop where
  ff : FF n G hom L (fun _ => 0)
  fr : FR n G hom L (some h)
  zero : G.R h = []
  one : ∀ y, RtF n G hom h y → G.nx y = y
  tab : ∀ (d : Nat) (y : Int), T[d]? = some y → y = -1 ∨ ∃ z : Nat, y = z ∧ RtF n G hom h z ∧ (G.K z).length = d ∧ z ∉ xs
  nd : xs.Nodup
  xr : ∀ z, z ∈ xs → RtF n G hom h z
  all : ∀ z, RtF n G hom h z → z ∈ xs ∨ (z : Int) ∈ T
section
variable {n : Nat} {hom : Nat → Int} {L : Nat → Nat → Prop} {h : Nat} {T : List Int} {xs : List Nat} {G : FG}
theorem TT.pad (H : TT n hom L h T xs G) (d : Nat) : TT n hom L h (padT T d) xs G := by
  refine ⟨H.ff, H.fr, H.zero, H.one, fun e y hy => ?_, H.nd, H.xr, fun z hz => (H.all z hz).imp id (fun hm => by unfold padT; simp [hm])⟩
  unfold padT at hy
  by_cases he : e < T.length
  · rw [List.getElem?_append_left he] at hy; exact H.tab e y hy
  · rw [List.getElem?_append_right (by omega)] at hy
    exact Or.inl (List.eq_of_mem_replicate (List.mem_of_getElem? hy))
theorem mem_set_iff (T : List Int) (d : Nat) (v z : Int) : z ∈ T.set d v ↔ (z = v ∧ d < T.length) ∨ ∃ e, e ≠ d ∧ T[e]? = some z := by
  rw [List.mem_iff_getElem?]
  constructor
  · rintro ⟨e, he⟩
    rw [List.getElem?_set] at he
    by_cases hd : d = e
    · rw [if_pos hd] at he
      by_cases hl : d < T.length
      · rw [if_pos hl] at he; injection he with he; exact Or.inl ⟨he.symm, by omega⟩
      · rw [if_neg hl] at he; cases he
    · rw [if_neg hd] at he; exact Or.inr ⟨e, fun h' => hd h'.symm, he⟩
  · rintro (⟨rfl, hl⟩ | ⟨e, hne, he⟩)
    · exact ⟨d, by rw [List.getElem?_set, if_pos rfl, if_pos hl]⟩
    · exact ⟨e, by rw [List.getElem?_set, if_neg (Ne.symm hne)]; exact he⟩
/-- It comes in where there is none. -/
theorem TT.place {x : Nat} {rs : List Nat} (H : TT n hom L h T (x :: rs) G) {d : Nat} (hd : (G.K x).length = d) (hT : T[d]? = some (-1)) : TT n hom L h (T.set d x) rs G := by
  have hnd := List.nodup_cons.1 H.nd
  have hdl : d < T.length := (List.getElem?_eq_some_iff.1 hT).1
  refine ⟨H.ff, H.fr, H.zero, H.one, fun e y hy => ?_, hnd.2, fun z hz => H.xr z (by simp [hz]), fun z hz => ?_⟩
  · rw [List.getElem?_set] at hy
    by_cases he : d = e
    · rw [if_pos he, if_pos (by omega)] at hy
      injection hy with hy
      exact Or.inr ⟨x, hy.symm, H.xr x (by simp), by omega, hnd.1⟩
    · rw [if_neg he] at hy
      rcases H.tab e y hy with h1 | ⟨z, h1, h2, h3, h4⟩
      · exact Or.inl h1
      · exact Or.inr ⟨z, h1, h2, h3, fun hm => h4 (by simp [hm])⟩
  · rcases H.all z hz with h1 | h1
    · rcases List.mem_cons.1 h1 with rfl | h1
      · exact Or.inr ((mem_set_iff _ _ _ _).2 (Or.inl ⟨rfl, hdl⟩))
      · exact Or.inl h1
    · obtain ⟨e, he⟩ := List.mem_iff_getElem?.1 h1
      refine Or.inr ((mem_set_iff _ _ _ _).2 (Or.inr ⟨e, fun e2 => ?_, he⟩))
      subst e2
      rw [hT] at he
      injection he with he
      omega
/-- It comes below another one, or that below it. -/
theorem TT.link {x z hi lo : Nat} {rs : List Nat} (H : TT n hom L h T (x :: rs) G) {d : Nat} (hd : (G.K x).length = d) (hT : T[d]? = some (z : Int)) (hl : (hi = x ∧ lo = z) ∨ (hi = z ∧ lo = x)) (hL : L hi lo) (h1 : 1 ≤ h) :
    TT n hom L h (T.set d (-1)) (hi :: rs) (underG G lo hi) := by
  have hnd := List.nodup_cons.1 H.nd
  have hxr := H.xr x (by simp)
  obtain ⟨z', e, hzr, hzd, hzx⟩ : ∃ z' : Nat, (z : Int) = z' ∧ RtF n G hom h z' ∧ (G.K z').length = d ∧ z' ∉ x :: rs := by
    rcases H.tab d z hT with h2 | h2
    · omega
    · exact h2
  obtain rfl : z = z' := by omega
  have hzne : z ≠ x := fun e => hzx (by simp [e])
  have hzrs : z ∉ rs := fun hm => hzx (by simp [hm])
  have hir : RtF n G hom h hi := by rcases hl with ⟨e, _⟩ | ⟨e, _⟩ <;> subst e <;> assumption
  have lor : RtF n G hom h lo := by rcases hl with ⟨_, e⟩ | ⟨_, e⟩ <;> subst e <;> assumption
  have hid : (G.K hi).length = d := by rcases hl with ⟨e, _⟩ | ⟨e, _⟩ <;> subst e <;> assumption
  have lod : (G.K lo).length = d := by rcases hl with ⟨_, e⟩ | ⟨_, e⟩ <;> subst e <;> assumption
  have hne : hi ≠ lo := by rcases hl with ⟨e1, e2⟩ | ⟨e1, e2⟩ <;> subst e1 e2 <;> omega
  have hirs : hi ∉ rs := by rcases hl with ⟨e, _⟩ | ⟨e, _⟩ <;> subst e; exact hnd.1; exact hzrs
  have lors : lo ∉ rs := by rcases hl with ⟨_, e⟩ | ⟨_, e⟩ <;> subst e; exact hzrs; exact hnd.1
  have hs := H.one lo lor
  have hh : (0 : Int) < hom hi := by rw [hir.2.2]; omega
  obtain ⟨hF, hnx, hrl⟩ := H.ff.under hir.1 lor.1 hir.2.1 lor.2.1 hne (by rw [lor.2.2, hir.2.2]) hh hL hs (by omega) rfl
  have upn : ∀ w, w ≠ lo → (underG G lo hi).up w = G.up w := fun w hw => by rw [under_up, putF_ne _ _ hw]
  have upl : (underG G lo hi).up lo = hi := by rw [under_up, putF_at]
  have rt : ∀ g w, RtF n (underG G lo hi) hom g w ↔ RtF n G hom g w ∧ w ≠ lo := fun g w => by
    unfold RtF
    by_cases e : w = lo
    · subst e; rw [upl]; constructor
      · rintro ⟨_, h2, _⟩; omega
      · rintro ⟨_, h2⟩; exact absurd rfl h2
    · rw [upn w e]; simp [e]
  have kn : ∀ w, w ≠ hi → (underG G lo hi).K w = G.K w := fun w hw => by rw [under_K, putF_ne _ _ hw]
  have dis : ∀ g, some g ≠ some h → ∀ w, w ∈ G.R g → w ≠ lo ∧ w ∉ G.K hi := fun g hg w hw => by
    have hm := (H.fr.mem g w hg).1 hw
    refine ⟨fun e => hg ?_, fun hk => ?_⟩
    · subst e; have := lor.2.2; have := hm.2.2.2; congr 1; omega
    · have := (H.ff.kid hi w hir.1 hk).2
      omega
  refine ⟨hF, ⟨fun g hg => ?_, fun g w hg => ?_, fun g t s hg hR => ?_⟩, by rw [under_R]; exact H.zero, fun w hw => ?_, fun e y hy => ?_, List.nodup_cons.2 ⟨hirs, hnd.2⟩, fun w hw => ?_, fun w hw => ?_⟩
  · rw [under_R]
    exact hrl _ (H.fr.ring g hg) (fun hm => (dis g hg lo hm).1 rfl) (fun w hw => (dis g hg w hw).2)
  · rw [under_R, H.fr.mem g w hg]
    constructor
    · rintro ⟨a1, a2, a3, a4⟩
      have hw : w ≠ lo := fun e => hg (by subst e; have := lor.2.2; congr 1; omega)
      exact ⟨a1, a2, by rw [upn w hw]; exact a3, a4⟩
    · rintro ⟨a1, a2, a3, a4⟩
      have hw : w ≠ lo := fun e => by subst e; rw [upl] at a3; omega
      exact ⟨a1, a2, by rw [upn w hw] at a3; exact a3, a4⟩
  · rw [under_R] at hR; exact H.fr.top g t s hg hR
  · obtain ⟨hw1, hwl⟩ := (rt h w).1 hw
    rw [hnx w hw1.1 hwl hw1.2.1]
    exact H.one w hw1
  · rw [List.getElem?_set] at hy
    by_cases he : d = e
    · rw [if_pos he] at hy
      by_cases hl2 : d < T.length
      · rw [if_pos hl2] at hy; injection hy with hy; exact Or.inl hy.symm
      · rw [if_neg hl2] at hy; cases hy
    · rw [if_neg he] at hy
      rcases H.tab e y hy with a1 | ⟨w, a1, a2, a3, a4⟩
      · exact Or.inl a1
      · have w1 : w ≠ x := fun e2 => a4 (by simp [e2])
        have w2 : w ≠ z := fun e2 => by subst e2; omega
        have whi : w ≠ hi := by rcases hl with ⟨e2, _⟩ | ⟨e2, _⟩ <;> subst e2 <;> assumption
        have wlo : w ≠ lo := by rcases hl with ⟨_, e2⟩ | ⟨_, e2⟩ <;> subst e2 <;> assumption
        refine Or.inr ⟨w, a1, (rt h w).2 ⟨a2, wlo⟩, by rw [kn w whi]; exact a3, fun hm => ?_⟩
        rcases List.mem_cons.1 hm with e2 | hm
        · exact whi e2
        · exact a4 (by simp [hm])
  · rcases List.mem_cons.1 hw with rfl | hw
    · exact (rt h w).2 ⟨hir, hne⟩
    · exact (rt h w).2 ⟨H.xr w (by simp [hw]), fun e => lors (e ▸ hw)⟩
  · obtain ⟨hw, hwl⟩ := (rt h w).1 hw
    have fin : w = x ∨ w = z → w ∈ hi :: rs := fun hc => by
      rcases hl with ⟨e1, e2⟩ | ⟨e1, e2⟩
      · rcases hc with hc | hc
        · simp [e1, hc]
        · exact absurd (hc.trans e2.symm) hwl
      · rcases hc with hc | hc
        · exact absurd (hc.trans e2.symm) hwl
        · simp [e1, hc]
    rcases H.all w hw with a | a
    · rcases List.mem_cons.1 a with a | a
      · exact Or.inl (fin (Or.inl a))
      · exact Or.inl (by simp [a])
    · obtain ⟨e, he⟩ := List.mem_iff_getElem?.1 a
      by_cases hed : e = d
      · subst hed
        rw [hT] at he
        injection he with he
        exact Or.inl (fin (Or.inr (by omega)))
      · exact Or.inr ((mem_set_iff _ _ _ _).2 (Or.inr ⟨e, hed, he⟩))
theorem getD_some {T : List Int} {d : Nat} (hd : d < T.length) : T[d]? = some (T.getD d (-1)) := by
  rw [List.getD_eq_getElem?_getD, List.getElem?_eq_getElem hd]; rfl
/-- What is to hold of which root is ahead. -/
def LtOk (n : Nat) (G : FG) (hom : Nat → Int) (h : Nat) (L : Nat → Nat → Prop) (lt : Nat → Nat → Bool) : Prop := ∀ a b, a < n → b < n → hom a = h → hom b = h → a ≠ b → (lt a b = true → L a b) ∧ (lt a b = false → L b a)
theorem TT.step {lt : Nat → Nat → Bool} {x : Nat} {rs : List Nat} (H : TT n hom L h T (x :: rs) G) (hl : LtOk n G hom h L lt) (h1 : 1 ≤ h) :
    (padT T (G.K x).length)[(G.K x).length]? = some ((padT T (G.K x).length).getD (G.K x).length (-1)) ∧
    ((padT T (G.K x).length).getD (G.K x).length (-1) = -1 → TT n hom L h ((padT T (G.K x).length).set (G.K x).length x) rs G ∧ occ ((padT T (G.K x).length).set (G.K x).length x) = occ T + 1) ∧
    ((padT T (G.K x).length).getD (G.K x).length (-1) ≠ -1 → ∃ z : Nat, (padT T (G.K x).length).getD (G.K x).length (-1) = z ∧ z < n ∧ z ≠ x ∧ hom z = h ∧ occ ((padT T (G.K x).length).set (G.K x).length (-1)) + 1 = occ T ∧
      (lt z x = true → TT n hom L h ((padT T (G.K x).length).set (G.K x).length (-1)) (z :: rs) (underG G x z)) ∧ (lt z x = false → TT n hom L h ((padT T (G.K x).length).set (G.K x).length (-1)) (x :: rs) (underG G z x))) := by
  have hp := H.pad (G.K x).length
  have ho := occ_pad T (G.K x).length
  have hlen := pad_len T (G.K x).length
  generalize padT T (G.K x).length = P at *
  have hg : P[(G.K x).length]? = some (P.getD (G.K x).length (-1)) := getD_some (by omega)
  refine ⟨hg, fun e => ?_, fun e => ?_⟩
  · rw [e] at hg
    refine ⟨hp.place rfl hg, ?_⟩
    have := occ_set P (G.K x).length x (-1) hg
    rw [if_pos rfl, if_neg (by omega)] at this
    omega
  · rcases hp.tab _ _ hg with e1 | ⟨z, e1, e2, e3, e4⟩
    · exact absurd e1 e
    · rw [e1] at hg
      have hzx : z ≠ x := fun e => e4 (by simp [e])
      have hxr := hp.xr x (by simp)
      have hk := hl z x e2.1 hxr.1 e2.2.2 hxr.2.2 hzx
      have := occ_set P (G.K x).length (-1) z hg
      rw [if_pos rfl, if_neg (by omega)] at this
      exact ⟨z, e1, e2.1, hzx, e2.2.2, by omega, fun ht => hp.link rfl hg (Or.inr ⟨rfl, rfl⟩) (hk.1 ht) h1, fun ht => hp.link rfl hg (Or.inl ⟨rfl, rfl⟩) (hk.2 ht) h1⟩
theorem tin_ok {lt : Nat → Nat → Bool} {rs : List Nat} (h1 : 1 ≤ h) (hl : ∀ G, LtOk n G hom h L lt) : ∀ (f : Nat) (T : List Int) (x : Nat) (G : FG) (q : Nat), TT n hom L h T (x :: rs) G → occ T < f →
    TT n hom L h (tin lt f T x G q).T rs (tin lt f T x G q).G ∧ occ (tin lt f T x G q).T + (tin lt f T x G q).q = occ T + 1 + q ∧ (tin lt f T x G q).G.R = G.R ∧ (tin lt f T x G q).T.length ≤ max T.length (n + 1)
  | 0, T, x, G, q, H, hf => by omega
  | f + 1, T, x, G, q, H, hf => by
    obtain ⟨s0, s1, s2⟩ := H.step (hl G) h1
    have hkn := H.ff.klen (H.xr x (by simp)).1
    have hpl := pad_len T (G.K x).length
    unfold tin
    by_cases e : (padT T (G.K x).length).getD (G.K x).length (-1) = -1
    · rw [if_pos e]
      obtain ⟨a, b⟩ := s1 e
      exact ⟨a, by simp only; omega, rfl, by simp only [List.length_set]; omega⟩
    · rw [if_neg e]
      obtain ⟨z, e1, _, _, _, e3, e4, e5⟩ := s2 e
      rw [e1, Int.toNat_natCast]
      cases ht : lt z x with
      | true =>
        rw [if_pos rfl]
        obtain ⟨r1, r2, r3, r4⟩ := tin_ok h1 hl f _ z _ (q + 1) (e4 ht) (by omega)
        exact ⟨r1, by omega, r3.trans (under_R _ _ _), by rw [List.length_set] at r4; omega⟩
      | false =>
        rw [if_neg (by simp)]
        obtain ⟨r1, r2, r3, r4⟩ := tin_ok h1 hl f _ x _ (q + 1) (e5 ht) (by omega)
        exact ⟨r1, by omega, r3.trans (under_R _ _ _), by rw [List.length_set] at r4; omega⟩
theorem tid_ok {lt : Nat → Nat → Bool} (h1 : 1 ≤ h) (hl : ∀ G, LtOk n G hom h L lt) : ∀ (rs : List Nat) (D : TD), TT n hom L h D.T rs D.G → D.T.length ≤ n + 1 →
    TT n hom L h (tid lt rs D).T [] (tid lt rs D).G ∧ occ (tid lt rs D).T + (tid lt rs D).q = occ D.T + rs.length + D.q ∧ (tid lt rs D).G.R = D.G.R ∧ (tid lt rs D).T.length ≤ n + 1
  | [], D, H, hlen => ⟨H, by simp [tid], rfl, hlen⟩
  | x :: rs, D, H, hlen => by
    obtain ⟨r1, r2, r3, r4⟩ := tin_ok h1 hl (occ D.T + 1) D.T x D.G D.q H (by omega)
    obtain ⟨t1, t2, t3, t4⟩ := tid_ok h1 hl rs _ r1 (by omega)
    have e : tid lt (x :: rs) D = tid lt rs (tin lt (occ D.T + 1) D.T x D.G D.q) := rfl
    rw [e]
    exact ⟨t1, by rw [t2, List.length_cons]; omega, t3.trans r3, t4⟩
end
end Go.Proofs.Ytighgbdijagolaa

set_option linter.unusedVariables false
set_option linter.unusedSimpArgs false
namespace Go.Proofs.Ytighgbdijagolaa

section
variable {n : Nat} {G : FG} {hom : Nat → Int} {L : Nat → Nat → Prop} {ex : Nat → Nat}
theorem FF.notkid (H : FF n G hom L ex) {a x : Nat} (hx : x < n) (ua : G.up a = -1) : a ∉ G.K x := fun hm => by
  have := (H.kid x a hx hm).2; omega
theorem FF.spl (H : FF n G hom L ex) {a b : Nat} (ha : a < n) (hb : b < n) (ua : G.up a = -1) (ub : G.up b = -1) (h0a : 0 < hom a) (h0b : 0 < hom b) : FF n (spl G a b) hom L ex :=
  ⟨H.rg.swap ha hb, H.kid, H.upK, fun x hx => (H.ring x hx).swap_far (H.notkid hx ua) (H.notkid hx ub), H.home, H.ord, fun y hy h0 => by
    obtain ⟨h1, h2, h3⟩ := H.alone y hy h0
    exact ⟨h1, h2, by show swapN G.nx a b y = y; rw [swapN_far (fun e => h0 (by rw [e]; exact h0a)) (fun e => h0 (by rw [e]; exact h0b))]; exact h3⟩, H.free, H.cnt⟩
/-- Only the heaps' rows turned. -/
theorem FF.setR (H : FF n G hom L ex) (R : Nat → List Nat) : FF n { G with R := R } hom L ex := ⟨H.rg, H.kid, H.upK, H.ring, H.home, H.ord, H.alone, H.free, H.cnt⟩
theorem FF.mono {L' : Nat → Nat → Prop} {hom' : Nat → Int} (H : FF n G hom L ex) (hL : ∀ y p : Nat, y < n → G.up y = p → L p y → hom' y = hom' p ∧ 0 < hom' y ∧ L' p y) (ha : ∀ y, y < n → ¬ 0 < hom' y → G.up y = -1 ∧ G.K y = [] ∧ G.nx y = y) : FF n G hom' L' ex :=
  ⟨H.rg, H.kid, H.upK, H.ring, fun y p hy hu => ⟨(hL y p hy hu (H.ord y p hy hu)).1, (hL y p hy hu (H.ord y p hy hu)).2.1⟩, fun y p hy hu => (hL y p hy hu (H.ord y p hy hu)).2.2, ha, H.free, H.cnt⟩
/-- A slot's children, as they come to lie behind it. -/
def kl (l : List Nat) : List Nat := match l with | [] => [] | k :: t => t ++ [k]
theorem kl_perm (l : List Nat) : (kl l).Perm l := by
  cases l with
  | nil => exact List.Perm.refl _
  | cons k t => exact List.perm_append_comm (l₁ := t) (l₂ := [k])
theorem mem_kl {l : List Nat} {z : Nat} : z ∈ kl l ↔ z ∈ l := (kl_perm l).mem_iff
theorem kl_len (l : List Nat) : (kl l).length = l.length := (kl_perm l).length_eq
theorem raise_R (G : FG) (x : Nat) : (raiseG G x).R = G.R := by unfold raiseG; cases G.K x <;> rfl
theorem raise_K (G : FG) (x : Nat) : (raiseG G x).K = putF G.K x [] := by
  unfold raiseG
  cases hK : G.K x with
  | nil => funext z; unfold putF; by_cases e : z = x <;> simp [e, hK]
  | cons k t => rfl
theorem raise_up (G : FG) {x : Nat} (ux : G.up x = -1) (z : Nat) : (raiseG G x).up z = if z ∈ G.K x then -1 else G.up z := by
  unfold raiseG
  cases hK : G.K x with
  | nil => simp
  | cons k t =>
    show putF (fun z => if z ∈ k :: t then (-1 : Int) else G.up z) x (-1) z = _
    unfold putF
    by_cases e : z = x
    · rw [if_pos e]; split; rfl; rw [e, ux]
    · rw [if_neg e]
theorem raise_mr (G : FG) {x : Nat} (mx : G.mr x = false) (z : Nat) : (raiseG G x).mr z = if z ∈ G.K x then false else G.mr z := by
  unfold raiseG
  cases hK : G.K x with
  | nil => simp
  | cons k t =>
    show putF (fun z => if z ∈ k :: t then false else G.mr z) x false z = _
    unfold putF
    by_cases e : z = x
    · rw [if_pos e]; split; rfl; rw [e, mx]
    · rw [if_neg e]
theorem raise_nx (G : FG) (x : Nat) : (raiseG G x).nx = match G.K x with | [] => G.nx | k :: _ => swapN G.nx x k := by unfold raiseG; cases G.K x <;> rfl
theorem raise_pv (G : FG) (x : Nat) : (raiseG G x).pv = match G.K x with | [] => G.pv | k :: _ => swapP G.nx G.pv x k := by unfold raiseG; cases G.K x <;> rfl
theorem FF.raise (H : FF n G hom L ex) {x : Nat} (hx : x < n) (ux : G.up x = -1) (h0 : 0 < hom x) :
    FF n (raiseG G x) hom L ex ∧ (∀ l, Ring G.nx l → x ∉ l → (∀ z, z ∈ l → z ∉ G.K x) → Ring (raiseG G x).nx l) ∧
      (∀ a b, Ring G.nx (a ++ x :: b) → (∀ z, z ∈ a ++ x :: b → z ∉ G.K x) → Ring (raiseG G x).nx (a ++ x :: (kl (G.K x) ++ b))) := by
  have mx := H.free x hx ux
  have up := raise_up G ux
  have mr := raise_mr G mx
  have far : ∀ z, z ≠ x → z ∉ G.K x → (raiseG G x).nx z = G.nx z := fun z h1 h2 => by
    rw [raise_nx]
    cases hK : G.K x with
    | nil => rfl
    | cons k t => exact swapN_far h1 (fun e => h2 (by rw [hK, e]; simp))
  have rl : ∀ l, Ring G.nx l → x ∉ l → (∀ z, z ∈ l → z ∉ G.K x) → Ring (raiseG G x).nx l := fun l hl h1 h2 => hl.far (fun z hz => far z (fun e => h1 (e ▸ hz)) (h2 z hz))
  have oth : ∀ a, a < n → a ≠ x → ∀ z, z ∈ G.K a → z ≠ x ∧ z ∉ G.K x := fun a ha hne z hz => by
    have := (H.kid a z ha hz).2
    exact ⟨fun e => by subst e; omega, fun hm => by have := (H.kid x z hx hm).2; omega⟩
  have kn : ∀ a, a ≠ x → (raiseG G x).K a = G.K a := fun a ha => by rw [raise_K, putF_ne _ _ ha]
  have kx : (raiseG G x).K x = [] := by rw [raise_K, putF_at]
  refine ⟨⟨?_, fun a y ha hy => ?_, fun y hy => ?_, fun a ha => ?_, fun y p hy hu => ?_, fun y p hy hu => ?_, fun y hy h1 => ?_, fun y hy hu => ?_, fun a d ha => ?_⟩, rl, fun a b hr hd => ?_⟩
  · rw [raise_nx, raise_pv]
    cases hK : G.K x with
    | nil => exact H.rg
    | cons k t => exact H.rg.swap hx (H.kid x k hx (by rw [hK]; simp)).1
  · by_cases e : a = x
    · subst e; rw [kx] at hy; cases hy
    · rw [kn a e] at hy
      have := oth a ha e y hy
      exact ⟨(H.kid a y ha hy).1, by rw [up, if_neg this.2]; exact (H.kid a y ha hy).2⟩
  · rw [up]
    by_cases e : y ∈ G.K x
    · rw [if_pos e]; exact Or.inl rfl
    · rw [if_neg e]
      rcases H.upK y hy with h1 | ⟨p, hp, h1, h2⟩
      · exact Or.inl h1
      · have hpx : p ≠ x := fun e2 => e (e2 ▸ h2)
        exact Or.inr ⟨p, hp, h1, by rw [kn p hpx]; exact h2⟩
  · by_cases e : a = x
    · subst e; rw [kx]; exact Ring.nil _
    · rw [kn a e]
      exact rl _ (H.ring a ha) (fun hm => (oth a ha e x hm).1 rfl) (fun z hz => (oth a ha e z hz).2)
  · rw [up] at hu
    split at hu
    · omega
    · exact H.home y p hy hu
  · rw [up] at hu
    split at hu
    · omega
    · exact H.ord y p hy hu
  · obtain ⟨a1, a2, a3⟩ := H.alone y hy h1
    have hyx : y ≠ x := fun e => h1 (by rw [e]; exact h0)
    have hyk : y ∉ G.K x := H.notkid hx a1
    exact ⟨by rw [up, if_neg hyk]; exact a1, by rw [kn y hyx]; exact a2, by rw [far y hyx hyk]; exact a3⟩
  · rw [up] at hu
    rw [mr]
    split
    · rfl
    · rename_i hk
      rw [if_neg hk] at hu
      exact H.free y hy hu
  · by_cases e : a = x
    · subst e; rw [kx]; exact Nat.zero_le _
    · rw [kn a e, few_ext (G := G) (ex := ex) d (fun c hc => by
        have := oth a ha e c hc
        rw [kn c this.1, mr, if_neg this.2])]
      exact H.cnt a d ha
  · have hk := H.ring x hx
    rw [raise_nx]
    cases hK : G.K x with
    | nil => simpa [kl] using hr
    | cons k t =>
      rw [hK] at hk hd
      have h1 : Ring G.nx (x :: (b ++ a)) := Ring.rot (a := a) (b := x :: b) hr
      have h2 := Ring.join h1 hk (fun z hz => hd z (by simp only [List.mem_cons, List.mem_append] at hz ⊢; rcases hz with h | h | h <;> simp [h]))
      have h3 : Ring (swapN G.nx x k) ((x :: (t ++ k :: b)) ++ a) := by simpa using h2
      have h4 := Ring.rot h3
      simpa [kl] using h4
/-- Things come out of their ring, one behind the other. -/
def prtL (l : List Nat) (G : FG) : FG := l.foldl prt G
theorem prtL_same : ∀ (l : List Nat) (G : FG), (prtL l G).up = G.up ∧ (prtL l G).mr = G.mr ∧ (prtL l G).K = G.K ∧ (prtL l G).R = G.R
  | [], G => ⟨rfl, rfl, rfl, rfl⟩
  | x :: t, G => by
    obtain ⟨h1, h2, h3, h4⟩ := prtL_same t (prt G x)
    exact ⟨h1, h2, h3, h4⟩
theorem prtL_ok : ∀ (l : List Nat) (G : FG), FF n G hom L ex → Ring G.nx l → (∀ z, z ∈ l → z < n ∧ G.up z = -1 ∧ 0 < hom z) →
    FF n (prtL l G) hom L ex ∧ (∀ z, z ∈ l → (prtL l G).nx z = z) ∧ (∀ l', Ring G.nx l' → (∀ z, z ∈ l' → z ∉ l) → Ring (prtL l G).nx l')
  | [], G, H, hr, hl => ⟨H, fun z hz => (by cases hz), fun l' h _ => h⟩
  | x :: t, G, H, hr, hl => by
    have hx := hl x (by simp)
    obtain ⟨p1, p2⟩ := H.rg.part hr (fun z hz => (hl z hz).1)
    have hpm : G.pv x ∈ x :: t := by
      rcases List.eq_nil_or_concat t with rfl | ⟨a, y, e⟩
      · have e1 := ring_one.1 hr
        have := H.rg.pn x hx.1
        rw [e1] at this
        simp [this]
      · rw [List.concat_eq_append] at e
        subst e
        have := H.rg.last (x := x) (y := y) (a := a) hr (hl y (by simp)).1
        rw [this]; simp
    have hp := hl _ hpm
    have H1 : FF n (prt G x) hom L ex := H.spl hx.1 hp.1 hx.2.1 hp.2.1 hx.2.2 hp.2.2
    have hnd := List.nodup_cons.1 hr.nd
    obtain ⟨r1, r2, r3⟩ := prtL_ok t (prt G x) H1 p2 (fun z hz => hl z (by simp [hz]))
    refine ⟨r1, fun z hz => ?_, fun l' h' hd => r3 l' (h'.swap_far (fun hm => hd x hm (by simp)) (fun hm => hd _ hm hpm)) (fun z hz hm => hd z hz (by simp [hm]))⟩
    rcases List.mem_cons.1 hz with rfl | hz
    · exact ring_one.1 (r3 [z] p1 (fun y hy => by simp at hy; subst hy; exact hnd.1))
    · exact r2 z hz
theorem rootL_perm (b : Bool) (R l : List Nat) : (rootL b R l).Perm (R ++ l) := by
  unfold rootL
  cases R with
  | nil => exact List.Perm.refl _
  | cons t s =>
    cases l with
    | nil => simp
    | cons x r =>
      simp only
      split
      · exact List.perm_append_comm (l₁ := x :: s) (l₂ := t :: r) |>.trans (by
          show (t :: (r ++ x :: s)).Perm (t :: (s ++ x :: r))
          refine List.Perm.cons t ?_
          exact List.perm_middle.trans ((List.Perm.cons x List.perm_append_comm).trans List.perm_middle.symm))
      · show (t :: (r ++ x :: s)).Perm (t :: (s ++ x :: r))
        refine List.Perm.cons t ?_
        exact List.perm_middle.trans ((List.Perm.cons x List.perm_append_comm).trans List.perm_middle.symm)
theorem rootG_same (lt : Nat → Nat → Bool) (h : Nat) (l : List Nat) (G : FG) : (rootG lt h l G).up = G.up ∧ (rootG lt h l G).mr = G.mr ∧ (rootG lt h l G).K = G.K ∧ ∀ g, g ≠ h → (rootG lt h l G).R g = G.R g := by
  unfold rootG
  split
  · exact ⟨rfl, rfl, rfl, fun g hg => putF_ne _ _ hg⟩
  · exact ⟨rfl, rfl, rfl, fun g hg => putF_ne _ _ hg⟩
/-- A ring of roots comes to those of its heap. -/
theorem rootG_core {lt : Nat → Nat → Bool} {h x : Nat} {r : List Nat} (H : FF n G hom L ex) (h1 : 1 ≤ h) (hl : LtOk n G hom h L lt) (tr : ∀ a b c, L a b → L b c → L a c) (hR : Ring G.nx (G.R h)) (hx : Ring G.nx (x :: r)) (hd : ∀ z, z ∈ G.R h → z ∉ x :: r)
    (mR : ∀ z, z ∈ G.R h → RtF n G hom h z) (mx : ∀ z, z ∈ x :: r → RtF n G hom h z) (tR : ∀ t s, G.R h = t :: s → ∀ y, y ∈ s → L t y) (tx : ∀ y, y ∈ r → L x y) :
    FF n (rootG lt h (x :: r) G) hom L ex ∧ Ring (rootG lt h (x :: r) G).nx ((rootG lt h (x :: r) G).R h) ∧ ((rootG lt h (x :: r) G).R h).Perm (G.R h ++ x :: r) ∧
      (∀ t s, (rootG lt h (x :: r) G).R h = t :: s → ∀ y, y ∈ s → L t y) ∧ (∀ l', Ring G.nx l' → (∀ z, z ∈ l' → z ∉ G.R h ∧ z ∉ x :: r) → Ring (rootG lt h (x :: r) G).nx l') := by
  cases hRR : G.R h with
  | nil =>
    have e : rootG lt h (x :: r) G = { G with R := putF G.R h (x :: r) } := by unfold rootG; rw [hRR]
    rw [e]
    have eR : putF G.R h (x :: r) h = x :: r := putF_at _ _ _
    simp only [eR]
    exact ⟨H.setR _, hx, List.Perm.refl _, fun t s e y hy => by injection e with e1 e2; subst e1 e2; exact tx y hy, fun l' h _ => h⟩
  | cons t s =>
    have e : rootG lt h (x :: r) G = { spl G t x with R := putF G.R h (rootL (lt x t) (t :: s) (x :: r)) } := by unfold rootG; rw [hRR]
    rw [e]
    rw [hRR] at hR hd mR
    have ht := mR t (by simp)
    have hxr := mx x (by simp)
    have hne : x ≠ t := fun e => hd t (by simp) (by simp [e])
    have h0 : (0 : Int) < hom t ∧ (0 : Int) < hom x := ⟨by rw [ht.2.2]; omega, by rw [hxr.2.2]; omega⟩
    have hk := hl x t hxr.1 ht.1 hxr.2.2 ht.2.2 hne
    have eR : putF G.R h (rootL (lt x t) (t :: s) (x :: r)) h = rootL (lt x t) (t :: s) (x :: r) := putF_at _ _ _
    have hj : Ring (swapN G.nx t x) (t :: r ++ x :: s) := Ring.join hR hx hd
    have hts := tR t s hRR
    simp only [eR]
    refine ⟨(H.spl ht.1 hxr.1 ht.2.1 hxr.2.1 h0.1 h0.2).setR _, ?_, rootL_perm _ _ _, fun t' s' e' y hy => ?_, fun l' hl' hd' => hl'.swap_far (fun hm => (hd' t hm).1 (by simp)) (fun hm => (hd' x hm).2 (by simp))⟩
    · show Ring (swapN G.nx t x) _
      unfold rootL
      simp only
      cases hb : lt x t with
      | true => exact Ring.rot (a := t :: r) (b := x :: s) hj
      | false => exact hj
    · unfold rootL at e'
      simp only at e'
      cases hb : lt x t with
      | true =>
        rw [hb] at hk
        rw [hb, if_pos rfl] at e'
        have hxt := hk.1 rfl
        have e1 : x = t' := by injection e'
        have e2 : s ++ t :: r = s' := by injection e'
        subst e1 e2
        simp only [List.mem_append, List.mem_cons] at hy
        rcases hy with hy | rfl | hy
        · exact tr _ _ _ hxt (hts y hy)
        · exact hxt
        · exact tx y hy
      | false =>
        rw [hb] at hk
        rw [hb, if_neg (by simp)] at e'
        have htx := hk.2 rfl
        have e1 : t = t' := by injection e'
        have e2 : r ++ x :: s = s' := by injection e'
        subst e1 e2
        simp only [List.mem_append, List.mem_cons] at hy
        rcases hy with hy | rfl | hy
        · exact tr _ _ _ htx (tx y hy)
        · exact htx
        · exact hts y hy
end
end Go.Proofs.Ytighgbdijagolaa
