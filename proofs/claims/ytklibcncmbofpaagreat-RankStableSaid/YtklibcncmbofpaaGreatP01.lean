/-
  Lemmas for RankSorts: Base, Ns, Own. Conditions: those of each lemma.
-/
import Derived.WalkKit
import Derived.WalkSpells
import Derived.WalkLawsBesides
import Derived.BigQuiet
import Derived.Deep.RegionHeld3
import Derived.ProofKit
import Derived.OpenShut
import Derived.Lib.Hide
set_option maxHeartbeats 8000000
set_option maxRecDepth 10000
set_option linter.unusedVariables false
set_option linter.unusedSimpArgs false
namespace Go.Proofs.YtklibcncmbofpaaGreat
open Go.RowKit
theorem iG {k:IntKind} {a b:Int} (h:a=b):Ending.returned (.int k a)=.returned (.int k b):=by rw [h]
theorem aV {a b:Bool} (h:a=b):Ending.returned (.bool a)=.returned (.bool b):=by rw [h]
structure aa (S:List Nat) (w w':World):Prop where
 os:w'.os=w.os
 tape:w'.tape=w.tape
 output:w'.output=w.output
 size:w.heap.size≤w'.heap.size
 block:∀k,k<w.heap.size→k∉S→w'.heap[k]?=w.heap[k]?
theorem aa.refl (S:List Nat) (w:World):aa S w w:=⟨rfl,rfl,rfl,Nat.le_refl _,fun _ _ _=>rfl⟩
theorem aa.joined {S T:List Nat} {a b c:World} (h:aa S a b) (k:aa T b c) (hT:∀x,x∈T→x∈S∨a.heap.size≤x):aa S a c:=
  ⟨k.os.trans h.os,k.tape.trans h.tape,k.output.trans h.output,Nat.le_trans h.size k.size,
   fun i hi hs=>(k.block i (Nat.lt_of_lt_of_le hi h.size) (fun hm=>by rcases hT i hm with h1|h1;exact hs h1;omega)).trans (h.block i hi hs)⟩
theorem aa.trans {S:List Nat} {a b c:World} (h:aa S a b) (k:aa S b c):aa S a c:=h.joined k (fun _ hx=>Or.inl hx)
theorem aa.then {S:List Nat} {a b c:World} (h:aa S a b) (k:aa [] b c):aa S a c:=h.joined k (fun _ hx=>by cases hx)
theorem aa.mono {S T:List Nat} {a b:World} (h:aa S a b) (hs:∀x,x∈S→x∈T):aa T a b:=
 ⟨h.os,h.tape,h.output,h.size,fun k hk hn=>h.block k hk (fun hm=>hn (hs k hm))⟩
theorem aa.drew {S:List Nat} {a w:World} (h:aa S a w):aa S a w.drew:=⟨h.os,h.tape,h.output,h.size,h.block⟩
theorem aa.drewN {S:List Nat} {a w:World} (h:aa S a w) (n:Nat):aa S a (w.drewN n):=⟨h.os,h.tape,h.output,h.size,h.block⟩
theorem aa.alloc {S:List Nat} {a w:World} (h:aa S a w) (o:Obj):aa S a (w.alloc o):=
 h.joined (T:=[]) ⟨rfl,rfl,rfl,by simp,fun k hk _=>Below.heap_alloc _ _ _ hk⟩ (fun _ hx=>by cases hx)
theorem aa.setCell {S:List Nat} {a w:World} (h:aa S a w) {p:Addr} (hp:p.block∈S∨a.heap.size≤p.block) (u:Value):aa S a (w.setCell p u):=
 h.joined (T:=[p.block]) ⟨rfl,rfl,rfl,by simp [World.setCell],fun k hk hn=>Below.heap_setCell _ _ _ _ (by simpa using hn)⟩ (fun x hx=>by simp at hx;rw [hx];exact hp)
theorem aa.grown {S:List Nat} {a w w':World} {row:Option Nat} (h:aa S a w) (hg:w.grownBy w' row) (hr:∀k,row=some k→k∈S∨a.heap.size≤k):aa S a w':=
 h.joined (T:=row.toList) ⟨hg.os,hg.tape,hg.output,hg.size,fun k hk hn=>hg.block k hk (fun e=>hn (by rw [←e];simp))⟩ (fun x hx=>hr x (by simpa using hx))
theorem aa.cell {S:List Nat} {w w':World} (h:aa S w w') {p:Addr} (hp:p.block<w.heap.size) (hn:p.block∉S):w'.cell? p=w.cell? p:=World.cell?_of_block (w:=w) (h.block p.block hp hn)
theorem aa.frozen {S:List Nat} {w w':World} (h:aa S w w') {p:Addr} (hp:p.block<w.heap.size) (hn:p.block∉S):w'.frozen? p=w.frozen? p:=World.frozen?_of_block (w:=w) (h.block p.block hp hn)
theorem aa.below {w w':World} (h:aa [] w w'):Below w.heap.size w w':=⟨h.os,h.tape,h.output,h.size,fun k hk=>h.block k hk (by simp)⟩
theorem aa.was {w w':World} (h:aa [] w w') {p:Addr} {v:Value} (hv:w.cell? p=some v):w'.cell? p=some v:=by
 rw [h.cell (World.block_lt_of_cell? w p hv) (by simp)];exact hv
theorem aa.kept {S:List Nat} {w w':World} (h:aa S w w') {p:Addr} {v:Value} (hv:w.cell? p=some v) (hn:p.block∉S):w'.cell? p=some v:=by
 rw [h.cell (World.block_lt_of_cell? w p hv) hn];exact hv
theorem aa.aO {S:List Nat} {w w':World} (h:aa S w w') {p:Addr} {v:Value} (hv:w.cell? p=some v) (hn:p.block∉S) (hf:w.frozen? p=false):w'.frozen? p=false:=by
 rw [h.frozen (World.block_lt_of_cell? w p hv) hn];exact hf
theorem NL {W w1:World} (hb:aa [] W w1):(∀a,(W.cell? a).isSome=true→w1.cell? a=W.cell? a)∧(∀a,(W.cell? a).isSome=true→w1.frozen? a=W.frozen? a):=
  ⟨fun a h=>by obtain ⟨u,hu⟩:=Option.isSome_iff_exists.1 h;exact hb.cell (World.block_lt_of_cell? W a hu) (by simp),
   fun a h=>by obtain ⟨u,hu⟩:=Option.isSome_iff_exists.1 h;exact hb.frozen (World.block_lt_of_cell? W a hu) (by simp)⟩
theorem β {P:Prop} (h:P:=by (repeat (first|assumption|exact aa.refl _ _|refine aa.alloc ?_ _|refine aa.drew ?_|refine aa.drewN ?_ _|refine aa.setCell ?_ ?_ _|focus (left;simp;done)|focus (right;simp;done)|focus (right;simp;omega)))):P:=h
theorem κ {P:Prop} (h:P:=by (repeat (first|assumption|exact aa.refl _ _|refine aa.drew ?_|refine aa.alloc ?_ _|refine aa.setCell ?_ ?_ _|focus (left;simp;done)|focus (right;simp;done)|focus (right;simp;omega)|(apply aa.trans;rotate_left;assumption;assumption)))):P:=h
theorem η {P:Prop} (h:P:=by (repeat (first|assumption|exact aa.refl _ _|refine aa.drew ?_|refine aa.alloc ?_ _|(apply aa.trans;rotate_left;assumption)))):P:=h
theorem ξ {P:Prop} (h:P:=by (repeat (first|assumption|exact aa.refl _ _|refine aa.alloc ?_ _|refine aa.drew ?_|refine aa.drewN ?_ _|refine aa.setCell ?_ (Or.inr (by first|(simp;done)|(simp;omega))) _|(apply aa.trans;rotate_left;assumption)))):P:=h
theorem ω {P:Prop} (h:P:=by omega):P:=h
theorem σ {P:Prop} (h:P:=by simp):P:=h
theorem ζ {P:Prop} (h:P:=by simp;omega):P:=h
theorem ι {P:Prop} (h:P:=by first|(simp;done)|(simp;omega)):P:=h
theorem μ {P:Prop} (h:P:=by unfold maxLen;omega):P:=h
theorem γ {P:Prop} (h:P:=by go_simp):P:=h
theorem δ {P:Prop} (h:P:=by decide):P:=h
theorem ψ {a b:Prop} (x:a) (y:b):a∧b:=⟨x,y⟩
theorem χ {p:Prop} (h:p):Hid p:=h
theorem φ {α:Type} {l:List α} {i:Nat} {a:α}:l.getD i a=l[i]?.getD a:=List.getD_eq_getElem?_getD
theorem π (n:Nat):(n:Int).toNat=n:=Int.toNat_natCast n
end Go.Proofs.YtklibcncmbofpaaGreat
namespace Go.Proofs.YtklibcncmbofpaaGreat
structure Cl where
 i:Int
 k:Int
 s:Int
instance:Inhabited Cl:=⟨⟨0,0,0⟩⟩
def Cl.z:Cl:=⟨0,0,0⟩
structure NS where
 hs:List Bool
 cs:List Cl
def NS.c (A:NS) (x:Nat):Cl:=A.cs.getD x Cl.z
def NS.new (n:Nat):NS:=⟨[false],List.replicate n Cl.z⟩
def aY (A:NS) (h:Int):Bool:=decide (1≤h) && decide (h<A.hs.length) && A.hs.getD h.toNat false
def tK (A:NS) (x:Int):Bool:=decide (0≤x) && decide (x<A.cs.length)
def bD (A:NS) (x:Int):Bool:=tK A x && decide (0<(A.c x.toNat).i)
def gD (A:NS) (x:Nat) (c:Cl):NS:=⟨A.hs,A.cs.set x c⟩
def BM (k1 s1 k2 s2:Int):Bool:=if k1=k2 then decide (s1<s2) else decide (k1<k2)
def bS (A:NS):Int:=if 65536<A.hs.length then 0 else A.hs.length
def aG (A:NS):NS:=if 65536<A.hs.length then A else ⟨A.hs++[true],A.cs⟩
def jy (A:NS) (h x:Int):Bool:=aY A h && tK A x && !bD A x
def aB (A:NS) (h x k s:Int):NS:=if jy A h x then gD A x.toNat ⟨h,k,s⟩ else A
def aL (A:NS) (x:Int):NS:=if bD A x then gD A x.toNat Cl.z else A
def iy (A:NS) (x k s:Int):Bool:=bD A x && !BM (A.c x.toNat).k (A.c x.toNat).s k s
def ak (A:NS) (x k s:Int):NS:=if iy A x k s then gD A x.toNat ⟨(A.c x.toNat).i,k,s⟩ else A
def Ef (cs:List Cl) (h:Int):Nat:=(cs.filter fun c=>decide (c.i=h) && decide (0<h)).length
def cu (A:NS) (h:Int):Nat:=Ef A.cs h
def bH (A:NS) (a b:Nat):Prop:=(A.c a).k<(A.c b).k∨(A.c a).k=(A.c b).k∧((A.c a).s<(A.c b).s∨(A.c a).s=(A.c b).s∧a<b)
instance (A:NS) (a b:Nat):Decidable (bH A a b):=by unfold bH;infer_instance
def bF (A:NS) (a b:Int):Bool:=bD A a && bD A b && decide (bH A a.toNat b.toNat)
def EB (A:NS) (h:Int) (b:Option Nat) (x:Nat):Option Nat:=if decide (0<h) && decide ((A.c x).i=h) && (match b with|none=>true|some y=>bF A x y) then some x else b
def bL (A:NS) (h:Int):Option Nat:=(List.range A.cs.length).foldl (EB A h) none
def oD (o:Option Nat):Int:=match o with|some x=>(x:Int)|none=>0
structure NS.Ok (A:NS):Prop where
 h0:1≤A.hs.length
 h1:A.hs.length≤65537
 h2:A.hs.getD 0 false=false
 c1:A.cs.length≤65536
 cell:∀x,x<A.cs.length→((A.c x).i=0∧(A.c x).k=0∧(A.c x).s=0)∨aY A (A.c x).i=true
 key:∀x, -9223372036854775808≤(A.c x).k∧(A.c x).k≤9223372036854775807∧0≤(A.c x).s∧(A.c x).s≤18446744073709551615
theorem aK (A:NS) (h:Int):aY A h=true↔1≤h∧h<A.hs.length∧A.hs.getD h.toNat false=true:=by
 unfold aY;simp [and_assoc]
theorem dK (A:NS) (x:Int):tK A x=true↔0≤x∧x<A.cs.length:=by unfold tK;simp
theorem vU (A:NS) (x:Int):bD A x=true↔0≤x∧x<A.cs.length∧0<(A.c x.toNat).i:=by unfold bD tK;simp [and_assoc]
theorem af (A:NS) (x:Nat):bD A (x:Int)=true↔x<A.cs.length∧0<(A.c x).i:=by rw [vU];simp
theorem NS.Ok.nat {A:NS} (h:A.Ok) (x:Nat) (hx:x<A.cs.length):0≤(A.c x).i∧(A.c x).i<A.hs.length:=by
 rcases h.cell x hx with h'|h'
 ·have:=h.h0;omega
 ·have:=(aK _ _).1 h';omega
theorem iD (A:NS) (x:Nat) (c:Cl) (y:Nat):(gD A x c).c y=if y=x∧x<A.cs.length then c else A.c y:=by
 unfold gD NS.c;simp only [φ,List.getElem?_set]
 by_cases h:x=y
 ·subst h
  by_cases hx:x<A.cs.length
  ·simp [hx]
  ·simp [hx,List.getElem?_eq_none (Nat.le_of_not_lt hx)]
 ·rw [if_neg h,if_neg (fun e=>h e.1.symm)]
theorem dI (A:NS) (x:Nat) (c:Cl):(gD A x c).cs.length=A.cs.length:=by unfold gD;simp
theorem Le (A:NS) (x:Nat) (c:Cl) (h:Int):aY (gD A x c) h=aY A h:=rfl
theorem NS.Ok.with {A:NS} (h:A.Ok) (x:Nat) (c:Cl) (hc:(c.i=0∧c.k=0∧c.s=0)∨aY A c.i=true) (hk:-9223372036854775808≤c.k∧c.k≤9223372036854775807∧0≤c.s∧c.s≤18446744073709551615):(gD A x c).Ok:=by
 refine ⟨h.h0,h.h1,h.h2,by rw [dI];exact h.c1,fun y hy=>?_,fun y=>?_⟩
 ·rw [dI] at hy;rw [iD,Le]
  split
  ·exact hc
  ·exact h.cell y hy
 ·rw [iD];split
  ·exact hk
  ·exact h.key y
theorem NS.uZ (n x:Nat):(NS.new n).c x=Cl.z:=by
 unfold NS.new NS.c;rw [φ,List.getElem?_replicate];split<;>rfl
theorem NS.pM (n:Nat) (hn:n≤65536):(NS.new n).Ok:=by
 refine ⟨by simp [NS.new],by simp [NS.new],rfl,by simp [NS.new];exact hn,fun x _=>Or.inl ?_,fun x=>?_⟩
 ·rw [NS.uZ];exact ⟨rfl,rfl,rfl⟩
 ·rw [NS.uZ];exact ⟨δ,δ,δ,δ⟩
theorem sW {A:NS} (h:A.Ok):(aG A).Ok:=by
 unfold aG;split
 ·exact h
 ·rename_i hl
  have h0:=h.h0;refine ⟨σ,ζ,?_,h.c1,fun x hx=>?_,h.key⟩
  ·have:=h.h2;simp only [φ] at this ⊢;rw [List.getElem?_append_left ω];exact this
  ·rcases h.cell x hx with h'|h'
   ·exact Or.inl h'
   ·refine Or.inr ?_;have h2:=(aK _ _).1 h';refine (aK _ _).2 ⟨h2.1,by show (A.c x).i<((A.hs++[true]).length:Int);rw [List.length_append];have:=h2.2.1;omega,?_⟩
    have h3:=h2.2.2;simp only [φ] at h3 ⊢;rw [List.getElem?_append_left (by show (A.c x).i.toNat<A.hs.length;omega)];exact h3
theorem cB (A:NS) (h x:Int):jy A h x=true↔aY A h=true∧tK A x=true∧bD A x=false:=by unfold jy;simp [and_assoc]
theorem sG {A:NS} (h:A.Ok) (g x k s:Int) (hk:-9223372036854775808≤k∧k≤9223372036854775807∧0≤s∧s≤18446744073709551615):(aB A g x k s).Ok:=by
 unfold aB;split
 ·rename_i hp
  exact h.with _ _ (Or.inr ((cB _ _ _).1 hp).1) hk
 ·exact h
theorem wT {A:NS} (h:A.Ok) (x:Int):(aL A x).Ok:=by
 unfold aL;split
 ·exact h.with _ _ (Or.inl ⟨rfl,rfl,rfl⟩) ⟨δ,δ,δ,δ⟩
 ·exact h
theorem gN {A:NS} (h:A.Ok) {x:Int} (hx:bD A x=true):aY A (A.c x.toNat).i=true:=by
 have h1:=(vU _ _).1 hx;rcases h.cell x.toNat ω with h'|h'
 ·omega
 ·exact h'
theorem Mq {A:NS} (h:A.Ok) (x k s:Int) (hk:-9223372036854775808≤k∧k≤9223372036854775807∧0≤s∧s≤18446744073709551615):(ak A x k s).Ok:=by
 unfold ak;split
 ·rename_i hp
  unfold iy at hp;simp only [Bool.and_eq_true] at hp;exact h.with _ _ (Or.inr (gN h hp.1)) hk
 ·exact h
/-! ### how many are in a heap -/
theorem L9 (cs:List Cl) (h:Int):Ef cs h≤cs.length:=List.length_filter_le _ _
theorem KJ (cs:List Cl) (x:Nat) (c:Cl) (h:Int) (hx:x<cs.length) :
  Ef (cs.set x c) h+(if (cs.getD x Cl.z).i=h∧0<h then 1 else 0)=Ef cs h+(if c.i=h∧0<h then 1 else 0):=by
 unfold Ef
 induction cs generalizing x with
 | nil=>simp at hx
 | cons d r ih=>
  cases x with
  | zero=>
   simp only [List.set_cons_zero,List.filter_cons,List.getD_cons_zero];have e1:∀c:Cl,(decide (c.i=h) && decide (0<h))=decide (c.i=h∧0<h):=fun c=>by by_cases a:c.i=h<;>by_cases b:0<h<;>simp [a,b]
   have e2:∀ (p:Prop) [Decidable p] (d:Cl) (l:List Cl),(if decide p=true then d::l else l).length=l.length+(if p then 1 else 0):=fun p _ d l=>by by_cases hp:p<;>simp [hp]
   simp only [e1,e2];omega
  | succ x=>
   have:=ih x (by simpa using hx)
   simp only [List.set_cons_succ,List.filter_cons,List.getD_cons_succ]
   split<;>simp at this ⊢<;>omega
theorem kG (A:NS) (x:Nat) (c:Cl) (h:Int) (hx:x<A.cs.length) :
  cu (gD A x c) h+(if (A.c x).i=h∧0<h then 1 else 0)=cu A h+(if c.i=h∧0<h then 1 else 0):=KJ A.cs x c h hx
theorem Ki {cs:List Cl} {h:Int}:0<Ef cs h↔∃x,x<cs.length∧(cs.getD x Cl.z).i=h∧0<h:=by
 unfold Ef;rw [List.length_pos_iff_exists_mem];constructor
 ·rintro ⟨c,hc⟩;obtain ⟨hm,hp⟩:=List.mem_filter.1 hc;obtain ⟨x,hx,rfl⟩:=List.mem_iff_getElem.1 hm;simp only [Bool.and_eq_true,decide_eq_true_eq] at hp;exact ⟨x,hx,by simpa [φ,hx] using hp.1,hp.2⟩
 ·rintro ⟨x,hx,h1,h2⟩;refine ⟨cs[x],List.mem_filter.2 ⟨List.getElem_mem hx,?_⟩⟩;simp only [φ,List.getElem?_eq_getElem hx,Option.getD_some] at h1;simp [h1,h2]
theorem dG {A:NS} {h:Int}:0<cu A h↔∃x,x<A.cs.length∧(A.c x).i=h∧0<h:=Ki
theorem zV {A:NS} (hA:A.Ok) (h:Int):cu A h≤65536:=Nat.le_trans (L9 _ _) hA.c1
theorem IA {A:NS} (hA:A.Ok) {h:Int} (hh:aY A h=false):cu A h=0:=by
 rcases Nat.eq_zero_or_pos (cu A h) with h'|h'
 ·exact h'
 ·obtain ⟨x,hx,h1,h2⟩:=dG.1 h';rcases hA.cell x hx with h3|h3
  ·omega
  ·rw [h1,hh] at h3;cases h3
theorem Hr {A:NS} (h:Int):cu (aG A) h=cu A h:=by unfold aG;split<;>rfl
/-! ### the order of slots -/
theorem bE {A:NS} {a b c:Nat} (h:bH A a b) (h':bH A b c):bH A a c:=by unfold bH at *;omega
theorem sJ {A:NS} {a:Nat}:¬bH A a a:=by unfold bH;omega
theorem gH {A:NS} {a b:Nat} (h:a≠b):bH A a b∨bH A b a:=by unfold bH;omega
theorem nu {A:NS} {a b:Nat} (h:bH A a b):¬bH A b a:=fun h'=>sJ (bE h h')
theorem jC (A:NS) (a b:Nat):bF A (a:Int) (b:Int)=(bD A a && bD A b && decide (bH A a b)):=by unfold bF;simp
def K9 (A:NS) (h:Int) (l:List Nat) (m:Nat):Prop:=m∈l∧(A.c m).i=h∧∀y,y∈l→(A.c y).i=h→y=m∨bH A m y
theorem uj (A:NS) (h:Int) (hh:0<h):∀ (l:List Nat),(∀x∈l,x<A.cs.length)→∀ (pre:List Nat),(∀x∈pre,x<A.cs.length)→∀o:Option Nat,
  (match o with|some m=>K9 A h pre m|none=>∀y∈pre,(A.c y).i≠h)→
  (match l.foldl (EB A h) o with|some m=>K9 A h (pre++l) m|none=>∀y∈pre++l,(A.c y).i≠h)
 | [],_,pre,_,o,ho=>by simpa using ho
 | x::l,hl,pre,hp,o,ho=>by
  have hx:=hl x σ;have step:(match EB A h o x with|some m=>K9 A h (pre++[x]) m|none=>∀y∈pre++[x],(A.c y).i≠h):=by
   unfold EB
   by_cases hi:(A.c x).i=h
   ·cases o with
    | none=>
     simp only at ho;simp only [hi,hh,decide_true,Bool.and_self,if_true];refine ⟨σ,hi,fun y hy he=>?_⟩
     rcases List.mem_append.1 hy with hy|hy
     ·exact absurd he (ho y hy)
     ·exact Or.inl (by simpa using hy)
    | some m=>
     simp only at ho;obtain ⟨h1,h2,h3⟩:=ho;have hm:=hp m h1;have hin:bD A (x:Int)=true:=(af A x).2 ⟨hx,ω⟩;have him:bD A (m:Int)=true:=(af A m).2 ⟨hm,ω⟩;simp only [hi,hh,decide_true,Bool.and_self,Bool.true_and,jC,hin,him,decide_eq_true_eq]
     by_cases hlt:bH A x m
     ·rw [if_pos hlt];refine ⟨σ,hi,fun y hy he=>?_⟩
      rcases List.mem_append.1 hy with hy|hy
      ·rcases h3 y hy he with rfl|h4
       ·exact Or.inr hlt
       ·exact Or.inr (bE hlt h4)
      ·exact Or.inl (by simpa using hy)
     ·rw [if_neg hlt];refine ⟨by simp [h1],h2,fun y hy he=>?_⟩
      rcases List.mem_append.1 hy with hy|hy
      ·exact h3 y hy he
      ·simp at hy;subst hy
       by_cases e:y=m
       ·exact Or.inl e
       ·rcases gH (A:=A) e with h4|h4
        ·exact absurd h4 hlt
        ·exact Or.inr h4
   ·simp only [hi,decide_false,Bool.and_false,Bool.false_and,Bool.false_eq_true,if_false];cases o with
    | none=>
     simp only at ho ⊢;intro y hy;rcases List.mem_append.1 hy with hy|hy
     ·exact ho y hy
     ·simp at hy;subst hy;exact hi
    | some m=>
     simp only at ho ⊢;obtain ⟨h1,h2,h3⟩:=ho;refine ⟨by simp [h1],h2,fun y hy he=>?_⟩
     rcases List.mem_append.1 hy with hy|hy
     ·exact h3 y hy he
     ·simp at hy;subst hy;exact absurd he hi
  have:=uj A h hh l (fun y hy=>hl y (by simp [hy])) (pre++[x]) (fun y hy=>by rcases List.mem_append.1 hy with hy|hy;exact hp y hy;simp at hy;subst hy;exact hx) _ step
  simpa using this
def Nu (A:NS) (h:Int) (m:Nat):Prop:=m<A.cs.length∧(A.c m).i=h∧∀y,y<A.cs.length→(A.c y).i=h→y=m∨bH A m y
theorem dM {A:NS} {h:Int} (hh:0<h) {m:Nat}:bL A h=some m↔Nu A h m:=by
 have:=uj A h hh (List.range A.cs.length) (fun x hx=>by simpa using hx) [] σ none σ
 simp only [List.nil_append] at this
 change (match bL A h with|some m=>_|none=>_) at this
 constructor
 ·intro e;rw [e] at this;obtain ⟨h1,h2,h3⟩:=this;exact ⟨by simpa using h1,h2,fun y hy he=>h3 y (by simpa using hy) he⟩
 ·rintro ⟨h1,h2,h3⟩;cases e:bL A h with
  | none=>rw [e] at this;exact absurd h2 (this m (by simpa using h1))
  | some m'=>
   rw [e] at this;obtain ⟨k1,k2,k3⟩:=this;rcases h3 m' (by simpa using k1) k2 with rfl|h4
   ·rfl
   ·rcases k3 m (by simpa using h1) h2 with rfl|h5
    ·rfl
    ·exact absurd h4 (nu h5)
theorem iB {A:NS} {h:Int} (hh:0<h):bL A h=none↔cu A h=0:=by
 have:=uj A h hh (List.range A.cs.length) (fun x hx=>by simpa using hx) [] σ none σ
 simp only [List.nil_append] at this
 change (match bL A h with|some m=>_|none=>_) at this
 cases e:bL A h with
 | none=>
  rw [e] at this;refine ⟨fun _=>?_,fun _=>rfl⟩
  rcases Nat.eq_zero_or_pos (cu A h) with h'|h'
  ·exact h'
  ·obtain ⟨x,hx,h1,_⟩:=dG.1 h';exact absurd h1 (this x (by simpa using hx))
 | some m=>
  rw [e] at this;obtain ⟨k1,k2,_⟩:=this;refine ⟨fun h=>by (cases h),fun h0=>?_⟩
  have:0<cu A h:=dG.2 ⟨m,by simpa using k1,k2,hh⟩
  omega
theorem mX {A:NS} {h:Int} (hh:¬0<h):bL A h=none:=by
 unfold bL;generalize List.range A.cs.length=l;have:∀l:List Nat,l.foldl (EB A h) none=none:=fun l=>by
  induction l with
  | nil=>rfl
  | cons x l ih=>rw [List.foldl_cons,show EB A h none x=none by unfold EB;simp [hh]];exact ih
 exact this l
theorem JS {A:NS} {h:Int} (hh:¬0<h):cu A h=0:=by
 rcases Nat.eq_zero_or_pos (cu A h) with h'|h'
 ·exact h'
 ·obtain ⟨x,_,_,h2⟩:=dG.1 h';exact absurd h2 hh
theorem jw {A A':NS} {x y:Nat} (h:bH A x y) (hy:A'.c y=A.c y) (hx:(A'.c x).k<(A.c x).k∨(A'.c x).k=(A.c x).k∧(A'.c x).s≤(A.c x).s):bH A' x y:=by
 unfold bH at *;rw [hy];omega
theorem qA {A:NS} {x k s:Int} (h:iy A x k s=true):k<(A.c x.toNat).k∨k=(A.c x.toNat).k∧s≤(A.c x.toNat).s:=by
 unfold iy BM at h;simp only [Bool.and_eq_true,Bool.not_eq_true'] at h;have h2:=h.2
 split at h2
 ·simp at h2;omega
 ·simp at h2;omega
theorem pO {A:NS} {x:Nat} {k s:Int} (hB:iy A x k s=true) (hx:x<A.cs.length) (y:Nat):(ak A x k s).c y=if y=x then ⟨(A.c x).i,k,s⟩ else A.c y:=by
 unfold ak;rw [if_pos hB,π,iD]
 by_cases e:y=x
 ·rw [if_pos ⟨e,hx⟩,if_pos e]
 ·rw [if_neg (fun h=>e h.1),if_neg e]
theorem fP {A:NS} {x:Nat} {k s:Int} (hB:iy A x k s=true) (hx:x<A.cs.length) (y:Nat):((ak A x k s).c y).i=(A.c y).i:=by
 rw [pO hB hx];split
 ·rename_i e;rw [e]
 ·rfl
theorem eB (A:NS) (x k s:Int):(ak A x k s).cs.length=A.cs.length:=by unfold ak;split;exact dI _ _ _;rfl
theorem jm (A:NS) (x k s:Int):(ak A x k s).hs=A.hs:=by unfold ak;split<;>rfl
theorem rq {A:NS} {x:Nat} (hB:bD A x=true) (y:Nat):(aL A x).c y=if y=x then Cl.z else A.c y:=by
 have hx:=((af A x).1 hB).1;unfold aL;rw [if_pos hB,π,iD]
 by_cases e:y=x
 ·rw [if_pos ⟨e,hx⟩,if_pos e]
 ·rw [if_neg (fun h=>e h.1),if_neg e]
theorem dw (A:NS) (x:Int):(aL A x).cs.length=A.cs.length:=by unfold aL;split;exact dI _ _ _;rfl
theorem fA (A:NS) (x:Int):(aL A x).hs=A.hs:=by unfold aL;split<;>rfl
theorem dJ {A A':NS} {a b:Nat} (ha:A'.c a=A.c a) (hb:A'.c b=A.c b):bH A' a b↔bH A a b:=by unfold bH;rw [ha,hb]
end Go.Proofs.YtklibcncmbofpaaGreat
namespace Go.Proofs.YtklibcncmbofpaaGreat
open Go Go.RowKit
theorem iA {w:World} {base base' size n:Nat} {e:TypeId} {v:Value} {xs:List Value} (h:w.ownsRow base e size v n xs) (hb:base'≤base):w.ownsRow base' e size v n xs:=by
 refine ⟨h.1,?_⟩;rcases h.2 with hn|⟨g,cap,cur,rfl,hb',hg,rest⟩
 ·exact Or.inl hn
 ·exact Or.inr ⟨g,cap,cur,rfl,Nat.le_trans hb hb',hg,rest⟩
theorem F7 (W:World) (us:List Value) (e:TypeId) (j:Nat) (u:Value) (hj:us[j]?=some u):(W.alloc (.cells us.toArray e)).cell? ((⟨W.heap.size,0,none⟩:Addr).add j)=some u:=by
 have e1:((⟨W.heap.size,0,none⟩:Addr).add j)=⟨W.heap.size,j,none⟩:=by
  unfold Addr.add;split
  ·subst_vars;rfl
  ·simp
 rw [e1];have e2:(W.alloc (.cells us.toArray e)).heap[W.heap.size]?=some (.cells us.toArray e):=by
  show (W.heap.push _)[W.heap.size]?=_
  simp
 unfold World.cell?;simp only [e2];simpa using hj
theorem aC {P:Program} {ops:Array Oper} {rest:List Oper} {o:Oper} {a:Act} {Q:Exit→Act→World→Prop} {W:World} (hgd:o.guard=none) (s x:Operand) (t:TypeId)
  (ho:o.op=.call { callee:=.builtin .append,args:=#[s,x],argTypes:=#[t,t] })
  (base:Nat) (e:TypeId) (z:Value) (size bytes:Nat) (ht:P.underlying t=some (.slice e)) (hinfo:(P.info? e).map (fun i=>(i.zero,i.size,i.bytes))=some (some z,size,bytes))
  (hzs:z.cells.size=size) (hsz:0<size) (v:Value) (n:Nat) (xs:List Value) (hs:a.eval s=v) (hown:W.ownsRow base e size v n xs)
  (us:List Value) (hus:us.length=size) (h1:∀u∈us,u.oneCell'=true) (hx:a.eval x=.slice (some ⟨W.heap.size,0,none⟩) 1 1)
  (hn:n+1≤maxLen) (hbytes:(n+1)*bytes≤140737488355328) (hbase:base≤W.heap.size)
  (h:∀v' w',w'.ownsRow base e size v' (n+1) (xs++us)→aa v.ownBlock.toList W w'→(v'.ownBlock=v.ownBlock∨∀k,v'.ownBlock=some k→W.heap.size<k)→wpList P ops Q rest (a.put o.dst v') w') :
  wpList P ops Q (o::rest) a (W.alloc (.cells us.toArray e)):=by
 obtain ⟨i,hi,hz0,hz1,hz2⟩:=info_parts hinfo;have hcell:=fun j u hj=>F7 W us e j u hj
 rcases hown.2 with ⟨rfl,rfl⟩|⟨g,cap,cur,rfl,hbg,hg,hnc,hcm,hcs,htk⟩
 ·have hxs:xs=[]:=List.eq_nil_of_length_eq_zero (by rw [hown.1,Nat.zero_mul])
  subst hxs;refine wpList_append_grows _ hgd s x t ho e i z size bytes ht hi hz0 hz1 hz2 hzs hsz none 0 0 [] hs (fun _=>⟨rfl,rfl⟩) σ (fun b hb=>by cases hb) ⟨W.heap.size,0,none⟩ 1 1 us hx ω hcell h1 ω hn hbytes ?_
  intro v' w' ho' hgr;refine h v' w' (iA ho' ζ) (((aa.refl _ _).alloc _).grown hgr (fun k hk=>by cases hk)) (Or.inr fun k hk=>?_)
  have:=(ho'.lt k hk).1;simp at this;omega
 ·have hown':=hown.alloc (.cells us.toArray e)
  by_cases hfit:n+1≤cap
  ·refine wpList_append_fits _ hgd s x t ho base e i size ht hi hz1 g n cap xs hs hown' ⟨W.heap.size,0,none⟩ 1 1 us hx ω hcell h1 hfit ?_;intro w' ho' hgr;exact h _ w' ho' (((aa.refl _ _).alloc _).grown hgr (fun k hk=>Or.inl (by cases hk;simp [Value.ownBlock]))) (Or.inl rfl)
  ·refine wpList_append_grows _ hgd s x t ho e i z size bytes ht hi hz0 hz1 hz2 hzs hsz (some ⟨g,0,none⟩) n cap xs hs (fun hb=>by cases hb) hown.1 (fun b hb j u hj=>?_) ⟨W.heap.size,0,none⟩ 1 1 us hx ω hcell h1 ω hn hbytes ?_
   ·cases hb;exact hown'.cells rfl j u hj
   ·intro v' w' ho' hgr;refine h v' w' (iA ho' ζ) (((aa.refl _ _).alloc _).grown hgr (fun k hk=>by cases hk)) (Or.inr fun k hk=>?_)
    have:=(ho'.lt k hk).1;simp at this;omega
theorem ay {w w':World} {S:List Nat} {base size n:Nat} {e:TypeId} {v:Value} {xs:List Value} (h:w.ownsRow base e size v n xs) (hu:aa S w w') (hne:∀k,v.ownBlock=some k→k∉S):w'.ownsRow base e size v n xs:=by
 refine ⟨h.1,?_⟩;rcases h.2 with hn|⟨g,cap,cur,rfl,hb,hg,rest⟩
 ·exact Or.inl hn
 ·have hlt:=h.lt g rfl;exact Or.inr ⟨g,cap,cur,rfl,hb,by rw [hu.block g hlt.2 (hne g rfl)];exact hg,rest⟩
theorem aa.own {w0 w w':World} {S:List Nat} {base size n:Nat} {e:TypeId} {v:Value} {xs:List Value} (h:aa S w0 w) (ho:w.ownsRow base e size v n xs) (hb:w0.heap.size≤base) (hu:aa v.ownBlock.toList w w'):aa S w0 w':=
 h.joined hu (fun x hx=>Or.inr (Nat.le_trans hb (ho.lt x (by simpa using hx)).1))
theorem bY {w:World} {base size n:Nat} {e:TypeId} {v:Value} {xs:List Value} (h:w.ownsRow base e size v n xs) (hn:0<n) :
  ∃g cap,v=.slice (some ⟨g,0,none⟩) n cap∧base≤g∧g<w.heap.size∧n≤cap∧cap≤9223372036854775807∧(∀j u,xs[j]?=some u→w.cell? ⟨g,j,none⟩=some u)∧∀j,w.frozen? ⟨g,j,none⟩=false:=by
 rcases h.2 with ⟨_,h0⟩|⟨g,cap,cur,rfl,hb,hg,hnc,hcm,_⟩
 ·omega
 ·refine ⟨g,cap,rfl,hb,(h.lt g rfl).2,hnc,by unfold maxLen at hcm;exact hcm,fun j u hj=>?_,fun j=>h.frozenAt j⟩
  have hlt:j<xs.length:=by
   rcases Nat.lt_or_ge j xs.length with h'|h'
   ·exact h'
   ·rw [List.getElem?_eq_none h'] at hj;cases hj
  rw [h.cellAt j (by rw [←h.1];exact hlt)];exact hj
theorem jE (W:World) (xs:List Value) (e:TypeId) (base size n:Nat) (hl:xs.length=n*size) (hb:base≤W.heap.size) (hn:n≤maxLen) :
  (W.alloc (.cells xs.toArray e)).ownsRow base e size (.slice (some ⟨W.heap.size,0,none⟩) n n) n xs:=by
 refine ⟨hl,Or.inr ⟨W.heap.size,n,xs.toArray,rfl,hb,?_,Nat.le_refl _,hn,by simpa using hl,?_⟩⟩
 ·show (W.heap.push _)[W.heap.size]?=_;simp
 ·rw [←hl];simp
theorem aR {w:World} {base size n:Nat} {e:TypeId} {v:Value} {xs:List Value} (h:w.ownsRow base e size v n xs):∃a cap,v=.slice a n cap∧cap≤9223372036854775807:=by
 rcases h.2 with ⟨rfl,rfl⟩|⟨g,cap,cur,rfl,_,_,_,hc,_⟩
 ·exact ⟨none,0,rfl,ω⟩
 ·exact ⟨_,cap,rfl,by unfold maxLen at hc;exact hc⟩
end Go.Proofs.YtklibcncmbofpaaGreat
