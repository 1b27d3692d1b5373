/-
  Lemmas for PathBest: Base, Ns, Own, Row, Append, Ints, Ent. Conditions: those of each lemma.
-/
import Derived.WalkKit
import Derived.WalkSpells
import Derived.WalkLawsBesides
import Derived.BigQuiet
import Derived.Deep.RegionHeld3
import Derived.ProofKit
import Derived.OpenShut
import Derived.Lib.Hide
import Derived.Maps.AppendAt
import Derived.Test.YtklibcncmbofpaaGreatProg
set_option linter.all false
set_option maxHeartbeats 8000000
set_option maxRecDepth 10000
namespace Go.Proofs.YtklibcncmbofpaaGreat
open Go.RowKit
theorem j5 {k:IntKind} {a b:Int} (h:a=b):Ending.returned (.int k a)=.returned (.int k b):=by rw [h]
theorem bf {a b:Bool} (h:a=b):Ending.returned (.bool a)=.returned (.bool b):=by rw [h]
structure aa (S:List Nat) (w w':World):Prop where
 os:w'.os=w.os
 tape:w'.tape=w.tape
 output:w'.output=w.output
 size:w.heap.size<=w'.heap.size
 block:∀k,k<w.heap.size->k∉S->w'.heap[k]?=w.heap[k]?
theorem aa.refl (S:List Nat) (w:World):aa S w w:=⟨rfl,rfl,rfl,Nat.le_refl _,fun _ _ _=>rfl⟩
theorem aa.joined {S T:List Nat} {a b c:World} (h:aa S a b) (k:aa T b c) (hT:∀x,x∈T->x∈S\/a.heap.size<=x):aa S a c:=
  ⟨k.os.trans h.os,k.tape.trans h.tape,k.output.trans h.output,Nat.le_trans h.size k.size,
   fun i hi hs=>(k.block i (Nat.lt_of_lt_of_le hi h.size) (fun hm=>by rcases hT i hm with h1|h1;exact hs h1;omega)).trans (h.block i hi hs)⟩
theorem aa.trans {S:List Nat} {a b c:World} (h:aa S a b) (k:aa S b c):aa S a c:=h.joined k (fun _ hx=>Or.inl hx)
theorem aa.then {S:List Nat} {a b c:World} (h:aa S a b) (k:aa [] b c):aa S a c:=h.joined k (fun _ hx=>by cases hx)
theorem aa.mono {S T:List Nat} {a b:World} (h:aa S a b) (hs:∀x,x∈S->x∈T):aa T a b:=
 ⟨h.os,h.tape,h.output,h.size,fun k hk hn=>h.block k hk (fun hm=>hn (hs k hm))⟩
theorem aa.drew {S:List Nat} {a w:World} (h:aa S a w):aa S a w.drew:=⟨h.os,h.tape,h.output,h.size,h.block⟩
theorem aa.drewN {S:List Nat} {a w:World} (h:aa S a w) (n:Nat):aa S a (w.drewN n):=⟨h.os,h.tape,h.output,h.size,h.block⟩
theorem aa.alloc {S:List Nat} {a w:World} (h:aa S a w) (o:Obj):aa S a (w.alloc o):=
 h.joined (T:=[]) ⟨rfl,rfl,rfl,by simp,fun k hk _=>Below.heap_alloc _ _ _ hk⟩ (fun _ hx=>by cases hx)
theorem aa.setCell {S:List Nat} {a w:World} (h:aa S a w) {p:Addr} (hp:p.block∈S\/a.heap.size<=p.block) (u:Value):aa S a (w.setCell p u):=
 h.joined (T:=[p.block]) ⟨rfl,rfl,rfl,by simp [World.setCell],fun k hk hn=>Below.heap_setCell _ _ _ _ (by simpa using hn)⟩ (fun x hx=>by simp at hx;rw [hx];exact hp)
theorem aa.grown {S:List Nat} {a w w':World} {row:Option Nat} (h:aa S a w) (hg:w.grownBy w' row) (hr:∀k,row=some k->k∈S\/a.heap.size<=k):aa S a w':=
 h.joined (T:=row.toList) ⟨hg.os,hg.tape,hg.output,hg.size,fun k hk hn=>hg.block k hk (fun e=>hn (by rw [←e];simp))⟩ (fun x hx=>hr x (by simpa using hx))
theorem aa.cell {S:List Nat} {w w':World} (h:aa S w w') {p:Addr} (hp:p.block<w.heap.size) (hn:p.block∉S):w'.cell? p=w.cell? p:=World.cell?_of_block (w:=w) (h.block p.block hp hn)
theorem aa.frozen {S:List Nat} {w w':World} (h:aa S w w') {p:Addr} (hp:p.block<w.heap.size) (hn:p.block∉S):w'.frozen? p=w.frozen? p:=World.frozen?_of_block (w:=w) (h.block p.block hp hn)
theorem aa.below {w w':World} (h:aa [] w w'):Below w.heap.size w w':=⟨h.os,h.tape,h.output,h.size,fun k hk=>h.block k hk (by simp)⟩
theorem aa.was {w w':World} (h:aa [] w w') {p:Addr} {v:Value} (hv:w.cell? p=some v):w'.cell? p=some v:=by
 rw [h.cell (World.block_lt_of_cell? w p hv) (by simp)];exact hv
theorem aa.kept {S:List Nat} {w w':World} (h:aa S w w') {p:Addr} {v:Value} (hv:w.cell? p=some v) (hn:p.block∉S):w'.cell? p=some v:=by
 rw [h.cell (World.block_lt_of_cell? w p hv) hn];exact hv
theorem aa.aR {S:List Nat} {w w':World} (h:aa S w w') {p:Addr} {v:Value} (hv:w.cell? p=some v) (hn:p.block∉S) (hf:w.frozen? p=false):w'.frozen? p=false:=by
 rw [h.frozen (World.block_lt_of_cell? w p hv) hn];exact hf
theorem Xn {W w1:World} (hb:aa [] W w1):(∀a,(W.cell? a).isSome=true->w1.cell? a=W.cell? a)/\(∀a,(W.cell? a).isSome=true->w1.frozen? a=W.frozen? a):=
  ⟨fun a h=>by obtain ⟨u,hu⟩:=Option.isSome_iff_exists.1 h;exact hb.cell (World.block_lt_of_cell? W a hu) (by simp),
   fun a h=>by obtain ⟨u,hu⟩:=Option.isSome_iff_exists.1 h;exact hb.frozen (World.block_lt_of_cell? W a hu) (by simp)⟩
theorem β {P:Prop} (h:P:=by (repeat (first|assumption|exact aa.refl _ _|refine aa.alloc ?_ _|refine aa.drew ?_|refine aa.drewN ?_ _|refine aa.setCell ?_ ?_ _|focus (left;simp;done)|focus (right;simp;done)|focus (right;simp;omega)))):P:=h
theorem κ {P:Prop} (h:P:=by (repeat (first|assumption|exact aa.refl _ _|refine aa.drew ?_|refine aa.alloc ?_ _|refine aa.setCell ?_ ?_ _|focus (left;simp;done)|focus (right;simp;done)|focus (right;simp;omega)|(apply aa.trans;rotate_left;assumption;assumption)))):P:=h
theorem ν {P:Prop} (h:P:=by (repeat (first|assumption|exact aa.refl _ _|refine aa.drew ?_|refine aa.alloc ?_ _|refine aa.setCell ?_ ?_ _|focus (left;simp;done)|focus (right;simp;done)|focus (right;simp;omega)|(apply aa.trans;rotate_left;assumption)))):P:=h
theorem η {P:Prop} (h:P:=by (repeat (first|assumption|exact aa.refl _ _|refine aa.drew ?_|refine aa.alloc ?_ _|(apply aa.trans;rotate_left;assumption)))):P:=h
theorem ξ {P:Prop} (h:P:=by (repeat (first|assumption|exact aa.refl _ _|refine aa.alloc ?_ _|refine aa.drew ?_|refine aa.drewN ?_ _|refine aa.setCell ?_ (Or.inr (by first|(simp;done)|(simp;omega))) _|(apply aa.trans;rotate_left;assumption)))):P:=h
theorem ω {P:Prop} (h:P:=by omega):P:=h
theorem σ {P:Prop} (h:P:=by simp):P:=h
theorem ζ {P:Prop} (h:P:=by simp;omega):P:=h
theorem ι {P:Prop} (h:P:=by first|(simp;done)|(simp;omega)):P:=h
theorem μ {P:Prop} (h:P:=by unfold maxLen;omega):P:=h
theorem γ {P:Prop} (h:P:=by go_simp):P:=h
theorem δ {P:Prop} (h:P:=by decide):P:=h
theorem ψ {a b:Prop} (x:a) (y:b):a/\b:=⟨x,y⟩
theorem χ {p:Prop} (h:p):Hid p:=h
theorem φ {α:Type} {l:List α} {i:Nat} {a:α}:l.getD i a=l[i]?.getD a:=List.getD_eq_getElem?_getD
theorem π (n:Nat):(n:Int).toNat=n:=Int.toNat_natCast n
theorem ρ {α:Type _} {a b:α} {l:List α}:a∈b::l↔a=b\/a∈l:=List.mem_cons
theorem τ {α:Type _} {a:α} {s t:List α}:a∈s++t↔a∈s\/a∈t:=List.mem_append
theorem ε {α:Type _} {l:List α} {i:Nat} (h:i<l.length):l[i]?=some l[i]:=List.getElem?_eq_getElem h
theorem υ {α:Type _} {s t:List α}:(s++t).length=s.length+t.length:=List.length_append
theorem θ {α:Type _} {s t:List α}:(s++t).Nodup↔s.Nodup/\t.Nodup/\∀a∈s,∀b∈t,a≠b:=List.nodup_append
theorem ς {α:Type _} {a:α}:¬a∈([]:List α):=List.not_mem_nil
end Go.Proofs.YtklibcncmbofpaaGreat
namespace Go.Proofs.YtklibcncmbofpaaGreat
structure Cl where
 i:Int
 k:Int
 s:Int
instance:Inhabited Cl:=⟨⟨0,0,0⟩⟩
def Cl.z:Cl:=⟨0,0,0⟩
structure NS where
 hs:List Bool
 cs:List Cl
def NS.c (A:NS) (x:Nat):Cl:=A.cs.getD x Cl.z
def NS.new (n:Nat):NS:=⟨[false],List.replicate n Cl.z⟩
def bK (A:NS) (h:Int):Bool:=decide (1<=h) && decide (h<A.hs.length) && A.hs.getD h.toNat false
def vT (A:NS) (x:Int):Bool:=decide (0<=x) && decide (x<A.cs.length)
def bX (A:NS) (x:Int):Bool:=vT A x && decide (0<(A.c x.toNat).i)
def jh (A:NS) (x:Nat) (c:Cl):NS:=⟨A.hs,A.cs.set x c⟩
def Dj (k1 s1 k2 s2:Int):Bool:=if k1=k2 then decide (s1<s2) else decide (k1<k2)
def dF (A:NS):Int:=if 65536<A.hs.length then 0 else A.hs.length
def aQ (A:NS):NS:=if 65536<A.hs.length then A else ⟨A.hs++[true],A.cs⟩
def oF (A:NS) (h x:Int):Bool:=bK A h && vT A x && !bX A x
def aN (A:NS) (h x k s:Int):NS:=if oF A h x then jh A x.toNat ⟨h,k,s⟩ else A
def bz (A:NS) (x:Int):NS:=if bX A x then jh A x.toNat Cl.z else A
def jo (A:NS) (x k s:Int):Bool:=bX A x && !Dj (A.c x.toNat).k (A.c x.toNat).s k s
def aB (A:NS) (x k s:Int):NS:=if jo A x k s then jh A x.toNat ⟨(A.c x.toNat).i,k,s⟩ else A
def Jw (cs:List Cl) (h:Int):Nat:=(cs.filter fun c=>decide (c.i=h) && decide (0<h)).length
def dZ (A:NS) (h:Int):Nat:=Jw A.cs h
def cZ (A:NS) (a b:Nat):Prop:=(A.c a).k<(A.c b).k\/(A.c a).k=(A.c b).k/\((A.c a).s<(A.c b).s\/(A.c a).s=(A.c b).s/\a<b)
instance (A:NS) (a b:Nat):Decidable (cZ A a b):=by unfold cZ;infer_instance
def cB (A:NS) (a b:Int):Bool:=bX A a && bX A b && decide (cZ A a.toNat b.toNat)
def Kc (A:NS) (h:Int) (b:Option Nat) (x:Nat):Option Nat:=if decide (0<h) && decide ((A.c x).i=h) && (match b with|none=>true|some y=>cB A x y) then some x else b
def dW (A:NS) (h:Int):Option Nat:=(List.range A.cs.length).foldl (Kc A h) none
def pK (o:Option Nat):Int:=match o with|some x=>(x:Int)|none=>0
structure NS.Ok (A:NS):Prop where
 h0:1<=A.hs.length
 h1:A.hs.length<=65537
 h2:A.hs.getD 0 false=false
 c1:A.cs.length<=65536
 cell:∀x,x<A.cs.length->((A.c x).i=0/\(A.c x).k=0/\(A.c x).s=0)\/bK A (A.c x).i=true
 key:∀x, -9223372036854775808<=(A.c x).k/\(A.c x).k<=9223372036854775807/\0<=(A.c x).s/\(A.c x).s<=18446744073709551615
theorem aT (A:NS) (h:Int):bK A h=true↔1<=h/\h<A.hs.length/\A.hs.getD h.toNat false=true:=by
 unfold bK;simp [and_assoc]
theorem ic (A:NS) (x:Int):vT A x=true↔0<=x/\x<A.cs.length:=by unfold vT;simp
theorem yZ (A:NS) (x:Int):bX A x=true↔0<=x/\x<A.cs.length/\0<(A.c x.toNat).i:=by unfold bX vT;simp [and_assoc]
theorem ai (A:NS) (x:Nat):bX A (x:Int)=true↔x<A.cs.length/\0<(A.c x).i:=by rw [yZ];simp
theorem NS.Ok.nat {A:NS} (h:A.Ok) (x:Nat) (hx:x<A.cs.length):0<=(A.c x).i/\(A.c x).i<A.hs.length:=by
 rcases h.cell x hx with h'|h'
 ·have:=h.h0;omega
 ·have:=(aT _ _).1 h';omega
theorem kV (A:NS) (x:Nat) (c:Cl) (y:Nat):(jh A x c).c y=if y=x/\x<A.cs.length then c else A.c y:=by
 unfold jh NS.c;simp only [φ,List.getElem?_set]
 by_cases h:x=y
 ·subst h
  by_cases hx:x<A.cs.length
  ·simp [hx]
  ·simp [hx,List.getElem?_eq_none (Nat.le_of_not_lt hx)]
 ·rw [if_neg h,if_neg (fun e=>h e.1.symm)]
theorem fO (A:NS) (x:Nat) (c:Cl):(jh A x c).cs.length=A.cs.length:=by unfold jh;simp
theorem R9 (A:NS) (x:Nat) (c:Cl) (h:Int):bK (jh A x c) h=bK A h:=rfl
theorem NS.Ok.with {A:NS} (h:A.Ok) (x:Nat) (c:Cl) (hc:(c.i=0/\c.k=0/\c.s=0)\/bK A c.i=true) (hk:-9223372036854775808<=c.k/\c.k<=9223372036854775807/\0<=c.s/\c.s<=18446744073709551615):(jh A x c).Ok:=by
 refine ⟨h.h0,h.h1,h.h2,by rw [fO];exact h.c1,fun y hy=>?_,fun y=>?_⟩
 ·rw [fO] at hy;rw [kV,R9]
  split
  ·exact hc
  ·exact h.cell y hy
 ·rw [kV];split
  ·exact hk
  ·exact h.key y
theorem NS.yc (n x:Nat):(NS.new n).c x=Cl.z:=by
 unfold NS.new NS.c;rw [φ,List.getElem?_replicate];split<;>rfl
theorem NS.zX (n:Nat) (hn:n<=65536):(NS.new n).Ok:=by
 refine ⟨by simp [NS.new],by simp [NS.new],rfl,by simp [NS.new];exact hn,fun x _=>Or.inl ?_,fun x=>?_⟩
 ·rw [NS.yc];exact ⟨rfl,rfl,rfl⟩
 ·rw [NS.yc];exact ⟨δ,δ,δ,δ⟩
theorem Hl {A:NS} (h:A.Ok):(aQ A).Ok:=by
 unfold aQ;split
 ·exact h
 ·rename_i hl
  have h0:=h.h0;refine ⟨σ,ζ,?_,h.c1,fun x hx=>?_,h.key⟩
  ·have:=h.h2;simp only [φ] at this ⊢;rw [List.getElem?_append_left ω];exact this
  ·rcases h.cell x hx with h'|h'
   ·exact Or.inl h'
   ·refine Or.inr ?_;have h2:=(aT _ _).1 h';refine (aT _ _).2 ⟨h2.1,by show (A.c x).i<((A.hs++[true]).length:Int);rw [υ];have:=h2.2.1;omega,?_⟩;have h3:=h2.2.2;simp only [φ] at h3 ⊢;rw [List.getElem?_append_left (by show (A.c x).i.toNat<A.hs.length;omega)];exact h3
theorem fE (A:NS) (h x:Int):oF A h x=true↔bK A h=true/\vT A x=true/\bX A x=false:=by unfold oF;simp [and_assoc]
theorem yY {A:NS} (h:A.Ok) (g x k s:Int) (hk:-9223372036854775808<=k/\k<=9223372036854775807/\0<=s/\s<=18446744073709551615):(aN A g x k s).Ok:=by
 unfold aN;split
 ·rename_i hp
  exact h.with _ _ (Or.inr ((fE _ _ _).1 hp).1) hk
 ·exact h
theorem Gx {A:NS} (h:A.Ok) (x:Int):(bz A x).Ok:=by
 unfold bz;split
 ·exact h.with _ _ (Or.inl ⟨rfl,rfl,rfl⟩) ⟨δ,δ,δ,δ⟩
 ·exact h
theorem jf {A:NS} (h:A.Ok) {x:Int} (hx:bX A x=true):bK A (A.c x.toNat).i=true:=by
 have h1:=(yZ _ _).1 hx;rcases h.cell x.toNat ω with h'|h'
 ·omega
 ·exact h'
theorem Lv {A:NS} (h:A.Ok) (x k s:Int) (hk:-9223372036854775808<=k/\k<=9223372036854775807/\0<=s/\s<=18446744073709551615):(aB A x k s).Ok:=by
 unfold aB;split
 ·rename_i hp
  unfold jo at hp;simp only [Bool.and_eq_true] at hp;exact h.with _ _ (Or.inr (jf h hp.1)) hk
 ·exact h
/-! ### how many are in a heap -/
theorem Wt (cs:List Cl) (h:Int):Jw cs h<=cs.length:=List.length_filter_le _ _
theorem Qf (cs:List Cl) (x:Nat) (c:Cl) (h:Int) (hx:x<cs.length) :
  Jw (cs.set x c) h+(if (cs.getD x Cl.z).i=h/\0<h then 1 else 0)=Jw cs h+(if c.i=h/\0<h then 1 else 0):=by
 unfold Jw
 induction cs generalizing x with
 | nil=>simp at hx
 | cons d r ih=>
  cases x with
  | zero=>
   simp only [List.set_cons_zero,List.filter_cons,List.getD_cons_zero];have e1:∀c:Cl,(decide (c.i=h) && decide (0<h))=decide (c.i=h/\0<h):=fun c=>by by_cases a:c.i=h<;>by_cases b:0<h<;>simp [a,b]
   have e2:∀ (p:Prop) [Decidable p] (d:Cl) (l:List Cl),(if decide p=true then d::l else l).length=l.length+(if p then 1 else 0):=fun p _ d l=>by by_cases hp:p<;>simp [hp]
   simp only [e1,e2];omega
  | succ x=>
   have:=ih x (by simpa using hx);simp only [List.set_cons_succ,List.filter_cons,List.getD_cons_succ]
   split<;>simp at this ⊢<;>omega
theorem nL (A:NS) (x:Nat) (c:Cl) (h:Int) (hx:x<A.cs.length) :
  dZ (jh A x c) h+(if (A.c x).i=h/\0<h then 1 else 0)=dZ A h+(if c.i=h/\0<h then 1 else 0):=Qf A.cs x c h hx
theorem RQ {cs:List Cl} {h:Int}:0<Jw cs h↔∃x,x<cs.length/\(cs.getD x Cl.z).i=h/\0<h:=by
 unfold Jw;rw [List.length_pos_iff_exists_mem];constructor
 ·rintro ⟨c,hc⟩;obtain ⟨hm,hp⟩:=List.mem_filter.1 hc;obtain ⟨x,hx,rfl⟩:=List.mem_iff_getElem.1 hm;simp only [Bool.and_eq_true,decide_eq_true_eq] at hp;exact ⟨x,hx,by simpa [φ,hx] using hp.1,hp.2⟩
 ·rintro ⟨x,hx,h1,h2⟩;refine ⟨cs[x],List.mem_filter.2 ⟨List.getElem_mem hx,?_⟩⟩;simp only [φ,ε hx,Option.getD_some] at h1;simp [h1,h2]
theorem fM {A:NS} {h:Int}:0<dZ A h↔∃x,x<A.cs.length/\(A.c x).i=h/\0<h:=RQ
theorem Dt {A:NS} (hA:A.Ok) (h:Int):dZ A h<=65536:=Nat.le_trans (Wt _ _) hA.c1
theorem Mq {A:NS} (hA:A.Ok) {h:Int} (hh:bK A h=false):dZ A h=0:=by
 rcases Nat.eq_zero_or_pos (dZ A h) with h'|h'
 ·exact h'
 ·obtain ⟨x,hx,h1,h2⟩:=fM.1 h';rcases hA.cell x hx with h3|h3
  ·omega
  ·rw [h1,hh] at h3;cases h3
theorem Og {A:NS} (h:Int):dZ (aQ A) h=dZ A h:=by unfold aQ;split<;>rfl
/-! ### the order of slots -/
theorem cz {A:NS} {a b c:Nat} (h:cZ A a b) (h':cZ A b c):cZ A a c:=by unfold cZ at *;omega
theorem vQ {A:NS} {a:Nat}:¬cZ A a a:=by unfold cZ;omega
theorem jm {A:NS} {a b:Nat} (h:a≠b):cZ A a b\/cZ A b a:=by unfold cZ;omega
theorem qo {A:NS} {a b:Nat} (h:cZ A a b):¬cZ A b a:=fun h'=>vQ (cz h h')
theorem lY (A:NS) (a b:Nat):cB A (a:Int) (b:Int)=(bX A a && bX A b && decide (cZ A a b)):=by unfold cB;simp
def PU (A:NS) (h:Int) (l:List Nat) (m:Nat):Prop:=m∈l/\(A.c m).i=h/\∀y,y∈l->(A.c y).i=h->y=m\/cZ A m y
theorem xO (A:NS) (h:Int) (hh:0<h):∀ (l:List Nat),(∀x∈l,x<A.cs.length)->∀ (pre:List Nat),(∀x∈pre,x<A.cs.length)->∀o:Option Nat,
  (match o with|some m=>PU A h pre m|none=>∀y∈pre,(A.c y).i≠h)->
  (match l.foldl (Kc A h) o with|some m=>PU A h (pre++l) m|none=>∀y∈pre++l,(A.c y).i≠h)
 | [],_,pre,_,o,ho=>by simpa using ho
 | x::l,hl,pre,hp,o,ho=>by
  have hx:=hl x σ;have step:(match Kc A h o x with|some m=>PU A h (pre++[x]) m|none=>∀y∈pre++[x],(A.c y).i≠h):=by
   unfold Kc
   by_cases hi:(A.c x).i=h
   ·cases o with
    | none=>
     simp only at ho;simp only [hi,hh,decide_true,Bool.and_self,if_true];refine ⟨σ,hi,fun y hy he=>?_⟩;rcases τ.1 hy with hy|hy
     ·exact absurd he (ho y hy)
     ·exact Or.inl (by simpa using hy)
    | some m=>
     simp only at ho;obtain ⟨h1,h2,h3⟩:=ho;have hm:=hp m h1;have hin:bX A (x:Int)=true:=(ai A x).2 ⟨hx,ω⟩;have him:bX A (m:Int)=true:=(ai A m).2 ⟨hm,ω⟩;simp only [hi,hh,decide_true,Bool.and_self,Bool.true_and,lY,hin,him,decide_eq_true_eq]
     by_cases hlt:cZ A x m
     ·rw [if_pos hlt];refine ⟨σ,hi,fun y hy he=>?_⟩;rcases τ.1 hy with hy|hy
      ·rcases h3 y hy he with rfl|h4
       ·exact Or.inr hlt
       ·exact Or.inr (cz hlt h4)
      ·exact Or.inl (by simpa using hy)
     ·rw [if_neg hlt];refine ⟨by simp [h1],h2,fun y hy he=>?_⟩;rcases τ.1 hy with hy|hy
      ·exact h3 y hy he
      ·simp at hy;subst hy
       by_cases e:y=m
       ·exact Or.inl e
       ·rcases jm (A:=A) e with h4|h4
        ·exact absurd h4 hlt
        ·exact Or.inr h4
   ·simp only [hi,decide_false,Bool.and_false,Bool.false_and,Bool.false_eq_true,if_false];cases o with
    | none=>
     simp only at ho ⊢;intro y hy;rcases τ.1 hy with hy|hy
     ·exact ho y hy
     ·simp at hy;subst hy;exact hi
    | some m=>
     simp only at ho ⊢;obtain ⟨h1,h2,h3⟩:=ho;refine ⟨by simp [h1],h2,fun y hy he=>?_⟩;rcases τ.1 hy with hy|hy
     ·exact h3 y hy he
     ·simp at hy;subst hy;exact absurd he hi
  have:=xO A h hh l (fun y hy=>hl y (by simp [hy])) (pre++[x]) (fun y hy=>by rcases τ.1 hy with hy|hy;exact hp y hy;simp at hy;subst hy;exact hx) _ step;simpa using this
def UZ (A:NS) (h:Int) (m:Nat):Prop:=m<A.cs.length/\(A.c m).i=h/\∀y,y<A.cs.length->(A.c y).i=h->y=m\/cZ A m y
theorem iZ {A:NS} {h:Int} (hh:0<h) {m:Nat}:dW A h=some m↔UZ A h m:=by
 have:=xO A h hh (List.range A.cs.length) (fun x hx=>by simpa using hx) [] σ none σ;simp only [List.nil_append] at this
 change (match dW A h with|some m=>_|none=>_) at this
 constructor
 ·intro e;rw [e] at this;obtain ⟨h1,h2,h3⟩:=this;exact ⟨by simpa using h1,h2,fun y hy he=>h3 y (by simpa using hy) he⟩
 ·rintro ⟨h1,h2,h3⟩;cases e:dW A h with
  | none=>rw [e] at this;exact absurd h2 (this m (by simpa using h1))
  | some m'=>
   rw [e] at this;obtain ⟨k1,k2,k3⟩:=this;rcases h3 m' (by simpa using k1) k2 with rfl|h4
   ·rfl
   ·rcases k3 m (by simpa using h1) h2 with rfl|h5
    ·rfl
    ·exact absurd h4 (qo h5)
theorem jT {A:NS} {h:Int} (hh:0<h):dW A h=none↔dZ A h=0:=by
 have:=xO A h hh (List.range A.cs.length) (fun x hx=>by simpa using hx) [] σ none σ;simp only [List.nil_append] at this
 change (match dW A h with|some m=>_|none=>_) at this
 cases e:dW A h with
 | none=>
  rw [e] at this;refine ⟨fun _=>?_,fun _=>rfl⟩;rcases Nat.eq_zero_or_pos (dZ A h) with h'|h'
  ·exact h'
  ·obtain ⟨x,hx,h1,_⟩:=fM.1 h';exact absurd h1 (this x (by simpa using hx))
 | some m=>
  rw [e] at this;obtain ⟨k1,k2,_⟩:=this;refine ⟨fun h=>by (cases h),fun h0=>?_⟩;have:0<dZ A h:=fM.2 ⟨m,by simpa using k1,k2,hh⟩;omega
theorem qa {A:NS} {h:Int} (hh:¬0<h):dW A h=none:=by
 unfold dW;generalize List.range A.cs.length=l;have:∀l:List Nat,l.foldl (Kc A h) none=none:=fun l=>by
  induction l with
  | nil=>rfl
  | cons x l ih=>rw [List.foldl_cons,show Kc A h none x=none by unfold Kc;simp [hh]];exact ih
 exact this l
theorem TZ {A:NS} {h:Int} (hh:¬0<h):dZ A h=0:=by
 rcases Nat.eq_zero_or_pos (dZ A h) with h'|h'
 ·exact h'
 ·obtain ⟨x,_,_,h2⟩:=fM.1 h';exact absurd h2 hh
theorem mD {A A':NS} {x y:Nat} (h:cZ A x y) (hy:A'.c y=A.c y) (hx:(A'.c x).k<(A.c x).k\/(A'.c x).k=(A.c x).k/\(A'.c x).s<=(A.c x).s):cZ A' x y:=by
 unfold cZ at *;rw [hy];omega
theorem tJ {A:NS} {x k s:Int} (h:jo A x k s=true):k<(A.c x.toNat).k\/k=(A.c x.toNat).k/\s<=(A.c x.toNat).s:=by
 unfold jo Dj at h;simp only [Bool.and_eq_true,Bool.not_eq_true'] at h;have h2:=h.2
 split at h2
 ·simp at h2;omega
 ·simp at h2;omega
theorem rA {A:NS} {x:Nat} {k s:Int} (hB:jo A x k s=true) (hx:x<A.cs.length) (y:Nat):(aB A x k s).c y=if y=x then ⟨(A.c x).i,k,s⟩ else A.c y:=by
 unfold aB;rw [if_pos hB,π,kV]
 by_cases e:y=x
 ·rw [if_pos ⟨e,hx⟩,if_pos e]
 ·rw [if_neg (fun h=>e h.1),if_neg e]
theorem iR {A:NS} {x:Nat} {k s:Int} (hB:jo A x k s=true) (hx:x<A.cs.length) (y:Nat):((aB A x k s).c y).i=(A.c y).i:=by
 rw [rA hB hx];split
 ·rename_i e;rw [e]
 ·rfl
theorem fJ (A:NS) (x k s:Int):(aB A x k s).cs.length=A.cs.length:=by unfold aB;split;exact fO _ _ _;rfl
theorem lN (A:NS) (x k s:Int):(aB A x k s).hs=A.hs:=by unfold aB;split<;>rfl
theorem xR {A:NS} {x:Nat} (hB:bX A x=true) (y:Nat):(bz A x).c y=if y=x then Cl.z else A.c y:=by
 have hx:=((ai A x).1 hB).1;unfold bz;rw [if_pos hB,π,kV]
 by_cases e:y=x
 ·rw [if_pos ⟨e,hx⟩,if_pos e]
 ·rw [if_neg (fun h=>e h.1),if_neg e]
theorem fT (A:NS) (x:Int):(bz A x).cs.length=A.cs.length:=by unfold bz;split;exact fO _ _ _;rfl
theorem je (A:NS) (x:Int):(bz A x).hs=A.hs:=by unfold bz;split<;>rfl
theorem fP {A A':NS} {a b:Nat} (ha:A'.c a=A.c a) (hb:A'.c b=A.c b):cZ A' a b↔cZ A a b:=by unfold cZ;rw [ha,hb]
end Go.Proofs.YtklibcncmbofpaaGreat
namespace Go.Proofs.YtklibcncmbofpaaGreat
open Go Go.RowKit
theorem l8 {w:World} {base base' size n:Nat} {e:TypeId} {v:Value} {xs:List Value} (h:w.ownsRow base e size v n xs) (hb:base'<=base):w.ownsRow base' e size v n xs:=by
 refine ⟨h.1,?_⟩;rcases h.2 with hn|⟨g,cap,cur,rfl,hb',hg,rest⟩
 ·exact Or.inl hn
 ·exact Or.inr ⟨g,cap,cur,rfl,Nat.le_trans hb hb',hg,rest⟩
theorem Mg (W:World) (us:List Value) (e:TypeId) (j:Nat) (u:Value) (hj:us[j]?=some u):(W.alloc (.cells us.toArray e)).cell? ((⟨W.heap.size,0,none⟩:Addr).add j)=some u:=by
 have e1:((⟨W.heap.size,0,none⟩:Addr).add j)=⟨W.heap.size,j,none⟩:=by
  unfold Addr.add;split
  ·subst_vars;rfl
  ·simp
 rw [e1];have e2:(W.alloc (.cells us.toArray e)).heap[W.heap.size]?=some (.cells us.toArray e):=by
  show (W.heap.push _)[W.heap.size]?=_
  simp
 unfold World.cell?;simp only [e2];simpa using hj
theorem aW {P:Program} {ops:Array Oper} {rest:List Oper} {o:Oper} {a:Act} {Q:Exit->Act->World->Prop} {W:World} (hgd:o.guard=none) (s x:Operand) (t:TypeId)
  (ho:o.op=.call { callee:=.builtin .append,args:=#[s,x],argTypes:=#[t,t] })
  (base:Nat) (e:TypeId) (z:Value) (size bytes:Nat) (ht:P.underlying t=some (.slice e)) (hinfo:(P.info? e).map (fun i=>(i.zero,i.size,i.bytes))=some (some z,size,bytes))
  (hzs:z.cells.size=size) (hsz:0<size) (v:Value) (n:Nat) (xs:List Value) (hs:a.eval s=v) (hown:W.ownsRow base e size v n xs)
  (us:List Value) (hus:us.length=size) (h1:∀u∈us,u.oneCell'=true) (hx:a.eval x=.slice (some ⟨W.heap.size,0,none⟩) 1 1)
  (hn:n+1<=maxLen) (hbytes:(n+1)*bytes<=140737488355328) (hbase:base<=W.heap.size)
  (h:∀v' w',w'.ownsRow base e size v' (n+1) (xs++us)->aa v.ownBlock.toList W w'->(v'.ownBlock=v.ownBlock\/∀k,v'.ownBlock=some k->W.heap.size<k)->wpList P ops Q rest (a.put o.dst v') w') :
  wpList P ops Q (o::rest) a (W.alloc (.cells us.toArray e)):=by
 obtain ⟨i,hi,hz0,hz1,hz2⟩:=info_parts hinfo;have hcell:=fun j u hj=>Mg W us e j u hj;rcases hown.2 with ⟨rfl,rfl⟩|⟨g,cap,cur,rfl,hbg,hg,hnc,hcm,hcs,htk⟩
 ·have hxs:xs=[]:=List.eq_nil_of_length_eq_zero (by rw [hown.1,Nat.zero_mul]);subst hxs;refine wpList_append_grows _ hgd s x t ho e i z size bytes ht hi hz0 hz1 hz2 hzs hsz none 0 0 [] hs (fun _=>⟨rfl,rfl⟩) σ (fun b hb=>by cases hb) ⟨W.heap.size,0,none⟩ 1 1 us hx ω hcell h1 ω hn hbytes ?_;intro v' w' ho' hgr;refine h v' w' (l8 ho' ζ) (((aa.refl _ _).alloc _).grown hgr (fun k hk=>by cases hk)) (Or.inr fun k hk=>?_);have:=(ho'.lt k hk).1;simp at this;omega
 ·have hown':=hown.alloc (.cells us.toArray e)
  by_cases hfit:n+1<=cap
  ·refine wpList_append_fits _ hgd s x t ho base e i size ht hi hz1 g n cap xs hs hown' ⟨W.heap.size,0,none⟩ 1 1 us hx ω hcell h1 hfit ?_;intro w' ho' hgr;exact h _ w' ho' (((aa.refl _ _).alloc _).grown hgr (fun k hk=>Or.inl (by cases hk;simp [Value.ownBlock]))) (Or.inl rfl)
  ·refine wpList_append_grows _ hgd s x t ho e i z size bytes ht hi hz0 hz1 hz2 hzs hsz (some ⟨g,0,none⟩) n cap xs hs (fun hb=>by cases hb) hown.1 (fun b hb j u hj=>?_) ⟨W.heap.size,0,none⟩ 1 1 us hx ω hcell h1 ω hn hbytes ?_
   ·cases hb;exact hown'.cells rfl j u hj
   ·intro v' w' ho' hgr;refine h v' w' (l8 ho' ζ) (((aa.refl _ _).alloc _).grown hgr (fun k hk=>by cases hk)) (Or.inr fun k hk=>?_);have:=(ho'.lt k hk).1;simp at this;omega
theorem aF {w w':World} {S:List Nat} {base size n:Nat} {e:TypeId} {v:Value} {xs:List Value} (h:w.ownsRow base e size v n xs) (hu:aa S w w') (hne:∀k,v.ownBlock=some k->k∉S):w'.ownsRow base e size v n xs:=by
 refine ⟨h.1,?_⟩;rcases h.2 with hn|⟨g,cap,cur,rfl,hb,hg,rest⟩
 ·exact Or.inl hn
 ·have hlt:=h.lt g rfl;exact Or.inr ⟨g,cap,cur,rfl,hb,by rw [hu.block g hlt.2 (hne g rfl)];exact hg,rest⟩
theorem aa.own {w0 w w':World} {S:List Nat} {base size n:Nat} {e:TypeId} {v:Value} {xs:List Value} (h:aa S w0 w) (ho:w.ownsRow base e size v n xs) (hb:w0.heap.size<=base) (hu:aa v.ownBlock.toList w w'):aa S w0 w':=
 h.joined hu (fun x hx=>Or.inr (Nat.le_trans hb (ho.lt x (by simpa using hx)).1))
theorem gM {w:World} {base size n:Nat} {e:TypeId} {v:Value} {xs:List Value} (h:w.ownsRow base e size v n xs) (hn:0<n) :
  ∃g cap,v=.slice (some ⟨g,0,none⟩) n cap/\base<=g/\g<w.heap.size/\n<=cap/\cap<=9223372036854775807/\(∀j u,xs[j]?=some u->w.cell? ⟨g,j,none⟩=some u)/\∀j,w.frozen? ⟨g,j,none⟩=false:=by
 rcases h.2 with ⟨_,h0⟩|⟨g,cap,cur,rfl,hb,hg,hnc,hcm,_⟩
 ·omega
 ·refine ⟨g,cap,rfl,hb,(h.lt g rfl).2,hnc,by unfold maxLen at hcm;exact hcm,fun j u hj=>?_,fun j=>h.frozenAt j⟩;have hlt:j<xs.length:=by
   rcases Nat.lt_or_ge j xs.length with h'|h'
   ·exact h'
   ·rw [List.getElem?_eq_none h'] at hj;cases hj
  rw [h.cellAt j (by rw [←h.1];exact hlt)];exact hj
theorem qB (W:World) (xs:List Value) (e:TypeId) (base size n:Nat) (hl:xs.length=n*size) (hb:base<=W.heap.size) (hn:n<=maxLen) :
  (W.alloc (.cells xs.toArray e)).ownsRow base e size (.slice (some ⟨W.heap.size,0,none⟩) n n) n xs:=by
 refine ⟨hl,Or.inr ⟨W.heap.size,n,xs.toArray,rfl,hb,?_,Nat.le_refl _,hn,by simpa using hl,?_⟩⟩
 ·show (W.heap.push _)[W.heap.size]?=_;simp
 ·rw [←hl];simp
theorem bu {w:World} {base size n:Nat} {e:TypeId} {v:Value} {xs:List Value} (h:w.ownsRow base e size v n xs):∃a cap,v=.slice a n cap/\cap<=9223372036854775807:=by
 rcases h.2 with ⟨rfl,rfl⟩|⟨g,cap,cur,rfl,_,_,_,hc,_⟩
 ·exact ⟨none,0,rfl,ω⟩
 ·exact ⟨_,cap,rfl,by unfold maxLen at hc;exact hc⟩
def aO (w:World) (b:Nat) (e:TypeId) (m:Nat) (f:Nat->Value):Prop:=
 ∃arr:Array Value,w.heap[b]?=some (.cells arr e (0,0))/\arr.size=m/\∀j,j<m->arr[j]?=some (f j)
theorem aO.lt {w:World} {b m:Nat} {e:TypeId} {f:Nat->Value} (h:aO w b e m f):b<w.heap.size:=by
 obtain ⟨arr,h1,_⟩:=h;rcases Nat.lt_or_ge b w.heap.size with h'|h'
 ·exact h'
 ·rw [Array.getElem?_eq_none h'] at h1;cases h1
theorem aO.cell {w:World} {b m:Nat} {e:TypeId} {f:Nat->Value} (h:aO w b e m f) (j:Nat) (hj:j<m):w.cell? ⟨b,j,none⟩=some (f j):=by
 obtain ⟨arr,h1,h2,h3⟩:=h;unfold World.cell?;simp only [h1];simpa using h3 j hj
theorem aO.cellAt {w:World} {b m:Nat} {e:TypeId} {f:Nat->Value} {v:Value} (h:aO w b e m f) (j:Nat) (hj:j<m) (hv:f j=v):w.cell? ⟨b,j,none⟩=some v:=by rw [←hv];exact h.cell j hj
theorem aO.free {w:World} {b m:Nat} {e:TypeId} {f:Nat->Value} (h:aO w b e m f) (j:Nat):w.frozen? ⟨b,j,none⟩=false:=by
 obtain ⟨arr,h1,h2,h3⟩:=h;simp [World.frozen?,h1]
theorem aO.same {w w':World} {b m:Nat} {e:TypeId} {f:Nat->Value} (h:aO w b e m f) (hb:w'.heap[b]?=w.heap[b]?):aO w' b e m f:=by
 obtain ⟨arr,h1,h2,h3⟩:=h;exact ⟨arr,hb.trans h1,h2,h3⟩
theorem aO.upd {w w':World} {S:List Nat} {b m:Nat} {e:TypeId} {f:Nat->Value} (h:aO w b e m f) (hu:aa S w w') (hn:b∉S):aO w' b e m f:=h.same (hu.block b h.lt hn)
theorem aO.ext {w:World} {b m:Nat} {e:TypeId} {f g:Nat->Value} (h:aO w b e m f) (hg:∀j,j<m->f j=g j):aO w b e m g:=by
 obtain ⟨arr,h1,h2,h3⟩:=h;exact ⟨arr,h1,h2,fun j hj=>by rw [h3 j hj,hg j hj]⟩
theorem aO.set {w:World} {b m:Nat} {e:TypeId} {f:Nat->Value} (h:aO w b e m f) (j:Nat) (v:Value) :
  aO (w.setCell ⟨b,j,none⟩ v) b e m (fun i=>if i=j then v else f i):=by
 obtain ⟨arr,h1,h2,h3⟩:=h;refine ⟨arr.setIfInBounds j v,?_,by simp [h2],fun i hi=>?_⟩
 ·simp [World.setCell,Array.getElem?_modify,h1]
 ·rw [Array.getElem?_setIfInBounds]
  by_cases hij:j=i
  ·subst hij;simp [h2,hi]
  ·rw [if_neg hij];show _=some (if i=j then v else f i);rw [if_neg (fun e=>hij e.symm)];exact h3 i hi
theorem aO.far {w:World} {b m:Nat} {e:TypeId} {f:Nat->Value} (h:aO w b e m f) (a:Addr) (v:Value) (hn:b≠a.block):aO (w.setCell a v) b e m f:=
 h.same (Below.heap_setCell _ _ _ _ hn)
theorem aO.drew {w:World} {b m:Nat} {e:TypeId} {f:Nat->Value} (h:aO w b e m f):aO w.drew b e m f:=h
theorem aO.alloc {w:World} {b m:Nat} {e:TypeId} {f:Nat->Value} (h:aO w b e m f) (o:Obj):aO (w.alloc o) b e m f:=h.same (Below.heap_alloc _ _ _ h.lt)
theorem eH (w:World) (l:List Value) (e:TypeId):aO (w.alloc (.cells l.toArray e)) w.heap.size e l.length (fun j=>l.getD j undef):=by
 refine ⟨l.toArray,?_,σ,fun j hj=>?_⟩
 ·show (w.heap.push _)[w.heap.size]?=_;simp
 ·simp [hj,φ]
theorem IU {w:World} {base size n cap g:Nat} {e:TypeId} {xs:List Value} (h:w.ownsRow base e size (.slice (some ⟨g,0,none⟩) n cap) n xs) (hcap:cap=n) (hn:n=0->xs=[]) :
  aO w g e (n*size) (fun j=>xs.getD j undef):=by
 subst hcap;rcases h.2 with ⟨h1,h0⟩|⟨g',cap',cur,h1,_,hg,_,_,hs,ht⟩
 ·cases h1
 ·simp only [Value.slice.injEq,Option.some.injEq,Addr.mk.injEq,and_true,true_and] at h1;obtain ⟨rfl,rfl⟩:=h1;refine ⟨cur,hg,hs,fun j hj=>?_⟩;have e1:cur.toList=xs:=by rw [←ht,List.take_of_length_le (by simp [hs])]
  rw [←e1];have hj':j<cur.toList.length:=by simp [hs];exact hj
  simp [φ];rw [Array.getElem?_eq_getElem (by simpa using hj')];rfl
theorem wpList_make_row {P:Program} {w:World} {ops:Array Oper} {rest:List Oper} {o:Oper} {a:Act} {Q:Exit->Act->World->Prop}
  (hg:o.guard=none) (l:Operand) (t:TypeId) (hop:o.op=Op.makeSlice t l l) (e:TypeId) (z:Value) (size bytes:Nat) (h1:P.underlying t=some (.slice e))
  (hinfo:(P.info? e).map (fun i=>(i.zero,i.size,i.bytes))=some (some z,size,bytes)) (n:Nat) (hl:a.eval l=.int .i64 (n:Int)) (b2:bytes*n<=281474976710656) (b3:n<=maxLen)
  (hK:∀w',aO w' w.heap.size e (n*size) (fun j=>(madeCells z.cells (n*size)).toList.getD j undef)->aa [] w w'->wpList P ops Q rest (a.put o.dst (.slice (some ⟨w.heap.size,0,none⟩) n n)) w') :
  wpList P ops Q (o::rest) a w:=by
 obtain ⟨i,hi,hz0,hz1,hz2⟩:=info_parts hinfo
 exact wpList_make_full w hg l l t hop w.heap.size e i z size h1 hi hz0 hz1 .i64 .i64 n n n hl hl rfl rfl (by rw [hz2];exact b2) b3 (Nat.le_refl _) (fun w' ho hgr=>
  hK w' (IU ho rfl (fun h0=>List.eq_nil_of_length_eq_zero (by rw [ho.1,h0,Nat.zero_mul]))) ((aa.refl [] w).grown hgr (fun k hk=>by cases hk)))
def jy (w:World) (lo:Nat) (v:Value) (n:Nat) (xs:List Value):Prop:=
 (v=.slice none 0 0/\n=0/\xs=[])\/
 ∃g cap,v=.slice (some ⟨g,0,none⟩) n cap/\n<=cap/\cap<=9223372036854775807/\lo<=g/\g<w.heap.size/\∀j u,xs[j]?=some u->w.cell? ⟨g,j,none⟩=some u
theorem jy.open {w:World} {lo n:Nat} {v:Value} {xs:List Value} (h:jy w lo v n xs) :
  ∃a cap,v=.slice a n cap/\cap<=9223372036854775807/\n<=cap/\(0<n->∃g,a=some ⟨g,0,none⟩/\lo<=g/\g<w.heap.size/\∀j u,xs[j]?=some u->w.cell? ⟨g,j,none⟩=some u):=by
 rcases h with ⟨rfl,rfl,rfl⟩|⟨g,cap,rfl,h1,h2,h3⟩
 ·exact ⟨none,0,rfl,ω,ω,fun h=>ω⟩
 ·exact ⟨_,cap,rfl,h2,h1,fun _=>⟨g,rfl,h3⟩⟩
theorem jy.tK {w:World} {base size n:Nat} {e:TypeId} {v:Value} {xs:List Value} (h:w.ownsRow base e size v n xs):jy w base v n xs:=by
 rcases h.2 with ⟨rfl,rfl⟩|⟨g,cap,cur,rfl,hb,hg,hn,hc,_⟩
 ·exact Or.inl ⟨rfl,rfl,List.eq_nil_of_length_eq_zero (by rw [h.1,Nat.zero_mul])⟩
 ·refine Or.inr ⟨g,cap,rfl,hn,by unfold maxLen at hc;exact hc,hb,(h.lt g rfl).2,fun j u hj=>?_⟩;have hlt:j<xs.length:=by
   rcases Nat.lt_or_ge j xs.length with h'|h'
   ·exact h'
   ·rw [List.getElem?_eq_none h'] at hj;cases hj
  rw [h.cellAt j (by rw [←h.1];exact hlt)];exact hj
theorem jy.upd {w w':World} {S:List Nat} {lo n:Nat} {v:Value} {xs:List Value} (h:jy w lo v n xs) (hu:aa S w w') (hS:∀k,k∈S->k<lo\/w.heap.size<=k):jy w' lo v n xs:=by
 rcases h with h|⟨g,cap,rfl,h1,h2,h3,h4,h5⟩
 ·exact Or.inl h
 ·exact Or.inr ⟨g,cap,rfl,h1,h2,h3,Nat.lt_of_lt_of_le h4 hu.size,fun j u hj=>by rw [hu.cell h4 (fun hm=>by rcases hS _ hm with h'|h'<;>simp at *<;>omega)];exact h5 j u hj⟩
theorem jy.mono {w:World} {lo lo' n:Nat} {v:Value} {xs:List Value} (h:jy w lo v n xs) (hl:lo'<=lo):jy w lo' v n xs:=by
 rcases h with h|⟨g,cap,rfl,h1,h2,h3,h4⟩
 ·exact Or.inl h
 ·exact Or.inr ⟨g,cap,rfl,h1,h2,Nat.le_trans hl h3,h4⟩
theorem BN {P:Program} {o:Oper} {a:Act} {w:World} {K:Act->World->Prop} {Q:Exit->Act->World->Prop} (s x:Operand) (t:TypeId)
  (ho:o.op=.call { callee:=.builtin .append,args:=#[s,x],argTypes:=#[t,t] })
  (base:Nat) (e:TypeId) (z:Value) (size bytes:Nat) (ht:P.underlying t=some (.slice e)) (hinfo:(P.info? e).map (fun i=>(i.zero,i.size,i.bytes))=some (some z,size,bytes))
  (hzs:z.cells.size=size) (hsz:0<size) (v:Value) (n:Nat) (xs:List Value) (hs:a.eval s=v) (hown:w.ownsRow base e size v n xs)
  (lo m:Nat) (news:List Value) (v2:Value) (hx:a.eval x=v2) (hl:jy w lo v2 m news) (hlen:news.length=m*size) (h1:∀u∈news,u.oneCell'=true)
  (hn:n+m<=maxLen) (hbytes:(n+m)*bytes<=140737488355328) (hbase:base<=w.heap.size)
  (h:∀v' w',w'.ownsRow base e size v' (n+m) (xs++news)->aa v.ownBlock.toList w w'->K (a.put o.dst v') w'):o.wp P a w K Q:=by
 obtain ⟨i,hi,hz0,hz1,hz2⟩:=info_parts hinfo;rcases hl with ⟨rfl,rfl,rfl⟩|⟨g,cap,rfl,h2,h3,h4,h5,h6⟩
 ·have hrun:=run_append_owned_none (P:=P) (w:=w) base t o.type e i size ht hi v n xs hown;unfold Oper.wp;simp [execOp,ho,resolve,invoke,builtin,hs,hx,hrun,Result.andThen];exact h v w (by simpa using hown) (aa.refl _ _)
 ·refine wp_append_own w s x t ho base e i z size bytes ht hi hz0 hz1 hz2 hzs hsz v n xs hs hown ⟨g,0,none⟩ m cap news hx hlen (fun j u hj=>?_) h1 hn hbytes hbase (fun v' w' h1 h2 _=>h v' w' h1 ((aa.refl _ _).grown h2 (fun k hk=>Or.inl (by simp [hk]))));have e1:((⟨g,0,none⟩:Addr).add j)=⟨g,j,none⟩:=by
   unfold Addr.add;split
   ·subst_vars;rfl
   ·simp
  rw [e1];exact h6 j u hj
theorem vR {P:Program} {ops:Array Oper} {rest:List Oper} {o:Oper} {a:Act} {w:World} {Q:Exit->Act->World->Prop} (hgd:o.guard=none) (s x:Operand) (t:TypeId)
  (ho:o.op=.call { callee:=.builtin .append,args:=#[s,x],argTypes:=#[t,t] })
  (base:Nat) (e:TypeId) (z:Value) (size bytes:Nat) (ht:P.underlying t=some (.slice e)) (hinfo:(P.info? e).map (fun i=>(i.zero,i.size,i.bytes))=some (some z,size,bytes))
  (hzs:z.cells.size=size) (hsz:0<size) (v:Value) (n:Nat) (xs:List Value) (hs:a.eval s=v) (hown:w.ownsRow base e size v n xs)
  (lo m:Nat) (news:List Value) (v2:Value) (hx:a.eval x=v2) (hl:jy w lo v2 m news) (hlen:news.length=m*size) (h1:∀u∈news,u.oneCell'=true)
  (hn:n+m<=maxLen) (hbytes:(n+m)*bytes<=140737488355328) (hbase:base<=w.heap.size)
  (h:∀v' w',w'.ownsRow base e size v' (n+m) (xs++news)->aa v.ownBlock.toList w w'->wpList P ops Q rest (a.put o.dst v') w'):wpList P ops Q (o::rest) a w:=
 wpList_plain hgd fun _ hK=>BN s x t ho base e z size bytes ht hinfo hzs hsz v n xs hs hown lo m news v2 hx hl hlen h1 hn hbytes hbase fun v' w' h2 h3=>hK _ _ (h v' w' h2 h3)
def cv (w:World) (a:Addr):Value:=(w.cell? a).getD undef
theorem xW (g j:Nat):((⟨g,0,none⟩:Addr).add j)=⟨g,j,none⟩:=by
 unfold Addr.add;split
 ·subst_vars;rfl
 ·simp
theorem mJ (W:World) (us:List Value) (e:TypeId) (j:Nat) (u:Value) (hj:us[j]?=some u):(W.alloc (.cells us.toArray e)).cell? ⟨W.heap.size,j,none⟩=some u:=by
 rw [←xW];exact Mg W us e j u hj
theorem Bj {P:Program} {o:Oper} {a:Act} {w:World} {K:Act->World->Prop} {Q:Exit->Act->World->Prop} (s x:Operand) (t:TypeId)
  (ho:o.op=.call { callee:=.builtin .append,args:=#[s,x],argTypes:=#[t,t] })
  (base:Nat) (e:TypeId) (z:Value) (size bytes:Nat) (ht:P.underlying t=some (.slice e)) (hinfo:(P.info? e).map (fun i=>(i.zero,i.size,i.bytes))=some (some z,size,bytes))
  (hzs:z.cells.size=size) (hsz:0<size) (v:Value) (n:Nat) (xs:List Value) (hs:a.eval s=v) (hown:w.ownsRow base e size v n xs)
  (g:Nat) (news:List Value) (hx:a.eval x=.slice (some ⟨g,0,none⟩) 1 1) (hl:news.length=size) (hnews:∀j u,news[j]?=some u->w.cell? ⟨g,j,none⟩=some u) (h1:∀u∈news,u.oneCell'=true)
  (hn:n+1<=maxLen) (hbytes:(n+1)*bytes<=140737488355328) (hbase:base<=w.heap.size)
  (h:∀v' w',w'.ownsRow base e size v' (n+1) (xs++news)->aa v.ownBlock.toList w w'->(v'.ownBlock=v.ownBlock\/v'.ownBlock=some w.heap.size)->K (a.put o.dst v') w'):Oper.wp P o a w K Q:=by
 obtain ⟨i,hi,hz0,hz1,hz2⟩:=info_parts hinfo;obtain ⟨v',w',hr,h2,h3,_,h5⟩:=run_append_own_at (P:=P) w base t o.type e i z size bytes ht hi hz0 hz1 hz2 hzs hsz v n xs hown ⟨g,0,none⟩ 1 1 news (by rw [hl,Nat.one_mul]) (fun j u hj=>by rw [xW];exact hnews j u hj) h1 hn hbytes hbase;unfold Oper.wp execOp;simp only [ho,resolve,invoke,builtin,Sem.run_bind,Sem.run_pure,Result.andThen_ok,List.map_toArray,List.map_cons,List.map_nil,hs,hx,hr];exact h _ _ h2 ((aa.refl _ _).grown h3 (fun k hk=>Or.inl (by simp [hk]))) h5
theorem kE {P:Program} {ops:Array Oper} {o:Oper} {a:Act} {w:World} {K:Act->World->Prop} {Q:Exit->Act->World->Prop} {E:Prop} (hgd:o.guard=none) (s x:Operand) (t:TypeId)
  (ho:o.op=.call { callee:=.builtin .append,args:=#[s,x],argTypes:=#[t,t] })
  (base:Nat) (e:TypeId) (z:Value) (size bytes:Nat) (ht:P.underlying t=some (.slice e)) (hinfo:(P.info? e).map (fun i=>(i.zero,i.size,i.bytes))=some (some z,size,bytes))
  (hzs:z.cells.size=size) (hsz:0<size) (v:Value) (n:Nat) (xs:List Value) (hs:a.eval s=v) (hown:w.ownsRow base e size v n xs)
  (g:Nat) (news:List Value) (hx:a.eval x=.slice (some ⟨g,0,none⟩) 1 1) (hl:news.length=size) (hnews:∀j u,news[j]?=some u->w.cell? ⟨g,j,none⟩=some u) (h1:∀u∈news,u.oneCell'=true)
  (hn:n+1<=maxLen) (hbytes:(n+1)*bytes<=140737488355328) (hbase:base<=w.heap.size)
  (h:∀v' w',w'.ownsRow base e size v' (n+1) (xs++news)->aa v.ownBlock.toList w w'->(v'.ownBlock=v.ownBlock\/v'.ownBlock=some w.heap.size)->K (a.put o.dst v') w') :
  if Region.wanted o (yielded ops a.tmps)=true then Oper.wp P o a w K Q else E:=by
 have hw:Region.wanted o (yielded ops a.tmps)=true:=by simp [Region.wanted,hgd]
 rw [if_pos hw];exact Bj s x t ho base e z size bytes ht hinfo hzs hsz v n xs hs hown g news hx hl hnews h1 hn hbytes hbase h
theorem fK:(Tryz.prog.info? 3).map (fun i=>(i.zero,i.size,i.bytes))=some (some (.int .i64 0),1,8):=by kernel_rfl
def aU (l:List Int):List Value:=l.map (fun x=>Value.int .i64 x)
theorem bN (a b:List Int):aU (a++b)=aU a++aU b:=by unfold aU;rw [List.map_append]
theorem fG (a:List Int):(aU a).length=a.length:=by unfold aU;simp
theorem Nk (l:List Int):∀u∈aU l,u.oneCell'=true:=by
 intro u hu;unfold aU at hu;simp only [List.mem_map] at hu;obtain ⟨x,_,rfl⟩:=hu;rfl
theorem nO {l:List Int} {j:Nat} (hj:j<l.length):(aU l)[j]?=some (.int .i64 (l.getD j 0)):=by unfold aU;simp [φ,hj]
theorem Rt {X:World} {us:List Value} {e:TypeId} {g:Nat} (hg:g=X.heap.size) (j:Nat) {u:Value} (hj:us[j]?=some u):(X.alloc (.cells us.toArray e)).cell? ⟨g,j,none⟩=some u:=by
 subst hg;exact mJ X us e j u hj
theorem BQ {X:World} {us:List Value} {e:TypeId} {g:Nat} (hg:g=X.heap.size) (j:Nat) {u:Value} (hj:us[j]?=some u):((X.alloc (.cells us.toArray e)).drew).cell? ⟨g,j,none⟩=some u:=Rt hg j hj
structure IZ (w:World) (g cap:Nat) (l:List Int):Prop where
 own:w.ownsRow 0 3 1 (.slice (some ⟨g,0,none⟩) l.length cap) l.length (aU l)
theorem IZ.lt {w:World} {g cap:Nat} {l:List Int} (h:IZ w g cap l):g<w.heap.size:=(h.own.lt g rfl).2
theorem IZ.cap {w:World} {g cap:Nat} {l:List Int} (h:IZ w g cap l):l.length<=cap/\cap<=9223372036854775807:=by
 rcases h.own.2 with ⟨h1,_⟩|⟨g',cap',cur,h1,_,_,h2,h3,_⟩
 ·cases h1
 ·cases h1;unfold maxLen at h3;exact ⟨h2,h3⟩
theorem IZ.cell {w:World} {g cap:Nat} {l:List Int} (h:IZ w g cap l) (j:Nat) (hj:j<l.length):w.cell? ⟨g,j,none⟩=some (.int .i64 (l.getD j 0)):=by
 rw [h.own.cellAt j ω];exact nO hj
theorem IZ.free {w:World} {g cap:Nat} {l:List Int} (h:IZ w g cap l) (j:Nat):w.frozen? ⟨g,j,none⟩=false:=h.own.frozenAt j
theorem IZ.upd {w w':World} {S:List Nat} {g cap:Nat} {l:List Int} (h:IZ w g cap l) (hu:aa S w w') (hn:g∉S):IZ w' g cap l:=
 ⟨aF h.own hu (fun k hk=>by cases hk;exact hn)⟩
theorem IZ.drewN {w:World} {g cap:Nat} {l:List Int} (h:IZ w g cap l) (n:Nat):IZ (w.drewN n) g cap l:=h.upd ((aa.refl [] w).drewN n) σ
theorem IZ.set {w:World} {g cap:Nat} {l:List Int} (h:IZ w g cap l) (j:Nat) (x:Int):IZ (w.setCell ⟨g,j,none⟩ (.int .i64 x)) g cap (l.set j x):=by
 rcases h.own.2 with ⟨h1,_⟩|⟨g',cap',cur,h1,hb,hg,hn,hc,hs,ht⟩
 ·cases h1
 ·cases h1;refine ⟨⟨by rw [fG];omega,Or.inr ⟨g,cap,cur.setIfInBounds j (.int .i64 x),by rw [List.length_set],ω,?_,by rw [List.length_set];exact hn,hc,ζ,?_⟩⟩⟩
  ·simp [World.setCell,Array.getElem?_modify,hg]
  ·rw [List.length_set,Array.toList_setIfInBounds]
   by_cases hj:j<l.length
   ·rw [List.take_set,ht];unfold aU;rw [List.map_set]
   ·rw [List.take_set_of_le ω,ht,List.set_eq_of_length_le ω]
theorem IZ.lit (w:World) (l:List Int) (hl:l.length<=1000000):IZ (w.alloc (.cells (aU l).toArray 3)) w.heap.size l.length l:=
 ⟨qB w (aU l) 3 0 1 l.length (by rw [fG];omega) ω μ⟩
theorem IZ.iY {w:World} {base:Nat} {v:Value} {l:List Int} (h:w.ownsRow base 3 1 v l.length (aU l)) (hl:0<l.length):∃g cap,v=.slice (some ⟨g,0,none⟩) l.length cap/\IZ w g cap l/\base<=g:=by
 obtain ⟨g,cap,rfl,hb,_⟩:=gM h hl;exact ⟨g,cap,rfl,⟨l8 h ω⟩,hb⟩
def iw (w:World) (F:List Nat) (v:Value) (xs:List Int):Prop:=
 ∃a cap,v=.slice a xs.length cap/\xs.length<=cap/\cap<=9223372036854775807/\∀j u,xs[j]?=some u->∃g off,a=some ⟨g,off,none⟩/\g<w.heap.size/\g∉F/\w.cell? ⟨g,off+j,none⟩=some (.int .i64 u)
theorem iw.fresh {w w':World} {F F':List Nat} {v:Value} {xs:List Int} (h:iw w F v xs) (hu:aa F w w') (hF:∀g,g∈F'->g∈F\/w.heap.size<=g):iw w' F' v xs:=by
 obtain ⟨a,cap,rfl,h1,h2,h3⟩:=h;refine ⟨a,cap,rfl,h1,h2,fun j u hj=>?_⟩;obtain ⟨g,off,rfl,hg,hn,hc⟩:=h3 j u hj;exact ⟨g,off,rfl,Nat.lt_of_lt_of_le hg hu.size,fun hm=>by rcases hF g hm with h'|h';exact hn h';omega,by rw [hu.cell hg hn];exact hc⟩
theorem iw.iY {w:World} {base:Nat} {v:Value} {xs:List Int} {F:List Nat} (h:w.ownsRow base 3 1 v xs.length (aU xs)) (hF:∀g,g∈F->g<base):iw w F v xs:=by
 rcases h.2 with ⟨rfl,h0⟩|⟨g,cap,cur,rfl,hb,hg,hn,hc,_⟩
 ·have:xs=[]:=List.eq_nil_of_length_eq_zero h0;subst this;exact ⟨none,0,rfl,σ,ω,fun j u hj=>by simp at hj⟩
 ·refine ⟨_,cap,rfl,hn,by unfold maxLen at hc;exact hc,fun j u hj=>⟨g,0,rfl,(h.lt g rfl).2,fun hm=>by have:=hF g hm;omega,?_⟩⟩;have hjl:=(List.getElem?_eq_some_iff.1 hj).1;rw [Nat.zero_add,h.cellAt j ω,nO hjl];simp [φ,hj]
def wU (a b:Int):Int:=if a<b then -1 else if b<a then 1 else 0
def BI (k1 s1 k2 s2:Int):Int:=if k1=k2 then wU s1 s2 else wU k1 k2
theorem Na (k1 s1 k2 s2:Int):decide (BI k1 s1 k2 s2<0)=Dj k1 s1 k2 s2:=by
 unfold BI Dj wU
 split
 ·rw [decide_eq_decide];split;omega;split<;>omega
 ·rw [decide_eq_decide];split;omega;split<;>omega
theorem Ua (x:Int) (w:World):Calls Tryz.prog 85 #[.int .i64 x] w fun e w'=>e=.returned (.bool false)/\w'=w:=by
 have h:(x != x)=false:=σ
 go_enter Tryz.func85,Tryz.ntmps85
 go_wp2;go_ret;exact ⟨rfl,rfl⟩
theorem TL (x:Int) (w:World):Calls Tryz.prog 173 #[.int .u64 x] w fun e w'=>e=.returned (.bool false)/\w'=w:=by
 have h:(x != x)=false:=σ
 go_enter Tryz.func173,Tryz.ntmps173
 go_wp2;go_ret;exact ⟨rfl,rfl⟩
theorem QK (a b:Int) (w:World):Calls Tryz.prog 170 #[.int .i64 a,.int .i64 b] w fun e w'=>e=.returned (.int .i64 (wU a b))/\w'=w:=by
 have k:=fun x=>Ua x w;unfold wU
 by_cases h1:a<b
 ·go_enter Tryz.func170,Tryz.ntmps170
  go_wp2_with ((go_at_call 85;(with_reducible refine ((k _)).mono ?_);rintro e w9 ⟨rfl,aM⟩;rw [aM];clear aM w9))
  go_ret;exact ⟨by first|rfl|(refine j5 ?_;simp;try omega),rfl⟩
 ·by_cases h2:b<a
  ·go_enter Tryz.func170,Tryz.ntmps170
   go_wp2_with ((go_at_call 85;(with_reducible refine ((k _)).mono ?_);rintro e w9 ⟨rfl,aM⟩;rw [aM];clear aM w9))
   go_ret;exact ⟨by first|rfl|(refine j5 ?_;simp;try omega),rfl⟩
  ·have e:a=b:=ω;subst e;clear h1 h2
   go_enter Tryz.func170,Tryz.ntmps170
   go_wp2_with ((go_at_call 85;(with_reducible refine ((k _)).mono ?_);rintro e w9 ⟨rfl,aM⟩;rw [aM];clear aM w9))
   go_ret;exact ⟨by first|rfl|(refine j5 ?_;simp;try omega),rfl⟩
theorem TQ (a b:Int) (w:World):Calls Tryz.prog 171 #[.int .u64 a,.int .u64 b] w fun e w'=>e=.returned (.int .i64 (wU a b))/\w'=w:=by
 have k:=fun x=>TL x w;unfold wU
 by_cases h1:a<b
 ·go_enter Tryz.func171,Tryz.ntmps171
  go_wp2_with ((go_at_call 173;(with_reducible refine ((k _)).mono ?_);rintro e w9 ⟨rfl,aM⟩;rw [aM];clear aM w9))
  go_ret;exact ⟨by first|rfl|(refine j5 ?_;simp;try omega),rfl⟩
 ·by_cases h2:b<a
  ·go_enter Tryz.func171,Tryz.ntmps171
   go_wp2_with ((go_at_call 173;(with_reducible refine ((k _)).mono ?_);rintro e w9 ⟨rfl,aM⟩;rw [aM];clear aM w9))
   go_ret;exact ⟨by first|rfl|(refine j5 ?_;simp;try omega),rfl⟩
  ·have e:a=b:=ω;subst e;clear h1 h2
   go_enter Tryz.func171,Tryz.ntmps171
   go_wp2_with ((go_at_call 173;(with_reducible refine ((k _)).mono ?_);rintro e w9 ⟨rfl,aM⟩;rw [aM];clear aM w9))
   go_ret;exact ⟨by first|rfl|(refine j5 ?_;simp;try omega),rfl⟩
def orZ (a b:Int):Int:=if a=0 then b else a
theorem ZF (g:Nat) (a b:Int) (w:World) (c0:w.cell? ⟨g,0,none⟩=some (.int .i64 a)) (c1:w.cell? ⟨g,1,none⟩=some (.int .i64 b)) :
  Calls Tryz.prog 169 #[.slice (some ⟨g,0,none⟩) 2 2] w fun e w'=>e=.returned (.int .i64 (orZ a b))/\w'=w:=by
 unfold orZ
 by_cases ha:a=0
 ·subst ha
  by_cases hb:b=0
  ·subst hb
   go_enter Tryz.func169,Tryz.ntmps169
   go_wp2;refine wp_loop_rounds 3 ?_;rw [rounds_succ];go_wp2
   all_goals try (rw [rounds_succ];go_wp2)
   all_goals try (rw [rounds_succ];go_wp2)
   go_ret;exact ⟨σ,rfl⟩
  ·have hb':(b != 0)=true:=by simpa using hb
   go_enter Tryz.func169,Tryz.ntmps169
   go_wp2;refine wp_loop_rounds 3 ?_;rw [rounds_succ];go_wp2
   all_goals try (rw [rounds_succ];go_wp2)
   all_goals try (rw [rounds_succ];go_wp2)
   go_ret;exact ⟨σ,rfl⟩
 ·have ha':(a != 0)=true:=by simpa using ha
  have HA:=χ ha;clear ha
  go_enter Tryz.func169,Tryz.ntmps169
  go_wp2;refine wp_loop_rounds 3 ?_;rw [rounds_succ];go_wp2
  all_goals try (rw [rounds_succ];go_wp2)
  all_goals try (rw [rounds_succ];go_wp2)
  go_ret;exact ⟨by first|rfl|rw [if_neg HA.out],rfl⟩
theorem WB (k1 s1 k2 s2:Int):orZ (wU k1 k2) (wU s1 s2)=BI k1 s1 k2 s2:=by
 unfold orZ BI
 by_cases h:k1=k2
 ·subst h;simp [wU]
 ·rw [if_neg h,if_neg];unfold wU;split;omega;split<;>omega
theorem yg (k1 s1 k2 s2:Int) (w:World):Calls Tryz.prog 164 #[.agg #[.int .i64 k1,.int .u64 s1],.agg #[.int .i64 k2,.int .u64 s2]] w fun e w'=>e=.returned (.int .i64 (BI k1 s1 k2 s2))/\aa [] w w':=by
 rw [←WB];have ka:=fun W=>QK k1 k2 W;have kb:=fun W=>TQ s1 s2 W;generalize wU k1 k2=za at *;generalize wU s1 s2=zb at *;have r0:∀W,aa [] ((w.alloc (.cells #[.int .i64 k1,.int .u64 s1] 129)).alloc (.cells #[.int .i64 k2,.int .u64 s2] 129)) W->W.cell? ⟨w.heap.size,0,none⟩=some (.int .i64 k1):=fun W h=>h.was σ;have r1:∀W,aa [] ((w.alloc (.cells #[.int .i64 k1,.int .u64 s1] 129)).alloc (.cells #[.int .i64 k2,.int .u64 s2] 129)) W->W.cell? ⟨w.heap.size,1,none⟩=some (.int .u64 s1):=fun W h=>h.was σ
 have r2:∀W,aa [] ((w.alloc (.cells #[.int .i64 k1,.int .u64 s1] 129)).alloc (.cells #[.int .i64 k2,.int .u64 s2] 129)) W->W.cell? ⟨w.heap.size+1,0,none⟩=some (.int .i64 k2):=fun W h=>h.was σ;have r3:∀W,aa [] ((w.alloc (.cells #[.int .i64 k1,.int .u64 s1] 129)).alloc (.cells #[.int .i64 k2,.int .u64 s2] 129)) W->W.cell? ⟨w.heap.size+1,1,none⟩=some (.int .u64 s2):=fun W h=>h.was σ
 go_enter Tryz.func164,Tryz.ntmps164
 go_wp2
 go_region_held3 (aa [] ((w.alloc (.cells #[.int .i64 k1,.int .u64 s1] 129)).alloc (.cells #[.int .i64 k2,.int .u64 s2] 129))) (exact η)
  (first
   | (go_at_call 170;(with_reducible refine (ka _).mono ?_);rintro e w9 ⟨rfl,aM⟩;rw [aM];clear aM w9)
   | (go_at_call 171;(with_reducible refine (kb _).mono ?_);rintro e w9 ⟨rfl,aM⟩;rw [aM];clear aM w9)
   | (go_at_call 169;(with_reducible refine (ZF _ za zb _ (BQ σ 0 rfl) (BQ σ 1 rfl)).mono ?_);rintro e w9 ⟨rfl,aM⟩;rw [aM];clear aM w9))
 go_wp2;go_ret;exact ⟨rfl,ξ⟩
theorem NM (k1 s1 k2 s2:Int) (w:World):Calls Tryz.prog 158 #[.agg #[.int .i64 k1,.int .u64 s1],.agg #[.int .i64 k2,.int .u64 s2]] w fun e w'=>e=.returned (.bool (Dj k1 s1 k2 s2))/\aa [] w w':=by
 rw [←Na];have k:=fun W=>yg k1 s1 k2 s2 W;generalize BI k1 s1 k2 s2=z at *
 go_enter Tryz.func158,Tryz.ntmps158
 go_wp2_with (go_at_call 164;(with_reducible refine (k _).mono ?_);rintro e w' ⟨rfl,hu⟩)
 all_goals
  go_ret;exact ⟨bf (by first|rfl|simp|(simp;omega)),((aa.refl _ _).alloc _ |>.alloc _).trans hu⟩
end Go.Proofs.YtklibcncmbofpaaGreat
