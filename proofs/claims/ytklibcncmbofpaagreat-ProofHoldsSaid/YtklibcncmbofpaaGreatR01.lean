/-
  Lemmas for ProofHolds: Base, Ns, Own, Row, Append, Ints, Ent, Names. Conditions: those of each lemma.
-/
import Derived.WalkKit
import Derived.WalkSpells
import Derived.WalkLawsBesides
import Derived.BigQuiet
import Derived.Deep.RegionHeld3
import Derived.ProofKit
import Derived.OpenShut
import Derived.Lib.Hide
import Derived.Maps.AppendAt
import Derived.Test.YtklibcncmbofpaaGreatProg
import Derived.StillTailTactics
set_option linter.all false
set_option maxHeartbeats 8000000
set_option maxRecDepth 10000
namespace Go.Proofs.YtklibcncmbofpaaGreat
open Go.RowKit
theorem j3{k:IntKind}{a b:Int}(h:a=b):Ending.returned (.int k a)=.returned (.int k b):=by rw[h]
theorem aT{a b:Bool}(h:a=b):Ending.returned (.bool a)=.returned (.bool b):=by rw[h]
structure aa(S:List Nat)(w w':World):Prop where
 os:w'.os=w.os
 tape:w'.tape=w.tape
 output:w'.output=w.output
 size:w.heap.size<=w'.heap.size
 block:∀k,k<w.heap.size->k∉S->w'.heap[k]?=w.heap[k]?
theorem aa.refl(S:List Nat)(w:World):aa S w w:=⟨rfl,rfl,rfl,Nat.le_refl _,fun _ _ _=>rfl⟩
theorem aa.joined{S T:List Nat}{a b c:World}(h:aa S a b)(k:aa T b c)(hT:∀x,x∈T->x∈S\/a.heap.size<=x):aa S a c:=
  ⟨k.os.trans h.os,k.tape.trans h.tape,k.output.trans h.output,Nat.le_trans h.size k.size,
   fun i hi hs=>(k.block i (Nat.lt_of_lt_of_le hi h.size) (fun hm=>by rcases hT i hm with h1|h1;exact hs h1;omega)).trans (h.block i hi hs)⟩
theorem aa.trans{S:List Nat}{a b c:World}(h:aa S a b)(k:aa S b c):aa S a c:=h.joined k (fun _ hx=>Or.inl hx)
theorem aa.then{S:List Nat}{a b c:World}(h:aa S a b)(k:aa [] b c):aa S a c:=h.joined k (fun _ hx=>by cases hx)
theorem aa.mono{S T:List Nat}{a b:World}(h:aa S a b)(hs:∀x,x∈S->x∈T):aa T a b:=
 ⟨h.os,h.tape,h.output,h.size,fun k hk hn=>h.block k hk (fun hm=>hn (hs k hm))⟩
theorem aa.drew{S:List Nat}{a w:World}(h:aa S a w):aa S a w.drew:=⟨h.os,h.tape,h.output,h.size,h.block⟩
theorem aa.drewN{S:List Nat}{a w:World}(h:aa S a w)(n:Nat):aa S a (w.drewN n):=⟨h.os,h.tape,h.output,h.size,h.block⟩
theorem aa.alloc{S:List Nat}{a w:World}(h:aa S a w)(o:Obj):aa S a (w.alloc o):=
 h.joined (T:=[]) ⟨rfl,rfl,rfl,by simp,fun k hk _=>Below.heap_alloc _ _ _ hk⟩ (fun _ hx=>by cases hx)
theorem aa.setCell{S:List Nat}{a w:World}(h:aa S a w){p:Addr}(hp:p.block∈S\/a.heap.size<=p.block)(u:Value):aa S a (w.setCell p u):=
 h.joined (T:=[p.block]) ⟨rfl,rfl,rfl,by simp[World.setCell],fun k hk hn=>Below.heap_setCell _ _ _ _ (by simpa using hn)⟩ (fun x hx=>by simp at hx;rw[hx];exact hp)
theorem aa.grown{S:List Nat}{a w w':World}{row:Option Nat}(h:aa S a w)(hg:w.grownBy w' row)(hr:∀k,row=some k->k∈S\/a.heap.size<=k):aa S a w':=
 h.joined (T:=row.toList) ⟨hg.os,hg.tape,hg.output,hg.size,fun k hk hn=>hg.block k hk (fun e=>hn (by rw[←e];simp))⟩ (fun x hx=>hr x (by simpa using hx))
theorem aa.cell{S:List Nat}{w w':World}(h:aa S w w'){p:Addr}(hp:p.block<w.heap.size)(hn:p.block∉S):w'.cell? p=w.cell? p:=World.cell?_of_block (w:=w) (h.block p.block hp hn)
theorem aa.frozen{S:List Nat}{w w':World}(h:aa S w w'){p:Addr}(hp:p.block<w.heap.size)(hn:p.block∉S):w'.frozen? p=w.frozen? p:=World.frozen?_of_block (w:=w) (h.block p.block hp hn)
theorem aa.below{w w':World}(h:aa [] w w'):Below w.heap.size w w':=⟨h.os,h.tape,h.output,h.size,fun k hk=>h.block k hk (by simp)⟩
theorem aa.was{w w':World}(h:aa [] w w'){p:Addr}{v:Value}(hv:w.cell? p=some v):w'.cell? p=some v:=by
 rw[h.cell (World.block_lt_of_cell? w p hv) (by simp)];exact hv
theorem aa.kept{S:List Nat}{w w':World}(h:aa S w w'){p:Addr}{v:Value}(hv:w.cell? p=some v)(hn:p.block∉S):w'.cell? p=some v:=by
 rw[h.cell (World.block_lt_of_cell? w p hv) hn];exact hv
theorem aa.aS{S:List Nat}{w w':World}(h:aa S w w'){p:Addr}{v:Value}(hv:w.cell? p=some v)(hn:p.block∉S)(hf:w.frozen? p=false):w'.frozen? p=false:=by
 rw[h.frozen (World.block_lt_of_cell? w p hv) hn];exact hf
theorem XH{W w1:World}(hb:aa [] W w1):(∀a,(W.cell? a).isSome=true->w1.cell? a=W.cell? a)/\(∀a,(W.cell? a).isSome=true->w1.frozen? a=W.frozen? a):=
  ⟨fun a h=>by obtain⟨u,hu⟩:=Option.isSome_iff_exists.1 h;exact hb.cell (World.block_lt_of_cell? W a hu) (by simp),
   fun a h=>by obtain⟨u,hu⟩:=Option.isSome_iff_exists.1 h;exact hb.frozen (World.block_lt_of_cell? W a hu) (by simp)⟩
theorem β{P:Prop}(h:P:=by(repeat(first|assumption|exact aa.refl _ _|refine aa.alloc ?_ _|refine aa.drew ?_|refine aa.drewN ?_ _|refine aa.setCell ?_ ?_ _|focus(left;simp;done)|focus(right;simp;done)|focus(right;simp;omega)))):P:=h
theorem κ{P:Prop}(h:P:=by(repeat(first|assumption|exact aa.refl _ _|refine aa.drew ?_|refine aa.alloc ?_ _|refine aa.setCell ?_ ?_ _|focus(left;simp;done)|focus(right;simp;done)|focus(right;simp;omega)|(apply aa.trans;rotate_left;assumption;assumption)))):P:=h
theorem ν{P:Prop}(h:P:=by(repeat(first|assumption|exact aa.refl _ _|refine aa.drew ?_|refine aa.alloc ?_ _|refine aa.setCell ?_ ?_ _|focus(left;simp;done)|focus(right;simp;done)|focus(right;simp;omega)|(apply aa.trans;rotate_left;assumption)))):P:=h
theorem η{P:Prop}(h:P:=by(repeat(first|assumption|exact aa.refl _ _|refine aa.drew ?_|refine aa.alloc ?_ _|(apply aa.trans;rotate_left;assumption)))):P:=h
theorem ξ{P:Prop}(h:P:=by(repeat(first|assumption|exact aa.refl _ _|refine aa.alloc ?_ _|refine aa.drew ?_|refine aa.drewN ?_ _|refine aa.setCell ?_ (Or.inr (by first|(simp;done)|(simp;omega))) _|(apply aa.trans;rotate_left;assumption)))):P:=h
theorem ω{P:Prop}(h:P:=by omega):P:=h
theorem σ{P:Prop}(h:P:=by simp):P:=h
theorem ζ{P:Prop}(h:P:=by simp;omega):P:=h
theorem ι{P:Prop}(h:P:=by first|(simp;done)|(simp;omega)):P:=h
theorem μ{P:Prop}(h:P:=by unfold maxLen;omega):P:=h
theorem γ{P:Prop}(h:P:=by go_simp):P:=h
theorem δ{P:Prop}(h:P:=by decide):P:=h
theorem ψ{a b:Prop}(x:a)(y:b):a/\b:=⟨x,y⟩
theorem χ{p:Prop}(h:p):Hid p:=h
theorem φ{α:Type}{l:List α}{i:Nat}{a:α}:l.getD i a=l[i]?.getD a:=List.getD_eq_getElem?_getD
theorem π(n:Nat):(n:Int).toNat=n:=Int.toNat_natCast n
theorem ρ{α:Type _}{a b:α}{l:List α}:a∈b::l↔a=b\/a∈l:=List.mem_cons
theorem τ{α:Type _}{a:α}{s t:List α}:a∈s++t↔a∈s\/a∈t:=List.mem_append
theorem ε{α:Type _}{l:List α}{i:Nat}(h:i<l.length):l[i]?=some l[i]:=List.getElem?_eq_getElem h
theorem υ{α:Type _}{s t:List α}:(s++t).length=s.length+t.length:=List.length_append
theorem θ{α:Type _}{s t:List α}:(s++t).Nodup↔s.Nodup/\t.Nodup/\∀a∈s,∀b∈t,a≠b:=List.nodup_append
theorem ς{α:Type _}{a:α}:¬a∈([]:List α):=List.not_mem_nil
end Go.Proofs.YtklibcncmbofpaaGreat
namespace Go.Proofs.YtklibcncmbofpaaGreat
structure Cl where
 i:Int
 k:Int
 s:Int
instance:Inhabited Cl:=⟨⟨0,0,0⟩⟩
def Cl.z:Cl:=⟨0,0,0⟩
structure NS where
 hs:List Bool
 cs:List Cl
def NS.c(A:NS)(x:Nat):Cl:=A.cs.getD x Cl.z
def NS.new(n:Nat):NS:=⟨[false],List.replicate n Cl.z⟩
def bJ(A:NS)(h:Int):Bool:=decide (1<=h) && decide (h<A.hs.length) && A.hs.getD h.toNat false
def wP(A:NS)(x:Int):Bool:=decide (0<=x) && decide (x<A.cs.length)
def bS(A:NS)(x:Int):Bool:=wP A x && decide (0<(A.c x.toNat).i)
def jc(A:NS)(x:Nat)(c:Cl):NS:=⟨A.hs,A.cs.set x c⟩
def Dh(k1 s1 k2 s2:Int):Bool:=if k1=k2 then decide (s1<s2)else decide (k1<k2)
def dm(A:NS):Int:=if 65536<A.hs.length then 0 else A.hs.length
def aR(A:NS):NS:=if 65536<A.hs.length then A else ⟨A.hs++[true],A.cs⟩
def oG(A:NS)(h x:Int):Bool:=bJ A h && wP A x && !bS A x
def aK(A:NS)(h x k s:Int):NS:=if oG A h x then jc A x.toNat ⟨h,k,s⟩else A
def bz(A:NS)(x:Int):NS:=if bS A x then jc A x.toNat Cl.z else A
def jg(A:NS)(x k s:Int):Bool:=bS A x && !Dh (A.c x.toNat).k (A.c x.toNat).s k s
def ay(A:NS)(x k s:Int):NS:=if jg A x k s then jc A x.toNat ⟨(A.c x.toNat).i,k,s⟩else A
def JU(cs:List Cl)(h:Int):Nat:=(cs.filter fun c=>decide (c.i=h) && decide (0<h)).length
def dO(A:NS)(h:Int):Nat:=JU A.cs h
def bZ(A:NS)(a b:Nat):Prop:=(A.c a).k<(A.c b).k\/(A.c a).k=(A.c b).k/\((A.c a).s<(A.c b).s\/(A.c a).s=(A.c b).s/\a<b)
instance (A:NS) (a b:Nat):Decidable (bZ A a b):=by unfold bZ;infer_instance
def bX(A:NS)(a b:Int):Bool:=bS A a && bS A b && decide (bZ A a.toNat b.toNat)
def J8(A:NS)(h:Int)(b:Option Nat)(x:Nat):Option Nat:=if decide (0<h) && decide ((A.c x).i=h) && (match b with|none=>true|some y=>bX A x y)then some x else b
def dL(A:NS)(h:Int):Option Nat:=(List.range A.cs.length).foldl (J8 A h) none
def qh(o:Option Nat):Int:=match o with|some x=>(x:Int)|none=>0
structure NS.Ok(A:NS):Prop where
 h0:1<=A.hs.length
 h1:A.hs.length<=65537
 h2:A.hs.getD 0 false=false
 c1:A.cs.length<=65536
 cell:∀x,x<A.cs.length->((A.c x).i=0/\(A.c x).k=0/\(A.c x).s=0)\/bJ A (A.c x).i=true
 key:∀x, -9223372036854775808<=(A.c x).k/\(A.c x).k<=9223372036854775807/\0<=(A.c x).s/\(A.c x).s<=18446744073709551615
theorem aV(A:NS)(h:Int):bJ A h=true↔1<=h/\h<A.hs.length/\A.hs.getD h.toNat false=true:=by
 unfold bJ;simp[and_assoc]
theorem gU(A:NS)(x:Int):wP A x=true↔0<=x/\x<A.cs.length:=by unfold wP;simp
theorem yY(A:NS)(x:Int):bS A x=true↔0<=x/\x<A.cs.length/\0<(A.c x.toNat).i:=by unfold bS wP;simp[and_assoc]
theorem ah(A:NS)(x:Nat):bS A (x:Int)=true↔x<A.cs.length/\0<(A.c x).i:=by rw[yY];simp
theorem NS.Ok.nat{A:NS}(h:A.Ok)(x:Nat)(hx:x<A.cs.length):0<=(A.c x).i/\(A.c x).i<A.hs.length:=by
 rcases h.cell x hx with h'|h'
 ·have:=h.h0;omega
 ·have:=(aV _ _).1 h';omega
theorem kH(A:NS)(x:Nat)(c:Cl)(y:Nat):(jc A x c).c y=if y=x/\x<A.cs.length then c else A.c y:=by
 unfold jc NS.c;simp only[φ,List.getElem?_set]
 by_cases h:x=y
 ·subst h
  by_cases hx:x<A.cs.length
  ·simp[hx]
  ·simp[hx,List.getElem?_eq_none (Nat.le_of_not_lt hx)]
 ·rw[if_neg h,if_neg (fun e=>h e.1.symm)]
theorem fI(A:NS)(x:Nat)(c:Cl):(jc A x c).cs.length=A.cs.length:=by unfold jc;simp
theorem Rv(A:NS)(x:Nat)(c:Cl)(h:Int):bJ (jc A x c) h=bJ A h:=rfl
theorem NS.Ok.with{A:NS}(h:A.Ok)(x:Nat)(c:Cl)(hc:(c.i=0/\c.k=0/\c.s=0)\/bJ A c.i=true)(hk:-9223372036854775808<=c.k/\c.k<=9223372036854775807/\0<=c.s/\c.s<=18446744073709551615):(jc A x c).Ok:=by
 refine⟨h.h0,h.h1,h.h2,by rw[fI];exact h.c1,fun y hy=>?_,fun y=>?_⟩
 ·rw[fI]at hy;rw[kH,Rv]
  split
  ·exact hc
  ·exact h.cell y hy
 ·rw[kH];split
  ·exact hk
  ·exact h.key y
theorem NS.yM(n x:Nat):(NS.new n).c x=Cl.z:=by
 unfold NS.new NS.c;rw[φ,List.getElem?_replicate];split<;>rfl
theorem NS.zY(n:Nat)(hn:n<=65536):(NS.new n).Ok:=by
 refine⟨by simp[NS.new],by simp[NS.new],rfl,by simp[NS.new];exact hn,fun x _=>Or.inl ?_,fun x=>?_⟩
 ·rw[NS.yM];exact⟨rfl,rfl,rfl⟩
 ·rw[NS.yM];exact⟨δ,δ,δ,δ⟩
theorem Gj{A:NS}(h:A.Ok):(aR A).Ok:=by
 unfold aR;split
 ·exact h
 ·rename_i hl
  have h0:=h.h0;refine⟨σ,ζ,?_,h.c1,fun x hx=>?_,h.key⟩
  ·have:=h.h2;simp only[φ]at this⊢;rw[List.getElem?_append_left ω];exact this
  ·rcases h.cell x hx with h'|h'
   ·exact Or.inl h'
   ·refine Or.inr ?_;have h2:=(aV _ _).1 h';refine(aV _ _).2 ⟨h2.1,by show(A.c x).i<((A.hs++[true]).length:Int);rw[υ];have:=h2.2.1;omega,?_⟩;have h3:=h2.2.2;simp only[φ]at h3⊢;rw[List.getElem?_append_left (by show(A.c x).i.toNat<A.hs.length;omega)];exact h3
theorem fB(A:NS)(h x:Int):oG A h x=true↔bJ A h=true/\wP A x=true/\bS A x=false:=by unfold oG;simp[and_assoc]
theorem zm{A:NS}(h:A.Ok)(g x k s:Int)(hk:-9223372036854775808<=k/\k<=9223372036854775807/\0<=s/\s<=18446744073709551615):(aK A g x k s).Ok:=by
 unfold aK;split
 ·rename_i hp
  exact h.with _ _ (Or.inr ((fB _ _ _).1 hp).1) hk
 ·exact h
theorem GU{A:NS}(h:A.Ok)(x:Int):(bz A x).Ok:=by
 unfold bz;split
 ·exact h.with _ _ (Or.inl ⟨rfl,rfl,rfl⟩) ⟨δ,δ,δ,δ⟩
 ·exact h
theorem iX{A:NS}(h:A.Ok){x:Int}(hx:bS A x=true):bJ A (A.c x.toNat).i=true:=by
 have h1:=(yY _ _).1 hx;rcases h.cell x.toNat ω with h'|h'
 ·omega
 ·exact h'
theorem Lj{A:NS}(h:A.Ok)(x k s:Int)(hk:-9223372036854775808<=k/\k<=9223372036854775807/\0<=s/\s<=18446744073709551615):(ay A x k s).Ok:=by
 unfold ay;split
 ·rename_i hp
  unfold jg at hp;simp only[Bool.and_eq_true]at hp;exact h.with _ _ (Or.inr (iX h hp.1)) hk
 ·exact h
/-! ### how many are in a heap -/
theorem Ww(cs:List Cl)(h:Int):JU cs h<=cs.length:=List.length_filter_le _ _
theorem Ql(cs:List Cl)(x:Nat)(c:Cl)(h:Int)(hx:x<cs.length) :
  JU (cs.set x c) h+(if (cs.getD x Cl.z).i=h/\0<h then 1 else 0)=JU cs h+(if c.i=h/\0<h then 1 else 0):=by
 unfold JU
 induction cs generalizing x with
 | nil=>simp at hx
 | cons d r ih=>
  cases x with
  | zero=>
   simp only[List.set_cons_zero,List.filter_cons,List.getD_cons_zero];have e1:∀c:Cl,(decide (c.i=h) && decide (0<h))=decide (c.i=h/\0<h):=fun c=>by by_cases a:c.i=h<;>by_cases b:0<h<;>simp[a,b]
   have e2:∀ (p:Prop) [Decidable p] (d:Cl) (l:List Cl),(if decide p=true then d::l else l).length=l.length+(if p then 1 else 0):=fun p _ d l=>by by_cases hp:p<;>simp[hp]
   simp only[e1,e2];omega
  | succ x=>
   have:=ih x (by simpa using hx);simp only[List.set_cons_succ,List.filter_cons,List.getD_cons_succ]
   split<;>simp at this⊢<;>omega
theorem nO(A:NS)(x:Nat)(c:Cl)(h:Int)(hx:x<A.cs.length) :
  dO (jc A x c) h+(if (A.c x).i=h/\0<h then 1 else 0)=dO A h+(if c.i=h/\0<h then 1 else 0):=Ql A.cs x c h hx
theorem Qw{cs:List Cl}{h:Int}:0<JU cs h↔∃x,x<cs.length/\(cs.getD x Cl.z).i=h/\0<h:=by
 unfold JU;rw[List.length_pos_iff_exists_mem];constructor
 ·rintro⟨c,hc⟩;obtain⟨hm,hp⟩:=List.mem_filter.1 hc;obtain⟨x,hx,rfl⟩:=List.mem_iff_getElem.1 hm;simp only[Bool.and_eq_true,decide_eq_true_eq]at hp;exact⟨x,hx,by simpa[φ,hx]using hp.1,hp.2⟩
 ·rintro⟨x,hx,h1,h2⟩;refine⟨cs[x],List.mem_filter.2 ⟨List.getElem_mem hx,?_⟩⟩;simp only[φ,ε hx,Option.getD_some]at h1;simp[h1,h2]
theorem fH{A:NS}{h:Int}:0<dO A h↔∃x,x<A.cs.length/\(A.c x).i=h/\0<h:=Qw
theorem D7{A:NS}(hA:A.Ok)(h:Int):dO A h<=65536:=Nat.le_trans (Ww _ _) hA.c1
theorem NL{A:NS}(hA:A.Ok){h:Int}(hh:bJ A h=false):dO A h=0:=by
 rcases Nat.eq_zero_or_pos (dO A h)with h'|h'
 ·exact h'
 ·obtain⟨x,hx,h1,h2⟩:=fH.1 h';rcases hA.cell x hx with h3|h3
  ·omega
  ·rw[h1,hh]at h3;cases h3
theorem N9{A:NS}(h:Int):dO (aR A) h=dO A h:=by unfold aR;split<;>rfl
/-! ### the order of slots -/
theorem bV{A:NS}{a b c:Nat}(h:bZ A a b)(h':bZ A b c):bZ A a c:=by unfold bZ at *;omega
theorem wB{A:NS}{a:Nat}:¬bZ A a a:=by unfold bZ;omega
theorem je{A:NS}{a b:Nat}(h:a≠b):bZ A a b\/bZ A b a:=by unfold bZ;omega
theorem qy{A:NS}{a b:Nat}(h:bZ A a b):¬bZ A b a:=fun h'=>wB (bV h h')
theorem lY(A:NS)(a b:Nat):bX A (a:Int) (b:Int)=(bS A a && bS A b && decide (bZ A a b)):=by unfold bX;simp
def Ut(A:NS)(h:Int)(l:List Nat)(m:Nat):Prop:=m∈l/\(A.c m).i=h/\∀y,y∈l->(A.c y).i=h->y=m\/bZ A m y
theorem xQ(A:NS)(h:Int)(hh:0<h):∀ (l:List Nat),(∀x∈l,x<A.cs.length)->∀ (pre:List Nat),(∀x∈pre,x<A.cs.length)->∀o:Option Nat,
  (match o with|some m=>Ut A h pre m|none=>∀y∈pre,(A.c y).i≠h)->
  (match l.foldl (J8 A h) o with|some m=>Ut A h (pre++l) m|none=>∀y∈pre++l,(A.c y).i≠h)
 | [],_,pre,_,o,ho=>by simpa using ho
 | x::l,hl,pre,hp,o,ho=>by
  have hx:=hl x σ;have step:(match J8 A h o x with|some m=>Ut A h (pre++[x]) m|none=>∀y∈pre++[x],(A.c y).i≠h):=by
   unfold J8
   by_cases hi:(A.c x).i=h
   ·cases o with
    | none=>
     simp only at ho;simp only[hi,hh,decide_true,Bool.and_self,if_true];refine⟨σ,hi,fun y hy he=>?_⟩;rcases τ.1 hy with hy|hy
     ·exact absurd he (ho y hy)
     ·exact Or.inl (by simpa using hy)
    | some m=>
     simp only at ho;obtain⟨h1,h2,h3⟩:=ho;have hm:=hp m h1;have hin:bS A (x:Int)=true:=(ah A x).2 ⟨hx,ω⟩;have him:bS A (m:Int)=true:=(ah A m).2 ⟨hm,ω⟩;simp only[hi,hh,decide_true,Bool.and_self,Bool.true_and,lY,hin,him,decide_eq_true_eq]
     by_cases hlt:bZ A x m
     ·rw[if_pos hlt];refine⟨σ,hi,fun y hy he=>?_⟩;rcases τ.1 hy with hy|hy
      ·rcases h3 y hy he with rfl|h4
       ·exact Or.inr hlt
       ·exact Or.inr (bV hlt h4)
      ·exact Or.inl (by simpa using hy)
     ·rw[if_neg hlt];refine⟨by simp[h1],h2,fun y hy he=>?_⟩;rcases τ.1 hy with hy|hy
      ·exact h3 y hy he
      ·simp at hy;subst hy
       by_cases e:y=m
       ·exact Or.inl e
       ·rcases je (A:=A) e with h4|h4
        ·exact absurd h4 hlt
        ·exact Or.inr h4
   ·simp only[hi,decide_false,Bool.and_false,Bool.false_and,Bool.false_eq_true,if_false];cases o with
    | none=>
     simp only at ho⊢;intro y hy;rcases τ.1 hy with hy|hy
     ·exact ho y hy
     ·simp at hy;subst hy;exact hi
    | some m=>
     simp only at ho⊢;obtain⟨h1,h2,h3⟩:=ho;refine⟨by simp[h1],h2,fun y hy he=>?_⟩;rcases τ.1 hy with hy|hy
     ·exact h3 y hy he
     ·simp at hy;subst hy;exact absurd he hi
  have:=xQ A h hh l (fun y hy=>hl y (by simp[hy])) (pre++[x]) (fun y hy=>by rcases τ.1 hy with hy|hy;exact hp y hy;simp at hy;subst hy;exact hx) _ step;simpa using this
def UZ(A:NS)(h:Int)(m:Nat):Prop:=m<A.cs.length/\(A.c m).i=h/\∀y,y<A.cs.length->(A.c y).i=h->y=m\/bZ A m y
theorem iT{A:NS}{h:Int}(hh:0<h){m:Nat}:dL A h=some m↔UZ A h m:=by
 have:=xQ A h hh (List.range A.cs.length) (fun x hx=>by simpa using hx) [] σ none σ;simp only[List.nil_append]at this
 change (match dL A h with|some m=>_|none=>_)at this
 constructor
 ·intro e;rw[e]at this;obtain⟨h1,h2,h3⟩:=this;exact⟨by simpa using h1,h2,fun y hy he=>h3 y (by simpa using hy) he⟩
 ·rintro⟨h1,h2,h3⟩;cases e:dL A h with
  | none=>rw[e]at this;exact absurd h2 (this m (by simpa using h1))
  | some m'=>
   rw[e]at this;obtain⟨k1,k2,k3⟩:=this;rcases h3 m' (by simpa using k1) k2 with rfl|h4
   ·rfl
   ·rcases k3 m (by simpa using h1) h2 with rfl|h5
    ·rfl
    ·exact absurd h4 (qy h5)
theorem jQ{A:NS}{h:Int}(hh:0<h):dL A h=none↔dO A h=0:=by
 have:=xQ A h hh (List.range A.cs.length) (fun x hx=>by simpa using hx) [] σ none σ;simp only[List.nil_append]at this
 change (match dL A h with|some m=>_|none=>_)at this
 cases e:dL A h with
 | none=>
  rw[e]at this;refine⟨fun _=>?_,fun _=>rfl⟩;rcases Nat.eq_zero_or_pos (dO A h)with h'|h'
  ·exact h'
  ·obtain⟨x,hx,h1,_⟩:=fH.1 h';exact absurd h1 (this x (by simpa using hx))
 | some m=>
  rw[e]at this;obtain⟨k1,k2,_⟩:=this;refine⟨fun h=>by(cases h),fun h0=>?_⟩;have:0<dO A h:=fH.2 ⟨m,by simpa using k1,k2,hh⟩;omega
theorem qc{A:NS}{h:Int}(hh:¬0<h):dL A h=none:=by
 unfold dL;generalize List.range A.cs.length=l;have:∀l:List Nat,l.foldl (J8 A h) none=none:=fun l=>by
  induction l with
  | nil=>rfl
  | cons x l ih=>rw[List.foldl_cons,show J8 A h none x=none by unfold J8;simp[hh]];exact ih
 exact this l
theorem Qr{A:NS}{h:Int}(hh:¬0<h):dO A h=0:=by
 rcases Nat.eq_zero_or_pos (dO A h)with h'|h'
 ·exact h'
 ·obtain⟨x,_,_,h2⟩:=fH.1 h';exact absurd h2 hh
theorem l9{A A':NS}{x y:Nat}(h:bZ A x y)(hy:A'.c y=A.c y)(hx:(A'.c x).k<(A.c x).k\/(A'.c x).k=(A.c x).k/\(A'.c x).s<=(A.c x).s):bZ A' x y:=by
 unfold bZ at *;rw[hy];omega
theorem uu{A:NS}{x k s:Int}(h:jg A x k s=true):k<(A.c x.toNat).k\/k=(A.c x.toNat).k/\s<=(A.c x.toNat).s:=by
 unfold jg Dh at h;simp only[Bool.and_eq_true,Bool.not_eq_true']at h;have h2:=h.2
 split at h2
 ·simp at h2;omega
 ·simp at h2;omega
theorem rD{A:NS}{x:Nat}{k s:Int}(hB:jg A x k s=true)(hx:x<A.cs.length)(y:Nat):(ay A x k s).c y=if y=x then ⟨(A.c x).i,k,s⟩else A.c y:=by
 unfold ay;rw[if_pos hB,π,kH]
 by_cases e:y=x
 ·rw[if_pos ⟨e,hx⟩,if_pos e]
 ·rw[if_neg (fun h=>e h.1),if_neg e]
theorem iM{A:NS}{x:Nat}{k s:Int}(hB:jg A x k s=true)(hx:x<A.cs.length)(y:Nat):((ay A x k s).c y).i=(A.c y).i:=by
 rw[rD hB hx];split
 ·rename_i e;rw[e]
 ·rfl
theorem fE(A:NS)(x k s:Int):(ay A x k s).cs.length=A.cs.length:=by unfold ay;split;exact fI _ _ _;rfl
theorem lJ(A:NS)(x k s:Int):(ay A x k s).hs=A.hs:=by unfold ay;split<;>rfl
theorem x9{A:NS}{x:Nat}(hB:bS A x=true)(y:Nat):(bz A x).c y=if y=x then Cl.z else A.c y:=by
 have hx:=((ah A x).1 hB).1;unfold bz;rw[if_pos hB,π,kH]
 by_cases e:y=x
 ·rw[if_pos ⟨e,hx⟩,if_pos e]
 ·rw[if_neg (fun h=>e h.1),if_neg e]
theorem fG(A:NS)(x:Int):(bz A x).cs.length=A.cs.length:=by unfold bz;split;exact fI _ _ _;rfl
theorem iW(A:NS)(x:Int):(bz A x).hs=A.hs:=by unfold bz;split<;>rfl
theorem fJ{A A':NS}{a b:Nat}(ha:A'.c a=A.c a)(hb:A'.c b=A.c b):bZ A' a b↔bZ A a b:=by unfold bZ;rw[ha,hb]
end Go.Proofs.YtklibcncmbofpaaGreat
namespace Go.Proofs.YtklibcncmbofpaaGreat
open Go Go.RowKit
theorem lh{w:World}{base base' size n:Nat}{e:TypeId}{v:Value}{xs:List Value}(h:w.ownsRow base e size v n xs)(hb:base'<=base):w.ownsRow base' e size v n xs:=by
 refine⟨h.1,?_⟩;rcases h.2 with hn|⟨g,cap,cur,rfl,hb',hg,rest⟩
 ·exact Or.inl hn
 ·exact Or.inr ⟨g,cap,cur,rfl,Nat.le_trans hb hb',hg,rest⟩
theorem MH(W:World)(us:List Value)(e:TypeId)(j:Nat)(u:Value)(hj:us[j]?=some u):(W.alloc (.cells us.toArray e)).cell? ((⟨W.heap.size,0,none⟩:Addr).add j)=some u:=by
 have e1:((⟨W.heap.size,0,none⟩:Addr).add j)=⟨W.heap.size,j,none⟩:=by
  unfold Addr.add;split
  ·subst_vars;rfl
  ·simp
 rw[e1];have e2:(W.alloc (.cells us.toArray e)).heap[W.heap.size]?=some (.cells us.toArray e):=by
  show(W.heap.push _)[W.heap.size]?=_
  simp
 unfold World.cell?;simp only[e2];simpa using hj
theorem aX{P:Program}{ops:Array Oper}{rest:List Oper}{o:Oper}{a:Act}{Q:Exit->Act->World->Prop}{W:World}(hgd:o.guard=none)(s x:Operand)(t:TypeId)
  (ho:o.op=.call { callee:=.builtin .append,args:=#[s,x],argTypes:=#[t,t] })
  (base:Nat) (e:TypeId) (z:Value) (size bytes:Nat) (ht:P.underlying t=some (.slice e)) (hinfo:(P.info? e).map (fun i=>(i.zero,i.size,i.bytes))=some (some z,size,bytes))
  (hzs:z.cells.size=size) (hsz:0<size) (v:Value) (n:Nat) (xs:List Value) (hs:a.eval s=v) (hown:W.ownsRow base e size v n xs)
  (us:List Value) (hus:us.length=size) (h1:∀u∈us,u.oneCell'=true) (hx:a.eval x=.slice (some ⟨W.heap.size,0,none⟩) 1 1)
  (hn:n+1<=maxLen) (hbytes:(n+1)*bytes<=140737488355328) (hbase:base<=W.heap.size)
  (h:∀v' w',w'.ownsRow base e size v' (n+1) (xs++us)->aa v.ownBlock.toList W w'->(v'.ownBlock=v.ownBlock\/∀k,v'.ownBlock=some k->W.heap.size<k)->wpList P ops Q rest (a.put o.dst v') w') :
  wpList P ops Q (o::rest) a (W.alloc (.cells us.toArray e)):=by
 obtain⟨i,hi,hz0,hz1,hz2⟩:=info_parts hinfo;have hcell:=fun j u hj=>MH W us e j u hj;rcases hown.2 with⟨rfl,rfl⟩|⟨g,cap,cur,rfl,hbg,hg,hnc,hcm,hcs,htk⟩
 ·have hxs:xs=[]:=List.eq_nil_of_length_eq_zero (by rw[hown.1,Nat.zero_mul]);subst hxs;refine wpList_append_grows _ hgd s x t ho e i z size bytes ht hi hz0 hz1 hz2 hzs hsz none 0 0 [] hs (fun _=>⟨rfl,rfl⟩) σ (fun b hb=>by cases hb) ⟨W.heap.size,0,none⟩ 1 1 us hx ω hcell h1 ω hn hbytes ?_;intro v' w' ho' hgr;refine h v' w' (lh ho' ζ) (((aa.refl _ _).alloc _).grown hgr (fun k hk=>by cases hk)) (Or.inr fun k hk=>?_);have:=(ho'.lt k hk).1;simp at this;omega
 ·have hown':=hown.alloc (.cells us.toArray e)
  by_cases hfit:n+1<=cap
  ·refine wpList_append_fits _ hgd s x t ho base e i size ht hi hz1 g n cap xs hs hown' ⟨W.heap.size,0,none⟩ 1 1 us hx ω hcell h1 hfit ?_;intro w' ho' hgr;exact h _ w' ho' (((aa.refl _ _).alloc _).grown hgr (fun k hk=>Or.inl (by cases hk;simp[Value.ownBlock]))) (Or.inl rfl)
  ·refine wpList_append_grows _ hgd s x t ho e i z size bytes ht hi hz0 hz1 hz2 hzs hsz (some ⟨g,0,none⟩) n cap xs hs (fun hb=>by cases hb) hown.1 (fun b hb j u hj=>?_) ⟨W.heap.size,0,none⟩ 1 1 us hx ω hcell h1 ω hn hbytes ?_
   ·cases hb;exact hown'.cells rfl j u hj
   ·intro v' w' ho' hgr;refine h v' w' (lh ho' ζ) (((aa.refl _ _).alloc _).grown hgr (fun k hk=>by cases hk)) (Or.inr fun k hk=>?_);have:=(ho'.lt k hk).1;simp at this;omega
theorem aC{w w':World}{S:List Nat}{base size n:Nat}{e:TypeId}{v:Value}{xs:List Value}(h:w.ownsRow base e size v n xs)(hu:aa S w w')(hne:∀k,v.ownBlock=some k->k∉S):w'.ownsRow base e size v n xs:=by
 refine⟨h.1,?_⟩;rcases h.2 with hn|⟨g,cap,cur,rfl,hb,hg,rest⟩
 ·exact Or.inl hn
 ·have hlt:=h.lt g rfl;exact Or.inr ⟨g,cap,cur,rfl,hb,by rw[hu.block g hlt.2 (hne g rfl)];exact hg,rest⟩
theorem aa.own{w0 w w':World}{S:List Nat}{base size n:Nat}{e:TypeId}{v:Value}{xs:List Value}(h:aa S w0 w)(ho:w.ownsRow base e size v n xs)(hb:w0.heap.size<=base)(hu:aa v.ownBlock.toList w w'):aa S w0 w':=
 h.joined hu (fun x hx=>Or.inr (Nat.le_trans hb (ho.lt x (by simpa using hx)).1))
theorem gJ{w:World}{base size n:Nat}{e:TypeId}{v:Value}{xs:List Value}(h:w.ownsRow base e size v n xs)(hn:0<n) :
  ∃g cap,v=.slice (some ⟨g,0,none⟩) n cap/\base<=g/\g<w.heap.size/\n<=cap/\cap<=9223372036854775807/\(∀j u,xs[j]?=some u->w.cell? ⟨g,j,none⟩=some u)/\∀j,w.frozen? ⟨g,j,none⟩=false:=by
 rcases h.2 with⟨_,h0⟩|⟨g,cap,cur,rfl,hb,hg,hnc,hcm,_⟩
 ·omega
 ·refine⟨g,cap,rfl,hb,(h.lt g rfl).2,hnc,by unfold maxLen at hcm;exact hcm,fun j u hj=>?_,fun j=>h.frozenAt j⟩;have hlt:j<xs.length:=by
   rcases Nat.lt_or_ge j xs.length with h'|h'
   ·exact h'
   ·rw[List.getElem?_eq_none h']at hj;cases hj
  rw[h.cellAt j (by rw[←h.1];exact hlt)];exact hj
theorem nE(W:World)(xs:List Value)(e:TypeId)(base size n:Nat)(hl:xs.length=n*size)(hb:base<=W.heap.size)(hn:n<=maxLen) :
  (W.alloc (.cells xs.toArray e)).ownsRow base e size (.slice (some ⟨W.heap.size,0,none⟩) n n) n xs:=by
 refine⟨hl,Or.inr ⟨W.heap.size,n,xs.toArray,rfl,hb,?_,Nat.le_refl _,hn,by simpa using hl,?_⟩⟩
 ·show(W.heap.push _)[W.heap.size]?=_;simp
 ·rw[←hl];simp
theorem bq{w:World}{base size n:Nat}{e:TypeId}{v:Value}{xs:List Value}(h:w.ownsRow base e size v n xs):∃a cap,v=.slice a n cap/\cap<=9223372036854775807:=by
 rcases h.2 with⟨rfl,rfl⟩|⟨g,cap,cur,rfl,_,_,_,hc,_⟩
 ·exact⟨none,0,rfl,ω⟩
 ·exact⟨_,cap,rfl,by unfold maxLen at hc;exact hc⟩
def aL(w:World)(b:Nat)(e:TypeId)(m:Nat)(f:Nat->Value):Prop:=
 ∃arr:Array Value,w.heap[b]?=some (.cells arr e (0,0))/\arr.size=m/\∀j,j<m->arr[j]?=some (f j)
theorem aL.lt{w:World}{b m:Nat}{e:TypeId}{f:Nat->Value}(h:aL w b e m f):b<w.heap.size:=by
 obtain⟨arr,h1,_⟩:=h;rcases Nat.lt_or_ge b w.heap.size with h'|h'
 ·exact h'
 ·rw[Array.getElem?_eq_none h']at h1;cases h1
theorem aL.cell{w:World}{b m:Nat}{e:TypeId}{f:Nat->Value}(h:aL w b e m f)(j:Nat)(hj:j<m):w.cell? ⟨b,j,none⟩=some (f j):=by
 obtain⟨arr,h1,h2,h3⟩:=h;unfold World.cell?;simp only[h1];simpa using h3 j hj
theorem aL.cellAt{w:World}{b m:Nat}{e:TypeId}{f:Nat->Value}{v:Value}(h:aL w b e m f)(j:Nat)(hj:j<m)(hv:f j=v):w.cell? ⟨b,j,none⟩=some v:=by rw[←hv];exact h.cell j hj
theorem aL.free{w:World}{b m:Nat}{e:TypeId}{f:Nat->Value}(h:aL w b e m f)(j:Nat):w.frozen? ⟨b,j,none⟩=false:=by
 obtain⟨arr,h1,h2,h3⟩:=h;simp[World.frozen?,h1]
theorem aL.same{w w':World}{b m:Nat}{e:TypeId}{f:Nat->Value}(h:aL w b e m f)(hb:w'.heap[b]?=w.heap[b]?):aL w' b e m f:=by
 obtain⟨arr,h1,h2,h3⟩:=h;exact⟨arr,hb.trans h1,h2,h3⟩
theorem aL.upd{w w':World}{S:List Nat}{b m:Nat}{e:TypeId}{f:Nat->Value}(h:aL w b e m f)(hu:aa S w w')(hn:b∉S):aL w' b e m f:=h.same (hu.block b h.lt hn)
theorem aL.ext{w:World}{b m:Nat}{e:TypeId}{f g:Nat->Value}(h:aL w b e m f)(hg:∀j,j<m->f j=g j):aL w b e m g:=by
 obtain⟨arr,h1,h2,h3⟩:=h;exact⟨arr,h1,h2,fun j hj=>by rw[h3 j hj,hg j hj]⟩
theorem aL.set{w:World}{b m:Nat}{e:TypeId}{f:Nat->Value}(h:aL w b e m f)(j:Nat)(v:Value) :
  aL (w.setCell ⟨b,j,none⟩ v) b e m (fun i=>if i=j then v else f i):=by
 obtain⟨arr,h1,h2,h3⟩:=h;refine⟨arr.setIfInBounds j v,?_,by simp[h2],fun i hi=>?_⟩
 ·simp[World.setCell,Array.getElem?_modify,h1]
 ·rw[Array.getElem?_setIfInBounds]
  by_cases hij:j=i
  ·subst hij;simp[h2,hi]
  ·rw[if_neg hij];show _=some (if i=j then v else f i);rw[if_neg (fun e=>hij e.symm)];exact h3 i hi
theorem aL.far{w:World}{b m:Nat}{e:TypeId}{f:Nat->Value}(h:aL w b e m f)(a:Addr)(v:Value)(hn:b≠a.block):aL (w.setCell a v) b e m f:=
 h.same (Below.heap_setCell _ _ _ _ hn)
theorem aL.drew{w:World}{b m:Nat}{e:TypeId}{f:Nat->Value}(h:aL w b e m f):aL w.drew b e m f:=h
theorem aL.alloc{w:World}{b m:Nat}{e:TypeId}{f:Nat->Value}(h:aL w b e m f)(o:Obj):aL (w.alloc o) b e m f:=h.same (Below.heap_alloc _ _ _ h.lt)
theorem dP(w:World)(l:List Value)(e:TypeId):aL (w.alloc (.cells l.toArray e)) w.heap.size e l.length (fun j=>l.getD j undef):=by
 refine⟨l.toArray,?_,σ,fun j hj=>?_⟩
 ·show(w.heap.push _)[w.heap.size]?=_;simp
 ·simp[hj,φ]
theorem Jh{w:World}{base size n cap g:Nat}{e:TypeId}{xs:List Value}(h:w.ownsRow base e size (.slice (some ⟨g,0,none⟩) n cap) n xs)(hcap:cap=n)(hn:n=0->xs=[]) :
  aL w g e (n*size) (fun j=>xs.getD j undef):=by
 subst hcap;rcases h.2 with⟨h1,h0⟩|⟨g',cap',cur,h1,_,hg,_,_,hs,ht⟩
 ·cases h1
 ·simp only[Value.slice.injEq,Option.some.injEq,Addr.mk.injEq,and_true,true_and]at h1;obtain⟨rfl,rfl⟩:=h1;refine⟨cur,hg,hs,fun j hj=>?_⟩;have e1:cur.toList=xs:=by rw[←ht,List.take_of_length_le (by simp[hs])]
  rw[←e1];have hj':j<cur.toList.length:=by simp[hs];exact hj
  simp[φ];rw[Array.getElem?_eq_getElem (by simpa using hj')];rfl
theorem wpList_make_row{P:Program}{w:World}{ops:Array Oper}{rest:List Oper}{o:Oper}{a:Act}{Q:Exit->Act->World->Prop}
  (hg:o.guard=none) (l:Operand) (t:TypeId) (hop:o.op=Op.makeSlice t l l) (e:TypeId) (z:Value) (size bytes:Nat) (h1:P.underlying t=some (.slice e))
  (hinfo:(P.info? e).map (fun i=>(i.zero,i.size,i.bytes))=some (some z,size,bytes)) (n:Nat) (hl:a.eval l=.int .i64 (n:Int)) (b2:bytes*n<=281474976710656) (b3:n<=maxLen)
  (hK:∀w',aL w' w.heap.size e (n*size) (fun j=>(madeCells z.cells (n*size)).toList.getD j undef)->aa [] w w'->wpList P ops Q rest (a.put o.dst (.slice (some ⟨w.heap.size,0,none⟩) n n)) w') :
  wpList P ops Q (o::rest) a w:=by
 obtain⟨i,hi,hz0,hz1,hz2⟩:=info_parts hinfo
 exact wpList_make_full w hg l l t hop w.heap.size e i z size h1 hi hz0 hz1 .i64 .i64 n n n hl hl rfl rfl (by rw[hz2];exact b2) b3 (Nat.le_refl _) (fun w' ho hgr=>
  hK w' (Jh ho rfl (fun h0=>List.eq_nil_of_length_eq_zero (by rw[ho.1,h0,Nat.zero_mul]))) ((aa.refl [] w).grown hgr (fun k hk=>by cases hk)))
def jq(w:World)(lo:Nat)(v:Value)(n:Nat)(xs:List Value):Prop:=
 (v=.slice none 0 0/\n=0/\xs=[])\/
 ∃g cap,v=.slice (some ⟨g,0,none⟩) n cap/\n<=cap/\cap<=9223372036854775807/\lo<=g/\g<w.heap.size/\∀j u,xs[j]?=some u->w.cell? ⟨g,j,none⟩=some u
theorem jq.open{w:World}{lo n:Nat}{v:Value}{xs:List Value}(h:jq w lo v n xs) :
  ∃a cap,v=.slice a n cap/\cap<=9223372036854775807/\n<=cap/\(0<n->∃g,a=some ⟨g,0,none⟩/\lo<=g/\g<w.heap.size/\∀j u,xs[j]?=some u->w.cell? ⟨g,j,none⟩=some u):=by
 rcases h with⟨rfl,rfl,rfl⟩|⟨g,cap,rfl,h1,h2,h3⟩
 ·exact⟨none,0,rfl,ω,ω,fun h=>ω⟩
 ·exact⟨_,cap,rfl,h2,h1,fun _=>⟨g,rfl,h3⟩⟩
theorem jq.uj{w:World}{base size n:Nat}{e:TypeId}{v:Value}{xs:List Value}(h:w.ownsRow base e size v n xs):jq w base v n xs:=by
 rcases h.2 with⟨rfl,rfl⟩|⟨g,cap,cur,rfl,hb,hg,hn,hc,_⟩
 ·exact Or.inl ⟨rfl,rfl,List.eq_nil_of_length_eq_zero (by rw[h.1,Nat.zero_mul])⟩
 ·refine Or.inr ⟨g,cap,rfl,hn,by unfold maxLen at hc;exact hc,hb,(h.lt g rfl).2,fun j u hj=>?_⟩;have hlt:j<xs.length:=by
   rcases Nat.lt_or_ge j xs.length with h'|h'
   ·exact h'
   ·rw[List.getElem?_eq_none h']at hj;cases hj
  rw[h.cellAt j (by rw[←h.1];exact hlt)];exact hj
theorem jq.upd{w w':World}{S:List Nat}{lo n:Nat}{v:Value}{xs:List Value}(h:jq w lo v n xs)(hu:aa S w w')(hS:∀k,k∈S->k<lo\/w.heap.size<=k):jq w' lo v n xs:=by
 rcases h with h|⟨g,cap,rfl,h1,h2,h3,h4,h5⟩
 ·exact Or.inl h
 ·exact Or.inr ⟨g,cap,rfl,h1,h2,h3,Nat.lt_of_lt_of_le h4 hu.size,fun j u hj=>by rw[hu.cell h4 (fun hm=>by rcases hS _ hm with h'|h'<;>simp at *<;>omega)];exact h5 j u hj⟩
theorem jq.mono{w:World}{lo lo' n:Nat}{v:Value}{xs:List Value}(h:jq w lo v n xs)(hl:lo'<=lo):jq w lo' v n xs:=by
 rcases h with h|⟨g,cap,rfl,h1,h2,h3,h4⟩
 ·exact Or.inl h
 ·exact Or.inr ⟨g,cap,rfl,h1,h2,Nat.le_trans hl h3,h4⟩
theorem BR{P:Program}{o:Oper}{a:Act}{w:World}{K:Act->World->Prop}{Q:Exit->Act->World->Prop}(s x:Operand)(t:TypeId)
  (ho:o.op=.call { callee:=.builtin .append,args:=#[s,x],argTypes:=#[t,t] })
  (base:Nat) (e:TypeId) (z:Value) (size bytes:Nat) (ht:P.underlying t=some (.slice e)) (hinfo:(P.info? e).map (fun i=>(i.zero,i.size,i.bytes))=some (some z,size,bytes))
  (hzs:z.cells.size=size) (hsz:0<size) (v:Value) (n:Nat) (xs:List Value) (hs:a.eval s=v) (hown:w.ownsRow base e size v n xs)
  (lo m:Nat) (news:List Value) (v2:Value) (hx:a.eval x=v2) (hl:jq w lo v2 m news) (hlen:news.length=m*size) (h1:∀u∈news,u.oneCell'=true)
  (hn:n+m<=maxLen) (hbytes:(n+m)*bytes<=140737488355328) (hbase:base<=w.heap.size)
  (h:∀v' w',w'.ownsRow base e size v' (n+m) (xs++news)->aa v.ownBlock.toList w w'->K (a.put o.dst v') w'):o.wp P a w K Q:=by
 obtain⟨i,hi,hz0,hz1,hz2⟩:=info_parts hinfo;rcases hl with⟨rfl,rfl,rfl⟩|⟨g,cap,rfl,h2,h3,h4,h5,h6⟩
 ·have hrun:=run_append_owned_none (P:=P) (w:=w) base t o.type e i size ht hi v n xs hown;unfold Oper.wp;simp[execOp,ho,resolve,invoke,builtin,hs,hx,hrun,Result.andThen];exact h v w (by simpa using hown) (aa.refl _ _)
 ·refine wp_append_own w s x t ho base e i z size bytes ht hi hz0 hz1 hz2 hzs hsz v n xs hs hown ⟨g,0,none⟩ m cap news hx hlen (fun j u hj=>?_) h1 hn hbytes hbase (fun v' w' h1 h2 _=>h v' w' h1 ((aa.refl _ _).grown h2 (fun k hk=>Or.inl (by simp[hk]))));have e1:((⟨g,0,none⟩:Addr).add j)=⟨g,j,none⟩:=by
   unfold Addr.add;split
   ·subst_vars;rfl
   ·simp
  rw[e1];exact h6 j u hj
theorem wV{P:Program}{ops:Array Oper}{rest:List Oper}{o:Oper}{a:Act}{w:World}{Q:Exit->Act->World->Prop}(hgd:o.guard=none)(s x:Operand)(t:TypeId)
  (ho:o.op=.call { callee:=.builtin .append,args:=#[s,x],argTypes:=#[t,t] })
  (base:Nat) (e:TypeId) (z:Value) (size bytes:Nat) (ht:P.underlying t=some (.slice e)) (hinfo:(P.info? e).map (fun i=>(i.zero,i.size,i.bytes))=some (some z,size,bytes))
  (hzs:z.cells.size=size) (hsz:0<size) (v:Value) (n:Nat) (xs:List Value) (hs:a.eval s=v) (hown:w.ownsRow base e size v n xs)
  (lo m:Nat) (news:List Value) (v2:Value) (hx:a.eval x=v2) (hl:jq w lo v2 m news) (hlen:news.length=m*size) (h1:∀u∈news,u.oneCell'=true)
  (hn:n+m<=maxLen) (hbytes:(n+m)*bytes<=140737488355328) (hbase:base<=w.heap.size)
  (h:∀v' w',w'.ownsRow base e size v' (n+m) (xs++news)->aa v.ownBlock.toList w w'->wpList P ops Q rest (a.put o.dst v') w'):wpList P ops Q (o::rest) a w:=
 wpList_plain hgd fun _ hK=>BR s x t ho base e z size bytes ht hinfo hzs hsz v n xs hs hown lo m news v2 hx hl hlen h1 hn hbytes hbase fun v' w' h2 h3=>hK _ _ (h v' w' h2 h3)
def cv(w:World)(a:Addr):Value:=(w.cell? a).getD undef
theorem xU(g j:Nat):((⟨g,0,none⟩:Addr).add j)=⟨g,j,none⟩:=by
 unfold Addr.add;split
 ·subst_vars;rfl
 ·simp
theorem mP(W:World)(us:List Value)(e:TypeId)(j:Nat)(u:Value)(hj:us[j]?=some u):(W.alloc (.cells us.toArray e)).cell? ⟨W.heap.size,j,none⟩=some u:=by
 rw[←xU];exact MH W us e j u hj
theorem Cf{P:Program}{o:Oper}{a:Act}{w:World}{K:Act->World->Prop}{Q:Exit->Act->World->Prop}(s x:Operand)(t:TypeId)
  (ho:o.op=.call { callee:=.builtin .append,args:=#[s,x],argTypes:=#[t,t] })
  (base:Nat) (e:TypeId) (z:Value) (size bytes:Nat) (ht:P.underlying t=some (.slice e)) (hinfo:(P.info? e).map (fun i=>(i.zero,i.size,i.bytes))=some (some z,size,bytes))
  (hzs:z.cells.size=size) (hsz:0<size) (v:Value) (n:Nat) (xs:List Value) (hs:a.eval s=v) (hown:w.ownsRow base e size v n xs)
  (g:Nat) (news:List Value) (hx:a.eval x=.slice (some ⟨g,0,none⟩) 1 1) (hl:news.length=size) (hnews:∀j u,news[j]?=some u->w.cell? ⟨g,j,none⟩=some u) (h1:∀u∈news,u.oneCell'=true)
  (hn:n+1<=maxLen) (hbytes:(n+1)*bytes<=140737488355328) (hbase:base<=w.heap.size)
  (h:∀v' w',w'.ownsRow base e size v' (n+1) (xs++news)->aa v.ownBlock.toList w w'->(v'.ownBlock=v.ownBlock\/v'.ownBlock=some w.heap.size)->K (a.put o.dst v') w'):Oper.wp P o a w K Q:=by
 obtain⟨i,hi,hz0,hz1,hz2⟩:=info_parts hinfo;obtain⟨v',w',hr,h2,h3,_,h5⟩:=run_append_own_at (P:=P) w base t o.type e i z size bytes ht hi hz0 hz1 hz2 hzs hsz v n xs hown ⟨g,0,none⟩ 1 1 news (by rw[hl,Nat.one_mul]) (fun j u hj=>by rw[xU];exact hnews j u hj) h1 hn hbytes hbase;unfold Oper.wp execOp;simp only[ho,resolve,invoke,builtin,Sem.run_bind,Sem.run_pure,Result.andThen_ok,List.map_toArray,List.map_cons,List.map_nil,hs,hx,hr];exact h _ _ h2 ((aa.refl _ _).grown h3 (fun k hk=>Or.inl (by simp[hk]))) h5
theorem j4{P:Program}{ops:Array Oper}{o:Oper}{a:Act}{w:World}{K:Act->World->Prop}{Q:Exit->Act->World->Prop}{E:Prop}(hgd:o.guard=none)(s x:Operand)(t:TypeId)
  (ho:o.op=.call { callee:=.builtin .append,args:=#[s,x],argTypes:=#[t,t] })
  (base:Nat) (e:TypeId) (z:Value) (size bytes:Nat) (ht:P.underlying t=some (.slice e)) (hinfo:(P.info? e).map (fun i=>(i.zero,i.size,i.bytes))=some (some z,size,bytes))
  (hzs:z.cells.size=size) (hsz:0<size) (v:Value) (n:Nat) (xs:List Value) (hs:a.eval s=v) (hown:w.ownsRow base e size v n xs)
  (g:Nat) (news:List Value) (hx:a.eval x=.slice (some ⟨g,0,none⟩) 1 1) (hl:news.length=size) (hnews:∀j u,news[j]?=some u->w.cell? ⟨g,j,none⟩=some u) (h1:∀u∈news,u.oneCell'=true)
  (hn:n+1<=maxLen) (hbytes:(n+1)*bytes<=140737488355328) (hbase:base<=w.heap.size)
  (h:∀v' w',w'.ownsRow base e size v' (n+1) (xs++news)->aa v.ownBlock.toList w w'->(v'.ownBlock=v.ownBlock\/v'.ownBlock=some w.heap.size)->K (a.put o.dst v') w') :
  if Region.wanted o (yielded ops a.tmps)=true then Oper.wp P o a w K Q else E:=by
 have hw:Region.wanted o (yielded ops a.tmps)=true:=by simp[Region.wanted,hgd]
 rw[if_pos hw];exact Cf s x t ho base e z size bytes ht hinfo hzs hsz v n xs hs hown g news hx hl hnews h1 hn hbytes hbase h
theorem fF:(Tryz.prog.info? 3).map (fun i=>(i.zero,i.size,i.bytes))=some (some (.int .i64 0),1,8):=by kernel_rfl
def aQ(l:List Int):List Value:=l.map (fun x=>Value.int .i64 x)
theorem bM(a b:List Int):aQ (a++b)=aQ a++aQ b:=by unfold aQ;rw[List.map_append]
theorem eZ(a:List Int):(aQ a).length=a.length:=by unfold aQ;simp
theorem O4(l:List Int):∀u∈aQ l,u.oneCell'=true:=by
 intro u hu;unfold aQ at hu;simp only[List.mem_map]at hu;obtain⟨x,_,rfl⟩:=hu;rfl
theorem nS{l:List Int}{j:Nat}(hj:j<l.length):(aQ l)[j]?=some (.int .i64 (l.getD j 0)):=by unfold aQ;simp[φ,hj]
theorem Sn{X:World}{us:List Value}{e:TypeId}{g:Nat}(hg:g=X.heap.size)(j:Nat){u:Value}(hj:us[j]?=some u):(X.alloc (.cells us.toArray e)).cell? ⟨g,j,none⟩=some u:=by
 subst hg;exact mP X us e j u hj
theorem CO{X:World}{us:List Value}{e:TypeId}{g:Nat}(hg:g=X.heap.size)(j:Nat){u:Value}(hj:us[j]?=some u):((X.alloc (.cells us.toArray e)).drew).cell? ⟨g,j,none⟩=some u:=Sn hg j hj
structure IZ(w:World)(g cap:Nat)(l:List Int):Prop where
 own:w.ownsRow 0 3 1 (.slice (some ⟨g,0,none⟩) l.length cap) l.length (aQ l)
theorem IZ.lt{w:World}{g cap:Nat}{l:List Int}(h:IZ w g cap l):g<w.heap.size:=(h.own.lt g rfl).2
theorem IZ.cap{w:World}{g cap:Nat}{l:List Int}(h:IZ w g cap l):l.length<=cap/\cap<=9223372036854775807:=by
 rcases h.own.2 with⟨h1,_⟩|⟨g',cap',cur,h1,_,_,h2,h3,_⟩
 ·cases h1
 ·cases h1;unfold maxLen at h3;exact⟨h2,h3⟩
theorem IZ.cell{w:World}{g cap:Nat}{l:List Int}(h:IZ w g cap l)(j:Nat)(hj:j<l.length):w.cell? ⟨g,j,none⟩=some (.int .i64 (l.getD j 0)):=by
 rw[h.own.cellAt j ω];exact nS hj
theorem IZ.free{w:World}{g cap:Nat}{l:List Int}(h:IZ w g cap l)(j:Nat):w.frozen? ⟨g,j,none⟩=false:=h.own.frozenAt j
theorem IZ.upd{w w':World}{S:List Nat}{g cap:Nat}{l:List Int}(h:IZ w g cap l)(hu:aa S w w')(hn:g∉S):IZ w' g cap l:=
 ⟨aC h.own hu (fun k hk=>by cases hk;exact hn)⟩
theorem IZ.drewN{w:World}{g cap:Nat}{l:List Int}(h:IZ w g cap l)(n:Nat):IZ (w.drewN n) g cap l:=h.upd ((aa.refl [] w).drewN n) σ
theorem IZ.set{w:World}{g cap:Nat}{l:List Int}(h:IZ w g cap l)(j:Nat)(x:Int):IZ (w.setCell ⟨g,j,none⟩ (.int .i64 x)) g cap (l.set j x):=by
 rcases h.own.2 with⟨h1,_⟩|⟨g',cap',cur,h1,hb,hg,hn,hc,hs,ht⟩
 ·cases h1
 ·cases h1;refine⟨⟨by rw[eZ];omega,Or.inr ⟨g,cap,cur.setIfInBounds j (.int .i64 x),by rw[List.length_set],ω,?_,by rw[List.length_set];exact hn,hc,ζ,?_⟩⟩⟩
  ·simp[World.setCell,Array.getElem?_modify,hg]
  ·rw[List.length_set,Array.toList_setIfInBounds]
   by_cases hj:j<l.length
   ·rw[List.take_set,ht];unfold aQ;rw[List.map_set]
   ·rw[List.take_set_of_le ω,ht,List.set_eq_of_length_le ω]
theorem IZ.lit(w:World)(l:List Int)(hl:l.length<=1000000):IZ (w.alloc (.cells (aQ l).toArray 3)) w.heap.size l.length l:=
 ⟨nE w (aQ l) 3 0 1 l.length (by rw[eZ];omega) ω μ⟩
theorem IZ.iY{w:World}{base:Nat}{v:Value}{l:List Int}(h:w.ownsRow base 3 1 v l.length (aQ l))(hl:0<l.length):∃g cap,v=.slice (some ⟨g,0,none⟩) l.length cap/\IZ w g cap l/\base<=g:=by
 obtain⟨g,cap,rfl,hb,_⟩:=gJ h hl;exact⟨g,cap,rfl,⟨lh h ω⟩,hb⟩
def gI(w:World)(F:List Nat)(v:Value)(xs:List Int):Prop:=
 ∃a cap,v=.slice a xs.length cap/\xs.length<=cap/\cap<=9223372036854775807/\∀j u,xs[j]?=some u->∃g off,a=some ⟨g,off,none⟩/\g<w.heap.size/\g∉F/\w.cell? ⟨g,off+j,none⟩=some (.int .i64 u)
theorem gI.fresh{w w':World}{F F':List Nat}{v:Value}{xs:List Int}(h:gI w F v xs)(hu:aa F w w')(hF:∀g,g∈F'->g∈F\/w.heap.size<=g):gI w' F' v xs:=by
 obtain⟨a,cap,rfl,h1,h2,h3⟩:=h;refine⟨a,cap,rfl,h1,h2,fun j u hj=>?_⟩;obtain⟨g,off,rfl,hg,hn,hc⟩:=h3 j u hj;exact⟨g,off,rfl,Nat.lt_of_lt_of_le hg hu.size,fun hm=>by rcases hF g hm with h'|h';exact hn h';omega,by rw[hu.cell hg hn];exact hc⟩
theorem gI.iY{w:World}{base:Nat}{v:Value}{xs:List Int}{F:List Nat}(h:w.ownsRow base 3 1 v xs.length (aQ xs))(hF:∀g,g∈F->g<base):gI w F v xs:=by
 rcases h.2 with⟨rfl,h0⟩|⟨g,cap,cur,rfl,hb,hg,hn,hc,_⟩
 ·have:xs=[]:=List.eq_nil_of_length_eq_zero h0;subst this;exact⟨none,0,rfl,σ,ω,fun j u hj=>by simp at hj⟩
 ·refine⟨_,cap,rfl,hn,by unfold maxLen at hc;exact hc,fun j u hj=>⟨g,0,rfl,(h.lt g rfl).2,fun hm=>by have:=hF g hm;omega,?_⟩⟩;have hjl:=(List.getElem?_eq_some_iff.1 hj).1;rw[Nat.zero_add,h.cellAt j ω,nS hjl];simp[φ,hj]
def vZ(a b:Int):Int:=if a<b then -1 else if b<a then 1 else 0
def Ce(k1 s1 k2 s2:Int):Int:=if k1=k2 then vZ s1 s2 else vZ k1 k2
theorem Ps(k1 s1 k2 s2:Int):decide (Ce k1 s1 k2 s2<0)=Dh k1 s1 k2 s2:=by
 unfold Ce Dh vZ
 split
 ·rw[decide_eq_decide];split;omega;split<;>omega
 ·rw[decide_eq_decide];split;omega;split<;>omega
theorem RP(x:Int)(w:World):Calls Tryz.prog 85 #[.int .i64 x] w fun e w'=>e=.returned (.bool false)/\w'=w:=by
 have h:(x != x)=false:=σ
 go_enter Tryz.func85,Tryz.ntmps85
 go_wp2;go_ret;exact⟨rfl,rfl⟩
theorem RD(x:Int)(w:World):Calls Tryz.prog 173 #[.int .u64 x] w fun e w'=>e=.returned (.bool false)/\w'=w:=by
 have h:(x != x)=false:=σ
 go_enter Tryz.func173,Tryz.ntmps173
 go_wp2;go_ret;exact⟨rfl,rfl⟩
theorem Tg(a b:Int)(w:World):Calls Tryz.prog 170 #[.int .i64 a,.int .i64 b] w fun e w'=>e=.returned (.int .i64 (vZ a b))/\w'=w:=by
 have k:=fun x=>RP x w;unfold vZ
 by_cases h1:a<b
 ·go_enter Tryz.func170,Tryz.ntmps170
  go_wp2_with ((go_at_call 85;(with_reducible refine((k _)).mono ?_);rintro e w9 ⟨rfl,aJ⟩;rw[aJ];clear aJ w9))
  go_ret;exact⟨by first|rfl|(refine j3 ?_;simp;try omega),rfl⟩
 ·by_cases h2:b<a
  ·go_enter Tryz.func170,Tryz.ntmps170
   go_wp2_with ((go_at_call 85;(with_reducible refine((k _)).mono ?_);rintro e w9 ⟨rfl,aJ⟩;rw[aJ];clear aJ w9))
   go_ret;exact⟨by first|rfl|(refine j3 ?_;simp;try omega),rfl⟩
  ·have e:a=b:=ω;subst e;clear h1 h2
   go_enter Tryz.func170,Tryz.ntmps170
   go_wp2_with ((go_at_call 85;(with_reducible refine((k _)).mono ?_);rintro e w9 ⟨rfl,aJ⟩;rw[aJ];clear aJ w9))
   go_ret;exact⟨by first|rfl|(refine j3 ?_;simp;try omega),rfl⟩
theorem P8(a b:Int)(w:World):Calls Tryz.prog 171 #[.int .u64 a,.int .u64 b] w fun e w'=>e=.returned (.int .i64 (vZ a b))/\w'=w:=by
 have k:=fun x=>RD x w;unfold vZ
 by_cases h1:a<b
 ·go_enter Tryz.func171,Tryz.ntmps171
  go_wp2_with ((go_at_call 173;(with_reducible refine((k _)).mono ?_);rintro e w9 ⟨rfl,aJ⟩;rw[aJ];clear aJ w9))
  go_ret;exact⟨by first|rfl|(refine j3 ?_;simp;try omega),rfl⟩
 ·by_cases h2:b<a
  ·go_enter Tryz.func171,Tryz.ntmps171
   go_wp2_with ((go_at_call 173;(with_reducible refine((k _)).mono ?_);rintro e w9 ⟨rfl,aJ⟩;rw[aJ];clear aJ w9))
   go_ret;exact⟨by first|rfl|(refine j3 ?_;simp;try omega),rfl⟩
  ·have e:a=b:=ω;subst e;clear h1 h2
   go_enter Tryz.func171,Tryz.ntmps171
   go_wp2_with ((go_at_call 173;(with_reducible refine((k _)).mono ?_);rintro e w9 ⟨rfl,aJ⟩;rw[aJ];clear aJ w9))
   go_ret;exact⟨by first|rfl|(refine j3 ?_;simp;try omega),rfl⟩
def orZ(a b:Int):Int:=if a=0 then b else a
theorem ZH(g:Nat)(a b:Int)(w:World)(c0:w.cell? ⟨g,0,none⟩=some (.int .i64 a))(c1:w.cell? ⟨g,1,none⟩=some (.int .i64 b)) :
  Calls Tryz.prog 169 #[.slice (some ⟨g,0,none⟩) 2 2] w fun e w'=>e=.returned (.int .i64 (orZ a b))/\w'=w:=by
 unfold orZ
 by_cases ha:a=0
 ·subst ha
  by_cases hb:b=0
  ·subst hb
   go_enter Tryz.func169,Tryz.ntmps169
   go_wp2;refine wp_loop_rounds 3 ?_;rw[rounds_succ];go_wp2
   all_goals try (rw[rounds_succ];go_wp2)
   all_goals try (rw[rounds_succ];go_wp2)
   go_ret;exact⟨σ,rfl⟩
  ·have hb':(b != 0)=true:=by simpa using hb
   go_enter Tryz.func169,Tryz.ntmps169
   go_wp2;refine wp_loop_rounds 3 ?_;rw[rounds_succ];go_wp2
   all_goals try (rw[rounds_succ];go_wp2)
   all_goals try (rw[rounds_succ];go_wp2)
   go_ret;exact⟨σ,rfl⟩
 ·have ha':(a != 0)=true:=by simpa using ha
  have HA:=χ ha;clear ha
  go_enter Tryz.func169,Tryz.ntmps169
  go_wp2;refine wp_loop_rounds 3 ?_;rw[rounds_succ];go_wp2
  all_goals try (rw[rounds_succ];go_wp2)
  all_goals try (rw[rounds_succ];go_wp2)
  go_ret;exact⟨by first|rfl|rw[if_neg HA.out],rfl⟩
theorem Vv(k1 s1 k2 s2:Int):orZ (vZ k1 k2) (vZ s1 s2)=Ce k1 s1 k2 s2:=by
 unfold orZ Ce
 by_cases h:k1=k2
 ·subst h;simp[vZ]
 ·rw[if_neg h,if_neg];unfold vZ;split;omega;split<;>omega
theorem yE(k1 s1 k2 s2:Int)(w:World):Calls Tryz.prog 164 #[.agg #[.int .i64 k1,.int .u64 s1],.agg #[.int .i64 k2,.int .u64 s2]] w fun e w'=>e=.returned (.int .i64 (Ce k1 s1 k2 s2))/\aa [] w w':=by
 rw[←Vv];have ka:=fun W=>Tg k1 k2 W;have kb:=fun W=>P8 s1 s2 W;generalize vZ k1 k2=za at *;generalize vZ s1 s2=zb at *;have r0:∀W,aa [] ((w.alloc (.cells #[.int .i64 k1,.int .u64 s1] 129)).alloc (.cells #[.int .i64 k2,.int .u64 s2] 129)) W->W.cell? ⟨w.heap.size,0,none⟩=some (.int .i64 k1):=fun W h=>h.was σ;have r1:∀W,aa [] ((w.alloc (.cells #[.int .i64 k1,.int .u64 s1] 129)).alloc (.cells #[.int .i64 k2,.int .u64 s2] 129)) W->W.cell? ⟨w.heap.size,1,none⟩=some (.int .u64 s1):=fun W h=>h.was σ
 have r2:∀W,aa [] ((w.alloc (.cells #[.int .i64 k1,.int .u64 s1] 129)).alloc (.cells #[.int .i64 k2,.int .u64 s2] 129)) W->W.cell? ⟨w.heap.size+1,0,none⟩=some (.int .i64 k2):=fun W h=>h.was σ;have r3:∀W,aa [] ((w.alloc (.cells #[.int .i64 k1,.int .u64 s1] 129)).alloc (.cells #[.int .i64 k2,.int .u64 s2] 129)) W->W.cell? ⟨w.heap.size+1,1,none⟩=some (.int .u64 s2):=fun W h=>h.was σ
 go_enter Tryz.func164,Tryz.ntmps164
 go_wp2
 go_region_held3 (aa [] ((w.alloc (.cells #[.int .i64 k1,.int .u64 s1] 129)).alloc (.cells #[.int .i64 k2,.int .u64 s2] 129))) (exact η)
  (first
   | (go_at_call 170;(with_reducible refine(ka _).mono ?_);rintro e w9 ⟨rfl,aJ⟩;rw[aJ];clear aJ w9)
   | (go_at_call 171;(with_reducible refine(kb _).mono ?_);rintro e w9 ⟨rfl,aJ⟩;rw[aJ];clear aJ w9)
   | (go_at_call 169;(with_reducible refine(ZH _ za zb _ (CO σ 0 rfl) (CO σ 1 rfl)).mono ?_);rintro e w9 ⟨rfl,aJ⟩;rw[aJ];clear aJ w9))
 go_wp2;go_ret;exact⟨rfl,ξ⟩
theorem Ox(k1 s1 k2 s2:Int)(w:World):Calls Tryz.prog 158 #[.agg #[.int .i64 k1,.int .u64 s1],.agg #[.int .i64 k2,.int .u64 s2]] w fun e w'=>e=.returned (.bool (Dh k1 s1 k2 s2))/\aa [] w w':=by
 rw[←Ps];have k:=fun W=>yE k1 s1 k2 s2 W;generalize Ce k1 s1 k2 s2=z at *
 go_enter Tryz.func158,Tryz.ntmps158
 go_wp2_with (go_at_call 164;(with_reducible refine(k _).mono ?_);rintro e w' ⟨rfl,hu⟩)
 all_goals
  go_ret;exact⟨aT (by first|rfl|simp|(simp;omega)),((aa.refl _ _).alloc _ |>.alloc _).trans hu⟩
structure rM(l:List Int)(rt dp:Nat->Nat):Prop where
 len:1<=l.length
 Qg:l.length<=65537
 wy:∀i,1<=i->i<l.length->1<=l.getD i 0/\l.getD i 0<l.length
 up:∀i,1<=i->i<l.length->rt (l.getD i 0).toNat=rt i
 top:∀i,1<=i->i<l.length->l.getD i 0=i->rt i=i
 low:∀i,1<=i->i<l.length->l.getD i 0≠i->dp (l.getD i 0).toNat<dp i
theorem rM.root{l:List Int}{rt dp:Nat->Nat}(h:rM l rt dp):∀ (d i:Nat),dp i<=d->1<=i->i<l.length->1<=rt i/\rt i<l.length/\l.getD (rt i) 0=rt i
 | d,i,hd,h1,h2=>by
  by_cases e:l.getD i 0=i
  ·rw[h.top i h1 h2 e];exact⟨h1,h2,e⟩
  ·have hl:=h.low i h1 h2 e;have hr:=h.wy i h1 h2
   match d,hd with
   | 0,hd=>omega
   | d+1,hd=>
    have:=rM.root h d (l.getD i 0).toNat ω ω ω;rwa[h.up i h1 h2]at this
theorem rM.XU{l:List Int}{rt dp:Nat->Nat}(h:rM l rt dp){i:Nat}(h1:1<=i)(h2:i<l.length):1<=rt i/\rt i<l.length/\l.getD (rt i) 0=rt i:=h.root (dp i) i (Nat.le_refl _) h1 h2
theorem rM.Sw{l:List Int}{rt dp:Nat->Nat}(h:rM l rt dp){i:Nat}(h1:1<=i)(h2:i<l.length):l.getD i 0=i↔rt i=i:=
 ⟨h.top i h1 h2,fun e=>by have:=h.XU h1 h2;rw[e]at this;exact this.2.2⟩
theorem Uk(l:List Int)(i:Nat)(x:Int)(j:Nat):(l.set i x).getD j 0=if j=i/\i<l.length then x else l.getD j 0:=by
 simp only[φ,List.getElem?_set]
 by_cases h:i=j
 ·subst h
  by_cases hx:i<l.length
  ·simp[hx]
  ·simp[hx,List.getElem?_eq_none (Nat.le_of_not_lt hx)]
 ·rw[if_neg h,if_neg (fun e=>h e.1.symm)]
theorem rM.short{l:List Int}{rt dp:Nat->Nat}(h:rM l rt dp){k:Nat}(h1:1<=k)(h2:k<l.length)(hk:l.getD k 0≠k):rM (l.set k (l.getD (l.getD k 0).toNat 0)) rt dp:=by
 have r1:=h.wy k h1 h2;obtain⟨j,hj⟩:∃j:Nat,l.getD k 0=j:=⟨(l.getD k 0).toNat,ω⟩;have u1:=h.up k h1 h2;have d1:=h.low k h1 h2 hk;rw[hj]at r1 u1 d1 hk⊢;simp only[π]at u1 d1⊢;have hjk:j≠k:=fun e=>hk (by rw[e]);have r2:=h.wy j ω ω;obtain⟨q,hq⟩:∃q:Nat,l.getD j 0=q:=⟨(l.getD j 0).toNat,ω⟩;have u2:=h.up j ω ω;have d2:=h.low j ω ω;rw[hq]at r2 u2 d2⊢;simp only[π]at u2 d2;have d3:q≠j->dp q<dp j:=fun e=>d2 ω;clear d2;refine⟨by simp;exact h.len,by simp;exact h.Qg,fun i a b=>?_,fun i a b=>?_,fun i a b=>?_,fun i a b=>?_⟩
 all_goals
  rw[List.length_set]at b;rw[Uk]
 ·rw[List.length_set];split
  ·exact r2
  ·exact h.wy i a b
 ·split
  ·rename_i e;simp only[π];rw[u2,u1,e.1]
  ·exact h.up i a b
 ·split
  ·rename_i e
   intro he;have hqi:q=k:=by have:=e.1;omega
   by_cases e2:q=j
   ·exfalso;omega
   ·have:=d3 e2;rw[hqi]at this;omega
  ·exact h.top i a b
 ·split
  ·rename_i e
   intro he;simp only[π];rw[e.1]
   by_cases e2:q=j
   ·rw[e2];exact d1
   ·have:=d3 e2;omega
  ·exact h.low i a b
structure j6(w:World)(nm g cap:Nat)(l:List Int):Prop where
 head:∃c:Int,aL w nm 262 3 (fun j=>[Value.slice (some ⟨g,0,none⟩) l.length cap,.int .i64 65536,.int .i64 c].getD j undef)
 row:IZ w g cap l
 ne:nm≠g
theorem j6.upd{w w':World}{S:List Nat}{nm g cap:Nat}{l:List Int}(h:j6 w nm g cap l)(hu:aa S w w')(h1:nm∉S)(h2:g∉S):j6 w' nm g cap l:=by
 obtain⟨c,h3⟩:=h.head;exact⟨⟨c,h3.upd hu h1⟩,h.row.upd hu h2,h.ne⟩
theorem j6.c0{w:World}{nm g cap:Nat}{l:List Int}(h:j6 w nm g cap l):w.cell? ⟨nm,0,none⟩=some (.slice (some ⟨g,0,none⟩) l.length cap):=by obtain⟨c,h⟩:=h.head;exact h.cellAt 0 ω rfl
theorem j6.c1{w:World}{nm g cap:Nat}{l:List Int}(h:j6 w nm g cap l):w.cell? ⟨nm,1,none⟩=some (.int .i64 65536):=by obtain⟨c,h⟩:=h.head;exact h.cellAt 1 ω rfl
theorem j6.lt{w:World}{nm g cap:Nat}{l:List Int}(h:j6 w nm g cap l):nm<w.heap.size/\g<w.heap.size:=by obtain⟨c,h1⟩:=h.head;exact⟨h1.lt,h.row.lt⟩
theorem j6.set{w:World}{nm g cap:Nat}{l:List Int}(h:j6 w nm g cap l)(j:Nat)(x:Int):j6 (w.setCell ⟨g,j,none⟩ (.int .i64 x)) nm g cap (l.set j x):=by
 obtain⟨c,h1⟩:=h.head;exact⟨⟨c,by rw[List.length_set];exact h1.far _ _ h.ne⟩,h.row.set j x,h.ne⟩
theorem j6.YZ{w:World}{nm g cap:Nat}{l:List Int}(h:j6 w nm g cap l)(x:Int):j6 (w.setCell ⟨nm,2,none⟩ (.int .i64 x)) nm g cap l:=by
 obtain⟨c,h1⟩:=h.head;refine⟨⟨x,(h1.set 2 (.int .i64 x)).ext (fun j hj=>?_)⟩,h.row.upd ((aa.refl [nm] w).setCell (Or.inl σ) _) (by simp;exact fun e=>h.ne e.symm),h.ne⟩;rcases(ω:j=0\/j=1\/j=2)with rfl|rfl|rfl<;>simp
theorem j6.setRow{w:World}{nm g cap:Nat}{l:List Int}(h:j6 w nm g cap l){W:World}{g' cap':Nat}{l':List Int}(hu:aa [g] w W)(hr:IZ W g' cap' l')(hne:nm≠g'):j6 (W.setCell ⟨nm,0,none⟩ (.slice (some ⟨g',0,none⟩) l'.length cap')) nm g' cap' l':=by
 obtain⟨c,h1⟩:=h.head;refine⟨⟨c,((h1.upd hu (by simp;exact h.ne)).set 0 _).ext (fun j hj=>?_)⟩,hr.upd ((aa.refl [nm] W).setCell (Or.inl σ) _) (by simp;exact fun e=>hne e.symm),hne⟩;rcases(ω:j=0\/j=1\/j=2)with rfl|rfl|rfl<;>simp
theorem G9(nm g cap:Nat)(l:List Int)(x:Int)(w:World)(h:j6 w nm g cap l)(hl:l.length<=65537) :
  Calls Tryz.prog 162 #[.pointer (some ⟨nm,0,none⟩),.int .i64 x] w fun e w'=>e=.returned (.bool (decide (0<x) && decide (x<l.length)))/\w'=w:=by
 have c0:=h.c0;have hc:=h.row.cap;clear h
 by_cases h0:0<x
 ·go_enter Tryz.func162,Tryz.ntmps162
  go_wp2;go_ret;exact⟨aT (by simp[h0]),rfl⟩
 ·go_enter Tryz.func162,Tryz.ntmps162
  go_wp2;go_ret;exact⟨aT ζ,rfl⟩
def FN(l:List Int)(x:Int):Bool:=decide (0<x) && decide (x<l.length) && (l.getD x.toNat 0 == x)
theorem SQ(nm g cap:Nat)(l:List Int)(x:Int)(w:World)(h:j6 w nm g cap l)(hl:l.length<=65537) :
  Calls Tryz.prog 152 #[.pointer (some ⟨nm,0,none⟩),.int .i64 x] w fun e w'=>e=.returned (.bool (FN l x))/\w'=w:=by
 have k:=G9 nm g cap l x w h hl;unfold FN;have c0:=h.c0;have hc:=h.row.cap
 by_cases h0:0<x/\x<l.length
 ·obtain⟨i,rfl⟩:∃i:Nat,x=i:=⟨x.toNat,ω⟩;rw[show(decide (0<(i:Int)) && decide ((i:Int)<l.length))=true by simp;omega]at *;have hi:i<l.length:=ω;have c1:=h.row.cell i hi;simp only[π];generalize l.getD i 0=y at *;clear h
  go_enter Tryz.func152,Tryz.ntmps152
  go_wp2_with ((go_at_call 162;(with_reducible refine(k).mono ?_);rintro e w9 ⟨rfl,aJ⟩;rw[aJ];clear aJ w9))
  go_ret;exact⟨aT σ,rfl⟩
 ·rw[show(decide (0<x) && decide (x<l.length))=false by simp;omega]at *;clear h
  go_enter Tryz.func152,Tryz.ntmps152
  go_wp2_with ((go_at_call 162;(with_reducible refine(k).mono ?_);rintro e w9 ⟨rfl,aJ⟩;rw[aJ];clear aJ w9))
  go_ret;exact⟨aT σ,rfl⟩
theorem Hf(nm g cap:Nat)(l:List Int)(w:World)(h:j6 w nm g cap l)(hl:l.length<=65537) :
  Calls Tryz.prog 168 #[.pointer (some ⟨nm,0,none⟩)] w fun e w'=>e=.returned (.int .i64 ((l.length:Int)-1))/\w'=w:=by
 have c0:=h.c0;have hc:=h.row.cap;clear h
 go_enter Tryz.func168,Tryz.ntmps168
 go_wp2;go_ret;exact⟨rfl,rfl⟩
theorem Oi(nm g cap:Nat)(l:List Int)(rt dp:Nat->Nat)(x:Nat)(w:World)(h:j6 w nm g cap l)(ok:rM l rt dp)(hx:1<=x)(hx2:x<l.length) :
  Calls Tryz.prog 153 #[.pointer (some ⟨nm,0,none⟩),.int .i64 (x:Int)] w fun e w'=>∃l',e=.returned (.tuple #[.int .i64 (rt x:Int),.bool true])/\j6 w' nm g cap l'/\rM l' rt dp/\l'.length=l.length/\aa [g] w w':=by
 have k:=G9 nm g cap l x w h ok.Qg;rw[show(decide (0<(x:Int)) && decide ((x:Int)<l.length))=true by simp;omega]at k;generalize hr:rt x=r at *;have HR:=χ hr;clear hr
 go_enter Tryz.func153,Tryz.ntmps153
 go_wp2_with ((go_at_call 162;(with_reducible refine(k).mono ?_);rintro e w9 ⟨rfl,aJ⟩;rw[aJ];clear aJ w9))
 clear k
 go_loopw [1] (fun id wr=>∃ (k:Nat) (l':List Int),id=.int .i64 (k:Int)/\1<=k/\k<l'.length/\rt k=r/\j6 wr nm g cap l'/\rM l' rt dp/\l'.length=l.length/\aa [g] w wr) (fun id _=>dp (intOf id).toNat)
 case atStart=>exact⟨x,l,rfl,hx,hx2,HR.out,h,ok,rfl,aa.refl _ _⟩
 case round=>
  obtain⟨k,l',rfl,hk1,hk2,hrt,hN,hok,hlen,hu⟩:=hrel;have c0:=hN.c0;have hc:=hN.row.cap;have c1:=hN.row.cell k hk2;have c2:=hN.row.free k;have hrg:=hok.wy k hk1 hk2;have hl2:=hok.Qg;have HA:=χ (ψ h ok);have HB:=χ (ψ hN (ψ hok (ψ hlen hrt)));clear h ok hN hok hlen hrt
  by_cases hkk:l'.getD k 0=k
  ·rw[hkk]at c1;have HK:=χ hkk;clear hkk hrg;go_wp2;go_ret2;obtain⟨h1,h2,h3,h4⟩:=HB.out;exact⟨l',by rw[←h4,h2.top k hk1 hk2 HK.out];rfl,h1,h2,h3,hu⟩
  ·obtain⟨j,hj⟩:∃j:Nat,l'.getD k 0=j:=⟨(l'.getD k 0).toNat,ω⟩;have hjr:1<=j/\j<l'.length:=ω;have c3:=HB.out.1.row.cell j hjr.2;have hrg2:=HB.out.2.1.wy j hjr.1 hjr.2;obtain⟨q,hq⟩:∃q:Nat,l'.getD j 0=q:=⟨(l'.getD j 0).toNat,ω⟩;rw[hj]at c1 hrg hkk;rw[hq]at c3 hrg2;have hne:((j:Int) != (k:Int))=true:=by simpa using hkk
   have HJ:=χ (ψ hj (ψ hq hkk));clear hj hq hkk;go_wp2
   go_region
   go_wp2
   go_roundw
   case rel=>
    obtain⟨h1,h2,h3,h4⟩:=HB.out;obtain⟨e1,e2,e3⟩:=HJ.out;have hs:=h2.short hk1 hk2 (by rw[e1];exact e3);rw[e1]at hs;simp only[π]at hs;rw[e2]at hs;have u1:=h2.up k hk1 hk2;have u2:=h2.up j ω ω;rw[e1]at u1;rw[e2]at u2;simp only[π]at u1 u2;exact⟨q,_,rfl,ω,by rw[List.length_set];omega,by rw[u2,u1,h4],(h1.set k q).upd ((aa.refl [] _).drew) σ σ,hs,by rw[List.length_set];exact h3,((hu.setCell (Or.inl σ) _)).drew⟩
   case measure=>
    obtain⟨h1,h2,h3,h4⟩:=HB.out;obtain⟨e1,e2,e3⟩:=HJ.out;have d1:=h2.low k hk1 hk2 (by rw[e1];exact e3);have d2:=h2.low j ω ω;rw[e1]at d1;rw[e2]at d2;simp only[π]at d1 d2;simp[intOf]
    by_cases e:q=j
    ·rw[e];exact d1
    ·have:=d2 ω;omega
theorem TW(nm g cap:Nat)(l:List Int)(w:World)(h:j6 w nm g cap l)(hl:l.length=65537) :
  Calls Tryz.prog 163 #[.pointer (some ⟨nm,0,none⟩)] w fun e w'=>e=.returned (.tuple #[.int .i64 0,.bool false])/\aa [] w w':=by
 have k:=Hf nm g cap l;have k1:=fun W hW=>k W hW ω;rw[hl]at k1;have c1:∀d,(w.drewN d).cell? ⟨nm,1,none⟩=some (.int .i64 65536):=fun d=>h.c1;have H:=fun d=>(h.upd ((aa.refl [] w).drewN d) σ σ)
 clear h k
 go_enter Tryz.func163,Tryz.ntmps163
 go_wp2
 go_quiet ((go_at_call 168;exact Calls.quiet_of_same (k1 _ (H _))))
 go_wp2;go_ret2;exact⟨rfl,(aa.refl _ _).drewN _⟩
theorem PO(nm g cap:Nat)(l:List Int)(w:World)(h:j6 w nm g cap l)(hl:1<=l.length)(hl2:l.length<=65536) :
  Calls Tryz.prog 163 #[.pointer (some ⟨nm,0,none⟩)] w fun e w'=>∃g' cap',e=.returned (.tuple #[.int .i64 (l.length:Int),.bool true])/\j6 w' nm g' cap' (l++[(l.length:Int)])/\aa [nm,g] w w'/\(g'=g\/w.heap.size<=g'):=by
 have k1:=fun W hW=>Hf nm g cap l W hW ω;have c1:∀d,(w.drewN d).cell? ⟨nm,1,none⟩=some (.int .i64 65536):=fun d=>h.c1;have c0:∀d,(w.drewN d).cell? ⟨nm,0,none⟩=some (.slice (some ⟨g,0,none⟩) l.length cap):=fun d=>h.c0;obtain⟨cn,hh⟩:=h.head;have c2:w.cell? ⟨nm,2,none⟩=some (.int .i64 cn):=hh.cellAt 2 ω rfl;have f0:=hh.free 0;have f2:=hh.free 2;have HO:Hid (∀d,(w.drewN d).ownsRow 0 3 1 (.slice (some ⟨g,0,none⟩) l.length cap) l.length (aQ l)):=fun d=>(h.row.drewN d).own;have H:Hid (∀d,j6 (w.drewN d) nm g cap l):=fun d=>(h.upd ((aa.refl [] w).drewN d) σ σ)
 have hcap:=h.row.cap;have hlt:=h.lt;have hne:=h.ne;have hb1:((l.length:Int)-1 == 65536)=false:=ζ;clear h hh;generalize hlen:l.length=len at *;have HL:=χ hlen;clear hlen
 go_enter Tryz.func163,Tryz.ntmps163
 go_wp2
 go_quiet ((go_at_call 168;exact Calls.quiet_of_same (k1 _ (H.out _))))
 go_wp2_with (((at_builtin;refine aX rfl _ _ 26 rfl 0 3 (.int .i64 0) 1 8 Tryz.underlying26 fF rfl δ _ _ _ rfl ((HO.out _)) [.int .i64 (len:Int)] rfl (by simp[Value.oneCell']) (by first|rfl|(rw[World.size_alloc];rfl)) μ ω (σ) ?_;intro v1 w1 ho1 hu1 XD));obtain⟨g1,cap1,rfl,_,hg1,hc1,hc2,_⟩:=gJ ho1 ω;(have hu2:aa [g] (w.drewN nq) w1:=hu1);(have hs2:g1=g\/w.heap.size<g1:=by(rcases XD with h'|h';(exact Or.inl (Option.some.inj h'));(exact Or.inr (h' g1 rfl))));clear hu1 XD;(have q1:w1.cell? ⟨nm,0,none⟩=some (.slice (some ⟨g,0,none⟩) len cap):=(hu2.cell (p:=⟨nm,0,none⟩) hlt.1 (by simp;exact hne)).trans (c0 _));(have q2:w1.cell? ⟨nm,2,none⟩=some (.int .i64 cn):=(hu2.cell (p:=⟨nm,2,none⟩) hlt.1 (by simp;exact hne)).trans c2);(have q3:w1.frozen? ⟨nm,0,none⟩=false:=(hu2.frozen (p:=⟨nm,0,none⟩) hlt.1 (by simp;exact hne)).trans f0);(have q4:w1.frozen? ⟨nm,2,none⟩=false:=(hu2.frozen (p:=⟨nm,2,none⟩) hlt.1 (by simp;exact hne)).trans f2))
 go_ret2;have hn1:nm≠g1:=ω;have hz:IZ w1 g1 cap1 (l++[(len:Int)]):=⟨by rw[υ,HL.out,bM];exact ho1⟩;have hN:=(H.out nq).setRow hu2 hz hn1;rw[υ,HL.out]at hN;refine⟨g1,cap1,rfl,?_,?_,ω⟩
 ·exact hN.YZ _
 ·exact((((aa.refl [nm,g] w).drewN nq).joined hu2 (fun x hx=>Or.inl (by simp at hx;simp[hx]))).setCell (Or.inl σ) _).setCell (Or.inl σ) _
theorem Sb(w:World):Calls Tryz.prog 114 #[.int .i64 65536] w fun e w'=>∃nm g,e=.returned (.tuple #[.pointer (some ⟨nm,0,none⟩),.int .i64 0])/\j6 w' nm g 1 [0]/\aa [] w w'/\w.heap.size<=nm/\w.heap.size<=g:=by
 go_enter Tryz.func114,Tryz.ntmps114
 go_wp2;go_ret2;have hr:=dP (w.alloc (.cells #[.int .i64 0] 3)) [Value.slice (some ⟨w.heap.size,0,none⟩) 1 1,.int .i64 65536,.int .i64 0] 262;rw[World.size_alloc]at hr;exact⟨_,_,rfl,⟨⟨0,hr⟩,(IZ.lit w [0] σ).upd ((aa.refl [] _).alloc _) σ,ω⟩,((aa.refl _ _).alloc _).alloc _,σ,Nat.le_refl _⟩
end Go.Proofs.YtklibcncmbofpaaGreat
