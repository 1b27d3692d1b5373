/-
  Lemmas for PqAlike: Base, Ns, Own, Row, Append, Ints, Ent, Names, Map, Cells, Cells2, Cells4, Cells5, Ord, Enters, Mth, NestB, Qn, QnR, RefN. Conditions: those of each lemma.
-/
import Derived.WalkKit
import Derived.WalkSpells
import Derived.WalkLawsBesides
import Derived.BigQuiet
import Derived.Deep.RegionHeld3
import Derived.ProofKit
import Derived.OpenShut
import Derived.Lib.Hide
import Derived.Maps.AppendAt
import Derived.Test.YtnpdakpagnpanaaGreatProg
import Derived.StillTailTactics
import Derived.Maps.OwnSet
import Derived.Maps.OwnOps
import Derived.Maps.RangeWalk
set_option linter.all false
set_option maxHeartbeats 8000000
set_option maxRecDepth 10000
namespace Go.Proofs.YtnpdakpagnpanaaGreat
open Tryz
open Go.RowKit
theorem jR{k:IntKind}{a b:Int}(h:a=b):Ending.returned (.int k a)=.returned (.int k b):=by rw[h]
theorem cZ{a b:Bool}(h:a=b):Ending.returned (.bool a)=.returned (.bool b):=by rw[h]
structure ae(S:List Nat)(w w':World):Prop where
 os:w'.os=w.os
 tape:w'.tape=w.tape
 output:w'.output=w.output
 size:w.heap.size<=w'.heap.size
 block:∀k,k<w.heap.size->k∉S->w'.heap[k]?=w.heap[k]?
theorem ae.refl(S:List Nat)(w:World):ae S w w:=⟨rfl,rfl,rfl,Nat.le_refl _,λ_ _ _=>rfl⟩
theorem ae.joined{S T:List Nat}{a b c:World}(h:ae S a b)(k:ae T b c)(hT:∀x,x∈T->x∈S\/a.heap.size<=x):ae S a c:=
  ⟨k.os.trans h.os,k.tape.trans h.tape,k.output.trans h.output,Nat.le_trans h.size k.size,
   λi hi hs=>(k.block i (Nat.lt_of_lt_of_le hi h.size) (λhm=>by rcases hT i hm with h1|h1;exact hs h1;omega)).trans (h.block i hi hs)⟩
theorem ae.trans{S:List Nat}{a b c:World}(h:ae S a b)(k:ae S b c):ae S a c:=h.joined k (λ_ hx=>Or.inl hx)
theorem ae.then{S:List Nat}{a b c:World}(h:ae S a b)(k:ae [] b c):ae S a c:=h.joined k (λ_ hx=>by cases hx)
theorem ae.mono{S T:List Nat}{a b:World}(h:ae S a b)(hs:∀x,x∈S->x∈T):ae T a b:=
 ⟨h.os,h.tape,h.output,h.size,λk hk hn=>h.block k hk (λhm=>hn (hs k hm))⟩
theorem ae.drew{S:List Nat}{a w:World}(h:ae S a w):ae S a w.drew:=⟨h.os,h.tape,h.output,h.size,h.block⟩
theorem ae.drewN{S:List Nat}{a w:World}(h:ae S a w)(n:Nat):ae S a (w.drewN n):=⟨h.os,h.tape,h.output,h.size,h.block⟩
theorem ae.alloc{S:List Nat}{a w:World}(h:ae S a w)(o:Obj):ae S a (w.alloc o):=
 h.joined (T:=[]) ⟨rfl,rfl,rfl,by simp,λk hk _=>Below.heap_alloc _ _ _ hk⟩ (λ_ hx=>by cases hx)
theorem ae.setCell{S:List Nat}{a w:World}(h:ae S a w){p:Addr}(hp:p.block∈S\/a.heap.size<=p.block)(u:Value):ae S a (w.setCell p u):=
 h.joined (T:=[p.block]) ⟨rfl,rfl,rfl,by simp[World.setCell],λk hk hn=>Below.heap_setCell _ _ _ _ (by simpa using hn)⟩ (λx hx=>by simp at hx;rw[hx];exact hp)
theorem ae.grown{S:List Nat}{a w w':World}{row:Option Nat}(h:ae S a w)(hg:w.grownBy w' row)(hr:∀k,row=some k->k∈S\/a.heap.size<=k):ae S a w':=
 h.joined (T:=row.toList) ⟨hg.os,hg.tape,hg.output,hg.size,λk hk hn=>hg.block k hk (λe=>hn (by rw[←e];simp))⟩ (λx hx=>hr x (by simpa using hx))
theorem ae.cell{S:List Nat}{w w':World}(h:ae S w w'){p:Addr}(hp:p.block<w.heap.size)(hn:p.block∉S):w'.cell? p=w.cell? p:=World.cell?_of_block (w:=w) (h.block p.block hp hn)
theorem ae.frozen{S:List Nat}{w w':World}(h:ae S w w'){p:Addr}(hp:p.block<w.heap.size)(hn:p.block∉S):w'.frozen? p=w.frozen? p:=World.frozen?_of_block (w:=w) (h.block p.block hp hn)
theorem ae.below{w w':World}(h:ae [] w w'):Below w.heap.size w w':=⟨h.os,h.tape,h.output,h.size,λk hk=>h.block k hk (by simp)⟩
theorem EI{w w':World}(h:Below w.heap.size w w'):ae [] w w':=⟨h.os,h.tape,h.output,h.size,λk hk _=>h.block k hk⟩
theorem ae.was{w w':World}(h:ae [] w w'){p:Addr}{v:Value}(hv:w.cell? p=some v):w'.cell? p=some v:=by
 rw[h.cell (World.block_lt_of_cell? w p hv) (by simp)];exact hv
theorem ae.kept{S:List Nat}{w w':World}(h:ae S w w'){p:Addr}{v:Value}(hv:w.cell? p=some v)(hn:p.block∉S):w'.cell? p=some v:=by
 rw[h.cell (World.block_lt_of_cell? w p hv) hn];exact hv
theorem ae.aM{S:List Nat}{w w':World}(h:ae S w w'){p:Addr}{v:Value}(hv:w.cell? p=some v)(hn:p.block∉S)(hf:w.frozen? p=false):w'.frozen? p=false:=by
 rw[h.frozen (World.block_lt_of_cell? w p hv) hn];exact hf
theorem YQ{W w1:World}(hb:ae [] W w1):(∀a,(W.cell? a).isSome=true->w1.cell? a=W.cell? a)/\(∀a,(W.cell? a).isSome=true->w1.frozen? a=W.frozen? a):=
  ⟨λa h=>by obtain ⟨u,hu⟩:=Option.isSome_iff_exists.1 h;exact hb.cell (World.block_lt_of_cell? W a hu) (by simp),
   λa h=>by obtain ⟨u,hu⟩:=Option.isSome_iff_exists.1 h;exact hb.frozen (World.block_lt_of_cell? W a hu) (by simp)⟩
def VI(ty:Nat)(nm:String)(fn:Nat):Prop:=∀(p c:Nat) (W:World),W.cell? ⟨p,0,none⟩=some (.pointer (some ⟨c,0,none⟩))->(method 409 ty (.pointer (some ⟨p,0,none⟩)) nm).run prog W=.ok (fn,.pointer (some ⟨c,0,none⟩)) W
def MI(ty:Nat)(nm:String)(fn:Nat):Prop:=∀(p:Nat) (W:World),(method 409 ty (.pointer (some ⟨p,0,none⟩)) nm).run prog W=.ok (fn,.pointer (some ⟨p,0,none⟩)) W
def NI(ty:Nat)(nm:String):Prop:=∀(p:Nat) (W:World),(nilAhead 409 ty (.pointer (some ⟨p,0,none⟩)) nm).run prog W=.ok (some false) W
theorem wC(M:Array Method)(nm:String)(l:List FieldStep)(fn:Nat)(h:(Array.find? (λx=>x.name == nm) M).map (λm=>(m.path.toList,m.func,m.path.isEmpty))=some (l,some (fn,true),false)):∃m,(Array.find? (λx=>x.name == nm) M)=some m/\m.path.toList=l/\m.func=some (fn,true)/\m.path.isEmpty=false:=by
 cases hf:Array.find? (λx=>x.name == nm) M with
 |none=>rw[hf] at h;cases h
 |some m=>
  rw[hf] at h;simp only[Option.map_some,Option.some.injEq,Prod.mk.injEq] at h;exact⟨m,rfl,h.1,h.2.1,h.2.2⟩
theorem vZ{P:Prop}(h:P:=by go_simp;simp only[follow,Place.get];go_simp;(try unfold receiverAt);(try simp only[Place.get]);(try go_simp)):P:=h
theorem aT{f:Nat}{a:Array Value}{w w0:World}{v:Value}{Q:Ending->World->Prop}(h:Calls prog f a w λe w'=>e=.returned v/\w'=w0)(k:Q (.returned v) w0):Calls prog f a w Q:=h.mono λe w' h=>by rw[h.1,h.2];exact k
theorem β{P:Prop}(h:P:=by(repeat(first|assumption|exact ae.refl _ _|refine ae.alloc ?_ _|refine ae.drew ?_|refine ae.drewN ?_ _|refine ae.setCell ?_ ?_ _|focus(left;simp;done)|focus(right;simp;done)|focus(right;simp;omega)))):P:=h
theorem κ{P:Prop}(h:P:=by(repeat(first|assumption|exact ae.refl _ _|refine ae.drew ?_|refine ae.alloc ?_ _|refine ae.setCell ?_ ?_ _|focus(left;simp;done)|focus(right;simp;done)|focus(right;simp;omega)|(apply ae.trans;rotate_left;assumption;assumption)))):P:=h
theorem ν{P:Prop}(h:P:=by(repeat(first|assumption|exact ae.refl _ _|refine ae.drew ?_|refine ae.alloc ?_ _|refine ae.setCell ?_ ?_ _|focus(left;simp;done)|focus(right;simp;done)|focus(right;simp;omega)|(apply ae.trans;rotate_left;assumption)))):P:=h
theorem η{P:Prop}(h:P:=by(repeat(first|assumption|exact ae.refl _ _|refine ae.drew ?_|refine ae.alloc ?_ _|(apply ae.trans;rotate_left;assumption)))):P:=h
theorem ξ{P:Prop}(h:P:=by(repeat(first|assumption|exact ae.refl _ _|refine ae.alloc ?_ _|refine ae.drew ?_|refine ae.drewN ?_ _|refine ae.setCell ?_ (Or.inr (by first|(simp;done)|(simp;omega))) _|(apply ae.trans;rotate_left;assumption)))):P:=h
theorem ω{P:Prop}(h:P:=by omega):P:=h
theorem σ{P:Prop}(h:P:=by simp):P:=h
theorem ζ{P:Prop}(h:P:=by simp;omega):P:=h
theorem ι{P:Prop}(h:P:=by first|(simp;done)|(simp;omega)):P:=h
theorem μ{P:Prop}(h:P:=by unfold maxLen;omega):P:=h
theorem γ{P:Prop}(h:P:=by go_simp):P:=h
theorem δ{P:Prop}(h:P:=by decide):P:=h
theorem ψ{a b:Prop}(x:a)(y:b):a/\b:=⟨x,y⟩
theorem χ{p:Prop}(h:p):Hid p:=h
theorem φ{α:Type}{l:List α}{i:Nat}{a:α}:l.getD i a=l[i]?.getD a:=List.getD_eq_getElem?_getD
theorem π(n:Nat):(n:Int).toNat=n:=Int.toNat_natCast n
theorem ρ{α:Type _}{a b:α}{l:List α}:a∈b::l↔a=b\/a∈l:=List.mem_cons
theorem τ{α:Type _}{a:α}{s t:List α}:a∈s++t↔a∈s\/a∈t:=List.mem_append
theorem ε{α:Type _}{l:List α}{i:Nat}(h:i<l.length):l[i]?=some l[i]:=List.getElem?_eq_getElem h
theorem υ{α:Type _}{s t:List α}:(s++t).length=s.length+t.length:=List.length_append
theorem θ{α:Type _}{s t:List α}:(s++t).Nodup↔s.Nodup/\t.Nodup/\∀a∈s,∀b∈t,a≠b:=List.nodup_append
theorem ς{α:Type _}{a:α}:¬a∈([]:List α):=List.not_mem_nil
def Α:=@Or.inl
def Β:=@Or.inr
def Γ:=@if_neg
def Δ:=@if_pos
def Ε:=@World.block_lt_of_cell?
def Ζ:=@List.nodup_cons
def Η:=@List.mem_of_getElem?
def Θ:=@Nat.le_refl
def Ι:=@List.length_set
def Κ:=@World.size_alloc
def Λ:=@List.mem_cons_of_mem
def Μ:=@IntWalk.i64_in
def Ν:=@decide_eq_true
def Ξ:=@decide_eq_false
def Ο:=@decide_eq_true_eq
def Ρ:=@List.getElem?_append_left
def Τ:=@Bool.and_eq_true
def Υ:=@List.append_nil
def Φ:=@List.perm_append_comm
def Χ:=@Nat.le_trans
def Ψ:=@Nat.lt_of_lt_of_le
def Ω:=@List.length_cons
def ϊ:=@List.getElem?_append_right
def ϋ:=@List.append_assoc
def ό:=@List.Perm.refl
def ύ:=@List.getElem?_set
def ώ:=@List.getElem?_set_self
def Ϗ:=@List.getElem?_set_ne
def ϐ:=@List.take_add_one
def ϑ:=@List.length_take
def ϒ:=@List.getElem?_map
def ϓ:=@List.mem_singleton
def ϔ:=@Nat.zero_add
def ϕ:=@Nat.add_zero
def ϖ:=@Nat.lt_or_ge
def ϗ:=@Option.some.injEq
def Ϙ:=@List.getElem_mem
def ϙ:=@Classical.byContradiction
def Ϛ:=@List.eq_nil_of_length_eq_zero
def ϛ:=@List.nil_append
def Ϝ:=@Nat.lt_irrefl
def ϝ:=@Option.map_some
def Ϟ:=@List.drop_eq_getElem_cons
def ϟ:=@beq_iff_eq
def Ϡ:=@List.Perm.trans
def ϡ:=@List.perm_middle
def Ϣ:=@Bool.false_eq_true
def ϣ:=@of_decide_eq_true
def Ϥ:=@List.nodup_nil
end Go.Proofs.YtnpdakpagnpanaaGreat
namespace Go.Proofs.YtnpdakpagnpanaaGreat
open Tryz
structure Cl where
 i:Int
 k:Int
 s:Int
instance:Inhabited Cl:=⟨⟨0,0,0⟩⟩
def Cl.z:Cl:=⟨0,0,0⟩
structure NS where
 hs:List Bool
 cs:List Cl
def NS.c(A:NS)(x:Nat):Cl:=A.cs.getD x Cl.z
def NS.new(n:Nat):NS:=⟨[false],List.replicate n Cl.z⟩
def aY(A:NS)(h:Int):Bool:=decide (1<=h) && decide (h<A.hs.length) && A.hs.getD h.toNat false
def wT(A:NS)(x:Int):Bool:=decide (0<=x) && decide (x<A.cs.length)
def bY(A:NS)(x:Int):Bool:=wT A x && decide (0<(A.c x.toNat).i)
def iW(A:NS)(x:Nat)(c:Cl):NS:=⟨A.hs,A.cs.set x c⟩
def Ee(k1 s1 k2 s2:Int):Bool:=if k1=k2 then decide (s1<s2) else decide (k1<k2)
def dJ(A:NS):Int:=if 65536<A.hs.length then 0 else A.hs.length
def aU(A:NS):NS:=if 65536<A.hs.length then A else⟨A.hs++[true],A.cs⟩
def rG(A:NS)(h x:Int):Bool:=aY A h && wT A x && !bY A x
def aO(A:NS)(h x k s:Int):NS:=if rG A h x then iW A x.toNat ⟨h,k,s⟩ else A
def bg(A:NS)(x:Int):NS:=if bY A x then iW A x.toNat Cl.z else A
def jf(A:NS)(x k s:Int):Bool:=bY A x && !Ee (A.c x.toNat).k (A.c x.toNat).s k s
def aA(A:NS)(x k s:Int):NS:=if jf A x k s then iW A x.toNat ⟨(A.c x.toNat).i,k,s⟩ else A
def gJ(A:NS)(a b:Int):Bool:=aY A a && aY A b && !(a == b)
def az(A:NS)(a b:Int):NS:=if gJ A a b then⟨A.hs.set b.toNat false,A.cs.map λc=>if c.i=b then⟨a,c.k,c.s⟩ else c⟩ else A
def IP(cs:List Cl)(h:Int):Nat:=(cs.filter λc=>decide (c.i=h) && decide (0<h)).length
def dD(A:NS)(h:Int):Nat:=IP A.cs h
def dB(A:NS)(a b:Nat):Prop:=(A.c a).k<(A.c b).k\/(A.c a).k=(A.c b).k/\((A.c a).s<(A.c b).s\/(A.c a).s=(A.c b).s/\a<b)
instance (A:NS) (a b:Nat):Decidable (dB A a b):=by unfold dB;infer_instance
def dA(A:NS)(a b:Int):Bool:=bY A a && bY A b && decide (dB A a.toNat b.toNat)
def KU(A:NS)(h:Int)(b:Option Nat)(x:Nat):Option Nat:=if decide (0<h) && decide ((A.c x).i=h) && (match b with|none=>true|some y=>dA A x y) then some x else b
def dN(A:NS)(h:Int):Option Nat:=(List.range A.cs.length).foldl (KU A h) none
def qp(o:Option Nat):Int:=match o with|some x=>(x:Int)|none=>0
structure NS.Ok(A:NS):Prop where
 h0:1<=A.hs.length
 h1:A.hs.length<=65537
 h2:A.hs.getD 0 false=false
 c1:A.cs.length<=65536
 cell:∀x,x<A.cs.length->((A.c x).i=0/\(A.c x).k=0/\(A.c x).s=0)\/aY A (A.c x).i=true
 key:∀x, -9223372036854775808<=(A.c x).k/\(A.c x).k<=9223372036854775807/\0<=(A.c x).s/\(A.c x).s<=18446744073709551615
theorem aC(A:NS)(h:Int):aY A h=true↔1<=h/\h<A.hs.length/\A.hs.getD h.toNat false=true:=by
 unfold aY;simp[and_assoc]
theorem ic(A:NS)(x:Int):wT A x=true↔0<=x/\x<A.cs.length:=by unfold wT;simp
theorem zV(A:NS)(x:Int):bY A x=true↔0<=x/\x<A.cs.length/\0<(A.c x.toNat).i:=by unfold bY wT;simp[and_assoc]
theorem aj(A:NS)(x:Nat):bY A (x:Int)=true↔x<A.cs.length/\0<(A.c x).i:=by rw[zV];simp
theorem NS.Ok.nat{A:NS}(h:A.Ok)(x:Nat)(hx:x<A.cs.length):0<=(A.c x).i/\(A.c x).i<A.hs.length:=by
 rcases h.cell x hx with h'|h'
 ·have:=h.h0;omega
 ·have:=(aC _ _).1 h';omega
theorem lg(A:NS)(x:Nat)(c:Cl)(y:Nat):(iW A x c).c y=if y=x/\x<A.cs.length then c else A.c y:=by
 unfold iW NS.c;simp only[φ,ύ]
 by_cases h:x=y
 ·subst h
  by_cases hx:x<A.cs.length
  ·simp[hx]
  ·simp[hx,List.getElem?_eq_none (Nat.le_of_not_lt hx)]
 ·rw[Γ h,Γ (λe=>h e.1.symm)]
theorem fO(A:NS)(x:Nat)(c:Cl):(iW A x c).cs.length=A.cs.length:=by unfold iW;simp
theorem xK(A:NS)(x:Nat)(c:Cl)(h:Int):aY (iW A x c) h=aY A h:=rfl
theorem NS.Ok.with{A:NS}(h:A.Ok)(x:Nat)(c:Cl)(hc:(c.i=0/\c.k=0/\c.s=0)\/aY A c.i=true)(hk:-9223372036854775808<=c.k/\c.k<=9223372036854775807/\0<=c.s/\c.s<=18446744073709551615):(iW A x c).Ok:=by
 refine⟨h.h0,h.h1,h.h2,by rw[fO];exact h.c1,λy hy=>?_,λy=>?_⟩
 ·rw[fO] at hy;rw[lg,xK]
  split
  ·exact hc
  ·exact h.cell y hy
 ·rw[lg];split
  ·exact hk
  ·exact h.key y
theorem NS.tV(n x:Nat):(NS.new n).c x=Cl.z:=by
 unfold NS.new NS.c;rw[φ,List.getElem?_replicate];split<;>rfl
theorem NS.Mq(n:Nat)(hn:n<=65536):(NS.new n).Ok:=by
 refine⟨by simp[NS.new],by simp[NS.new],rfl,by simp[NS.new];exact hn,λx _=>Α ?_,λx=>?_⟩
 ·rw[NS.tV];exact⟨rfl,rfl,rfl⟩
 ·rw[NS.tV];exact⟨δ,δ,δ,δ⟩
theorem TV{A:NS}(h:A.Ok):(aU A).Ok:=by
 unfold aU;split
 ·exact h
 ·rename_i hl
  have h0:=h.h0;refine⟨σ,ζ,?_,h.c1,λx hx=>?_,h.key⟩
  ·have:=h.h2;simp only[φ] at this ⊢;rw[Ρ ω];exact this
  ·rcases h.cell x hx with h'|h'
   ·exact Α h'
   ·refine Β ?_;have h2:=(aC _ _).1 h';refine(aC _ _).2 ⟨h2.1,by show(A.c x).i<((A.hs++[true]).length:Int);rw[υ];have:=h2.2.1;omega,?_⟩;have h3:=h2.2.2;simp only[φ] at h3 ⊢;rw[Ρ (by show(A.c x).i.toNat<A.hs.length;omega)];exact h3
theorem fP(A:NS)(h x:Int):rG A h x=true↔aY A h=true/\wT A x=true/\bY A x=false:=by unfold rG;simp[and_assoc]
theorem VP{A:NS}(h:A.Ok)(g x k s:Int)(hk:-9223372036854775808<=k/\k<=9223372036854775807/\0<=s/\s<=18446744073709551615):(aO A g x k s).Ok:=by
 unfold aO;split
 ·rename_i hp
  exact h.with _ _ (Β ((fP _ _ _).1 hp).1) hk
 ·exact h
theorem Ta{A:NS}(h:A.Ok)(x:Int):(bg A x).Ok:=by
 unfold bg;split
 ·exact h.with _ _ (Α ⟨rfl,rfl,rfl⟩) ⟨δ,δ,δ,δ⟩
 ·exact h
theorem iL{A:NS}(h:A.Ok){x:Int}(hx:bY A x=true):aY A (A.c x.toNat).i=true:=by
 have h1:=(zV _ _).1 hx;rcases h.cell x.toNat ω with h'|h'
 ·omega
 ·exact h'
theorem XX{A:NS}(h:A.Ok)(x k s:Int)(hk:-9223372036854775808<=k/\k<=9223372036854775807/\0<=s/\s<=18446744073709551615):(aA A x k s).Ok:=by
 unfold aA;split
 ·rename_i hp
  unfold jf at hp;simp only[Τ] at hp;exact h.with _ _ (Β (iL h hp.1)) hk
 ·exact h
theorem dG(A:NS)(a b:Int):gJ A a b=true↔aY A a=true/\aY A b=true/\a≠b:=by unfold gJ;simp[and_assoc]
theorem xO{A:NS}{a b:Int}(hj:gJ A a b=true)(x:Nat):(az A a b).c x=if(A.c x).i=b/\x<A.cs.length then⟨a,(A.c x).k,(A.c x).s⟩ else A.c x:=by
 unfold az;rw[Δ hj];unfold NS.c;simp only[φ,ϒ]
 by_cases hx:x<A.cs.length
 ·simp only[ε hx,ϝ,Option.getD_some,hx,and_true]
 ·simp[List.getElem?_eq_none (Nat.le_of_not_lt hx),hx]
theorem eY(A:NS)(a b:Int):(az A a b).cs.length=A.cs.length:=by unfold az;split<;>simp
theorem qH{A:NS}{a b:Int}(hj:gJ A a b=true)(h:Int):aY (az A a b) h=(aY A h && !(h == b)):=by
 have h2:=(dG _ _ _).1 hj;have hb:=(aC _ _).1 h2.2.1;unfold az;rw[Δ hj];unfold aY;simp only[Ι,φ,ύ]
 by_cases hh:h=b
 ·subst hh;rw[Δ rfl,Δ ω];simp
 ·by_cases h1:1<=h
  ·rw[Γ ω];simp[hh]
  ·simp[h1]
theorem Vs{A:NS}(h:A.Ok)(a b:Int):(az A a b).Ok:=by
 by_cases hj:gJ A a b=true
 ·have h2:=(dG _ _ _).1 hj;have hb:=(aC _ _).1 h2.2.1;have e:(az A a b).hs=A.hs.set b.toNat false:=by unfold az;rw[Δ hj]
  refine⟨by rw[e];simp;exact h.h0,by rw[e];simp;exact h.h1,?_,by rw[eY];exact h.c1,λx hx=>?_,λx=>?_⟩
  ·rw[e];have:=h.h2;simp only[φ,ύ] at this ⊢;rw[Γ ω];exact this
  ·rw[eY] at hx;rw[xO hj,qH hj]
   split
   ·refine Β ?_;simp only;rw[h2.1];simp[h2.2.2]
   ·rename_i hn
    rcases h.cell x hx with h'|h'
    ·exact Α h'
    ·refine Β ?_;rw[h'];simp only[not_and,Bool.true_and,Bool.not_eq_true',beq_eq_false_iff_ne] at hn ⊢;exact λe=>hn e hx
  ·rw[xO hj];split
   ·exact h.key x
   ·exact h.key x
 ·unfold az;rw[Γ hj];exact h
/-! ### how many are in a heap -/
theorem Wo(cs:List Cl)(h:Int):IP cs h<=cs.length:=List.length_filter_le _ _
theorem Sl(cs:List Cl)(x:Nat)(c:Cl)(h:Int)(hx:x<cs.length) :
  IP (cs.set x c) h+(if(cs.getD x Cl.z).i=h/\0<h then 1 else 0)=IP cs h+(if c.i=h/\0<h then 1 else 0):=by
 unfold IP
 induction cs generalizing x with
 |nil=>simp at hx
 |cons d r ih=>
  cases x with
  |zero=>
   simp only[List.set_cons_zero,List.filter_cons,List.getD_cons_zero];have e1:∀c:Cl,(decide (c.i=h) && decide (0<h))=decide (c.i=h/\0<h):=λc=>by by_cases a:c.i=h<;>by_cases b:0<h<;>simp[a,b]
   have e2:∀(p:Prop) [Decidable p] (d:Cl) (l:List Cl),(if decide p=true then d::l else l).length=l.length+(if p then 1 else 0):=λp _ d l=>by by_cases hp:p<;>simp[hp]
   simp only[e1,e2];omega
  |succ x=>
   have:=ih x (by simpa using hx);simp only[List.set_cons_succ,List.filter_cons,List.getD_cons_succ]
   split<;>simp at this ⊢<;>omega
theorem nT(A:NS)(x:Nat)(c:Cl)(h:Int)(hx:x<A.cs.length) :
  dD (iW A x c) h+(if(A.c x).i=h/\0<h then 1 else 0)=dD A h+(if c.i=h/\0<h then 1 else 0):=Sl A.cs x c h hx
theorem U7{cs:List Cl}{h:Int}:0<IP cs h↔∃x,x<cs.length/\(cs.getD x Cl.z).i=h/\0<h:=by
 unfold IP;rw[List.length_pos_iff_exists_mem];constructor
 ·rintro⟨c,hc⟩;obtain⟨hm,hp⟩:=List.mem_filter.1 hc;obtain⟨x,hx,rfl⟩:=List.mem_iff_getElem.1 hm;simp only[Τ,Ο] at hp;exact⟨x,hx,by simpa[φ,hx] using hp.1,hp.2⟩
 ·rintro⟨x,hx,h1,h2⟩;refine⟨cs[x],List.mem_filter.2 ⟨Ϙ hx,?_⟩⟩;simp only[φ,ε hx,Option.getD_some] at h1;simp[h1,h2]
theorem fM{A:NS}{h:Int}:0<dD A h↔∃x,x<A.cs.length/\(A.c x).i=h/\0<h:=U7
theorem zM{A:NS}(hA:A.Ok)(h:Int):dD A h<=65536:=Χ (Wo _ _) hA.c1
theorem OL{A:NS}(hA:A.Ok){h:Int}(hh:aY A h=false):dD A h=0:=by
 rcases Nat.eq_zero_or_pos (dD A h) with h'|h'
 ·exact h'
 ·obtain⟨x,hx,h1,h2⟩:=fM.1 h';rcases hA.cell x hx with h3|h3
  ·omega
  ·rw[h1,hh] at h3;cases h3
theorem DR{A:NS}(hA:A.Ok){a b:Int}(hj:gJ A a b=true)(h:Int):dD (az A a b) h=if h=a then dD A a+dD A b else if h=b then 0 else dD A h:=by
 have h2:=(dG _ _ _).1 hj;have ha:=(aC _ _).1 h2.1;have hb:=(aC _ _).1 h2.2.1;have hne:=h2.2.2;unfold dD az;rw[Δ hj];unfold IP;simp only;generalize A.cs=cs
 induction cs with
 |nil=>split<;>simp
 |cons d r ih=>
  simp only[List.map_cons,List.filter_cons]
  by_cases hd:d.i=b
  ·have e1:d.i≠a:=λe=>hne (e.symm.trans hd)
   by_cases h1:h=a
   ·subst h1;have:¬b=h:=λe=>hne e.symm;simp only[if_true,hd] at ih ⊢;simp[this,show(0:Int)<h by omega,show(0:Int)<b by omega] at ih ⊢;omega
   ·by_cases h3:h=b
    ·subst h3;simp only[if_true,hd,Γ h1] at ih ⊢;simp[Ne.symm h1,λe:a=h=>h1 e.symm,show ¬a=h from λe=>h1 e.symm] at ih ⊢;exact ih
    ·simp only[Γ h1,Γ h3,hd] at ih ⊢;simp[show ¬a=h from λe=>h1 e.symm,show ¬b=h from λe=>h3 e.symm] at ih ⊢;exact ih
  ·by_cases h1:h=a
   ·subst h1;simp only[if_true,Γ hd] at ih ⊢
    by_cases h4:d.i=h
    ·simp[h4,hd,show(0:Int)<h by omega,show ¬h=b from hne] at ih ⊢;omega
    ·simp[h4,hd] at ih ⊢;exact ih
   ·by_cases h3:h=b
    ·subst h3;simp only[if_true,Γ h1,Γ hd] at ih ⊢;simp[hd] at ih ⊢;exact ih
    ·simp only[Γ h1,Γ h3,Γ hd] at ih ⊢
     by_cases h4:d.i=h/\0<h
     ·simp[h4] at ih ⊢;exact ih
     ·have h5:(decide (d.i=h) && decide (0<h))=false:=by simpa using h4
      simp only[h5] at ih ⊢;exact ih
theorem QJ{A:NS}(h:Int):dD (aU A) h=dD A h:=by unfold aU;split<;>rfl
/-! ### the order of slots -/
theorem dI{A:NS}{a b c:Nat}(h:dB A a b)(h':dB A b c):dB A a c:=by unfold dB at *;omega
theorem pE{A:NS}{a:Nat}:¬dB A a a:=by unfold dB;omega
theorem jc{A:NS}{a b:Nat}(h:a≠b):dB A a b\/dB A b a:=by unfold dB;omega
theorem p9{A:NS}{a b:Nat}(h:dB A a b):¬dB A b a:=λh'=>pE (dI h h')
theorem mi(A:NS)(a b:Nat):dA A (a:Int) (b:Int)=(bY A a && bY A b && decide (dB A a b)):=by unfold dA;simp
def Rx(A:NS)(h:Int)(l:List Nat)(m:Nat):Prop:=m∈l/\(A.c m).i=h/\∀y,y∈l->(A.c y).i=h->y=m\/dB A m y
theorem y9(A:NS)(h:Int)(hh:0<h):∀(l:List Nat),(∀x∈l,x<A.cs.length)->∀(pre:List Nat),(∀x∈pre,x<A.cs.length)->∀o:Option Nat,
  (match o with|some m=>Rx A h pre m|none=>∀y∈pre,(A.c y).i≠h)->
  (match l.foldl (KU A h) o with|some m=>Rx A h (pre++l) m|none=>∀y∈pre++l,(A.c y).i≠h)
 | [],_,pre,_,o,ho=>by simpa using ho
 |x::l,hl,pre,hp,o,ho=>by
  have hx:=hl x σ;have step:(match KU A h o x with|some m=>Rx A h (pre++[x]) m|none=>∀y∈pre++[x],(A.c y).i≠h):=by
   unfold KU
   by_cases hi:(A.c x).i=h
   ·cases o with
    |none=>
     simp only at ho;simp only[hi,hh,decide_true,Bool.and_self,if_true];refine⟨σ,hi,λy hy he=>?_⟩;rcases τ.1 hy with hy|hy
     ·exact absurd he (ho y hy)
     ·exact Α (by simpa using hy)
    |some m=>
     simp only at ho;obtain⟨h1,h2,h3⟩:=ho;have hm:=hp m h1;have hin:bY A (x:Int)=true:=(aj A x).2 ⟨hx,ω⟩;have him:bY A (m:Int)=true:=(aj A m).2 ⟨hm,ω⟩;simp only[hi,hh,decide_true,Bool.and_self,Bool.true_and,mi,hin,him,Ο]
     by_cases hlt:dB A x m
     ·rw[Δ hlt];refine⟨σ,hi,λy hy he=>?_⟩;rcases τ.1 hy with hy|hy
      ·rcases h3 y hy he with rfl|h4
       ·exact Β hlt
       ·exact Β (dI hlt h4)
      ·exact Α (by simpa using hy)
     ·rw[Γ hlt];refine⟨by simp[h1],h2,λy hy he=>?_⟩;rcases τ.1 hy with hy|hy
      ·exact h3 y hy he
      ·simp at hy;subst hy
       by_cases e:y=m
       ·exact Α e
       ·rcases jc (A:=A) e with h4|h4
        ·exact absurd h4 hlt
        ·exact Β h4
   ·simp only[hi,decide_false,Bool.and_false,Bool.false_and,Ϣ,if_false];cases o with
    |none=>
     simp only at ho ⊢;intro y hy;rcases τ.1 hy with hy|hy
     ·exact ho y hy
     ·simp at hy;subst hy;exact hi
    |some m=>
     simp only at ho ⊢;obtain⟨h1,h2,h3⟩:=ho;refine⟨by simp[h1],h2,λy hy he=>?_⟩;rcases τ.1 hy with hy|hy
     ·exact h3 y hy he
     ·simp at hy;subst hy;exact absurd he hi
  have:=y9 A h hh l (λy hy=>hl y (by simp[hy])) (pre++[x]) (λy hy=>by rcases τ.1 hy with hy|hy;exact hp y hy;simp at hy;subst hy;exact hx) _ step;simpa using this
def VN(A:NS)(h:Int)(m:Nat):Prop:=m<A.cs.length/\(A.c m).i=h/\∀y,y<A.cs.length->(A.c y).i=h->y=m\/dB A m y
theorem iY{A:NS}{h:Int}(hh:0<h){m:Nat}:dN A h=some m↔VN A h m:=by
 have:=y9 A h hh (List.range A.cs.length) (λx hx=>by simpa using hx) [] σ none σ;simp only[ϛ] at this
 change (match dN A h with|some m=>_|none=>_) at this
 constructor
 ·intro e;rw[e] at this;obtain⟨h1,h2,h3⟩:=this;exact⟨by simpa using h1,h2,λy hy he=>h3 y (by simpa using hy) he⟩
 ·rintro⟨h1,h2,h3⟩;cases e:dN A h with
  |none=>rw[e] at this;exact absurd h2 (this m (by simpa using h1))
  |some m'=>
   rw[e] at this;obtain⟨k1,k2,k3⟩:=this;rcases h3 m' (by simpa using k1) k2 with rfl|h4
   ·rfl
   ·rcases k3 m (by simpa using h1) h2 with rfl|h5
    ·rfl
    ·exact absurd h4 (p9 h5)
theorem jF{A:NS}{h:Int}(hh:0<h):dN A h=none↔dD A h=0:=by
 have:=y9 A h hh (List.range A.cs.length) (λx hx=>by simpa using hx) [] σ none σ;simp only[ϛ] at this
 change (match dN A h with|some m=>_|none=>_) at this
 cases e:dN A h with
 |none=>
  rw[e] at this;refine⟨λ_=>?_,λ_=>rfl⟩;rcases Nat.eq_zero_or_pos (dD A h) with h'|h'
  ·exact h'
  ·obtain⟨x,hx,h1,_⟩:=fM.1 h';exact absurd h1 (this x (by simpa using hx))
 |some m=>
  rw[e] at this;obtain⟨k1,k2,_⟩:=this;refine⟨λh=>by(cases h),λh0=>?_⟩;have:0<dD A h:=fM.2 ⟨m,by simpa using k1,k2,hh⟩;omega
theorem qm{A:NS}{h:Int}(hh:¬0<h):dN A h=none:=by
 unfold dN;generalize List.range A.cs.length=l;have:∀l:List Nat,l.foldl (KU A h) none=none:=λl=>by
  induction l with
  |nil=>rfl
  |cons x l ih=>rw[List.foldl_cons,show KU A h none x=none by unfold KU;simp[hh]];exact ih
 exact this l
theorem Sw{A:NS}{h:Int}(hh:¬0<h):dD A h=0:=by
 rcases Nat.eq_zero_or_pos (dD A h) with h'|h'
 ·exact h'
 ·obtain⟨x,_,_,h2⟩:=fM.1 h';exact absurd h2 hh
theorem mD{A A':NS}{x y:Nat}(h:dB A x y)(hy:A'.c y=A.c y)(hx:(A'.c x).k<(A.c x).k\/(A'.c x).k=(A.c x).k/\(A'.c x).s<=(A.c x).s):dB A' x y:=by
 unfold dB at *;rw[hy];omega
theorem uJ{A:NS}{x k s:Int}(h:jf A x k s=true):k<(A.c x.toNat).k\/k=(A.c x.toNat).k/\s<=(A.c x.toNat).s:=by
 unfold jf Ee at h;simp only[Τ,Bool.not_eq_true'] at h;have h2:=h.2
 split at h2
 ·simp at h2;omega
 ·simp at h2;omega
theorem uo{A:NS}{x:Nat}{k s:Int}(hB:jf A x k s=true)(hx:x<A.cs.length)(y:Nat):(aA A x k s).c y=if y=x then⟨(A.c x).i,k,s⟩ else A.c y:=by
 unfold aA;rw[Δ hB,π,lg]
 by_cases e:y=x
 ·rw[Δ ⟨e,hx⟩,Δ e]
 ·rw[Γ (λh=>e h.1),Γ e]
theorem iH{A:NS}{x:Nat}{k s:Int}(hB:jf A x k s=true)(hx:x<A.cs.length)(y:Nat):((aA A x k s).c y).i=(A.c y).i:=by
 rw[uo hB hx];split
 ·rename_i e;rw[e]
 ·rfl
theorem gD(A:NS)(x k s:Int):(aA A x k s).cs.length=A.cs.length:=by unfold aA;split;exact fO _ _ _;rfl
theorem lQ(A:NS)(x k s:Int):(aA A x k s).hs=A.hs:=by unfold aA;split<;>rfl
theorem yA{A:NS}{x:Nat}(hB:bY A x=true)(y:Nat):(bg A x).c y=if y=x then Cl.z else A.c y:=by
 have hx:=((aj A x).1 hB).1;unfold bg;rw[Δ hB,π,lg]
 by_cases e:y=x
 ·rw[Δ ⟨e,hx⟩,Δ e]
 ·rw[Γ (λh=>e h.1),Γ e]
theorem fD(A:NS)(x:Int):(bg A x).cs.length=A.cs.length:=by unfold bg;split;exact fO _ _ _;rfl
theorem iV(A:NS)(x:Int):(bg A x).hs=A.hs:=by unfold bg;split<;>rfl
theorem oO{A:NS}{a b:Int}(hj:gJ A a b=true)(x:Nat):(az A a b).c x=⟨if(A.c x).i=b/\x<A.cs.length then a else(A.c x).i,(A.c x).k,(A.c x).s⟩:=by
 rw[xO hj];split<;>rfl
theorem nY{A:NS}{a b:Int}(hj:gJ A a b=true)(x y:Nat):dB (az A a b) x y↔dB A x y:=by
 unfold dB;rw[oO hj,oO hj]
theorem fE{A A':NS}{a b:Nat}(ha:A'.c a=A.c a)(hb:A'.c b=A.c b):dB A' a b↔dB A a b:=by unfold dB;rw[ha,hb]
end Go.Proofs.YtnpdakpagnpanaaGreat
namespace Go.Proofs.YtnpdakpagnpanaaGreat
open Tryz
open Go Go.RowKit
theorem nN{w:World}{base base' size n:Nat}{e:TypeId}{v:Value}{xs:List Value}(h:w.ownsRow base e size v n xs)(hb:base'<=base):w.ownsRow base' e size v n xs:=by
 refine⟨h.1,?_⟩;rcases h.2 with hn|⟨g,cap,cur,rfl,hb',hg,rest⟩
 ·exact Α hn
 ·exact Β ⟨g,cap,cur,rfl,Χ hb hb',hg,rest⟩
theorem Ny(W:World)(us:List Value)(e:TypeId)(j:Nat)(u:Value)(hj:us[j]?=some u):(W.alloc (.cells us.toArray e)).cell? ((⟨W.heap.size,0,none⟩:Addr).add j)=some u:=by
 have e1:((⟨W.heap.size,0,none⟩:Addr).add j)=⟨W.heap.size,j,none⟩:=by
  unfold Addr.add;split
  ·subst_vars;rfl
  ·simp
 rw[e1];have e2:(W.alloc (.cells us.toArray e)).heap[W.heap.size]?=some (.cells us.toArray e):=by
  show(W.heap.push _)[W.heap.size]?=_
  simp
 unfold World.cell?;simp only[e2];simpa using hj
theorem bI{P:Program}{ops:Array Oper}{rest:List Oper}{o:Oper}{a:Act}{Q:Exit->Act->World->Prop}{W:World}(hgd:o.guard=none)(s x:Operand)(t:TypeId)
  (ho:o.op=.call { callee:=.builtin .append,args:=#[s,x],argTypes:=#[t,t] })
  (base:Nat) (e:TypeId) (z:Value) (size bytes:Nat) (ht:P.underlying t=some (.slice e)) (hinfo:(P.info? e).map (λi=>(i.zero,i.size,i.bytes))=some (some z,size,bytes))
  (hzs:z.cells.size=size) (hsz:0<size) (v:Value) (n:Nat) (xs:List Value) (hs:a.eval s=v) (hown:W.ownsRow base e size v n xs)
  (us:List Value) (hus:us.length=size) (h1:∀u∈us,u.oneCell'=true) (hx:a.eval x=.slice (some ⟨W.heap.size,0,none⟩) 1 1)
  (hn:n+1<=maxLen) (hbytes:(n+1)*bytes<=140737488355328) (hbase:base<=W.heap.size)
  (h:∀v' w',w'.ownsRow base e size v' (n+1) (xs++us)->ae v.ownBlock.toList W w'->(v'.ownBlock=v.ownBlock\/∀k,v'.ownBlock=some k->W.heap.size<k)->wpList P ops Q rest (a.put o.dst v') w') :
  wpList P ops Q (o::rest) a (W.alloc (.cells us.toArray e)):=by
 obtain⟨i,hi,hz0,hz1,hz2⟩:=info_parts hinfo;have hcell:=λj u hj=>Ny W us e j u hj;rcases hown.2 with⟨rfl,rfl⟩|⟨g,cap,cur,rfl,hbg,hg,hnc,hcm,hcs,htk⟩
 ·have hxs:xs=[]:=Ϛ (by rw[hown.1,Nat.zero_mul]);subst hxs;refine wpList_append_grows _ hgd s x t ho e i z size bytes ht hi hz0 hz1 hz2 hzs hsz none 0 0 [] hs (λ_=>⟨rfl,rfl⟩) σ (λb hb=>by cases hb) ⟨W.heap.size,0,none⟩ 1 1 us hx ω hcell h1 ω hn hbytes ?_;intro v' w' ho' hgr;refine h v' w' (nN ho' ζ) (((ae.refl _ _).alloc _).grown hgr (λk hk=>by cases hk)) (Β λk hk=>?_);have:=(ho'.lt k hk).1;simp at this;omega
 ·have hown':=hown.alloc (.cells us.toArray e)
  by_cases hfit:n+1<=cap
  ·refine wpList_append_fits _ hgd s x t ho base e i size ht hi hz1 g n cap xs hs hown' ⟨W.heap.size,0,none⟩ 1 1 us hx ω hcell h1 hfit ?_;intro w' ho' hgr;exact h _ w' ho' (((ae.refl _ _).alloc _).grown hgr (λk hk=>Α (by cases hk;simp[Value.ownBlock]))) (Α rfl)
  ·refine wpList_append_grows _ hgd s x t ho e i z size bytes ht hi hz0 hz1 hz2 hzs hsz (some ⟨g,0,none⟩) n cap xs hs (λhb=>by cases hb) hown.1 (λb hb j u hj=>?_) ⟨W.heap.size,0,none⟩ 1 1 us hx ω hcell h1 ω hn hbytes ?_
   ·cases hb;exact hown'.cells rfl j u hj
   ·intro v' w' ho' hgr;refine h v' w' (nN ho' ζ) (((ae.refl _ _).alloc _).grown hgr (λk hk=>by cases hk)) (Β λk hk=>?_);have:=(ho'.lt k hk).1;simp at this;omega
theorem ak{w w':World}{S:List Nat}{base size n:Nat}{e:TypeId}{v:Value}{xs:List Value}(h:w.ownsRow base e size v n xs)(hu:ae S w w')(hne:∀k,v.ownBlock=some k->k∉S):w'.ownsRow base e size v n xs:=by
 refine⟨h.1,?_⟩;rcases h.2 with hn|⟨g,cap,cur,rfl,hb,hg,rest⟩
 ·exact Α hn
 ·have hlt:=h.lt g rfl;exact Β ⟨g,cap,cur,rfl,hb,by rw[hu.block g hlt.2 (hne g rfl)];exact hg,rest⟩
theorem ae.own{w0 w w':World}{S:List Nat}{base size n:Nat}{e:TypeId}{v:Value}{xs:List Value}(h:ae S w0 w)(ho:w.ownsRow base e size v n xs)(hb:w0.heap.size<=base)(hu:ae v.ownBlock.toList w w'):ae S w0 w':=
 h.joined hu (λx hx=>Β (Χ hb (ho.lt x (by simpa using hx)).1))
theorem fQ{w:World}{base size n:Nat}{e:TypeId}{v:Value}{xs:List Value}(h:w.ownsRow base e size v n xs)(hn:0<n) :
  ∃g cap,v=.slice (some ⟨g,0,none⟩) n cap/\base<=g/\g<w.heap.size/\n<=cap/\cap<=9223372036854775807/\(∀j u,xs[j]?=some u->w.cell? ⟨g,j,none⟩=some u)/\∀j,w.frozen? ⟨g,j,none⟩=false:=by
 rcases h.2 with⟨_,h0⟩|⟨g,cap,cur,rfl,hb,hg,hnc,hcm,_⟩
 ·omega
 ·refine⟨g,cap,rfl,hb,(h.lt g rfl).2,hnc,by unfold maxLen at hcm;exact hcm,λj u hj=>?_,λj=>h.frozenAt j⟩;have hlt:j<xs.length:=by
   rcases ϖ j xs.length with h'|h'
   ·exact h'
   ·rw[List.getElem?_eq_none h'] at hj;cases hj
  rw[h.cellAt j (by rw[←h.1];exact hlt)];exact hj
theorem rZ(W:World)(xs:List Value)(e:TypeId)(base size n:Nat)(hl:xs.length=n*size)(hb:base<=W.heap.size)(hn:n<=maxLen) :
  (W.alloc (.cells xs.toArray e)).ownsRow base e size (.slice (some ⟨W.heap.size,0,none⟩) n n) n xs:=by
 refine⟨hl,Β ⟨W.heap.size,n,xs.toArray,rfl,hb,?_,Θ _,hn,by simpa using hl,?_⟩⟩
 ·show(W.heap.push _)[W.heap.size]?=_;simp
 ·rw[←hl];simp
theorem aV{w:World}{base size n:Nat}{e:TypeId}{v:Value}{xs:List Value}(h:w.ownsRow base e size v n xs):∃a cap,v=.slice a n cap/\cap<=9223372036854775807:=by
 rcases h.2 with⟨rfl,rfl⟩|⟨g,cap,cur,rfl,_,_,_,hc,_⟩
 ·exact⟨none,0,rfl,ω⟩
 ·exact⟨_,cap,rfl,by unfold maxLen at hc;exact hc⟩
def aS(w:World)(b:Nat)(e:TypeId)(m:Nat)(f:Nat->Value):Prop:=
 ∃arr:Array Value,w.heap[b]?=some (.cells arr e (0,0))/\arr.size=m/\∀j,j<m->arr[j]?=some (f j)
theorem aS.lt{w:World}{b m:Nat}{e:TypeId}{f:Nat->Value}(h:aS w b e m f):b<w.heap.size:=by
 obtain⟨arr,h1,_⟩:=h;rcases ϖ b w.heap.size with h'|h'
 ·exact h'
 ·rw[Array.getElem?_eq_none h'] at h1;cases h1
theorem aS.cell{w:World}{b m:Nat}{e:TypeId}{f:Nat->Value}(h:aS w b e m f)(j:Nat)(hj:j<m):w.cell? ⟨b,j,none⟩=some (f j):=by
 obtain⟨arr,h1,h2,h3⟩:=h;unfold World.cell?;simp only[h1];simpa using h3 j hj
theorem aS.cellAt{w:World}{b m:Nat}{e:TypeId}{f:Nat->Value}{v:Value}(h:aS w b e m f)(j:Nat)(hj:j<m)(hv:f j=v):w.cell? ⟨b,j,none⟩=some v:=by rw[←hv];exact h.cell j hj
theorem aS.free{w:World}{b m:Nat}{e:TypeId}{f:Nat->Value}(h:aS w b e m f)(j:Nat):w.frozen? ⟨b,j,none⟩=false:=by
 obtain⟨arr,h1,h2,h3⟩:=h;simp[World.frozen?,h1]
theorem aS.same{w w':World}{b m:Nat}{e:TypeId}{f:Nat->Value}(h:aS w b e m f)(hb:w'.heap[b]?=w.heap[b]?):aS w' b e m f:=by
 obtain⟨arr,h1,h2,h3⟩:=h;exact⟨arr,hb.trans h1,h2,h3⟩
theorem aS.upd{w w':World}{S:List Nat}{b m:Nat}{e:TypeId}{f:Nat->Value}(h:aS w b e m f)(hu:ae S w w')(hn:b∉S):aS w' b e m f:=h.same (hu.block b h.lt hn)
theorem aS.ext{w:World}{b m:Nat}{e:TypeId}{f g:Nat->Value}(h:aS w b e m f)(hg:∀j,j<m->f j=g j):aS w b e m g:=by
 obtain⟨arr,h1,h2,h3⟩:=h;exact⟨arr,h1,h2,λj hj=>by rw[h3 j hj,hg j hj]⟩
theorem aS.set{w:World}{b m:Nat}{e:TypeId}{f:Nat->Value}(h:aS w b e m f)(j:Nat)(v:Value) :
  aS (w.setCell ⟨b,j,none⟩ v) b e m (λi=>if i=j then v else f i):=by
 obtain⟨arr,h1,h2,h3⟩:=h;refine⟨arr.setIfInBounds j v,?_,by simp[h2],λi hi=>?_⟩
 ·simp[World.setCell,Array.getElem?_modify,h1]
 ·rw[Array.getElem?_setIfInBounds]
  by_cases hij:j=i
  ·subst hij;simp[h2,hi]
  ·rw[Γ hij];show _=some (if i=j then v else f i);rw[Γ (λe=>hij e.symm)];exact h3 i hi
theorem aS.far{w:World}{b m:Nat}{e:TypeId}{f:Nat->Value}(h:aS w b e m f)(a:Addr)(v:Value)(hn:b≠a.block):aS (w.setCell a v) b e m f:=
 h.same (Below.heap_setCell _ _ _ _ hn)
theorem aS.drew{w:World}{b m:Nat}{e:TypeId}{f:Nat->Value}(h:aS w b e m f):aS w.drew b e m f:=h
theorem aS.alloc{w:World}{b m:Nat}{e:TypeId}{f:Nat->Value}(h:aS w b e m f)(o:Obj):aS (w.alloc o) b e m f:=h.same (Below.heap_alloc _ _ _ h.lt)
theorem eZ(w:World)(l:List Value)(e:TypeId):aS (w.alloc (.cells l.toArray e)) w.heap.size e l.length (λj=>l.getD j undef):=by
 refine⟨l.toArray,?_,σ,λj hj=>?_⟩
 ·show(w.heap.push _)[w.heap.size]?=_;simp
 ·simp[hj,φ]
theorem KF{w:World}{base size n cap g:Nat}{e:TypeId}{xs:List Value}(h:w.ownsRow base e size (.slice (some ⟨g,0,none⟩) n cap) n xs)(hcap:cap=n)(hn:n=0->xs=[]) :
  aS w g e (n*size) (λj=>xs.getD j undef):=by
 subst hcap;rcases h.2 with⟨h1,h0⟩|⟨g',cap',cur,h1,_,hg,_,_,hs,ht⟩
 ·cases h1
 ·simp only[Value.slice.injEq,ϗ,Addr.mk.injEq,and_true,true_and] at h1;obtain⟨rfl,rfl⟩:=h1;refine⟨cur,hg,hs,λj hj=>?_⟩;have e1:cur.toList=xs:=by rw[←ht,List.take_of_length_le (by simp[hs])]
  rw[←e1];have hj':j<cur.toList.length:=by simp[hs];exact hj
  simp[φ];rw[Array.getElem?_eq_getElem (by simpa using hj')];rfl
theorem wpList_make_row{P:Program}{w:World}{ops:Array Oper}{rest:List Oper}{o:Oper}{a:Act}{Q:Exit->Act->World->Prop}
  (hg:o.guard=none) (l:Operand) (t:TypeId) (hop:o.op=Op.makeSlice t l l) (e:TypeId) (z:Value) (size bytes:Nat) (h1:P.underlying t=some (.slice e))
  (hinfo:(P.info? e).map (λi=>(i.zero,i.size,i.bytes))=some (some z,size,bytes)) (n:Nat) (hl:a.eval l=.int .i64 (n:Int)) (b2:bytes*n<=281474976710656) (b3:n<=maxLen)
  (hK:∀w',aS w' w.heap.size e (n*size) (λj=>(madeCells z.cells (n*size)).toList.getD j undef)->ae [] w w'->wpList P ops Q rest (a.put o.dst (.slice (some ⟨w.heap.size,0,none⟩) n n)) w') :
  wpList P ops Q (o::rest) a w:=by
 obtain⟨i,hi,hz0,hz1,hz2⟩:=info_parts hinfo
 exact wpList_make_full w hg l l t hop w.heap.size e i z size h1 hi hz0 hz1 .i64 .i64 n n n hl hl rfl rfl (by rw [hz2];exact b2) b3 (Θ _) (λw' ho hgr=>
  hK w' (KF ho rfl (λh0=>Ϛ (by rw [ho.1,h0,Nat.zero_mul]))) ((ae.refl [] w).grown hgr (λk hk=>by cases hk)))
def jk(w:World)(lo:Nat)(v:Value)(n:Nat)(xs:List Value):Prop:=
 (v=.slice none 0 0/\n=0/\xs=[])\/
 ∃g cap,v=.slice (some ⟨g,0,none⟩) n cap/\n<=cap/\cap<=9223372036854775807/\lo<=g/\g<w.heap.size/\∀j u,xs[j]?=some u->w.cell? ⟨g,j,none⟩=some u
theorem jk.open{w:World}{lo n:Nat}{v:Value}{xs:List Value}(h:jk w lo v n xs) :
  ∃a cap,v=.slice a n cap/\cap<=9223372036854775807/\n<=cap/\(0<n->∃g,a=some ⟨g,0,none⟩/\lo<=g/\g<w.heap.size/\∀j u,xs[j]?=some u->w.cell? ⟨g,j,none⟩=some u):=by
 rcases h with⟨rfl,rfl,rfl⟩|⟨g,cap,rfl,h1,h2,h3⟩
 ·exact⟨none,0,rfl,ω,ω,λh=>ω⟩
 ·exact⟨_,cap,rfl,h2,h1,λ_=>⟨g,rfl,h3⟩⟩
theorem jk.uU{w:World}{base size n:Nat}{e:TypeId}{v:Value}{xs:List Value}(h:w.ownsRow base e size v n xs):jk w base v n xs:=by
 rcases h.2 with⟨rfl,rfl⟩|⟨g,cap,cur,rfl,hb,hg,hn,hc,_⟩
 ·exact Α ⟨rfl,rfl,Ϛ (by rw[h.1,Nat.zero_mul])⟩
 ·refine Β ⟨g,cap,rfl,hn,by unfold maxLen at hc;exact hc,hb,(h.lt g rfl).2,λj u hj=>?_⟩;have hlt:j<xs.length:=by
   rcases ϖ j xs.length with h'|h'
   ·exact h'
   ·rw[List.getElem?_eq_none h'] at hj;cases hj
  rw[h.cellAt j (by rw[←h.1];exact hlt)];exact hj
theorem jk.upd{w w':World}{S:List Nat}{lo n:Nat}{v:Value}{xs:List Value}(h:jk w lo v n xs)(hu:ae S w w')(hS:∀k,k∈S->k<lo\/w.heap.size<=k):jk w' lo v n xs:=by
 rcases h with h|⟨g,cap,rfl,h1,h2,h3,h4,h5⟩
 ·exact Α h
 ·exact Β ⟨g,cap,rfl,h1,h2,h3,Ψ h4 hu.size,λj u hj=>by rw[hu.cell h4 (λhm=>by rcases hS _ hm with h'|h'<;>simp at *<;>omega)];exact h5 j u hj⟩
theorem jk.mono{w:World}{lo lo' n:Nat}{v:Value}{xs:List Value}(h:jk w lo v n xs)(hl:lo'<=lo):jk w lo' v n xs:=by
 rcases h with h|⟨g,cap,rfl,h1,h2,h3,h4⟩
 ·exact Α h
 ·exact Β ⟨g,cap,rfl,h1,h2,Χ hl h3,h4⟩
theorem CL{P:Program}{o:Oper}{a:Act}{w:World}{K:Act->World->Prop}{Q:Exit->Act->World->Prop}(s x:Operand)(t:TypeId)
  (ho:o.op=.call { callee:=.builtin .append,args:=#[s,x],argTypes:=#[t,t] })
  (base:Nat) (e:TypeId) (z:Value) (size bytes:Nat) (ht:P.underlying t=some (.slice e)) (hinfo:(P.info? e).map (λi=>(i.zero,i.size,i.bytes))=some (some z,size,bytes))
  (hzs:z.cells.size=size) (hsz:0<size) (v:Value) (n:Nat) (xs:List Value) (hs:a.eval s=v) (hown:w.ownsRow base e size v n xs)
  (lo m:Nat) (news:List Value) (v2:Value) (hx:a.eval x=v2) (hl:jk w lo v2 m news) (hlen:news.length=m*size) (h1:∀u∈news,u.oneCell'=true)
  (hn:n+m<=maxLen) (hbytes:(n+m)*bytes<=140737488355328) (hbase:base<=w.heap.size)
  (h:∀v' w',w'.ownsRow base e size v' (n+m) (xs++news)->ae v.ownBlock.toList w w'->K (a.put o.dst v') w'):o.wp P a w K Q:=by
 obtain⟨i,hi,hz0,hz1,hz2⟩:=info_parts hinfo;rcases hl with⟨rfl,rfl,rfl⟩|⟨g,cap,rfl,h2,h3,h4,h5,h6⟩
 ·have hrun:=run_append_owned_none (P:=P) (w:=w) base t o.type e i size ht hi v n xs hown;unfold Oper.wp;simp[execOp,ho,resolve,invoke,builtin,hs,hx,hrun,Result.andThen];exact h v w (by simpa using hown) (ae.refl _ _)
 ·refine wp_append_own w s x t ho base e i z size bytes ht hi hz0 hz1 hz2 hzs hsz v n xs hs hown ⟨g,0,none⟩ m cap news hx hlen (λj u hj=>?_) h1 hn hbytes hbase (λv' w' h1 h2 _=>h v' w' h1 ((ae.refl _ _).grown h2 (λk hk=>Α (by simp[hk]))));have e1:((⟨g,0,none⟩:Addr).add j)=⟨g,j,none⟩:=by
   unfold Addr.add;split
   ·subst_vars;rfl
   ·simp
  rw[e1];exact h6 j u hj
theorem xx{P:Program}{ops:Array Oper}{rest:List Oper}{o:Oper}{a:Act}{w:World}{Q:Exit->Act->World->Prop}(hgd:o.guard=none)(s x:Operand)(t:TypeId)
  (ho:o.op=.call { callee:=.builtin .append,args:=#[s,x],argTypes:=#[t,t] })
  (base:Nat) (e:TypeId) (z:Value) (size bytes:Nat) (ht:P.underlying t=some (.slice e)) (hinfo:(P.info? e).map (λi=>(i.zero,i.size,i.bytes))=some (some z,size,bytes))
  (hzs:z.cells.size=size) (hsz:0<size) (v:Value) (n:Nat) (xs:List Value) (hs:a.eval s=v) (hown:w.ownsRow base e size v n xs)
  (lo m:Nat) (news:List Value) (v2:Value) (hx:a.eval x=v2) (hl:jk w lo v2 m news) (hlen:news.length=m*size) (h1:∀u∈news,u.oneCell'=true)
  (hn:n+m<=maxLen) (hbytes:(n+m)*bytes<=140737488355328) (hbase:base<=w.heap.size)
  (h:∀v' w',w'.ownsRow base e size v' (n+m) (xs++news)->ae v.ownBlock.toList w w'->wpList P ops Q rest (a.put o.dst v') w'):wpList P ops Q (o::rest) a w:=
 wpList_plain hgd λ_ hK=>CL s x t ho base e z size bytes ht hinfo hzs hsz v n xs hs hown lo m news v2 hx hl hlen h1 hn hbytes hbase λv' w' h2 h3=>hK _ _ (h v' w' h2 h3)
def jg(w:World)(b:Nat)(e:TypeId)(m:Nat):Prop:=∃f,aS w b e m f
def cv(w:World)(a:Addr):Value:=(w.cell? a).getD undef
theorem jg.cell{w:World}{b m:Nat}{e:TypeId}(h:jg w b e m)(j:Nat)(hj:j<m):w.cell? ⟨b,j,none⟩=some (cv w ⟨b,j,none⟩):=by
 obtain⟨f,h⟩:=h;unfold cv;rw[h.cell j hj];rfl
theorem jg.free{w:World}{b m:Nat}{e:TypeId}(h:jg w b e m)(j:Nat):w.frozen? ⟨b,j,none⟩=false:=by
 obtain⟨f,h⟩:=h;exact h.free j
theorem jg.upd{w w':World}{S:List Nat}{b m:Nat}{e:TypeId}(h:jg w b e m)(hu:ae S w w')(hn:b∉S):jg w' b e m:=by
 obtain⟨f,h⟩:=h;exact⟨f,h.upd hu hn⟩
theorem lZ(w:World)(l:List Value)(e:TypeId):jg (w.alloc (.cells l.toArray e)) w.heap.size e l.length:=⟨_,eZ w l e⟩
theorem yG(g j:Nat):((⟨g,0,none⟩:Addr).add j)=⟨g,j,none⟩:=by
 unfold Addr.add;split
 ·subst_vars;rfl
 ·simp
theorem oK(W:World)(us:List Value)(e:TypeId)(j:Nat)(u:Value)(hj:us[j]?=some u):(W.alloc (.cells us.toArray e)).cell? ⟨W.heap.size,j,none⟩=some u:=by
 rw[←yG];exact Ny W us e j u hj
theorem vP{P:Program}{o:Oper}{a:Act}{w:World}{K:Act->World->Prop}{Q:Exit->Act->World->Prop}(s x:Operand)(t:TypeId)
  (ho:o.op=.call { callee:=.builtin .append,args:=#[s,x],argTypes:=#[t,t] })
  (base:Nat) (e:TypeId) (z:Value) (size bytes:Nat) (ht:P.underlying t=some (.slice e)) (hinfo:(P.info? e).map (λi=>(i.zero,i.size,i.bytes))=some (some z,size,bytes))
  (hzs:z.cells.size=size) (hsz:0<size) (v:Value) (n:Nat) (xs:List Value) (hs:a.eval s=v) (hown:w.ownsRow base e size v n xs)
  (g:Nat) (news:List Value) (hx:a.eval x=.slice (some ⟨g,0,none⟩) 1 1) (hl:news.length=size) (hnews:∀j u,news[j]?=some u->w.cell? ⟨g,j,none⟩=some u) (h1:∀u∈news,u.oneCell'=true)
  (hn:n+1<=maxLen) (hbytes:(n+1)*bytes<=140737488355328) (hbase:base<=w.heap.size)
  (h:∀v' w',w'.ownsRow base e size v' (n+1) (xs++news)->ae v.ownBlock.toList w w'->(v'.ownBlock=v.ownBlock\/v'.ownBlock=some w.heap.size)->K (a.put o.dst v') w'):Oper.wp P o a w K Q:=by
 obtain⟨i,hi,hz0,hz1,hz2⟩:=info_parts hinfo;obtain⟨v',w',hr,h2,h3,_,h5⟩:=run_append_own_at (P:=P) w base t o.type e i z size bytes ht hi hz0 hz1 hz2 hzs hsz v n xs hown ⟨g,0,none⟩ 1 1 news (by rw[hl,Nat.one_mul]) (λj u hj=>by rw[yG];exact hnews j u hj) h1 hn hbytes hbase;unfold Oper.wp execOp;simp only[ho,resolve,invoke,builtin,Sem.run_bind,Sem.run_pure,Result.andThen_ok,List.map_toArray,List.map_cons,List.map_nil,hs,hx,hr];exact h _ _ h2 ((ae.refl _ _).grown h3 (λk hk=>Α (by simp[hk]))) h5
theorem ny{P:Program}{ops:Array Oper}{o:Oper}{a:Act}{w:World}{K:Act->World->Prop}{Q:Exit->Act->World->Prop}{E:Prop}(hgd:o.guard=none)(s x:Operand)(t:TypeId)
  (ho:o.op=.call { callee:=.builtin .append,args:=#[s,x],argTypes:=#[t,t] })
  (base:Nat) (e:TypeId) (z:Value) (size bytes:Nat) (ht:P.underlying t=some (.slice e)) (hinfo:(P.info? e).map (λi=>(i.zero,i.size,i.bytes))=some (some z,size,bytes))
  (hzs:z.cells.size=size) (hsz:0<size) (v:Value) (n:Nat) (xs:List Value) (hs:a.eval s=v) (hown:w.ownsRow base e size v n xs)
  (g:Nat) (news:List Value) (hx:a.eval x=.slice (some ⟨g,0,none⟩) 1 1) (hl:news.length=size) (hnews:∀j u,news[j]?=some u->w.cell? ⟨g,j,none⟩=some u) (h1:∀u∈news,u.oneCell'=true)
  (hn:n+1<=maxLen) (hbytes:(n+1)*bytes<=140737488355328) (hbase:base<=w.heap.size)
  (h:∀v' w',w'.ownsRow base e size v' (n+1) (xs++news)->ae v.ownBlock.toList w w'->(v'.ownBlock=v.ownBlock\/v'.ownBlock=some w.heap.size)->K (a.put o.dst v') w') :
  if Region.wanted o (yielded ops a.tmps)=true then Oper.wp P o a w K Q else E:=by
 have hw:Region.wanted o (yielded ops a.tmps)=true:=by simp[Region.wanted,hgd]
 rw[Δ hw];exact vP s x t ho base e z size bytes ht hinfo hzs hsz v n xs hs hown g news hx hl hnews h1 hn hbytes hbase h
theorem qD{P:Program}{ops:Array Oper}{rest:List Oper}{o:Oper}{a:Act}{w:World}{Q:Exit->Act->World->Prop}(hgd:o.guard=none)(s x:Operand)(t:TypeId)
  (ho:o.op=.call { callee:=.builtin .append,args:=#[s,x],argTypes:=#[t,t] })
  (base:Nat) (e:TypeId) (z:Value) (size bytes:Nat) (ht:P.underlying t=some (.slice e)) (hinfo:(P.info? e).map (λi=>(i.zero,i.size,i.bytes))=some (some z,size,bytes))
  (hzs:z.cells.size=size) (hsz:0<size) (v:Value) (n:Nat) (xs:List Value) (hs:a.eval s=v) (hown:w.ownsRow base e size v n xs)
  (g:Nat) (news:List Value) (hx:a.eval x=.slice (some ⟨g,0,none⟩) 1 1) (hl:news.length=size) (hnews:∀j u,news[j]?=some u->w.cell? ⟨g,j,none⟩=some u) (h1:∀u∈news,u.oneCell'=true)
  (hn:n+1<=maxLen) (hbytes:(n+1)*bytes<=140737488355328) (hbase:base<=w.heap.size)
  (h:∀v' w',w'.ownsRow base e size v' (n+1) (xs++news)->ae v.ownBlock.toList w w'->(v'.ownBlock=v.ownBlock\/v'.ownBlock=some w.heap.size)->wpList P ops Q rest (a.put o.dst v') w'):wpList P ops Q (o::rest) a w:=
 wpList_plain hgd λ_ hK=>vP s x t ho base e z size bytes ht hinfo hzs hsz v n xs hs hown g news hx hl hnews h1 hn hbytes hbase λv' w' h2 h3 h4=>hK _ _ (h v' w' h2 h3 h4)
theorem gI:(prog.info? 3).map (λi=>(i.zero,i.size,i.bytes))=some (some (.int .i64 0),1,8):=by kernel_rfl
def bz(l:List Int):List Value:=l.map (λx=>Value.int .i64 x)
theorem dO(a b:List Int):bz (a++b)=bz a++bz b:=by unfold bz;rw[List.map_append]
theorem gQ(a:List Int):(bz a).length=a.length:=by unfold bz;simp
theorem Du(l:List Int):∀u∈bz l,u.oneCell'=true:=by
 intro u hu;unfold bz at hu;simp only[List.mem_map] at hu;obtain⟨x,_,rfl⟩:=hu;rfl
theorem lY{l:List Int}{j:Nat}(hj:j<l.length):(bz l)[j]?=some (.int .i64 (l.getD j 0)):=by unfold bz;simp[φ,hj]
theorem Ul{X:World}{us:List Value}{e:TypeId}{g:Nat}(hg:g=X.heap.size)(j:Nat){u:Value}(hj:us[j]?=some u):(X.alloc (.cells us.toArray e)).cell? ⟨g,j,none⟩=some u:=by
 subst hg;exact oK X us e j u hj
theorem Dw{X:World}{us:List Value}{e:TypeId}{g:Nat}(hg:g=X.heap.size)(j:Nat){u:Value}(hj:us[j]?=some u):((X.alloc (.cells us.toArray e)).drew).cell? ⟨g,j,none⟩=some u:=Ul hg j hj
structure IZ(w:World)(g cap:Nat)(l:List Int):Prop where
 own:w.ownsRow 0 3 1 (.slice (some ⟨g,0,none⟩) l.length cap) l.length (bz l)
theorem IZ.lt{w:World}{g cap:Nat}{l:List Int}(h:IZ w g cap l):g<w.heap.size:=(h.own.lt g rfl).2
theorem IZ.cap{w:World}{g cap:Nat}{l:List Int}(h:IZ w g cap l):l.length<=cap/\cap<=9223372036854775807:=by
 rcases h.own.2 with⟨h1,_⟩|⟨g',cap',cur,h1,_,_,h2,h3,_⟩
 ·cases h1
 ·cases h1;unfold maxLen at h3;exact⟨h2,h3⟩
theorem IZ.cell{w:World}{g cap:Nat}{l:List Int}(h:IZ w g cap l)(j:Nat)(hj:j<l.length):w.cell? ⟨g,j,none⟩=some (.int .i64 (l.getD j 0)):=by
 rw[h.own.cellAt j ω];exact lY hj
theorem IZ.free{w:World}{g cap:Nat}{l:List Int}(h:IZ w g cap l)(j:Nat):w.frozen? ⟨g,j,none⟩=false:=h.own.frozenAt j
theorem IZ.upd{w w':World}{S:List Nat}{g cap:Nat}{l:List Int}(h:IZ w g cap l)(hu:ae S w w')(hn:g∉S):IZ w' g cap l:=
 ⟨ak h.own hu (λk hk=>by cases hk;exact hn)⟩
theorem IZ.drewN{w:World}{g cap:Nat}{l:List Int}(h:IZ w g cap l)(n:Nat):IZ (w.drewN n) g cap l:=h.upd ((ae.refl [] w).drewN n) σ
theorem IZ.set{w:World}{g cap:Nat}{l:List Int}(h:IZ w g cap l)(j:Nat)(x:Int):IZ (w.setCell ⟨g,j,none⟩ (.int .i64 x)) g cap (l.set j x):=by
 rcases h.own.2 with⟨h1,_⟩|⟨g',cap',cur,h1,hb,hg,hn,hc,hs,ht⟩
 ·cases h1
 ·cases h1;refine⟨⟨by rw[gQ];omega,Β ⟨g,cap,cur.setIfInBounds j (.int .i64 x),by rw[Ι],ω,?_,by rw[Ι];exact hn,hc,ζ,?_⟩⟩⟩
  ·simp[World.setCell,Array.getElem?_modify,hg]
  ·rw[Ι,Array.toList_setIfInBounds]
   by_cases hj:j<l.length
   ·rw[List.take_set,ht];unfold bz;rw[List.map_set]
   ·rw[List.take_set_of_le ω,ht,List.set_eq_of_length_le ω]
theorem IZ.lit(w:World)(l:List Int)(hl:l.length<=1000000):IZ (w.alloc (.cells (bz l).toArray 3)) w.heap.size l.length l:=
 ⟨rZ w (bz l) 3 0 1 l.length (by rw[gQ];omega) ω μ⟩
theorem IZ.iA{w:World}{base:Nat}{v:Value}{l:List Int}(h:w.ownsRow base 3 1 v l.length (bz l))(hl:0<l.length):∃g cap,v=.slice (some ⟨g,0,none⟩) l.length cap/\IZ w g cap l/\base<=g:=by
 obtain⟨g,cap,rfl,hb,_⟩:=fQ h hl;exact⟨g,cap,rfl,⟨nN h ω⟩,hb⟩
def j6(w:World)(F:List Nat)(v:Value)(xs:List Int):Prop:=
 ∃a cap,v=.slice a xs.length cap/\xs.length<=cap/\cap<=9223372036854775807/\∀j u,xs[j]?=some u->∃g off,a=some ⟨g,off,none⟩/\g<w.heap.size/\g∉F/\w.cell? ⟨g,off+j,none⟩=some (.int .i64 u)
theorem j6.iA{w:World}{base:Nat}{v:Value}{xs:List Int}{F:List Nat}(h:w.ownsRow base 3 1 v xs.length (bz xs))(hF:∀g,g∈F->g<base):j6 w F v xs:=by
 rcases h.2 with⟨rfl,h0⟩|⟨g,cap,cur,rfl,hb,hg,hn,hc,_⟩
 ·have:xs=[]:=Ϛ h0;subst this;exact⟨none,0,rfl,σ,ω,λj u hj=>by simp at hj⟩
 ·refine⟨_,cap,rfl,hn,by unfold maxLen at hc;exact hc,λj u hj=>⟨g,0,rfl,(h.lt g rfl).2,λhm=>by have:=hF g hm;omega,?_⟩⟩;have hjl:=(List.getElem?_eq_some_iff.1 hj).1;rw[ϔ,h.cellAt j ω,lY hjl];simp[φ,hj]
def xP(a b:Int):Int:=if a<b then -1 else if b<a then 1 else 0
def Cx(k1 s1 k2 s2:Int):Int:=if k1=k2 then xP s1 s2 else xP k1 k2
theorem O8(k1 s1 k2 s2:Int):decide (Cx k1 s1 k2 s2<0)=Ee k1 s1 k2 s2:=by
 unfold Cx Ee xP
 split
 ·rw[decide_eq_decide];split;omega;split<;>omega
 ·rw[decide_eq_decide];split;omega;split<;>omega
theorem RP(x:Int)(w:World):Calls prog 162 #[.int .i64 x] w λe w'=>e=.returned (.bool false)/\w'=w:=by
 go_enter func162,ntmps162
 go_wp2;go_ret;exact⟨rfl,rfl⟩
theorem Rv(x:Int)(w:World):Calls prog 163 #[.int .u64 x] w λe w'=>e=.returned (.bool false)/\w'=w:=by
 go_enter func163,ntmps163
 go_wp2;go_ret;exact⟨rfl,rfl⟩
theorem Sg(a b:Int)(w:World):Calls prog 159 #[.int .i64 a,.int .i64 b] w λe w'=>e=.returned (.int .i64 (xP a b))/\w'=w:=by
 have k:=λx=>RP x w;unfold xP
 by_cases h1:a<b
 ·go_enter func159,ntmps159
  go_wp2_with ((go_at_call 162;(with_reducible refine aT ((k _)) ?_)))
  go_ret;exact⟨by first|rfl|(refine jR ?_;simp;try omega),rfl⟩
 ·by_cases h2:b<a
  ·go_enter func159,ntmps159
   go_wp2_with ((go_at_call 162;(with_reducible refine aT ((k _)) ?_)))
   go_ret;exact⟨by first|rfl|(refine jR ?_;simp;try omega),rfl⟩
  ·have e:a=b:=ω;subst e;clear h1 h2
   go_enter func159,ntmps159
   go_wp2_with ((go_at_call 162;(with_reducible refine aT ((k _)) ?_)))
   go_ret;exact⟨by first|rfl|(refine jR ?_;simp;try omega),rfl⟩
theorem Vj(a b:Int)(w:World):Calls prog 160 #[.int .u64 a,.int .u64 b] w λe w'=>e=.returned (.int .i64 (xP a b))/\w'=w:=by
 have k:=λx=>Rv x w;unfold xP
 by_cases h1:a<b
 ·go_enter func160,ntmps160
  go_wp2_with ((go_at_call 163;(with_reducible refine aT ((k _)) ?_)))
  go_ret;exact⟨by first|rfl|(refine jR ?_;simp;try omega),rfl⟩
 ·by_cases h2:b<a
  ·go_enter func160,ntmps160
   go_wp2_with ((go_at_call 163;(with_reducible refine aT ((k _)) ?_)))
   go_ret;exact⟨by first|rfl|(refine jR ?_;simp;try omega),rfl⟩
  ·have e:a=b:=ω;subst e;clear h1 h2
   go_enter func160,ntmps160
   go_wp2_with ((go_at_call 163;(with_reducible refine aT ((k _)) ?_)))
   go_ret;exact⟨by first|rfl|(refine jR ?_;simp;try omega),rfl⟩
def orZ(a b:Int):Int:=if a=0 then b else a
theorem Zn(g:Nat)(a b:Int)(w:World)(c0:w.cell? ⟨g,0,none⟩=some (.int .i64 a))(c1:w.cell? ⟨g,1,none⟩=some (.int .i64 b)) :
  Calls prog 158 #[.slice (some ⟨g,0,none⟩) 2 2] w λe w'=>e=.returned (.int .i64 (orZ a b))/\w'=w:=by
 unfold orZ
 by_cases ha:a=0
 ·subst ha
  by_cases hb:b=0
  ·subst hb
   go_enter func158,ntmps158
   go_wp2;refine wp_loop_rounds 3 ?_;rw[rounds_succ];go_wp2
   all_goals try(rw[rounds_succ];go_wp2)
   all_goals try(rw[rounds_succ];go_wp2)
   go_ret;exact⟨σ,rfl⟩
  ·have hb':(b != 0)=true:=by simpa using hb
   go_enter func158,ntmps158
   go_wp2;refine wp_loop_rounds 3 ?_;rw[rounds_succ];go_wp2
   all_goals try(rw[rounds_succ];go_wp2)
   all_goals try(rw[rounds_succ];go_wp2)
   go_ret;exact⟨σ,rfl⟩
 ·have ha':(a != 0)=true:=by simpa using ha
  have HA:=χ ha;clear ha
  go_enter func158,ntmps158
  go_wp2;refine wp_loop_rounds 3 ?_;rw[rounds_succ];go_wp2
  all_goals try(rw[rounds_succ];go_wp2)
  all_goals try(rw[rounds_succ];go_wp2)
  go_ret;exact⟨by first|rfl|rw[Γ HA.out],rfl⟩
theorem VR(k1 s1 k2 s2:Int):orZ (xP k1 k2) (xP s1 s2)=Cx k1 s1 k2 s2:=by
 unfold orZ Cx
 by_cases h:k1=k2
 ·subst h;simp[xP]
 ·rw[Γ h,Γ];unfold xP;split;omega;split<;>omega
theorem zn(k1 s1 k2 s2:Int)(w:World):Calls prog 153 #[.agg #[.int .i64 k1,.int .u64 s1],.agg #[.int .i64 k2,.int .u64 s2]] w λe w'=>e=.returned (.int .i64 (Cx k1 s1 k2 s2))/\ae [] w w':=by
 rw[←VR];have ka:=λW=>Sg k1 k2 W;have kb:=λW=>Vj s1 s2 W;generalize xP k1 k2=za at *;generalize xP s1 s2=zb at *;have r0:∀W,ae [] ((w.alloc (.cells #[.int .i64 k1,.int .u64 s1] 97)).alloc (.cells #[.int .i64 k2,.int .u64 s2] 97)) W->W.cell? ⟨w.heap.size,0,none⟩=some (.int .i64 k1):=λW h=>h.was σ;have r1:∀W,ae [] ((w.alloc (.cells #[.int .i64 k1,.int .u64 s1] 97)).alloc (.cells #[.int .i64 k2,.int .u64 s2] 97)) W->W.cell? ⟨w.heap.size,1,none⟩=some (.int .u64 s1):=λW h=>h.was σ
 have r2:∀W,ae [] ((w.alloc (.cells #[.int .i64 k1,.int .u64 s1] 97)).alloc (.cells #[.int .i64 k2,.int .u64 s2] 97)) W->W.cell? ⟨w.heap.size+1,0,none⟩=some (.int .i64 k2):=λW h=>h.was σ;have r3:∀W,ae [] ((w.alloc (.cells #[.int .i64 k1,.int .u64 s1] 97)).alloc (.cells #[.int .i64 k2,.int .u64 s2] 97)) W->W.cell? ⟨w.heap.size+1,1,none⟩=some (.int .u64 s2):=λW h=>h.was σ
 go_enter func153,ntmps153
 go_wp2
 go_region_held3 (ae [] ((w.alloc (.cells #[.int .i64 k1,.int .u64 s1] 97)).alloc (.cells #[.int .i64 k2,.int .u64 s2] 97))) (exact η)
  (first
   |(go_at_call 159;(with_reducible refine aT (ka _) ?_))
   |(go_at_call 160;(with_reducible refine aT (kb _) ?_))
   | (go_at_call 158;(with_reducible refine aT (Zn _ za zb _ (Dw σ 0 rfl) (Dw σ 1 rfl)) ?_)))
 go_wp2;go_ret;exact⟨rfl,ξ⟩
theorem PK(k1 s1 k2 s2:Int)(w:World):Calls prog 145 #[.agg #[.int .i64 k1,.int .u64 s1],.agg #[.int .i64 k2,.int .u64 s2]] w λe w'=>e=.returned (.bool (Ee k1 s1 k2 s2))/\ae [] w w':=by
 rw[←O8];have k:=λW=>zn k1 s1 k2 s2 W;generalize Cx k1 s1 k2 s2=z at *
 go_enter func145,ntmps145
 go_wp2_with (go_at_call 153;(with_reducible refine(k _).mono ?_);rintro e w' ⟨rfl,hu⟩)
 all_goals
  go_ret;exact⟨cZ (by first|rfl|simp|(simp;omega)),((ae.refl _ _).alloc _ |>.alloc _).trans hu⟩
structure pU(l:List Int)(rt dp:Nat->Nat):Prop where
 len:1<=l.length
 Io:l.length<=65537
 wL:∀i,1<=i->i<l.length->1<=l.getD i 0/\l.getD i 0<l.length
 up:∀i,1<=i->i<l.length->rt (l.getD i 0).toNat=rt i
 top:∀i,1<=i->i<l.length->l.getD i 0=i->rt i=i
 low:∀i,1<=i->i<l.length->l.getD i 0≠i->dp (l.getD i 0).toNat<dp i
theorem pU.root{l:List Int}{rt dp:Nat->Nat}(h:pU l rt dp):∀(d i:Nat),dp i<=d->1<=i->i<l.length->1<=rt i/\rt i<l.length/\l.getD (rt i) 0=rt i
 |d,i,hd,h1,h2=>by
  by_cases e:l.getD i 0=i
  ·rw[h.top i h1 h2 e];exact⟨h1,h2,e⟩
  ·have hl:=h.low i h1 h2 e;have hr:=h.wL i h1 h2
   match d,hd with
   |0,hd=>omega
   |d+1,hd=>
    have:=pU.root h d (l.getD i 0).toNat ω ω ω;rwa[h.up i h1 h2] at this
theorem pU.Yl{l:List Int}{rt dp:Nat->Nat}(h:pU l rt dp){i:Nat}(h1:1<=i)(h2:i<l.length):1<=rt i/\rt i<l.length/\l.getD (rt i) 0=rt i:=h.root (dp i) i (Θ _) h1 h2
theorem pU.UY{l:List Int}{rt dp:Nat->Nat}(h:pU l rt dp){i:Nat}(h1:1<=i)(h2:i<l.length):l.getD i 0=i↔rt i=i:=
 ⟨h.top i h1 h2,λe=>by have:=h.Yl h1 h2;rw[e] at this;exact this.2.2⟩
theorem Ak(l:List Int)(i:Nat)(x:Int)(j:Nat):(l.set i x).getD j 0=if j=i/\i<l.length then x else l.getD j 0:=by
 simp only[φ,ύ]
 by_cases h:i=j
 ·subst h
  by_cases hx:i<l.length
  ·simp[hx]
  ·simp[hx,List.getElem?_eq_none (Nat.le_of_not_lt hx)]
 ·rw[Γ h,Γ (λe=>h e.1.symm)]
theorem pU.short{l:List Int}{rt dp:Nat->Nat}(h:pU l rt dp){k:Nat}(h1:1<=k)(h2:k<l.length)(hk:l.getD k 0≠k):pU (l.set k (l.getD (l.getD k 0).toNat 0)) rt dp:=by
 have r1:=h.wL k h1 h2;obtain⟨j,hj⟩:∃j:Nat,l.getD k 0=j:=⟨(l.getD k 0).toNat,ω⟩;have u1:=h.up k h1 h2;have d1:=h.low k h1 h2 hk;rw[hj] at r1 u1 d1 hk ⊢;simp only[π] at u1 d1 ⊢;have hjk:j≠k:=λe=>hk (by rw[e]);have r2:=h.wL j ω ω;obtain⟨q,hq⟩:∃q:Nat,l.getD j 0=q:=⟨(l.getD j 0).toNat,ω⟩;have u2:=h.up j ω ω;have d2:=h.low j ω ω;rw[hq] at r2 u2 d2 ⊢;simp only[π] at u2 d2;have d3:q≠j->dp q<dp j:=λe=>d2 ω;clear d2;refine⟨by simp;exact h.len,by simp;exact h.Io,λi a b=>?_,λi a b=>?_,λi a b=>?_,λi a b=>?_⟩
 all_goals
  rw[Ι] at b;rw[Ak]
 ·rw[Ι];split
  ·exact r2
  ·exact h.wL i a b
 ·split
  ·rename_i e;simp only[π];rw[u2,u1,e.1]
  ·exact h.up i a b
 ·split
  ·rename_i e
   intro he;have hqi:q=k:=by have:=e.1;omega
   by_cases e2:q=j
   ·exfalso;omega
   ·have:=d3 e2;rw[hqi] at this;omega
  ·exact h.top i a b
 ·split
  ·rename_i e
   intro he;simp only[π];rw[e.1]
   by_cases e2:q=j
   ·rw[e2];exact d1
   ·have:=d3 e2;omega
  ·exact h.low i a b
structure jv(w:World)(nm g cap:Nat)(l:List Int):Prop where
 head:∃c:Int,aS w nm 243 3 (λj=>[Value.slice (some ⟨g,0,none⟩) l.length cap,.int .i64 65536,.int .i64 c].getD j undef)
 row:IZ w g cap l
 ne:nm≠g
theorem jv.upd{w w':World}{S:List Nat}{nm g cap:Nat}{l:List Int}(h:jv w nm g cap l)(hu:ae S w w')(h1:nm∉S)(h2:g∉S):jv w' nm g cap l:=by
 obtain⟨c,h3⟩:=h.head;exact⟨⟨c,h3.upd hu h1⟩,h.row.upd hu h2,h.ne⟩
theorem jv.c0{w:World}{nm g cap:Nat}{l:List Int}(h:jv w nm g cap l):w.cell? ⟨nm,0,none⟩=some (.slice (some ⟨g,0,none⟩) l.length cap):=by obtain⟨c,h⟩:=h.head;exact h.cellAt 0 ω rfl
theorem jv.c1{w:World}{nm g cap:Nat}{l:List Int}(h:jv w nm g cap l):w.cell? ⟨nm,1,none⟩=some (.int .i64 65536):=by obtain⟨c,h⟩:=h.head;exact h.cellAt 1 ω rfl
theorem jv.lt{w:World}{nm g cap:Nat}{l:List Int}(h:jv w nm g cap l):nm<w.heap.size/\g<w.heap.size:=by obtain⟨c,h1⟩:=h.head;exact⟨h1.lt,h.row.lt⟩
theorem jv.set{w:World}{nm g cap:Nat}{l:List Int}(h:jv w nm g cap l)(j:Nat)(x:Int):jv (w.setCell ⟨g,j,none⟩ (.int .i64 x)) nm g cap (l.set j x):=by
 obtain⟨c,h1⟩:=h.head;exact⟨⟨c,by rw[Ι];exact h1.far _ _ h.ne⟩,h.row.set j x,h.ne⟩
theorem jv.Vm{w:World}{nm g cap:Nat}{l:List Int}(h:jv w nm g cap l)(x:Int):jv (w.setCell ⟨nm,2,none⟩ (.int .i64 x)) nm g cap l:=by
 obtain⟨c,h1⟩:=h.head;refine⟨⟨x,(h1.set 2 (.int .i64 x)).ext (λj hj=>?_)⟩,h.row.upd ((ae.refl [nm] w).setCell (Α σ) _) (by simp;exact λe=>h.ne e.symm),h.ne⟩;rcases(ω:j=0\/j=1\/j=2) with rfl|rfl|rfl<;>simp
theorem jv.setRow{w:World}{nm g cap:Nat}{l:List Int}(h:jv w nm g cap l){W:World}{g' cap':Nat}{l':List Int}(hu:ae [g] w W)(hr:IZ W g' cap' l')(hne:nm≠g'):jv (W.setCell ⟨nm,0,none⟩ (.slice (some ⟨g',0,none⟩) l'.length cap')) nm g' cap' l':=by
 obtain⟨c,h1⟩:=h.head;refine⟨⟨c,((h1.upd hu (by simp;exact h.ne)).set 0 _).ext (λj hj=>?_)⟩,hr.upd ((ae.refl [nm] W).setCell (Α σ) _) (by simp;exact λe=>hne e.symm),hne⟩;rcases(ω:j=0\/j=1\/j=2) with rfl|rfl|rfl<;>simp
theorem JC(nm g cap:Nat)(l:List Int)(x:Int)(w:World)(h:jv w nm g cap l)(hl:l.length<=65537) :
  Calls prog 149 #[.pointer (some ⟨nm,0,none⟩),.int .i64 x] w λe w'=>e=.returned (.bool (decide (0<x) && decide (x<l.length)))/\w'=w:=by
 have c0:=h.c0;clear h
 by_cases h0:0<x
 ·go_enter func149,ntmps149
  go_wp2;go_ret;exact⟨cZ (by simp[h0]),rfl⟩
 ·go_enter func149,ntmps149
  go_wp2;go_ret;exact⟨cZ ζ,rfl⟩
def yt(l:List Int)(x:Int):Bool:=decide (0<x) && decide (x<l.length) && (l.getD x.toNat 0 == x)
theorem Bq(nm g cap:Nat)(l:List Int)(x:Int)(w:World)(h:jv w nm g cap l)(hl:l.length<=65537) :
  Calls prog 136 #[.pointer (some ⟨nm,0,none⟩),.int .i64 x] w λe w'=>e=.returned (.bool (yt l x))/\w'=w:=by
 have k:=JC nm g cap l x w h hl;unfold yt;have c0:=h.c0
 by_cases h0:0<x/\x<l.length
 ·obtain⟨i,rfl⟩:∃i:Nat,x=i:=⟨x.toNat,ω⟩;rw[show(decide (0<(i:Int)) && decide ((i:Int)<l.length))=true by simp;omega] at *;have hi:i<l.length:=ω;have c1:=h.row.cell i hi;simp only[π];generalize l.getD i 0=y at *;clear h
  go_enter func136,ntmps136
  go_wp2_with ((go_at_call 149;(with_reducible refine aT (k) ?_)))
  go_ret;exact⟨cZ σ,rfl⟩
 ·rw[show(decide (0<x) && decide (x<l.length))=false by simp;omega] at *;clear h
  go_enter func136,ntmps136
  go_wp2_with ((go_at_call 149;(with_reducible refine aT (k) ?_)))
  go_ret;exact⟨cZ σ,rfl⟩
theorem IG(nm g cap:Nat)(l:List Int)(w:World)(h:jv w nm g cap l)(hl:l.length<=65537) :
  Calls prog 157 #[.pointer (some ⟨nm,0,none⟩)] w λe w'=>e=.returned (.int .i64 ((l.length:Int)-1))/\w'=w:=by
 have c0:=h.c0;clear h
 go_enter func157,ntmps157
 go_wp2;go_ret;exact⟨rfl,rfl⟩
theorem Qr(nm g cap:Nat)(l:List Int)(rt dp:Nat->Nat)(x:Nat)(w:World)(h:jv w nm g cap l)(ok:pU l rt dp)(hx:1<=x)(hx2:x<l.length) :
  Calls prog 137 #[.pointer (some ⟨nm,0,none⟩),.int .i64 (x:Int)] w λe w'=>∃l',e=.returned (.tuple #[.int .i64 (rt x:Int),.bool true])/\jv w' nm g cap l'/\pU l' rt dp/\l'.length=l.length/\ae [g] w w':=by
 have k:=JC nm g cap l x w h ok.Io;rw[show(decide (0<(x:Int)) && decide ((x:Int)<l.length))=true by simp;omega] at k;generalize hr:rt x=r at *;have HR:=χ hr;clear hr
 go_enter func137,ntmps137
 go_wp2_with ((go_at_call 149;(with_reducible refine aT (k) ?_)))
 clear k
 go_loopw [1] (λid wr=>∃(k:Nat) (l':List Int),id=.int .i64 (k:Int)/\1<=k/\k<l'.length/\rt k=r/\jv wr nm g cap l'/\pU l' rt dp/\l'.length=l.length/\ae [g] w wr) (λid _=>dp (intOf id).toNat)
 case atStart=>exact⟨x,l,rfl,hx,hx2,HR.out,h,ok,rfl,ae.refl _ _⟩
 case round=>
  obtain⟨k,l',rfl,hk1,hk2,hrt,hN,hok,hlen,hu⟩:=hrel;have c0:=hN.c0;have c1:=hN.row.cell k hk2;have c2:=hN.row.free k;have hrg:=hok.wL k hk1 hk2;have HB:=χ (ψ hN (ψ hok (ψ hlen hrt)));clear h ok hN hok hlen hrt
  by_cases hkk:l'.getD k 0=k
  ·rw[hkk] at c1;have HK:=χ hkk;clear hkk hrg;go_wp2;go_ret2;obtain⟨h1,h2,h3,h4⟩:=HB.out;exact⟨l',by rw[←h4,h2.top k hk1 hk2 HK.out];rfl,h1,h2,h3,hu⟩
  ·obtain⟨j,hj⟩:∃j:Nat,l'.getD k 0=j:=⟨(l'.getD k 0).toNat,ω⟩;have hjr:1<=j/\j<l'.length:=ω;have c3:=HB.out.1.row.cell j hjr.2;have hrg2:=HB.out.2.1.wL j hjr.1 hjr.2;obtain⟨q,hq⟩:∃q:Nat,l'.getD j 0=q:=⟨(l'.getD j 0).toNat,ω⟩;rw[hj] at c1 hrg hkk;rw[hq] at c3 hrg2;have hne:((j:Int) != (k:Int))=true:=by simpa using hkk
   have HJ:=χ (ψ hj (ψ hq hkk));clear hj hq hkk;go_wp2
   go_region
   go_wp2
   go_roundw
   case rel=>
    obtain⟨h1,h2,h3,h4⟩:=HB.out;obtain⟨e1,e2,e3⟩:=HJ.out;have hs:=h2.short hk1 hk2 (by rw[e1];exact e3);rw[e1] at hs;simp only[π] at hs;rw[e2] at hs;have u1:=h2.up k hk1 hk2;have u2:=h2.up j ω ω;rw[e1] at u1;rw[e2] at u2;simp only[π] at u1 u2;exact⟨q,_,rfl,ω,by rw[Ι];omega,by rw[u2,u1,h4],(h1.set k q).upd ((ae.refl [] _).drew) σ σ,hs,by rw[Ι];exact h3,((hu.setCell (Α σ) _)).drew⟩
   case measure=>
    obtain⟨h1,h2,h3,h4⟩:=HB.out;obtain⟨e1,e2,e3⟩:=HJ.out;have d1:=h2.low k hk1 hk2 (by rw[e1];exact e3);have d2:=h2.low j ω ω;rw[e1] at d1;rw[e2] at d2;simp only[π] at d1 d2;simp[intOf]
    by_cases e:q=j
    ·rw[e];exact d1
    ·have:=d2 ω;omega
theorem SN(nm g cap:Nat)(l:List Int)(w:World)(h:jv w nm g cap l)(hl:l.length=65537) :
  Calls prog 150 #[.pointer (some ⟨nm,0,none⟩)] w λe w'=>e=.returned (.tuple #[.int .i64 0,.bool false])/\ae [] w w':=by
 have k:=IG nm g cap l;have k1:=λW hW=>k W hW ω;rw[hl] at k1;have c1:∀d,(w.drewN d).cell? ⟨nm,1,none⟩=some (.int .i64 65536):=λd=>h.c1;have H:=λd=>(h.upd ((ae.refl [] w).drewN d) σ σ)
 clear h k
 go_enter func150,ntmps150
 go_wp2
 go_quiet ((go_at_call 157;exact Calls.quiet_of_same (k1 _ (H _))))
 go_wp2;go_ret2;exact⟨rfl,(ae.refl _ _).drewN _⟩
theorem QC(nm g cap:Nat)(l:List Int)(w:World)(h:jv w nm g cap l)(hl:1<=l.length)(hl2:l.length<=65536) :
  Calls prog 150 #[.pointer (some ⟨nm,0,none⟩)] w λe w'=>∃g' cap',e=.returned (.tuple #[.int .i64 (l.length:Int),.bool true])/\jv w' nm g' cap' (l++[(l.length:Int)])/\ae [nm,g] w w'/\(g'=g\/w.heap.size<=g'):=by
 have k1:=λW hW=>IG nm g cap l W hW ω;have c1:∀d,(w.drewN d).cell? ⟨nm,1,none⟩=some (.int .i64 65536):=λd=>h.c1;have c0:∀d,(w.drewN d).cell? ⟨nm,0,none⟩=some (.slice (some ⟨g,0,none⟩) l.length cap):=λd=>h.c0;obtain⟨cn,hh⟩:=h.head;have c2:w.cell? ⟨nm,2,none⟩=some (.int .i64 cn):=hh.cellAt 2 ω rfl;have f0:=hh.free 0;have f2:=hh.free 2;have HO:Hid (∀d,(w.drewN d).ownsRow 0 3 1 (.slice (some ⟨g,0,none⟩) l.length cap) l.length (bz l)):=λd=>(h.row.drewN d).own;have H:Hid (∀d,jv (w.drewN d) nm g cap l):=λd=>(h.upd ((ae.refl [] w).drewN d) σ σ)
 have hlt:=h.lt;have hne:=h.ne;have hb1:((l.length:Int)-1 == 65536)=false:=ζ;clear h hh;generalize hlen:l.length=len at *;have HL:=χ hlen;clear hlen
 go_enter func150,ntmps150
 go_wp2
 go_quiet ((go_at_call 157;exact Calls.quiet_of_same (k1 _ (H.out _))))
 go_wp2_with (((at_builtin;refine bI rfl _ _ 77 rfl 0 3 (.int .i64 0) 1 8 underlying77 gI rfl δ _ _ _ rfl ((HO.out _)) [.int .i64 (len:Int)] rfl (by simp[Value.oneCell']) (by first|rfl|(rw[Κ];rfl)) μ ω (σ) ?_;intro v1 w1 ho1 hu1 Yn));obtain⟨g1,cap1,rfl,_,hg1,hc1,hc2,_⟩:=fQ ho1 ω;(have hu2:ae [g] (w.drewN nq) w1:=hu1);(have hs2:g1=g\/w.heap.size<g1:=by(rcases Yn with h'|h';(exact Α (Option.some.inj h'));(exact Β (h' g1 rfl))));clear hu1 Yn;(have q1:w1.cell? ⟨nm,0,none⟩=some (.slice (some ⟨g,0,none⟩) len cap):=(hu2.cell (p:=⟨nm,0,none⟩) hlt.1 (by simp;exact hne)).trans (c0 _));(have q2:w1.cell? ⟨nm,2,none⟩=some (.int .i64 cn):=(hu2.cell (p:=⟨nm,2,none⟩) hlt.1 (by simp;exact hne)).trans c2);(have q3:w1.frozen? ⟨nm,0,none⟩=false:=(hu2.frozen (p:=⟨nm,0,none⟩) hlt.1 (by simp;exact hne)).trans f0);(have q4:w1.frozen? ⟨nm,2,none⟩=false:=(hu2.frozen (p:=⟨nm,2,none⟩) hlt.1 (by simp;exact hne)).trans f2))
 go_ret2;have hn1:nm≠g1:=ω;have hz:IZ w1 g1 cap1 (l++[(len:Int)]):=⟨by rw[υ,HL.out,dO];exact ho1⟩;have hN:=(H.out nq).setRow hu2 hz hn1;rw[υ,HL.out] at hN;refine⟨g1,cap1,rfl,?_,?_,ω⟩
 ·exact hN.Vm _
 ·exact((((ae.refl [nm,g] w).drewN nq).joined hu2 (λx hx=>Α (by simp at hx;simp[hx]))).setCell (Α σ) _).setCell (Α σ) _
theorem Qq(nm g cap:Nat)(l:List Int)(a b:Nat)(w:World)(h:jv w nm g cap l)(hl:l.length<=65537)(ha:yt l a=true)(hb:yt l b=true)(hne:a≠b) :
  Calls prog 151 #[.pointer (some ⟨nm,0,none⟩),.int .i64 (a:Int),.int .i64 (b:Int)] w λe w'=>e=.returned (.bool true)/\jv w' nm g cap (l.set b (a:Int))/\ae [nm,g] w w':=by
 have k1:=Bq nm g cap l a w h hl;have k2:=Bq nm g cap l b w h hl;rw[ha] at k1;rw[hb] at k2;have hb2:b<l.length:=by unfold yt at hb;simp at hb;omega
 have hne2:((a:Int) == (b:Int))=false:=ζ;obtain⟨cn,hc⟩:=h.head;have c0:=h.c0;have c2:=hc.cellAt 2 ω rfl;have f2:=hc.free 2;have c3:=h.row.cell b hb2;have f3:=h.row.free b;have hng:=h.ne;have H:=χ (ψ h hc);clear ha hb h hc;generalize l.getD b 0=y at *
 go_enter func151,ntmps151
 go_wp2_with (first|(go_at_call 136;(with_reducible refine aT (k1) ?_))|(go_at_call 136;(with_reducible refine aT (k2) ?_)))
 go_ret;exact⟨rfl,(H.out.1.set b a).Vm _,((ae.refl _ _).setCell (Α σ) _).setCell (Α σ) _⟩
theorem Uy(w:World):Calls prog 100 #[.int .i64 65536] w λe w'=>∃nm g,e=.returned (.tuple #[.pointer (some ⟨nm,0,none⟩),.int .i64 0])/\jv w' nm g 1 [0]/\ae [] w w'/\w.heap.size<=nm/\w.heap.size<=g:=by
 go_enter func100,ntmps100
 go_wp2;go_ret2;have hr:=eZ (w.alloc (.cells #[.int .i64 0] 3)) [Value.slice (some ⟨w.heap.size,0,none⟩) 1 1,.int .i64 65536,.int .i64 0] 243;rw[Κ] at hr;exact⟨_,_,rfl,⟨⟨0,hr⟩,(IZ.lit w [0] σ).upd ((ae.refl [] _).alloc _) σ,ω⟩,((ae.refl _ _).alloc _).alloc _,σ,Θ _⟩
end Go.Proofs.YtnpdakpagnpanaaGreat
namespace Go.Proofs.YtnpdakpagnpanaaGreat
open Tryz
open Go Go.RowKit Go.Maps
theorem nodup_range:∀(n:Nat) (l:List Int),l.Nodup->(∀x,x∈l->0<=x/\x<n)->l.length<=n
 |0,l,_,h=>by
  cases l with
  |nil=>simp
  |cons x r=>have:=h x σ;omega
 |n+1,l,hn,h=>by
  have h1:=nodup_range n (l.filter (λx=>x != (n:Int))) (hn.filter _) (λx hx=>by
   simp only[List.mem_filter] at hx;have:=h x hx.1;have h2:x≠n:=by simpa using hx.2
   omega)
  have h2:l.length<=(l.filter (λx=>x != (n:Int))).length+1:=by
   clear h1 h
   induction l with
   |nil=>simp
   |cons y r ih=>
    rw[Ζ] at hn
    by_cases hy:y=n
    ·subst hy;have e:r.filter (λx=>x != (n:Int))=r:=by
      rw[List.filter_eq_self];intro a ha;simp;intro e;subst e;exact hn.1 ha
     rw[List.filter_cons_of_neg σ,e];simp
    ·rw[List.filter_cons_of_pos (by simpa using hy)];have:=ih hn.2;simp only[Ω];omega
  omega
def fJ(w:World)(b:Nat)(f:Int->Option Int):Prop:=
 ∃D:DataW Unit,w.ownsMap prog 3 (plainElem prog 3) b (Maps.size D) D/\
  (∀kl,Maps.has D kl=true->∃k:Int,kl=.int .i64 k/\0<=k/\k<=65536/\(f k).isSome=true)/\
  (∀k z,f k=some z->Maps.has D (.int .i64 k)=true/\∀d,D.atKey (.int .i64 k) d=.lit (.int .i64 z))
theorem xW{w:World}{k:TypeId}{R:Value->Option (DataW Unit×List MemPlace)}{b n:Nat}{D:DataW Unit}(h:w.ownsMap prog k R b n D):w.ownsMap prog k R b (Maps.size D) D:=by
 obtain⟨es,clock,hb,F,hs,rfl⟩:=h;exact⟨es,clock,hb,F,by simp[Maps.size,length_sorted],rfl⟩
theorem qP:Keyed prog 3:=int_keyed underlying3
theorem Nn(w:World):(zeroValue 3).run prog w=.ok (.int .i64 0) w:=by kernel_rfl
theorem fJ.same{w w':World}{b:Nat}{f:Int->Option Int}(h:fJ w b f)(hb:w'.heap[b]?=w.heap[b]?):fJ w' b f:=by
 obtain⟨D,⟨es,clock,h1,h2⟩,h3⟩:=h;exact⟨D,⟨es,clock,hb.trans h1,h2⟩,h3⟩
theorem fJ.lt{w:World}{b:Nat}{f:Int->Option Int}(h:fJ w b f):b<w.heap.size:=by
 obtain⟨D,h1,_⟩:=h;exact h1.lt
theorem fJ.upd{w w':World}{S:List Nat}{b:Nat}{f:Int->Option Int}(h:fJ w b f)(hu:ae S w w')(hn:b∉S):fJ w' b f:=h.same (hu.block b h.lt hn)
theorem fJ.ext{w:World}{b:Nat}{f g:Int->Option Int}(h:fJ w b f)(hg:∀k,f k=g k):fJ w b g:=by
 rwa[show f=g from funext hg] at h
theorem EJ{P:Program}{k:TypeId}{R:Value->Option (DataW Unit×List MemPlace)}{es':Array MapEntry}{clock:Nat}(K:Keyed P k)(F:Go.WideElems.Fit P k R es' clock){p:Lit×DataW Unit}
  (hp:p∈(es'.toList.map (Go.WideElems.rg P k R)).foldr DataW.insert []):WideAt.IsKeyLit p.1:=by
 have hp2:=(Go.WideShapes.sorted_perm _).mem_iff.1 hp;obtain⟨x,hx,rfl⟩:=List.mem_map.1 hp2;obtain⟨y,hy⟩:=F.reads x hx;rw[Go.WideElems.rg_of hy];exact K.key (Go.WideElems.rd_key hy)
theorem fJ.small{w:World}{b:Nat}{f:Int->Option Int}{D:DataW Unit}(h1:w.ownsMap prog 3 (plainElem prog 3) b (Maps.size D) D)
  (h2:∀kl,Maps.has D kl=true->∃k:Int,kl=.int .i64 k/\0<=k/\k<=65536/\(f k).isSome=true):Maps.size D<=65537:=by
 obtain⟨es,rfl,hp⟩:=h1.tidy qP
 let num:Lit->Int:=λl=>match l with | .int _ k=>k|_=>0
 have hk:∀p∈es,∃k:Int,p.1=.int .i64 k/\0<=k/\k<=65536:=λp hp=>by
  have hh:Maps.has (DataW.map es) p.1=true:=by
   rw[has_eq];refine List.any_eq_true.2 ⟨p,hp,WideAt.sameKey_self ?_⟩;obtain⟨es',clock,_,F,_,he⟩:=h1;have hes:es=(es'.toList.map (Go.WideElems.rg prog 3 (plainElem prog 3))).foldr DataW.insert []:=by simpa using he
   rw[hes] at hp;exact EJ qP F hp
  obtain⟨k,hk,h3,h4,_⟩:=h2 _ hh;exact⟨k,hk,h3,h4⟩
 have:=nodup_range 65537 (es.map λp=>num p.1) (by
  unfold List.Nodup;rw[List.pairwise_map];refine(List.Pairwise.imp_of_mem ?_ hp);intro a b ha hb hab e;obtain⟨k1,e1,_⟩:=hk a ha;obtain⟨k2,e2,_⟩:=hk b hb;rw[e1,e2] at e hab;exact hab (by rw[show k1=k2 from e])) (λx hx=>by
  obtain⟨p,hp,rfl⟩:=List.mem_map.1 hx;obtain⟨k,e,h3,h4⟩:=hk p hp
  rw [e];show 0<=k/\k<((65537:Nat):Int);omega)
 simpa[size_eq] using this
theorem xJ{k:Int}(h:-9223372036854775808<=k/\k<=9223372036854775807):keyOf prog 3 (.int .i64 k)=some (.int .i64 k):=keyOf_int_mk underlying3 (WalkArith.wf_i64 h)
theorem fJ.look{w:World}{b:Nat}{f:Int->Option Int}(h:fJ w b f)(k:Int)(hk:-9223372036854775808<=k/\k<=9223372036854775807) :
  (Instr.lookup 205 (.map (some b)) (.int .i64 k) false).run prog w=.ok (.int .i64 ((f k).getD 0)) w:=by
 obtain⟨D,h1,h2,h3⟩:=h;obtain⟨c,hrun,hat,_⟩:=h1.lookup_int qP underlying205 underlying3 (Nn w) (xJ hk);rw[hrun];cases hf:f k with
 |some z=>
  rw[(h3 k z hf).2] at hat;have:z=c:=by simpa using hat
  rw[this];rfl
 |none=>
  have:Maps.has D (.int .i64 k)=false:=by
   cases hh:Maps.has D (.int .i64 k)
   ·rfl
   ·obtain⟨k',e,_,_,h4⟩:=h2 _ hh;cases e;rw[hf] at h4;cases h4
  rw[atKey_of_not_has this] at hat;have:(0:Int)=c:=by simpa using hat
  rw[←this];rfl
theorem fJ.look_ok{w:World}{b:Nat}{f:Int->Option Int}(h:fJ w b f)(k:Int)(hk:-9223372036854775808<=k/\k<=9223372036854775807) :
  (Instr.lookup 205 (.map (some b)) (.int .i64 k) true).run prog w=.ok (.tuple #[.int .i64 ((f k).getD 0),.bool (f k).isSome]) w:=by
 obtain⟨D,h1,h2,h3⟩:=h;obtain⟨v,ps,hrun,hv⟩:=h1.look_ok qP underlying205 (Nn w) (plainElem_int underlying3 (a:=0) δ) (xJ hk);obtain⟨c,rfl,hc,_⟩:=plainElem_int_inv underlying3 hv;simp only[Prod.mk.injEq] at hc;have hat:=hc.1;rw[hrun];cases hf:f k with
 |some z=>
  rw[(h3 k z hf).2] at hat;rw[(h3 k z hf).1];have:z=c:=by simpa using hat
  rw[this];rfl
 |none=>
  have:Maps.has D (.int .i64 k)=false:=by
   cases hh:Maps.has D (.int .i64 k)
   ·rfl
   ·obtain⟨k',e,_,_,h4⟩:=h2 _ hh;cases e;rw[hf] at h4;cases h4
  rw[atKey_of_not_has this] at hat;rw[this];have:(0:Int)=c:=by simpa using hat
  rw[←this];rfl
theorem vO{w w':World}{b:Nat}(h:w.mapTurned w' b):ae [b] w w':=(ae.refl [b] w).grown h.grown (λk hk=>Α (by cases hk;simp))
theorem fJ.store{w:World}{b:Nat}{f:Int->Option Int}(h:fJ w b f)(k z:Int)(hk:0<=k/\k<=65536)(hz:-9223372036854775808<=z/\z<=9223372036854775807) :
  ∃w',(Instr.mapUpdate 205 (.map (some b)) (.int .i64 k) (.int .i64 z)).run prog w=.ok () w'/\fJ w' b (λq=>if q=k then some z else f q)/\ae [b] w w':=by
 obtain⟨D,h1,h2,h3⟩:=h;have hs:=fJ.small h1 h2;obtain⟨w',hrun,ho,ht⟩:=h1.store qP underlying205 μ (xJ (k:=k) ω) (plainElem_int underlying3 (a:=z) (WalkArith.wf_i64 hz));have hD:=h1.isMap;refine⟨w',hrun,⟨_,xW ho,λkl hkl=>?_,λq y hq=>?_⟩,vO ht⟩
 ·by_cases e:kl=.int .i64 k
  ·exact⟨k,e,hk.1,hk.2,σ⟩
  ·rw[has_put_other e] at hkl;obtain⟨q,rfl,a,b,c⟩:=h2 kl hkl;refine⟨q,rfl,a,b,?_⟩
   show(if q=k then some z else f q).isSome=true
   split
   ·rfl
   ·exact c
 ·by_cases e:q=k
  ·subst e;simp only[if_true,ϗ] at hq;subst hq;exact⟨has_put_same hD (show WideAt.IsKeyLit (.int .i64 q) from True.intro) _,λd=>atKey_put_same hD (show WideAt.IsKeyLit (.int .i64 q) from True.intro) _ _⟩
  ·simp only[Γ e] at hq;have hne:(Lit.int .i64 q)≠.int .i64 k:=λh=>e (by cases h;rfl);rw[has_put_other hne];exact⟨(h3 q y hq).1,λd=>by rw[atKey_put_other hne];exact(h3 q y hq).2 d⟩
theorem fJ.drop{w:World}{b:Nat}{f:Int->Option Int}(h:fJ w b f)(k:Int)(hk:-9223372036854775808<=k/\k<=9223372036854775807)(ty:TypeId) :
  ∃w',(Builtin.delete_ #[205,3] ty #[.map (some b),.int .i64 k]).run prog w=.ok (.tuple #[]) w'/\fJ w' b (λq=>if q=k then none else f q)/\ae [b] w w':=by
 obtain⟨D,h1,h2,h3⟩:=h;obtain⟨w',hrun,ho,ht⟩:=h1.drop qP underlying205 (xJ hk) ty;refine⟨w',hrun,⟨_,xW ho,λkl hkl=>?_,λq y hq=>?_⟩,vO ht⟩
 ·by_cases e:kl=.int .i64 k
  ·subst e;rw[has_del_same] at hkl;cases hkl
  ·rw[has_del_other e] at hkl;obtain⟨q,rfl,a,b,c⟩:=h2 kl hkl;exact⟨q,rfl,a,b,by show(if q=k then none else f q).isSome=true;rw[Γ (λh=>e (by rw[h]))];exact c⟩
 ·by_cases e:q=k
  ·subst e;simp at hq
  ·simp only[Γ e] at hq;have hne:(Lit.int .i64 q)≠.int .i64 k:=λh=>e (by cases h;rfl);rw[has_del_other hne];exact⟨(h3 q y hq).1,λd=>by rw[atKey_del_other hne];exact(h3 q y hq).2 d⟩
theorem fJ.made(w:World):fJ (w.alloc (.map #[] 0)) w.heap.size (λ_=>none):=
 ⟨.map [],World.ownsMap_made w _ _ _,λkl hkl=>by simp[has_eq] at hkl,λk z hz=>by cases hz⟩
theorem kG{w:World}{ops:Array Oper}{rest:List Oper}{o:Oper}{a:Act}{Q:Exit->Act->World->Prop}(hg:o.guard=none)(m x v:Operand)(hop:o.op=Op.mapUpdate 205 m x v)
  (b:Nat) (f:Int->Option Int) (hm:a.eval m=.map (some b)) (h:fJ w b f) (k z:Int) (hx:a.eval x=.int .i64 k) (hv:a.eval v=.int .i64 z) (hk:0<=k/\k<=65536) (hz:-9223372036854775808<=z/\z<=9223372036854775807)
  (hK:∀w',fJ w' b (λq=>if q=k then some z else f q)->ae [b] w w'->wpList prog ops Q rest (a.put o.dst undef) w'):wpList prog ops Q (o::rest) a w:=by
 refine wpList_plain hg λK' hK'=>?_;obtain⟨w',hrun,r1,r2⟩:=h.store k z hk hz;unfold Oper.wp;simp[execOp,hop,hm,hx,hv,hrun,Result.andThen];exact hK' _ _ (hK w' r1 r2)
theorem mF{w:World}{ops:Array Oper}{rest:List Oper}{o:Oper}{a:Act}{Q:Exit->Act->World->Prop}(hg:o.guard=none)(m x:Operand)(hop:o.op=Op.call { callee:=Callee.builtin Builtin.delete,args:=#[m,x],argTypes:=#[205,3] })
  (b:Nat) (f:Int->Option Int) (hm:a.eval m=.map (some b)) (h:fJ w b f) (k:Int) (hx:a.eval x=.int .i64 k) (hk:-9223372036854775808<=k/\k<=9223372036854775807)
  (hK:∀w',fJ w' b (λq=>if q=k then none else f q)->ae [b] w w'->wpList prog ops Q rest (a.put o.dst (.tuple #[])) w'):wpList prog ops Q (o::rest) a w:=by
 refine wpList_plain hg λK' hK'=>?_;obtain⟨w',hrun,r1,r2⟩:=h.drop k hk o.type;unfold Oper.wp;simp[execOp,hop,resolve,invoke,builtin,hm,hx,hrun,Result.andThen];exact hK' _ _ (hK w' r1 r2)
theorem il{w:World}{ops:Array Oper}{rest:List Oper}{o:Oper}{a:Act}{Q:Exit->Act->World->Prop}(hg:o.guard=none)(m x:Operand)(hop:o.op=Op.lookup 205 m x false)
  (b:Nat) (f:Int->Option Int) (hm:a.eval m=.map (some b)) (h:fJ w b f) (k:Int) (hx:a.eval x=.int .i64 k) (hk:-9223372036854775808<=k/\k<=9223372036854775807) (z:Int) (hz:(f k).getD 0=z)
  (hK:wpList prog ops Q rest (a.put o.dst (.int .i64 z)) w):wpList prog ops Q (o::rest) a w:=by
 refine wpList_plain hg λK' hK'=>?_;have hrun:=h.look k hk;rw[hz] at hrun;unfold Oper.wp;simp[execOp,hop,hm,hx,hrun,Result.andThen];exact hK' _ _ hK
theorem mX{w:World}{ops:Array Oper}{rest:List Oper}{o:Oper}{a:Act}{Q:Exit->Act->World->Prop}(hg:o.guard=none)(m x:Operand)(hop:o.op=Op.lookup 205 m x true)
  (b:Nat) (f:Int->Option Int) (hm:a.eval m=.map (some b)) (h:fJ w b f) (k:Int) (hx:a.eval x=.int .i64 k) (hk:-9223372036854775808<=k/\k<=9223372036854775807)
  (hK:wpList prog ops Q rest (a.put o.dst (.tuple #[.int .i64 ((f k).getD 0),.bool (f k).isSome])) w):wpList prog ops Q (o::rest) a w:=by
 refine wpList_plain hg λK' hK'=>?_;have hrun:=h.look_ok k hk;unfold Oper.wp;simp[execOp,hop,hm,hx,hrun,Result.andThen];exact hK' _ _ hK
end Go.Proofs.YtnpdakpagnpanaaGreat
namespace Go.Proofs.YtnpdakpagnpanaaGreat
open Tryz
open Go Go.RowKit
def jS(raw:Nat->Cl)(j:Nat):Value:=if j % 3=0 then .int .i64 (raw (j / 3)).i else if j % 3=1 then .int .i64 (raw (j / 3)).k else .int .u64 (raw (j / 3)).s
theorem NG(raw:Nat->Cl)(x:Nat):jS raw (x*3)=.int .i64 (raw x).i:=by unfold jS;rw[Δ ω,show x*3 / 3=x by omega]
theorem zJ(raw:Nat->Cl)(x:Nat):jS raw (x*3+1)=.int .i64 (raw x).k:=by unfold jS;rw[Γ ω,Δ ω,show(x*3+1) / 3=x by omega]
theorem zX(raw:Nat->Cl)(x:Nat):jS raw (x*3+2)=.int .u64 (raw x).s:=by unfold jS;rw[Γ ω,Γ ω,show(x*3+2) / 3=x by omega]
def fI(A:NS)(h:Int):Option Int:=if 0<dD A h then some (dD A h:Int) else none
theorem lN(A:NS)(h:Int):(fI A h).getD 0=dD A h:=by unfold fI;split;rfl;simp;omega
structure CM(w:World)(c ca nm mb g cap:Nat)(l:List Int)(rt dp:Nat->Nat)(raw:Nat->Cl)(A:NS)(st:Nat):Prop where
 head:aS w c 226 4 (λj=>[Value.int .i64 (st:Int),.slice (some ⟨ca,0,none⟩) A.cs.length A.cs.length,.pointer (some ⟨nm,0,none⟩),.map (some mb)].getD j undef)
 row:aS w ca 260 (A.cs.length*3) (jS raw)
 WZ:jv w nm g cap l
 many:fJ w mb (fI A)
 OY:pU l rt dp
 ok:A.Ok
 nH:st<=4611686018427387904
 rel:∀x,x<A.cs.length->(raw x=Cl.z/\A.c x=Cl.z)\/(1<=(raw x).i/\(raw x).i<l.length/\A.c x=⟨rt (raw x).i.toNat,(raw x).k,(raw x).s⟩)
 hlen:A.hs.length=l.length
 has:∀i,1<=i->i<l.length->A.hs.getD i false=decide (l.getD i 0=i)
 sep:(c≠ca/\c≠nm/\c≠mb/\c≠g)/\(ca≠nm/\ca≠mb/\ca≠g)/\(nm≠mb/\mb≠g)
theorem CM.upd{w w':World}{S:List Nat}{c ca nm mb g cap:Nat}{l:List Int}{rt dp:Nat->Nat}{raw:Nat->Cl}{A:NS}{st:Nat}(h:CM w c ca nm mb g cap l rt dp raw A st)(hu:ae S w w')(hS:∀x,x∈S->x∉[c,ca,nm,mb,g]):CM w' c ca nm mb g cap l rt dp raw A st:=
 ⟨h.head.upd hu (λm=>hS _ m σ),h.row.upd hu (λm=>hS _ m σ),h.WZ.upd hu (λm=>hS _ m σ) (λm=>hS _ m σ),h.many.upd hu (λm=>hS _ m σ),h.OY,h.ok,h.nH,h.rel,h.hlen,h.has,h.sep⟩
def aF(w:World)(c:Nat)(F:List Nat)(A:NS)(st:Nat):Prop:=∃ca nm mb g cap l rt dp raw,CM w c ca nm mb g cap l rt dp raw A st/\F=[c,ca,nm,mb,g]
theorem aF.upd{w w':World}{S F:List Nat}{c:Nat}{A:NS}{st:Nat}(h:aF w c F A st)(hu:ae S w w')(hS:∀x,x∈S->x∉F):aF w' c F A st:=by
 obtain⟨ca,nm,mb,g,cap,l,rt,dp,raw,h,rfl⟩:=h;exact⟨ca,nm,mb,g,cap,l,rt,dp,raw,h.upd hu hS,rfl⟩
theorem aF.ag{w w':World}{F:List Nat}{c:Nat}{A:NS}{st:Nat}(h:aF w c F A st)(hu:ae [] w w'):aF w' c F A st:=h.upd hu σ
theorem aF.ok{w:World}{F:List Nat}{c:Nat}{A:NS}{st:Nat}(h:aF w c F A st):A.Ok:=by
 obtain⟨ca,nm,mb,g,cap,l,rt,dp,raw,h,rfl⟩:=h;exact h.ok
theorem aF.nH{w:World}{F:List Nat}{c:Nat}{A:NS}{st:Nat}(h:aF w c F A st):st<=4611686018427387904:=by
 obtain⟨ca,nm,mb,g,cap,l,rt,dp,raw,h,rfl⟩:=h;exact h.nH
theorem aF.lt{w:World}{F:List Nat}{c:Nat}{A:NS}{st:Nat}(h:aF w c F A st):∀x,x∈F->x<w.heap.size:=by
 obtain⟨ca,nm,mb,g,cap,l,rt,dp,raw,h,rfl⟩:=h;intro x hx;have:=h.head.lt;have:=h.row.lt;have:=h.WZ.lt;have:=h.many.lt;simp at hx;omega
theorem aF.mem{w:World}{F:List Nat}{c:Nat}{A:NS}{st:Nat}(h:aF w c F A st):c∈F:=by
 obtain⟨ca,nm,mb,g,cap,l,rt,dp,raw,h,rfl⟩:=h;simp
def Goes(F:List Nat)(w w':World)(P:List Nat->Prop):Prop:=∃F',P F'/\ae F w w'/\∀x,x∈F'->x∈F\/w.heap.size<=x
theorem Goes.stay{F:List Nat}{w w':World}{P:List Nat->Prop}(h:P F)(hu:ae F w w'):Goes F w w' P:=⟨F,h,hu,λx hx=>Α hx⟩
section
variable{w:World}{c ca nm mb g cap:Nat}{l:List Int}{rt dp:Nat->Nat}{raw:Nat->Cl}{A:NS}{st:Nat}
theorem CM.c0(h:CM w c ca nm mb g cap l rt dp raw A st):w.cell? ⟨c,0,none⟩=some (.int .i64 (st:Int)):=h.head.cellAt 0 ω rfl
theorem CM.c1(h:CM w c ca nm mb g cap l rt dp raw A st):w.cell? ⟨c,1,none⟩=some (.slice (some ⟨ca,0,none⟩) A.cs.length A.cs.length):=h.head.cellAt 1 ω rfl
theorem CM.c2(h:CM w c ca nm mb g cap l rt dp raw A st):w.cell? ⟨c,2,none⟩=some (.pointer (some ⟨nm,0,none⟩)):=h.head.cellAt 2 ω rfl
theorem CM.c3(h:CM w c ca nm mb g cap l rt dp raw A st):w.cell? ⟨c,3,none⟩=some (.map (some mb)):=h.head.cellAt 3 ω rfl
theorem CM.aax(h:CM w c ca nm mb g cap l rt dp raw A st){x:Nat}(hx:x<A.cs.length):decide (0<(A.c x).i)=decide (0<(raw x).i):=by
 rcases h.rel x hx with⟨h1,h2⟩|⟨h1,h2,h3⟩
 ·rw[h1,h2]
 ·have:=h.OY.Yl (i:=(raw x).i.toNat) ω ω;rw[h3,decide_eq_decide];simp only;omega
theorem CM.yt(h:CM w c ca nm mb g cap l rt dp raw A st)(x:Int):yt l x=aY A x:=by
 unfold Go.Proofs.YtnpdakpagnpanaaGreat.yt aY;rw[h.hlen]
 by_cases hx:0<x/\x<l.length
 ·rw[h.has x.toNat ω ω,Bool.eq_iff_iff];simp only[Τ,Ο,ϟ];constructor
  ·rintro⟨_,h2⟩;exact⟨⟨ω,ω⟩,ω⟩
  ·rintro⟨_,h2⟩;exact⟨⟨ω,ω⟩,ω⟩
 ·have e1:(decide (0<x) && decide (x<(l.length:Int)))=false:=ζ;have e2:(decide (1<=x) && decide (x<(l.length:Int)))=false:=ζ;rw[e1,e2];rfl
end
theorem jr{w:World}{c st:Nat}{F:List Nat}{A:NS}(h:aF w c F A st)(x:Int) :
  Calls prog 123 #[.pointer (some ⟨c,0,none⟩),.int .i64 x] w λe w'=>e=.returned (.bool (aY A x))/\w'=w:=by
 obtain⟨ca,nm,mb,g,cap,l,rt,dp,raw,h,rfl⟩:=h;have c2:=h.c2;have k:=Bq nm g cap l x w h.WZ h.OY.Io;rw[h.yt] at k;clear h
 go_enter func123,ntmps123
 go_wp2_with ((go_at_call 136;(with_reducible refine aT (k) ?_)))
 go_ret;exact⟨rfl,rfl⟩
theorem iT{w:World}{c st:Nat}{F:List Nat}{A:NS}(h:aF w c F A st)(x:Int)(hx:-9223372036854775808<=x/\x<=9223372036854775807) :
  Calls prog 126 #[.pointer (some ⟨c,0,none⟩),.int .i64 x] w λe w'=>e=.returned (.int .i64 (dD A x:Int))/\w'=w:=by
 obtain⟨ca,nm,mb,g,cap,l,rt,dp,raw,h,rfl⟩:=h;have c3:=h.c3;have hl:=h.many.look x hx;rw[lN] at hl;clear h
 go_enter func126,ntmps126
 go_wp2;go_ret;exact⟨rfl,rfl⟩
theorem Aq{w:World}{c st:Nat}{F:List Nat}{A:NS}(h:aF w c F A st)(x:Int) :
  Calls prog 148 #[.pointer (some ⟨c,0,none⟩),.int .i64 x] w λe w'=>e=.returned (.bool (wT A x))/\w'=w:=by
 obtain⟨ca,nm,mb,g,cap,l,rt,dp,raw,h,rfl⟩:=h;have c1:=h.c1;clear h;unfold wT
 by_cases h0:0<=x
 ·go_enter func148,ntmps148
  go_wp2;go_ret;exact⟨cZ (by simp[h0]),rfl⟩
 ·go_enter func148,ntmps148
  go_wp2;go_ret;exact⟨cZ ζ,rfl⟩
theorem qU{w:World}{c st:Nat}{F:List Nat}{A:NS}(h:aF w c F A st)(x:Int) :
  Calls prog 135 #[.pointer (some ⟨c,0,none⟩),.int .i64 x] w λe w'=>e=.returned (.bool (bY A x))/\w'=w:=by
 have k:=Aq h x;obtain⟨ca,nm,mb,g,cap,l,rt,dp,raw,h,rfl⟩:=h;have c1:=h.c1;unfold bY;cases hs:wT A x
 ·rw[hs] at k;clear h
  go_enter func135,ntmps135
  go_wp2_with ((go_at_call 148;(with_reducible refine aT (k) ?_)))
  go_ret;exact⟨rfl,rfl⟩
 ·rw[hs] at k;have hx:=(ic _ _).1 hs;obtain⟨i,rfl⟩:∃i:Nat,x=i:=⟨x.toNat,ω⟩;have hi:i<A.cs.length:=ω;have d0:=h.row.cellAt (i*3) ω (NG raw i);simp only[π];rw[h.aax hi];clear h hs
  go_enter func135,ntmps135
  go_wp2_with ((go_at_call 148;(with_reducible refine aT (k) ?_)))
  go_ret;exact⟨cZ σ,rfl⟩
theorem row3{w:World}{ca m i:Nat}{e:TypeId}{raw:Nat->Cl}(h:aS w ca e m (jS raw))(cl:Cl) :
  aS (((w.setCell ⟨ca,i*3,none⟩ (.int .i64 cl.i)).setCell ⟨ca,i*3+1,none⟩ (.int .i64 cl.k)).setCell ⟨ca,i*3+2,none⟩ (.int .u64 cl.s)) ca e m (jS (λy=>if y=i then cl else raw y)):=by
 refine(((h.set _ _).set _ _).set _ _).ext (λj hj=>?_);simp only[jS]
 by_cases e0:j=i*3+2
 ·rw[Δ e0,Γ ω,Γ ω,Δ ω]
 ·rw[Γ e0]
  by_cases e1:j=i*3+1
  ·rw[Δ e1,Γ ω,Δ ω,Δ ω]
  ·rw[Γ e1]
   by_cases e2:j=i*3
   ·rw[Δ e2,Δ ω,Δ ω]
   ·rw[Γ e2,Γ (show ¬j / 3=i by omega)]
theorem row2{w:World}{ca m i:Nat}{e:TypeId}{raw:Nat->Cl}(h:aS w ca e m (jS raw))(k s:Int) :
  aS ((w.setCell ⟨ca,i*3+1,none⟩ (.int .i64 k)).setCell ⟨ca,i*3+2,none⟩ (.int .u64 s)) ca e m (jS (λy=>if y=i then⟨(raw i).i,k,s⟩ else raw y)):=by
 refine((h.set _ _).set _ _).ext (λj hj=>?_);simp only[jS]
 by_cases e0:j=i*3+2
 ·rw[Δ e0,Γ ω,Γ ω,Δ ω]
 ·rw[Γ e0]
  by_cases e1:j=i*3+1
  ·rw[Δ e1,Γ ω,Δ ω,Δ ω]
  ·rw[Γ e1]
   by_cases e2:j=i*3
   ·rw[Δ ω,Δ ω,Δ ω,show j / 3=i by omega]
   ·rw[Γ (show ¬j / 3=i by omega)]
section
variable{w:World}{c ca nm mb g cap:Nat}{l:List Int}{rt dp:Nat->Nat}{raw:Nat->Cl}{A:NS}{st:Nat}
theorem CM.turn(h:CM w c ca nm mb g cap l rt dp raw A st){w2:World}{GZ:Nat->Cl}{A':NS}(hu:ae [ca,mb] w w2)(hrow:aS w2 ca 260 (A.cs.length*3) (jS GZ))(hm:fJ w2 mb (fI A'))(hok:A'.Ok)
  (hlen:A'.cs.length=A.cs.length) (jd:A'.hs=A.hs) (hrel:∀x,x<A.cs.length->(GZ x=Cl.z/\A'.c x=Cl.z)\/(1<=(GZ x).i/\(GZ x).i<l.length/\A'.c x=⟨rt (GZ x).i.toNat,(GZ x).k,(GZ x).s⟩)) :
  CM w2 c ca nm mb g cap l rt dp GZ A' st:=by
 have s:=h.sep;refine⟨?_,by rw[hlen];exact hrow,h.WZ.upd hu ι ι,hm,h.OY,hok,h.nH,by rw[hlen];exact hrel,by rw[jd];exact h.hlen,by rw[jd];exact h.has,s⟩;rw[hlen];exact h.head.upd hu ι
theorem CM.Mc(h:CM w c ca nm mb g cap l rt dp raw A st){i:Nat}(hi:aY A i=true):1<=i/\i<l.length/\rt i=i/\l.getD i 0=i:=by
 rw[←h.yt] at hi;unfold Go.Proofs.YtnpdakpagnpanaaGreat.yt at hi;simp only[Τ,Ο,ϟ,π] at hi;exact⟨ω,ω,h.OY.top i ω ω hi.2,hi.2⟩
end
def Y8(l:List Int)(rt:Nat->Nat)(cr ca:Cl):Prop:=(cr=Cl.z/\ca=Cl.z)\/(1<=cr.i/\cr.i<l.length/\ca=⟨rt cr.i.toNat,cr.k,cr.s⟩)
theorem Aa{l:List Int}{rt:Nat->Nat}{raw:Nat->Cl}{A:NS}{x:Nat}{cr ca:Cl}(h:∀y,y<A.cs.length->Y8 l rt (raw y) (A.c y))(hx:x<A.cs.length)(hc:Y8 l rt cr ca) :
  ∀y,y<A.cs.length->Y8 l rt (if y=x then cr else raw y) ((iW A x ca).c y):=by
 intro y hy;rw[lg]
 by_cases e:y=x
 ·simp only[e,hx,and_self,if_true];exact hc
 ·simp only[e,false_and,if_false];exact h y hy
theorem Ke{A:NS}{x:Nat}{c:Cl}(h:Int)(hx:x<A.cs.length)(hz:(A.c x).i=0)(hc:0<c.i)(q:Int):(if q=c.i then some ((dD A c.i:Int)+1) else fI A q)=fI (iW A x c) q:=by
 have:=nT A x c q hx;rw[hz] at this;unfold fI
 by_cases e:q=c.i
 ·subst e;rw[Δ rfl];rw[Γ ω,Δ ⟨rfl,hc⟩] at this;simp only[ϕ] at this;rw[Δ ω,this];simp
 ·rw[Γ e];rw[Γ ω,Γ ω] at this;simp only[ϕ] at this;rw[this]
theorem og{w:World}{c st:Nat}{F:List Nat}{A:NS}(h:aF w c F A st)(hh x:Nat)(k s:Int)(hk:-9223372036854775808<=k/\k<=9223372036854775807/\0<=s/\s<=18446744073709551615)(hB:rG A hh x=true) :
  Calls prog 138 #[.pointer (some ⟨c,0,none⟩),.int .i64 (hh:Int),.int .i64 (x:Int),.agg #[.int .i64 k,.int .u64 s]] w λe w'=>e=.returned (.bool true)/\aF w' c F (aO A hh x k s) st/\ae F w w':=by
 have k1:=λW hW=>jr (h.ag (w':=W) hW) hh;have k2:=λW hW=>Aq (h.ag (w':=W) hW) x;have k3:=λW hW=>qU (h.ag (w':=W) hW) x;have hu:ae [] w (w.alloc (.cells #[.int .i64 k,.int .u64 s] 97)):=(ae.refl _ _).alloc _;have hp:=(fP _ _ _).1 hB;rw[hp.1] at k1;rw[hp.2.1] at k2;rw[hp.2.2] at k3;have hx:=(ic _ _).1 hp.2.1;have Cj:=(aC _ _).1 hp.1;have hAz:(A.c x).i<=0:=by have:=hp.2.2;unfold bY at this;rw[hp.2.1] at this;simpa using this
 have hin:(A.c x).i=0:=by have:=h.ok.nat x ω;omega
 have hlen:=zM h.ok (hh:Int);have hA1:=h.ok.h1;obtain⟨ca,nm,mb,g,cap,l,rt,dp,raw,h,rfl⟩:=h;have c1:=h.c1;have c3:=h.c3;have d0:=h.row.cell (x*3) ω;have d1:=h.row.cell (x*3+1) ω;have d2:=h.row.cell (x*3+2) ω;have f0:=h.row.free (x*3);have f1:=h.row.free (x*3+1);have f2:=h.row.free (x*3+2);have hlt:=aF.lt ⟨ca,nm,mb,g,cap,l,rt,dp,raw,h,rfl⟩;have l1:=hlt c σ;have l2:=hlt ca σ;have hs:=h.sep;have H:=χ h;have HP:=χ hp;clear h hp hB hlt;obtain⟨len,hle⟩:∃n,n=A.cs.length:=⟨_,rfl⟩;rw[←hle] at c1 hx;have HL:=χ hle;clear hle;have hx2:x<len:=ω
 go_enter func138,ntmps138
 go_wp2_with (first|(go_at_call 123;(with_reducible refine aT ((k1 _ hu)) ?_))|(go_at_call 148;(with_reducible refine aT ((k2 _ hu)) ?_))|(go_at_call 135;(with_reducible refine aT ((k3 _ hu)) ?_)))
 go_region
 go_wp2_with (first
  |(at_lookup;refine il rfl _ _ rfl mb (fI A) rfl (H.out.many.upd (S:=[ca]) β ι) (hh:Int) rfl ω (dD A (hh:Int):Int) (lN _ _) ?_)
  | (at_mapUpdate;refine kG rfl _ _ _ rfl mb (fI A) rfl (H.out.many.upd (S:=[ca]) β ι) (hh:Int) ((dD A (hh:Int):Int)+1) rfl rfl ω ω ?_;intro w2 hm2 hu2))
 go_ret;have hu3:ae [ca] w ((((w.setCell ⟨ca,x*3,none⟩ (.int .i64 (hh:Int))).setCell ⟨ca,x*3+1,none⟩ (.int .i64 k)).setCell ⟨ca,x*3+2,none⟩ (.int .u64 s)).alloc (.cells #[.int .i64 k,.int .u64 s] 97)).drew:=β;have hr3:=((row3 (i:=x) H.out.row ⟨(hh:Int),k,s⟩).upd ((ae.refl [] _).alloc (.cells #[.int .i64 k,.int .u64 s] 97) |>.drew) σ).upd hu2 ι;have fU:ae [ca,mb] w w2:=(hu3.mono ι).joined hu2 (λy hy=>Α (by simp at hy;simp[hy]));have hrt:=H.out.Mc HP.out.1;have hxl:x<A.cs.length:=by rw[←HL.out];exact hx2
 have e:aO A (hh:Int) (x:Int) k s=iW A x ⟨(hh:Int),k,s⟩:=by unfold aO;rw[Δ ((fP _ _ _).2 HP.out)];simp
 refine⟨rfl,⟨ca,nm,mb,g,cap,l,rt,dp,λy=>if y=x then⟨(hh:Int),k,s⟩ else raw y,?_,rfl⟩,fU.mono ι⟩;rw[e];refine H.out.turn fU hr3 (hm2.ext (λq=>Ke (c:=⟨(hh:Int),k,s⟩) (hh:Int) hxl hin (by show 0<(hh:Int);omega) q)) (by rw[←e];exact VP H.out.ok _ _ _ _ hk) (fO _ _ _) rfl (Aa H.out.rel hxl (Β ⟨by show 1<=(hh:Int);omega,by show(hh:Int)<l.length;omega,by rw[π,hrt.2.2.1]⟩))
theorem l9{w:World}{c st:Nat}{F:List Nat}{A:NS}(h:aF w c F A st)(x:Int)(hx:bY A x=false) :
  Calls prog 121 #[.pointer (some ⟨c,0,none⟩),.int .i64 x] w λe w'=>e=.returned (.tuple #[.agg #[.int .i64 0,.int .u64 0],.bool false])/\ae [] w w':=by
 have hu:ae [] w (w.alloc (.cells #[.int .i64 0,.int .u64 0] 97)):=(ae.refl _ _).alloc _;have k:=qU (h.ag hu) x;rw[hx] at k;clear h hx
 go_enter func121,ntmps121
 go_wp2_with ((go_at_call 135;(with_reducible refine aT (k) ?_)))
 exact bodyPost_ret (v:=.tuple #[.agg #[.int .i64 0,.int .u64 0],.bool false]) (by simp[results,results121,go_sem]) rfl ⟨rfl,ξ⟩
theorem jT{w:World}{c st:Nat}{F:List Nat}{A:NS}(h:aF w c F A st)(x:Nat)(hx:bY A x=true) :
  Calls prog 121 #[.pointer (some ⟨c,0,none⟩),.int .i64 (x:Int)] w λe w'=>e=.returned (.tuple #[.agg #[.int .i64 (A.c x).k,.int .u64 (A.c x).s],.bool true])/\ae [] w w':=by
 have hu:ae [] w (w.alloc (.cells #[.int .i64 0,.int .u64 0] 97)):=(ae.refl _ _).alloc _;have k:=qU (h.ag hu) x;rw[hx] at k;obtain⟨hx1,hx2⟩:=(aj _ _).1 hx;obtain⟨ca,nm,mb,g,cap,l,rt,dp,raw,h,rfl⟩:=h;have e:A.c x=⟨rt (raw x).i.toNat,(raw x).k,(raw x).s⟩:=by
  rcases h.rel x hx1 with⟨h1,h2⟩|⟨h1,h2,h3⟩
  ·rw[h2] at hx2;exact absurd hx2 δ
  ·exact h3
 rw[e];have c1:=h.c1;have d1:=h.row.cellAt (x*3+1) ω (zJ raw x);have d2:=h.row.cellAt (x*3+2) ω (zX raw x);have l1:=h.head.lt;have l2:=h.row.lt;clear h hx hx2 e
 go_enter func121,ntmps121
 go_wp2_with ((go_at_call 135;(with_reducible refine aT (k) ?_)))
 exact bodyPost_ret (v:=.tuple #[.agg #[.int .i64 (raw x).k,.int .u64 (raw x).s],.bool true]) (by simp[results,results121,go_sem]) rfl ⟨rfl,ξ⟩
theorem CM.Y1{w:World}{c ca nm mb g cap:Nat}{l l':List Int}{rt dp:Nat->Nat}{raw:Nat->Cl}{A:NS}{st:Nat}(h:CM w c ca nm mb g cap l rt dp raw A st){w':World}(hN:jv w' nm g cap l')(ok:pU l' rt dp)(hl:l'.length=l.length)(hu:ae [g] w w') :
  CM w' c ca nm mb g cap l' rt dp raw A st:=by
 have s:=h.sep;refine⟨h.head.upd hu ι,h.row.upd hu ι,hN,h.many.upd hu ι,ok,h.ok,h.nH,by rw[hl];exact h.rel,by rw[hl];exact h.hlen,λi h1 h2=>?_,s⟩;rw[hl] at h2;rw[h.has i h1 h2,decide_eq_decide,h.OY.UY h1 h2,ok.UY h1 (by rw[hl];exact h2)]
theorem bV{w:World}{c st:Nat}{F:List Nat}{A:NS}(h:aF w c F A st)(x:Nat)(hx:bY A x=true) :
  Calls prog 124 #[.pointer (some ⟨c,0,none⟩),.int .i64 (x:Int)] w λe w'=>e=.returned (.tuple #[.int .i64 (A.c x).i,.bool true])/\aF w' c F A st/\ae F w w':=by
 have k:=qU h x;rw[hx] at k;obtain⟨hx1,hx2⟩:=(aj _ _).1 hx;obtain⟨ca,nm,mb,g,cap,l,rt,dp,raw,h,rfl⟩:=h;have e:1<=(raw x).i/\(raw x).i<l.length/\A.c x=⟨rt (raw x).i.toNat,(raw x).k,(raw x).s⟩:=by
  rcases h.rel x hx1 with⟨h1,h2⟩|h3
  ·rw[h2] at hx2;exact absurd hx2 δ
  ·exact h3
 obtain⟨r,hr⟩:∃r:Nat,(raw x).i=r:=⟨(raw x).i.toNat,ω⟩;rw[e.2.2,hr,π];have c1:=h.c1;have c2:=h.c2;have d0:=h.row.cellAt (x*3) ω (NG raw x);rw[hr] at d0 e;have hs:=h.sep;have H:=χ h;have hr1:1<=r:=ω;have hr2:r<l.length:=ω;clear h hx hx2 e hr
 go_enter func124,ntmps124
 go_wp2_with ((go_at_call 135;(with_reducible refine aT (k) ?_)))
 have r1:∀W,ae [g] w W->W.cell? ⟨c,1,none⟩=some (.slice (some ⟨ca,0,none⟩) A.cs.length A.cs.length):=λW hW=>by rw[hW.cell H.out.head.lt ι];exact c1
 have r2:∀W,ae [g] w W->W.cell? ⟨c,2,none⟩=some (.pointer (some ⟨nm,0,none⟩)):=λW hW=>by rw[hW.cell H.out.head.lt ι];exact c2
 have r3:∀W,ae [g] w W->W.cell? ⟨ca,x*3,none⟩=some (.int .i64 (r:Int)):=λW hW=>by rw[hW.cell H.out.row.lt ι];exact d0
 go_region_held3 (ae [g] w) (exact η)
  ((go_at_call 137;(with_reducible refine(Qr nm g cap l rt dp r _ (H.out.WZ.upd (S:=[]) β σ σ) H.out.OY hr1 hr2).mono ?_);rintro e w1 ⟨l',rfl,hN,hok,hlen,hu⟩;have hu':ae [g] w w1:=(by first|exact hu|exact((ae.refl [g] w).drew.trans hu)|exact((ae.refl [g] w).drewN _ |>.trans hu))))
 go_wp2;go_ret2;exact⟨rfl,⟨ca,nm,mb,g,cap,l',rt,dp,raw,H.out.Y1 hN hok hlen hu',rfl⟩,hu'.mono ι⟩
theorem KS{A A':NS}(h:∀q,dD A' q=dD A q):fI A'=fI A:=by
 funext q;unfold fI;rw[h q]
theorem iD{w:World}{c st:Nat}{F:List Nat}{A:NS}(h:aF w c F A st)(i:Nat)(k s:Int)(hk:-9223372036854775808<=k/\k<=9223372036854775807/\0<=s/\s<=18446744073709551615)(hB:jf A i k s=true) :
  Calls prog 131 #[.pointer (some ⟨c,0,none⟩),.int .i64 (i:Int),.agg #[.int .i64 k,.int .u64 s]] w λe w'=>e=.returned (.bool true)/\aF w' c F (aA A i k s) st/\ae F w w':=by
 have hu0:ae [] w (w.alloc (.cells #[.int .i64 k,.int .u64 s] 97)):=(ae.refl _ _).alloc _;have k3:=λW (hW:ae [] (w.alloc (.cells #[.int .i64 k,.int .u64 s] 97)) W)=>qU (h.ag (hu0.trans hW)) i;have hB0:=χ hB;unfold jf at hB;simp only[Τ,Bool.not_eq_true',π] at hB;obtain⟨e,hl⟩:=hB;rw[e] at k3;obtain⟨hi,hx2⟩:=(aj _ _).1 e;obtain⟨ca,nm,mb,g,cap,l,rt,dp,raw,h,rfl⟩:=h;have ee:1<=(raw i).i/\(raw i).i<l.length/\A.c i=⟨rt (raw i).i.toNat,(raw i).k,(raw i).s⟩:=by
  rcases h.rel i hi with⟨h1,h2⟩|h3
  ·rw[h2] at hx2;exact absurd hx2 δ
  ·exact h3
 rw[ee.2.2] at hl;have c1:=h.c1;have d1:=h.row.cellAt (i*3+1) ω (zJ raw i);have d2:=h.row.cellAt (i*3+2) ω (zX raw i);have f1:=h.row.free (i*3+1);have f2:=h.row.free (i*3+2);have kl:=λW=>PK (raw i).k (raw i).s k s W;rw[hl] at kl;have R3:Hid (∀w2:World,ae [] (w.alloc (.cells #[.int .i64 k,.int .u64 s] 97)) w2->aF ((w2.setCell ⟨ca,i*3+1,none⟩ (.int .i64 k)).setCell ⟨ca,i*3+2,none⟩ (.int .u64 s)) c [c,ca,nm,mb,g] (aA A i k s) st/\ae [c,ca,nm,mb,g] w ((w2.setCell ⟨ca,i*3+1,none⟩ (.int .i64 k)).setCell ⟨ca,i*3+2,none⟩ (.int .u64 s))):=λw2 hw2=>by
  have hs:=h.sep;have hm:=h.upd (hu0.trans hw2) σ;have fU:ae [ca,mb] w2 ((w2.setCell ⟨ca,i*3+1,none⟩ (.int .i64 k)).setCell ⟨ca,i*3+2,none⟩ (.int .u64 s)):=β;have bW:ae [ca] w2 ((w2.setCell ⟨ca,i*3+1,none⟩ (.int .i64 k)).setCell ⟨ca,i*3+2,none⟩ (.int .u64 s)):=β;have e2:aA A (i:Int) k s=iW A i ⟨(A.c i).i,k,s⟩:=by unfold aA;rw[Δ hB0.out];simp
  refine⟨⟨ca,nm,mb,g,cap,l,rt,dp,λy=>if y=i then⟨(raw i).i,k,s⟩ else raw y,?_,rfl⟩,((hu0.trans hw2).mono σ).trans (fU.mono ι)⟩;rw[e2];refine hm.turn fU (row2 hm.row k s) ?_ (by rw[←e2];exact XX h.ok _ _ _ hk) (fO _ _ _) rfl (Aa h.rel hi (Β ⟨ee.1,ee.2.1,by rw[ee.2.2]⟩));rw[KS (A:=A) (A':=iW A i ⟨(A.c i).i,k,s⟩) (λq=>by have:=nT A i ⟨(A.c i).i,k,s⟩ q hi;simp only at this;omega)];exact hm.many.upd bW ι
 generalize (raw i).k=k0 at *;generalize (raw i).s=s0 at *;have hlt:ca<w.heap.size:=h.row.lt;have r1:∀W,ae [] (w.alloc (.cells #[.int .i64 k,.int .u64 s] 97)) W->W.cell? ⟨c,1,none⟩=some (.slice (some ⟨ca,0,none⟩) A.cs.length A.cs.length):=λW hW=>(hu0.trans hW).was c1;have r2:∀W,ae [] (w.alloc (.cells #[.int .i64 k,.int .u64 s] 97)) W->W.cell? ⟨ca,i*3+1,none⟩=some (.int .i64 k0):=λW hW=>(hu0.trans hW).was d1;have r3:∀W,ae [] (w.alloc (.cells #[.int .i64 k,.int .u64 s] 97)) W->W.cell? ⟨ca,i*3+2,none⟩=some (.int .u64 s0):=λW hW=>(hu0.trans hW).was d2
 have r4:∀W,ae [] (w.alloc (.cells #[.int .i64 k,.int .u64 s] 97)) W->W.cell? ⟨w.heap.size,0,none⟩=some (.int .i64 k):=λW h=>h.was σ;have r5:∀W,ae [] (w.alloc (.cells #[.int .i64 k,.int .u64 s] 97)) W->W.cell? ⟨w.heap.size,1,none⟩=some (.int .u64 s):=λW h=>h.was σ;have g1:∀W,ae [] (w.alloc (.cells #[.int .i64 k,.int .u64 s] 97)) W->W.frozen? ⟨ca,i*3+1,none⟩=false:=λW hW=>by rw[(hu0.trans hW).frozen hlt σ];exact f1
 have g2:∀W,ae [] (w.alloc (.cells #[.int .i64 k,.int .u64 s] 97)) W->W.frozen? ⟨ca,i*3+2,none⟩=false:=λW hW=>by rw[(hu0.trans hW).frozen hlt σ];exact f2
 clear h hl ee c1 d1 d2 f1 f2 e hx2
 go_enter func131,ntmps131
 go_wp2
 go_region_held3 (ae [] (w.alloc (.cells #[.int .i64 k,.int .u64 s] 97))) (exact η)
  (first
   |(go_at_call 135;(with_reducible refine aT (k3 _ β) ?_))
   | (go_at_call 145;(with_reducible refine (kl _).mono ?_);rintro e w1 ⟨rfl,hu1⟩;(have hu2:ae [] (w.alloc (.cells #[.int .i64 k,.int .u64 s] 97)) w1:=η)))
 have q1:=r1 _ hu2;have q2:=r2 _ hu2;have q3:=r3 _ hu2;have q4:=r4 _ hu2;have q5:=r5 _ hu2;have q6:=g1 _ hu2;have q7:=g2 _ hu2;clear r1 r2 r3 r4 r5 g1 g2 k3 kl;have HQ:=χ hu2;clear hu2 hu0 hu1;go_wp2
 go_region
 go_wp2;go_ret;exact⟨rfl,((R3.out w1 HQ.out).1).ag ((ae.refl _ _).drew),(R3.out w1 HQ.out).2.drew⟩
def cK(st k:Nat):Nat:=min (st+k) 4611686018427387904
theorem fF{st:Nat}(h:st<=4611686018427387904):cK st 0=st:=by unfold cK;omega
theorem iN(st a b:Nat):cK (cK st a) b=cK st (a+b):=by unfold cK;omega
theorem KE(p:Addr)(s:Nat)(w:World)(h1:s<=4611686018427387904)(hc:w.cell? p=some (.int .i64 (s:Int)))(hf:w.frozen? p=false) :
  Calls prog 172 #[.pointer (some p),.int .i64 1] w λe w'=>e=.returned (.tuple #[])/\w'=w.setCell p (.int .i64 (cK s 1:Nat)):=by
 by_cases h:s=4611686018427387904
 ·have e:cK s 1=4611686018427387904:=by unfold cK;omega
  rw[e];have h':4611686018427387904-(s:Int)<1:=ω;clear e h
  go_enter func172,ntmps172
  go_wp2;go_end0;exact⟨rfl,rfl⟩
 ·have e:((cK s 1:Nat):Int)=(s:Int)+1:=by unfold cK;omega
  rw[e];have h':¬4611686018427387904-(s:Int)<1:=ω;clear e h
  go_enter func172,ntmps172
  go_wp2;go_end0;exact⟨rfl,rfl⟩
theorem CM.count{w:World}{c ca nm mb g cap:Nat}{l:List Int}{rt dp:Nat->Nat}{raw:Nat->Cl}{A:NS}{st:Nat}(h:CM w c ca nm mb g cap l rt dp raw A st)(k:Nat):CM (w.setCell ⟨c,0,none⟩ (.int .i64 (cK st k:Nat))) c ca nm mb g cap l rt dp raw A (cK st k):=by
 have hu:ae [c] w (w.setCell ⟨c,0,none⟩ (.int .i64 (cK st k:Nat))):=β;have s:=h.sep;refine⟨(h.head.set 0 _).ext (λj hj=>?_),h.row.upd hu ι,h.WZ.upd hu ι ι,h.many.upd hu ι,h.OY,h.ok,by unfold cK;omega,h.rel,h.hlen,h.has,s⟩;rcases(ω:j=0\/j=1\/j=2\/j=3) with rfl|rfl|rfl|rfl<;>simp
theorem Vq(A:NS)(a b:Nat):(decide (Cx (A.c a).k (A.c a).s (A.c b).k (A.c b).s<0) || (decide (Cx (A.c a).k (A.c a).s (A.c b).k (A.c b).s=0) && decide (a<b)))=decide (dB A a b):=by
 rw[Bool.eq_iff_iff,decide_eq_true_iff];simp only[Bool.or_eq_true,Τ,Ο];unfold Cx xP dB
 by_cases h:(A.c a).k=(A.c b).k
 ·rw[Δ h]
  by_cases h1:(A.c a).s<(A.c b).s
  ·rw[Δ h1];omega
  ·rw[Γ h1];split<;>omega
 ·rw[Γ h]
  by_cases h1:(A.c a).k<(A.c b).k
  ·rw[Δ h1];omega
  ·rw[Γ h1];split<;>omega
theorem fB{w:World}{c st:Nat}{F:List Nat}{A:NS}(h:aF w c F A st)(a b:Nat)(ha:bY A a=true)(hb:bY A b=true) :
  Calls prog 164 #[.pointer (some ⟨c,0,none⟩),.int .i64 (a:Int),.int .i64 (b:Int)] w λe w'=>e=.returned (.bool (decide (dB A a b)))/\aF w' c F A (cK st 1)/\ae [c] w w':=by
 have k1:=qU h a;have k2:=qU h b;rw[ha] at k1;rw[hb] at k2;obtain⟨ha1,ha2⟩:=(aj _ _).1 ha;obtain⟨hb1,hb2⟩:=(aj _ _).1 hb;obtain⟨ca,nm,mb,g,cap,l,rt,dp,raw,h,rfl⟩:=h;have e1:A.c a=⟨rt (raw a).i.toNat,(raw a).k,(raw a).s⟩:=by
  rcases h.rel a ha1 with⟨h1,h2⟩|h3
  ·rw[h2] at ha2;exact absurd ha2 δ
  ·exact h3.2.2
 have e2:A.c b=⟨rt (raw b).i.toNat,(raw b).k,(raw b).s⟩:=by
  rcases h.rel b hb1 with⟨h1,h2⟩|h3
  ·rw[h2] at hb2;exact absurd hb2 δ
  ·exact h3.2.2
 have hres:=Vq A a b;rw[e1,e2] at hres;simp only at hres;have c0:=h.c0;have f0:=h.head.free 0;have d1:=h.row.cellAt (a*3+1) ω (zJ raw a);have d2:=h.row.cellAt (a*3+2) ω (zX raw a);have d3:=h.row.cellAt (b*3+1) ω (zJ raw b);have d4:=h.row.cellAt (b*3+2) ω (zX raw b);have s:=h.sep;have hst:=h.nH;have kc:=KE ⟨c,0,none⟩ st w hst c0 f0;have kk:=λW=>zn (raw a).k (raw a).s (raw b).k (raw b).s W;generalize hz:Cx (raw a).k (raw a).s (raw b).k (raw b).s=z at *;generalize (raw a).k=ka at *;generalize (raw a).s=sa at *;generalize (raw b).k=kb at *;generalize (raw b).s=sb at *;have XH:=h.row.lt
 have H1:=χ (h.count 1);have HR:=χ hres;generalize hn:cK st 1=st1 at *;have u0:ae [c] w (w.setCell ⟨c,0,none⟩ (.int .i64 (st1:Int))):=β;have r1:∀W,ae [] (w.setCell ⟨c,0,none⟩ (.int .i64 (st1:Int))) W->W.cell? ⟨c,1,none⟩=some (.slice (some ⟨ca,0,none⟩) A.cs.length A.cs.length):=λW hW=>hW.was H1.out.c1;have r2:∀W,ae [] (w.setCell ⟨c,0,none⟩ (.int .i64 (st1:Int))) W->W.cell? ⟨ca,a*3+1,none⟩=some (.int .i64 ka):=λW hW=>hW.was ((u0.cell XH ι).trans d1)
 have r3:∀W,ae [] (w.setCell ⟨c,0,none⟩ (.int .i64 (st1:Int))) W->W.cell? ⟨ca,a*3+2,none⟩=some (.int .u64 sa):=λW hW=>hW.was ((u0.cell XH ι).trans d2);have r4:∀W,ae [] (w.setCell ⟨c,0,none⟩ (.int .i64 (st1:Int))) W->W.cell? ⟨ca,b*3+1,none⟩=some (.int .i64 kb):=λW hW=>hW.was ((u0.cell XH ι).trans d3);have r5:∀W,ae [] (w.setCell ⟨c,0,none⟩ (.int .i64 (st1:Int))) W->W.cell? ⟨ca,b*3+2,none⟩=some (.int .u64 sb):=λW hW=>hW.was ((u0.cell XH ι).trans d4);clear h ha hb ha2 hb2 e1 e2 hres d1 d2 d3 d4 hz hn u0
 by_cases hz1:z<0
 ·have hd:decide (dB A a b)=true:=by rw[←HR.out,Ν hz1];rfl
  rw[hd];clear hd
  go_enter func164,ntmps164
  go_wp2_with (first|(go_at_call 135;(with_reducible refine aT (k1) ?_))|(go_at_call 135;(with_reducible refine aT (k2) ?_))|(go_at_call 172;(with_reducible refine aT (kc) ?_)))
  go_region_held3 (ae [] (w.setCell ⟨c,0,none⟩ (.int .i64 (st1:Int)))) (exact η)
   ((go_at_call 153;(with_reducible refine(kk _).mono ?_);rintro e w1 ⟨rfl,hu1⟩;(have hu2:ae [] (w.setCell ⟨c,0,none⟩ (.int .i64 (st1:Int))) w1:=η)))
  go_wp2;go_ret;exact⟨rfl,⟨ca,nm,mb,g,cap,l,rt,dp,raw,H1.out.upd hu2 σ,rfl⟩,((ae.refl [c] w).setCell (Α σ) _).then hu2⟩
 ·by_cases hz2:z=0
  ·have hd:decide (dB A a b)=decide ((a:Int)<(b:Int)):=by rw[←HR.out,Ξ hz1,Ν hz2];simp
   rw[hd];subst hz2;clear hd
   go_enter func164,ntmps164
   go_wp2_with (first|(go_at_call 135;(with_reducible refine aT (k1) ?_))|(go_at_call 135;(with_reducible refine aT (k2) ?_))|(go_at_call 172;(with_reducible refine aT (kc) ?_)))
   go_region_held3 (ae [] (w.setCell ⟨c,0,none⟩ (.int .i64 (st1:Int)))) (exact η)
    ((go_at_call 153;(with_reducible refine(kk _).mono ?_);rintro e w1 ⟨rfl,hu1⟩;(have hu2:ae [] (w.setCell ⟨c,0,none⟩ (.int .i64 (st1:Int))) w1:=η)))
   go_wp2;go_ret;exact⟨cZ σ,⟨ca,nm,mb,g,cap,l,rt,dp,raw,H1.out.upd hu2 σ,rfl⟩,((ae.refl [c] w).setCell (Α σ) _).then hu2⟩
  ·have hz3:(z == 0)=false:=by simpa using hz2
   have hd:decide (dB A a b)=false:=by rw[←HR.out,Ξ hz1,Ξ hz2];rfl
   rw[hd];clear hd hz2
   go_enter func164,ntmps164
   go_wp2_with (first|(go_at_call 135;(with_reducible refine aT (k1) ?_))|(go_at_call 135;(with_reducible refine aT (k2) ?_))|(go_at_call 172;(with_reducible refine aT (kc) ?_)))
   go_region_held3 (ae [] (w.setCell ⟨c,0,none⟩ (.int .i64 (st1:Int)))) (exact η)
    ((go_at_call 153;(with_reducible refine(kk _).mono ?_);rintro e w1 ⟨rfl,hu1⟩;(have hu2:ae [] (w.setCell ⟨c,0,none⟩ (.int .i64 (st1:Int))) w1:=η)))
   go_wp2;go_ret;exact⟨cZ ζ,⟨ca,nm,mb,g,cap,l,rt,dp,raw,H1.out.upd hu2 σ,rfl⟩,((ae.refl [c] w).setCell (Α σ) _).then hu2⟩
theorem pU.make{l:List Int}{rt dp:Nat->Nat}(h:pU l rt dp)(hl:l.length<=65536):pU (l++[(l.length:Int)]) (λi=>if i=l.length then i else rt i) dp:=by
 have h1:=h.len;have g1:∀i,i<l.length->(l++[(l.length:Int)]).getD i 0=l.getD i 0:=λi hi=>by simp[φ,Ρ hi]
 have g2:(l++[(l.length:Int)]).getD l.length 0=l.length:=by simp[φ]
 refine⟨σ,ζ,λi a b=>?_,λi a b=>?_,λi a b=>?_,λi a b=>?_⟩
 all_goals
  simp only[υ,Ω,List.length_nil] at b ⊢;rcases(ω:i<l.length\/i=l.length) with hi|hi
 ·rw[g1 i hi];have:=h.wL i a hi;omega
 ·rw[hi,g2];omega
 ·have:=h.wL i a hi;rw[g1 i hi,Γ (show ¬(l.getD i 0).toNat=l.length by omega),Γ ω];exact h.up i a hi
 ·rw[hi,g2];simp
 ·rw[g1 i hi,Γ (show ¬i=l.length by omega)];exact h.top i a hi
 ·intro _;rw[Δ hi]
 ·rw[g1 i hi];exact h.low i a hi
 ·rw[hi,g2];intro hn;exact absurd rfl hn
theorem iP{w:World}{c st:Nat}{F:List Nat}{A:NS}(h:aF w c F A st) :
  Calls prog 140 #[.pointer (some ⟨c,0,none⟩)] w λe w'=>e=.returned (.int .i64 (dJ A))/\Goes F w w' (λF'=>aF w' c F' (aU A) st):=by
 have hC:=h;obtain⟨ca,nm,mb,g,cap,l,rt,dp,raw,h,rfl⟩:=h;have c2:=h.c2;have hlen:=h.hlen;have hl1:=h.OY.len;have hl2:=h.OY.Io;have hs:=h.sep;unfold dJ aU
 by_cases hfull:l.length=65537
 ·have k:=SN nm g cap l w h.WZ hfull;rw[Δ ω,Δ ω];have HC:=χ hC;clear h hC hlen hfull
  go_enter func140,ntmps140
  go_wp2_with (go_at_call 150;(with_reducible refine(k).mono ?_);rintro e w1 ⟨rfl,hu⟩)
  go_ret;exact⟨rfl,Goes.stay (HC.out.ag hu) (hu.mono σ)⟩
 ·have k:=QC nm g cap l w h.WZ hl1 ω;rw[Γ ω,Γ ω,hlen];have H:=χ h;have HL:=χ hlen;clear h hC hlen
  go_enter func140,ntmps140
  go_wp2_with (go_at_call 150;(with_reducible refine(k).mono ?_);rintro e w1 ⟨g',cap',rfl,hN,hu,hg⟩)
  go_ret;have h:=H.out;have hc:=h.head.lt;have hca:=h.row.lt;have hmb:=h.many.lt;have hsep:c≠g'/\ca≠g'/\mb≠g':=by rcases hg with rfl|hg;exact⟨ω,ω,ω⟩;exact⟨ω,ω,ω⟩
  have hok:(NS.mk (A.hs++[true]) A.cs).Ok:=by
   have:=TV h.ok;unfold aU at this;rwa[Γ (by have:=HL.out;omega)] at this
  refine⟨rfl,[c,ca,nm,mb,g'],⟨ca,nm,mb,g',cap',l++[(l.length:Int)],λi=>if i=l.length then i else rt i,dp,raw,?_,rfl⟩,hu.mono ι,λx hx=>by simp at hx ⊢;omega⟩;refine⟨h.head.upd hu ι,h.row.upd hu ι,hN,h.many.upd hu ι,h.OY.make ω,hok,h.nH,λx hx=>?_,by simp[HL.out],λi h1 h2=>?_,ω⟩
  ·rcases h.rel x hx with h'|⟨h3,h4,h5⟩
   ·exact Α h'
   ·refine Β ⟨h3,ζ,?_⟩;rw[Γ ω];exact h5
  ·simp only[υ,Ω,List.length_nil] at h2;have hLo:=HL.out;rcases(ω:i<l.length\/i=l.length) with hi|hi
   ·have:=h.has i h1 hi;simp only[φ] at this ⊢;rw[Ρ ω,Ρ hi];exact this
   ·subst hi;simp only[φ];rw[←hLo,ϊ (Θ _),ϊ ω];simp[hLo]
theorem pU.join{l:List Int}{rt dp:Nat->Nat}(h:pU l rt dp){a b:Nat}(ha:1<=a)(ha2:a<l.length)(hb:1<=b)(hb2:b<l.length)(hat:l.getD a 0=a)(hbt:l.getD b 0=b)(hne:a≠b) :
  pU (l.set b (a:Int)) (λi=>if rt i=b then a else rt i) (λi=>dp i+if rt i=b then dp a+1 else 0):=by
 have ra:=h.top a ha ha2 hat;have rb:=h.top b hb hb2 hbt;refine⟨by simp;exact h.len,by simp;exact h.Io,λi p q=>?_,λi p q=>?_,λi p q=>?_,λi p q=>?_⟩
 all_goals
  rw[Ι] at q;rw[Ak]
  by_cases hi:i=b
 ·rw[Δ ⟨hi,hb2⟩,Ι];omega
 ·rw[Γ (λe=>hi e.1),Ι];exact h.wL i p q
 ·simp only[hi,hb2,and_self,if_true,π,ra,rb,hne,if_false]
 ·have:=h.up i p q;simp only[hi,false_and,if_false,this]
 ·rw[Δ ⟨hi,hb2⟩,hi];intro e;exact absurd ω hne
 ·rw[Γ (λe=>hi e.1)];intro e;have:=h.top i p q e;simp only[this];rw[Γ hi]
 ·rw[Δ ⟨hi,hb2⟩,hi];intro _;simp only[π,ra,rb,hne,if_true,if_false];omega
 ·rw[Γ (λe=>hi e.1)];intro e;have h1:=h.up i p q;have h2:=h.low i p q e;simp only[h1];omega
theorem LP{A:NS}(hA:A.Ok){a b:Int}(hj:gJ A a b=true)(q:Int) :
  fI (az A a b) q=if 0<dD A b then(if q=b then none else if q=a then some ((dD A a:Int)+(dD A b:Int)) else fI A q) else fI A q:=by
 have hne:=((dG _ _ _).1 hj).2.2;have:=DR hA hj q;unfold fI;rw[this]
 by_cases h0:0<dD A b
 ·rw[Δ h0]
  by_cases h1:q=a
  ·rw[h1,Δ rfl,Γ hne,Δ rfl,Δ ω];simp
  ·by_cases h2:q=b
   ·subst h2;simp[h1]
   ·simp[h1,h2]
 ·rw[Γ h0]
  by_cases h1:q=a
  ·rw[h1,Δ rfl];have e:dD A b=0:=ω;rw[e];simp
  ·by_cases h2:q=b
   ·subst h2;rw[Γ h1,Δ rfl,Γ ω,Γ h0]
   ·simp[h1,h2]
theorem CM.join{w:World}{c ca nm mb g cap:Nat}{l:List Int}{rt dp:Nat->Nat}{raw:Nat->Cl}{A:NS}{st:Nat}(h:CM w c ca nm mb g cap l rt dp raw A st){w2:World}{a b:Nat}(hj:gJ A a b=true)
  (hN:jv w2 nm g cap (l.set b (a:Int))) (hm:fJ w2 mb (fI (az A a b))) (hu:ae [nm,g,mb] w w2) :
  CM w2 c ca nm mb g cap (l.set b (a:Int)) (λi=>if rt i=b then a else rt i) (λi=>dp i+if rt i=b then dp a+1 else 0) raw (az A a b) st:=by
 have hb3:=(dG _ _ _).1 hj;have ha:=h.Mc hb3.1;have hb:=h.Mc hb3.2.1;have hne:a≠b:=λe=>hb3.2.2 (by rw[e]);have s:=h.sep;have jd:(az A (a:Int) (b:Int)).hs=A.hs.set b false:=by unfold az;rw[Δ hj];simp
 refine⟨?_,by rw[eY];exact h.row.upd hu ι,hN,hm,h.OY.join ha.1 ha.2.1 hb.1 hb.2.1 ha.2.2.2 hb.2.2.2 hne,Vs h.ok _ _,h.nH,λx hx=>?_,by rw[jd];simp;exact h.hlen,λi h1 h2=>?_,s⟩
 ·rw[eY];exact h.head.upd hu ι
 ·rw[eY] at hx;rw[xO hj,Ι];rcases h.rel x hx with⟨h1,h2⟩|⟨h1,h2,h3⟩
  ·refine Α ⟨h1,?_⟩;rw[Γ (by rw[h2];intro e;have:(0:Int)=b:=e.1;omega)];exact h2
  ·refine Β ⟨h1,h2,?_⟩;rw[h3];simp only
   by_cases e:rt (raw x).i.toNat=b
   ·rw[Δ ⟨by rw[e],hx⟩,Δ e]
   ·rw[Γ (λe'=>e (by have:=e'.1;omega)),Γ e]
 ·rw[Ι] at h2;rw[jd,Ak];have:=h.has i h1 h2;simp only[φ,ύ] at this ⊢
  by_cases e:i=b
  ·subst e;have hx:=h.hlen;simp[hb.2.1,hx];omega
  ·rw[Γ (λe'=>e e'.symm),Γ (λe'=>e e'.1)];exact this
theorem mf{w:World}{c st:Nat}{F:List Nat}{A:NS}(h:aF w c F A st)(a b:Nat)(hj:gJ A a b=true) :
  Calls prog 141 #[.pointer (some ⟨c,0,none⟩),.int .i64 (a:Int),.int .i64 (b:Int)] w λe w'=>e=.returned (.bool true)/\aF w' c F (az A a b) st/\ae F w w':=by
 have hlt:=h.lt;have hla:=zM h.ok (a:Int);have hlb:=zM h.ok (b:Int);have hA1:=h.ok.h1;obtain⟨ca,nm,mb,g,cap,l,rt,dp,raw,h,rfl⟩:=h;have hb3:=(dG _ _ _).1 hj;have ha:=(aC _ _).1 hb3.1;have hb:=(aC _ _).1 hb3.2.1;have hne:a≠b:=λe=>hb3.2.2 (by rw[e]);have c2:=h.c2;have c3:=h.c3;have s:=h.sep;have k:=Qq nm g cap l a b w h.WZ h.OY.Io (by rw[h.yt];exact hb3.1) (by rw[h.yt];exact hb3.2.1) hne;have l1:=hlt c σ
 have FIN:Hid (∀w1 w2:World,jv w1 nm g cap (l.set b (a:Int))->ae [nm,g] w w1->ae [mb] w1 w2->fJ w2 mb (fI (az A a b))->aF w2 c [c,ca,nm,mb,g] (az A a b) st/\ae [c,ca,nm,mb,g] w w2):=λw1 w2 hN hu1 hu2 hm=>by
  have hu:ae [nm,g,mb] w w2:=(hu1.mono ι).joined hu2 (λx hx=>Α (by simp at hx;simp[hx]));exact⟨⟨ca,nm,mb,g,cap,_,_,_,raw,h.join hj (hN.upd hu2 ι ι) hm hu,rfl⟩,hu.mono ι⟩
 have HM:Hid (∀q,fI (az A a b) q=if 0<dD A (b:Int) then(if q=(b:Int) then none else if q=(a:Int) then some ((dD A (a:Int):Int)+(dD A (b:Int):Int)) else fI A q) else fI A q):=λq=>LP h.ok hj q;have H:=χ h;have ga:1<=a/\a<=65536:=ω;have gb:1<=b/\b<=65536:=ω;clear h hlt hj hb3 ha hb;obtain⟨ma,hma⟩:∃m:Nat,m=dD A (a:Int):=⟨_,rfl⟩;obtain⟨mbn,hmb⟩:∃m:Nat,m=dD A (b:Int):=⟨_,rfl⟩;have HMA:=χ hma;have HMB:=χ hmb;rw[←hma] at hla HM;rw[←hmb] at hlb HM;clear hma hmb
 by_cases h0:0<mbn
 ·have H0:=χ h0;have h0':(0:Int)<(mbn:Int):=ω;clear h0
  go_enter func141,ntmps141
  go_wp2_with (first
   |((go_at_call 151;(with_reducible refine(k).mono ?_));rintro e w1 ⟨rfl,hN,hu⟩;(have hm1:=H.out.many.upd hu ι);(have q1:w1.cell? ⟨c,3,none⟩=some (.map (some mb)):=(hu.cell l1 ι).trans c3))
   |(at_lookup;refine il (o:=⟨some 21,_,_,_,_,_⟩) (by rfl) _ _ (by rfl) mb (fI A) (by rfl) hm1 (b:Int) (by rfl) ω (mbn:Int) ((lN _ _).trans (by rw[HMB.out])) ?_)
   |(at_lookup;refine il (o:=⟨some 29,_,_,_,_,_⟩) (by rfl) _ _ (by rfl) mb (fI A) (by rfl) hm1 (a:Int) (by rfl) ω (ma:Int) ((lN _ _).trans (by rw[HMA.out])) ?_)
   |(at_mapUpdate;refine kG rfl _ _ _ rfl mb (fI A) rfl hm1 (a:Int) ((ma:Int)+(mbn:Int)) rfl rfl ω ω ?_;intro w2 hm2 hu2;(have q2:w2.cell? ⟨c,3,none⟩=some (.map (some mb)):=(hu2.cell (p:=⟨c,3,none⟩) (Ψ l1 hu.size) ι).trans q1))
   | (at_delete;refine mF rfl _ _ rfl mb _ rfl hm2 (b:Int) rfl ω ?_;intro w3 QP hu3))
  go_ret;have hm4:fJ w3 mb (fI (az A a b)):=fJ.ext QP (λq=>by rw[HM.out q,Δ H0.out]);exact⟨rfl,FIN.out w1 w3 hN hu (hu2.trans hu3) hm4⟩
 ·have H0:=χ h0;have h0':¬(0:Int)<(mbn:Int):=ω;clear h0
  go_enter func141,ntmps141
  go_wp2_with (first
   |((go_at_call 151;(with_reducible refine(k).mono ?_));rintro e w1 ⟨rfl,hN,hu⟩;(have hm1:=H.out.many.upd hu ι);(have q1:w1.cell? ⟨c,3,none⟩=some (.map (some mb)):=(hu.cell l1 ι).trans c3))
   | (at_lookup;refine il (o:=⟨some 21,_,_,_,_,_⟩) (by rfl) _ _ (by rfl) mb (fI A) (by rfl) hm1 (b:Int) (by rfl) ω (mbn:Int) ((lN _ _).trans (by rw [HMB.out])) ?_))
  go_ret;have hm4:fJ w1 mb (fI (az A a b)):=fJ.ext hm1 (λq=>by rw[HM.out q,Γ H0.out]);exact⟨rfl,FIN.out w1 w1 hN hu (ae.refl _ _) hm4⟩
theorem Ku(n j:Nat)(hj:j<n*3):(madeCells #[Value.int .i64 0,.int .i64 0,.int .u64 0] (n*3)).toList.getD j undef=if j % 3=0 then .int .i64 0 else if j % 3=1 then .int .i64 0 else .int .u64 0:=by
 rw[φ,ε (by simp[size_madeCells];omega)];simp only[Option.getD_some,madeCells,Array.getElem_toList,Array.getElem_map,Array.getElem_range];rcases(ω:j % 3=0\/j % 3=1\/j % 3=2) with e|e|e<;>simp[e]
theorem UX:(prog.info? 260).map (λi=>(i.zero,i.size,i.bytes))=some (some (.agg #[.int .i64 0,.int .i64 0,.int .u64 0]),3,24):=by kernel_rfl
theorem oH(n:Nat)(w:World)(h:n<=65536) :
  Calls prog 84 #[.int .i64 (n:Int)] w λe w'=>∃c F,e=.returned (.tuple #[.pointer (some ⟨c,0,none⟩),.int .i64 0])/\aF w' c F (NS.new n) 0/\ae [] w w'/\∀x,x∈F->w.heap.size<=x:=by
 have hmm:=@run_makeMap prog
 go_enter func84,ntmps84
 go_wp2_with (first
  |((go_at_call 100;(with_reducible refine(Uy _).mono ?_));rintro e w1 ⟨nm,g,rfl,hN,hu1,hb1,hb2⟩)
  | (at_make;refine wpList_make_row rfl _ 222 rfl 260 (.agg #[.int .i64 0,.int .i64 0,.int .u64 0]) 3 24 underlying222 UX n rfl ω μ ?_;intro w2 hr2 hu2))
 go_ret2;have hu3:ae [] w2 ((w2.alloc (.map #[] 0)).alloc (.cells #[.int .i64 0,.slice (some ⟨w1.heap.size,0,none⟩) n n,.pointer (some ⟨nm,0,none⟩),.map (some w2.heap.size)] 226)):=β;have hh:=eZ (w2.alloc (.map #[] 0)) [.int .i64 0,.slice (some ⟨w1.heap.size,0,none⟩) n n,.pointer (some ⟨nm,0,none⟩),.map (some w2.heap.size)] 226;rw[Κ] at hh;have l1:=hN.lt;have l3:=hr2.lt;have l4:=hu1.size;have hcs:(NS.new n).cs.length=n:=by simp[NS.new]
 refine⟨w2.heap.size+1,[w2.heap.size+1,w1.heap.size,nm,w2.heap.size,g],rfl,⟨w1.heap.size,nm,w2.heap.size,g,1,[0],λi=>i,λ_=>0,λ_=>Cl.z,?_,rfl⟩,(hu1.trans hu2).trans hu3,λx hx=>by simp at hx;omega⟩;refine⟨?_,?_,(hN.upd hu2 σ σ).upd hu3 σ σ,((fJ.made w2).upd ((ae.refl [] _).alloc _) σ).ext (λk=>?_),?_,NS.Mq n h,ω,λx _=>Α ⟨rfl,NS.tV n x⟩,rfl,λi h1 h2=>by simp at h2;omega,ω⟩
 ·rw[hcs];exact hh
 ·rw[hcs];refine(hr2.upd hu3 σ).ext (λj hj=>?_);have hz:(Value.agg #[.int .i64 0,.int .i64 0,.int .u64 0]).cells=#[.int .i64 0,.int .i64 0,.int .u64 0]:=rfl;rw[hz];unfold jS Cl.z;have:=Ku n j hj;rw[this]
 ·unfold fI;have:dD (NS.new n) k=0:=by
   rcases Nat.eq_zero_or_pos (dD (NS.new n) k) with h'|h'
   ·exact h'
   ·obtain⟨x,_,h1,h2⟩:=fM.1 h';rw[NS.tV] at h1;have:(0:Int)=k:=h1;omega
  rw[this];rfl
 ·exact⟨σ,σ,λi h1 h2=>by simp at h2;omega,λi h1 h2=>by simp at h2;omega,λi h1 h2=>by simp at h2;omega,λi h1 h2=>by simp at h2;omega⟩
theorem lH{A:NS}{h:Int}{m:Nat}(hm:dN A h=some m):0<h/\m<A.cs.length/\(A.c m).i=h/\bY A m=true:=by
 by_cases hh:0<h
 ·have h1:=(iY hh).1 hm;exact⟨hh,h1.1,h1.2.1,(aj _ _).2 ⟨h1.1,by rw[h1.2.1];exact hh⟩⟩
 ·rw[qm hh] at hm;cases hm
theorem iB{A:NS}{h:Int}:dN A h=none↔dD A h=0:=by
 by_cases hh:0<h
 ·exact jF hh
 ·rw[qm hh,Sw hh];simp
def lenOf:Value->Nat | .slice _ l _=>l|_=>0
def bZ(l:List Nat):List Int:=l.map (λ(x:Nat)=>(x:Int))
def Enters(f:FuncId):Prop:=∀(args:Array Value) (W:World),(callFunc f args).run prog W=.ok (.enter f args) W
def sH(A:NS)(h:Int):NS:=match dN A h with|some m=>bg A m|none=>A
def IJ(ty:TypeId)(p:Nat)(name:String)(w:World)(mk:Value->Array Value)(Q:World->Ending->World->Prop):Prop:=
 ∃f v,Enters f/\∀W,ae [] w W->(method 409 ty (.pointer (some ⟨p,0,none⟩)) name).run prog W=.ok (f,v) W/\Calls prog f (mk v) W (Q W)
theorem IJ.now{ty:TypeId}{p:Nat}{name:String}{w:World}{mk:Value->Array Value}{Q:World->Ending->World->Prop}(h:IJ ty p name w mk Q) :
  ∃f v,Enters f/\(method 409 ty (.pointer (some ⟨p,0,none⟩)) name).run prog w=.ok (f,v) w/\Calls prog f (mk v) w (Q w):=by
 obtain⟨f,v,he,h⟩:=h;exact⟨f,v,he,h w (ae.refl _ _)⟩
theorem rC{A:NS}{x:Int}(hB:bY A x=true):∃y:Nat,x=y:=⟨x.toNat,by have:=(zV _ _).1 hB;omega⟩
theorem ry{A:NS}{x k s:Int}(hB:jf A x k s=true):bY A x=true:=by
 unfold jf at hB;simp only[Τ] at hB;exact hB.1
theorem aJ{ty:TypeId}{p:Nat}{name:String}{w:World}{mk:Value->Array Value}{Q:World->Ending->World->Prop}(f:FuncId)(he:Enters f)(hm:∀W,(method 409 ty (.pointer (some ⟨p,0,none⟩)) name).run prog W=.ok (f,.pointer (some ⟨p,0,none⟩)) W)
  (hc:∀W,ae [] w W->Calls prog f (mk (.pointer (some ⟨p,0,none⟩))) W (Q W)):IJ ty p name w mk Q:=⟨f,_,he,λW hW=>⟨hm W,hc W hW⟩⟩
theorem dQ{ty:TypeId}{p c:Nat}{name:String}{w:World}{mk:Value->Array Value}{Q:World->Ending->World->Prop}(f:FuncId)(he:Enters f)(h0:w.cell? ⟨p,0,none⟩=some (.pointer (some ⟨c,0,none⟩)))
  (hm:∀W,W.cell? ⟨p,0,none⟩=some (.pointer (some ⟨c,0,none⟩))->(method 409 ty (.pointer (some ⟨p,0,none⟩)) name).run prog W=.ok (f,.pointer (some ⟨c,0,none⟩)) W)
  (hc:∀W,ae [] w W->Calls prog f (mk (.pointer (some ⟨c,0,none⟩))) W (Q W)):IJ ty p name w mk Q:=⟨f,_,he,λW hW=>⟨hm W (hW.was h0),hc W hW⟩⟩
structure NestQ where
 ty:TypeId
 at_:World->Nat->List Nat->NS->Prop
 upd:∀{w w':World} {p:Nat} {F S:List Nat} {A:NS},at_ w p F A->ae S w w'->(∀x,x∈S->x∉F)->at_ w' p F A
 lt:∀{w:World} {p:Nat} {F:List Nat} {A:NS},at_ w p F A->∀x,x∈F->x<w.heap.size
 ok:∀{w:World} {p:Nat} {F:List Nat} {A:NS},at_ w p F A->A.Ok
 make:∀{w:World} {p:Nat} {F:List Nat} {A:NS},at_ w p F A->IJ ty p "Make" w (λv=>#[v]) λw e w'=>e=.returned (.int .i64 (dJ A))/\Goes F w w' (λF'=>at_ w' p F' (aU A))
 insert:∀{w:World} {p:Nat} {F:List Nat} {A:NS} (h x:Nat) (k s:Int),(-9223372036854775808<=k/\k<=9223372036854775807/\0<=s/\s<=18446744073709551615)->rG A h x=true->at_ w p F A->IJ ty p "Insert" w (λv=>#[v,.int .i64 (h:Int),.int .i64 (x:Int),.agg #[.int .i64 k,.int .u64 s]]) λw e w'=>e=.returned (.bool true)/\Goes F w w' (λF'=>at_ w' p F' (aO A h x k s))
 min:∀{w:World} {p:Nat} {F:List Nat} {A:NS} (h:Nat),aY A h=true->at_ w p F A->IJ ty p "Min" w (λv=>#[v,.int .i64 (h:Int)]) λw e w'=>e=.returned (.tuple #[.int .i64 (qp (dN A h)),.bool (dN A h).isSome])/\Goes F w w' (λF'=>at_ w' p F' A)
 extract:∀{w:World} {p:Nat} {F:List Nat} {A:NS} (h m:Nat),dN A h=some m->at_ w p F A->IJ ty p "Extract" w (λv=>#[v,.int .i64 (h:Int)]) λw e w'=>e=.returned (.tuple #[.int .i64 (m:Int),.bool true])/\Goes F w w' (λF'=>at_ w' p F' (bg A m))
 mJ:∀{w:World} {p:Nat} {F:List Nat} {A:NS} (x:Nat) (k s:Int),(-9223372036854775808<=k/\k<=9223372036854775807/\0<=s/\s<=18446744073709551615)->jf A x k s=true->at_ w p F A->IJ ty p "Decrease" w (λv=>#[v,.int .i64 (x:Int),.agg #[.int .i64 k,.int .u64 s]]) λw e w'=>e=.returned (.bool true)/\Goes F w w' (λF'=>at_ w' p F' (aA A x k s))
 has:∀{w:World} {p:Nat} {F:List Nat} {A:NS} (x:Int),at_ w p F A->IJ ty p "Has" w (λv=>#[v,.int .i64 x]) λw e w'=>e=.returned (.bool (aY A x))/\w'=w
 entry:∀{w:World} {p:Nat} {F:List Nat} {A:NS} (x:Int),at_ w p F A->IJ ty p "Entry" w (λv=>#[v,.int .i64 x]) λw e w'=>e=.returned (.tuple #[.agg #[.int .i64 (if bY A x then(A.c x.toNat).k else 0),.int .u64 (if bY A x then(A.c x.toNat).s else 0)],.bool (bY A x)])/\ae [] w w'
structure jZ extends NestQ where
 delete:∀{w:World} {p:Nat} {F:List Nat} {A:NS} (x:Nat),bY A (x:Int)=true->at_ w p F A->IJ ty p "Delete" w (λv=>#[v,.int .i64 (x:Int)]) λw e w'=>e=.returned (.bool true)/\Goes F w w' (λF'=>at_ w' p F' (bg A (x:Int)))
 Ab:∀{w:World} {p:Nat} {F:List Nat} {A:NS} (a b:Nat),gJ A a b=true->at_ w p F A->IJ ty p "Meld" w (λv=>#[v,.int .i64 (a:Int),.int .i64 (b:Int)]) λw e w'=>e=.returned (.bool true)/\Goes F w w' (λF'=>at_ w' p F' (az A a b))
 len:∀{w:World} {p:Nat} {F:List Nat} {A:NS} (x:Int), -9223372036854775808<=x/\x<=9223372036854775807->at_ w p F A->IJ ty p "Len" w (λv=>#[v,.int .i64 x]) λw e w'=>e=.returned (.int .i64 (dD A x:Int))/\w'=w
 home:∀{w:World} {p:Nat} {F:List Nat} {A:NS} (x:Nat),bY A (x:Int)=true->at_ w p F A->IJ ty p "Home" w (λv=>#[v,.int .i64 (x:Int)]) λw e w'=>e=.returned (.tuple #[.int .i64 (A.c x).i,.bool true])/\Goes F w w' (λF'=>at_ w' p F' A)
structure Bu(w:World)(F:List Nat)(gh oh ch gc oc cc:Nat)(A:NS):Prop where
 hcap:A.hs.length<=ch/\ch<=9223372036854775807
 Ze:A.cs.length<=cc/\cc<=9223372036854775807
 lt:gh<w.heap.size/\gc<w.heap.size
 far:gh∉F/\gc∉F
 h:∀j,j<A.hs.length->w.cell? ⟨gh,oh+j,none⟩=some (.bool (A.hs.getD j false))
 c0:∀x,x<A.cs.length->w.cell? ⟨gc,oc+x*3,none⟩=some (.int .i64 (A.c x).i)
 c1:∀x,x<A.cs.length->w.cell? ⟨gc,oc+x*3+1,none⟩=some (.int .i64 (A.c x).k)
 c2:∀x,x<A.cs.length->w.cell? ⟨gc,oc+x*3+2,none⟩=some (.int .u64 (A.c x).s)
def Yg(gh oh ch gc oc cc:Nat)(A:NS):Value:=.agg #[.slice (some ⟨gh,oh,none⟩) A.hs.length ch,.slice (some ⟨gc,oc,none⟩) A.cs.length cc]
def ac0(w:World)(F:List Nat)(v:Value)(A:NS):Prop:=∃gh oh ch gc oc cc,v=Yg gh oh ch gc oc cc A/\Bu w F gh oh ch gc oc cc A
theorem Bu.upd{w w':World}{F:List Nat}{gh oh ch gc oc cc:Nat}{A:NS}(h:Bu w F gh oh ch gc oc cc A)(hu:ae F w w'):Bu w' F gh oh ch gc oc cc A:=by
 have e1:∀o,w'.cell? ⟨gh,o,none⟩=w.cell? ⟨gh,o,none⟩:=λo=>hu.cell h.lt.1 h.far.1;have e2:∀o,w'.cell? ⟨gc,o,none⟩=w.cell? ⟨gc,o,none⟩:=λo=>hu.cell h.lt.2 h.far.2;have hs:=hu.size;have hl:=h.lt;exact⟨h.hcap,h.Ze,⟨ω,ω⟩,h.far,λj hj=>by rw[e1];exact h.h j hj,λj hj=>by rw[e2];exact h.c0 j hj,λj hj=>by rw[e2];exact h.c1 j hj,λj hj=>by rw[e2];exact h.c2 j hj⟩
theorem Bu.fresh{w w':World}{F F':List Nat}{gh oh ch gc oc cc:Nat}{A:NS}(h:Bu w F gh oh ch gc oc cc A)(hu:ae F w w')(hF:∀x,x∈F'->x∈F\/w.heap.size<=x):Bu w' F' gh oh ch gc oc cc A:=by
 have h':=h.upd hu;have hl:=h.lt;refine⟨h'.hcap,h'.Ze,h'.lt,⟨λm=>?_,λm=>?_⟩,h'.h,h'.c0,h'.c1,h'.c2⟩
 ·rcases hF _ m with h1|h1;exact h.far.1 h1;omega
 ·rcases hF _ m with h1|h1;exact h.far.2 h1;omega
end Go.Proofs.YtnpdakpagnpanaaGreat
