/-
  Lemmas.
-/
import Derived.WalkKit
import Derived.WalkSpells
import Derived.WalkLawsBesides
import Derived.BigQuiet
import Derived.Deep.RegionHeld3
import Derived.ProofKit
import Derived.OpenShut
import Derived.Lib.Hide
import Derived.Maps.AppendAt
import Derived.Test.YtnpdakpagnpanaaGreatProg
import Derived.StillTailTactics
import Derived.Maps.OwnSet
import Derived.Maps.OwnOps
import Derived.Maps.RangeWalk
set_option linter.all false
set_option maxHeartbeats 8000000
set_option maxRecDepth 10000
namespace Go.Proofs.YtnpdakpagnpanaaGreat
open Tryz
open Go.RowKit
abbrev V:=Value
instance:Coe Int Value:=⟨λx=>.int .i64 x⟩
instance:Coe Nat Value:=⟨λb=>.pointer (some ⟨b,0,none⟩)⟩
instance:Coe Bool Value:=⟨λb=>.bool b⟩
instance:Coe Nat Addr:=⟨λb=>⟨b,0,none⟩⟩
def jW{k:IntKind}{a b:Int}(h:a=b):Ending.returned (.int k a)=.returned (.int k b):=by rw[h]
def bF{a b:Bool}(h:a=b):Ending.returned a=.returned b:=by rw[h]
structure ae(S:List Nat)(w w':World):Prop where
 os:w'.os=w.os
 tape:w'.tape=w.tape
 output:w'.output=w.output
 size:w.heap.size<=w'.heap.size
 block:∀k,k<w.heap.size->k∉S->w'.heap[k]?=w.heap[k]?
def ae.refl(S:List Nat)(w:World):ae S w w:=⟨rfl,rfl,rfl,Nat.le_refl _,λ_ _ _=>rfl⟩
def ae.joined{S T:List Nat}{a b c:World}(h:ae S a b)(k:ae T b c)(f:∀x,x∈T->x∈S\/a.heap.size<=x):ae S a c:=
  ⟨k.os.trans h.os,k.tape.trans h.tape,k.output.trans h.output,Nat.le_trans h.size k.size,
   λi d hs=>(k.block i (Nat.lt_of_lt_of_le d h.size) (λe=>by grind)).trans (h.block i d hs)⟩
def ae.trans{S:List Nat}{a b c:World}(h:ae S a b)(k:ae S b c):ae S a c:=h.joined k (λ_ d=>Or.inl d)
def ae.then{S:List Nat}{a b c:World}(h:ae S a b)(k:ae [] b c):ae S a c:=h.joined k (λ_ d=>by cases d)
def ae.mono{S T:List Nat}{a b:World}(h:ae S a b)(hs:∀x,x∈S->x∈T):ae T a b:=
 ⟨h.os,h.tape,h.output,h.size,λk c d=>h.block k c (λe=>d (hs k e))⟩
def ae.drew{S:List Nat}{a w:World}(h:ae S a w):ae S a w.drew:=⟨h.os,h.tape,h.output,h.size,h.block⟩
def ae.drewN{S:List Nat}{a w:World}(h:ae S a w)(n:Nat):ae S a (w.drewN n):=⟨h.os,h.tape,h.output,h.size,h.block⟩
def ae.alloc{S:List Nat}{a w:World}(h:ae S a w)(o:Obj):ae S a (w.alloc o):=
 h.joined (T:=[]) ⟨rfl,rfl,rfl,by simp,λk b _=>Below.heap_alloc _ _ _ b⟩ (λ_ c=>by cases c)
def ae.setCell{S:List Nat}{a w:World}(h:ae S a w){p:Addr}(hp:p.block∈S\/a.heap.size<=p.block)(u:Value):ae S a (w.setCell p u):=
 h.joined (T:=[p.block]) ⟨rfl,rfl,rfl,by simp[World.setCell],λk b c=>Below.heap_setCell _ _ _ _ (by grind)⟩ (λx d=>by grind)
def ae.grown{S:List Nat}{a w w':World}{b:Option Nat}(h:ae S a w)(c:w.grownBy w' b)(g:∀k,b=some k->k∈S\/a.heap.size<=k):ae S a w':=
 h.joined (T:=b.toList) ⟨c.os,c.tape,c.output,c.size,λk d f=>c.block k d (λe=>f (by grind))⟩ (λx i=>g x (by grind))
def ae.cell{S:List Nat}{w w':World}(h:ae S w w'){p:Addr}(hp:p.block<w.heap.size)(a:p.block∉S):w'.cell? p=w.cell? p:=World.cell?_of_block (w:=w) (h.block p.block hp a)
def ae.frozen{S:List Nat}{w w':World}(h:ae S w w'){p:Addr}(hp:p.block<w.heap.size)(a:p.block∉S):w'.frozen? p=w.frozen? p:=World.frozen?_of_block (w:=w) (h.block p.block hp a)
def ae.below{w w':World}(h:ae [] w w'):Below w.heap.size w w':=⟨h.os,h.tape,h.output,h.size,λk a=>h.block k a (by simp)⟩
def Gb{w w':World}(h:Below w.heap.size w w'):ae [] w w':=⟨h.os,h.tape,h.output,h.size,λk a _=>h.block k a⟩
def ae.was{w w':World}(h:ae [] w w'){p:Addr}{v:Value}(a:w.cell? p=some v):w'.cell? p=some v:=by
 rw[h.cell (World.block_lt_of_cell? w p a) (by simp)];exact a
def ae.kept{S:List Nat}{w w':World}(h:ae S w w'){p:Addr}{v:Value}(a:w.cell? p=some v)(b:p.block∉S):w'.cell? p=some v:=by
 rw[h.cell (World.block_lt_of_cell? w p a) b];exact a
def ae.ay{S:List Nat}{w w':World}(h:ae S w w'){p:Addr}{v:Value}(a:w.cell? p=some v)(b:p.block∉S)(c:w.frozen? p=false):w'.frozen? p=false:=by
 rw[h.frozen (World.block_lt_of_cell? w p a) b];exact c
def aay{W c:World}(d:ae [] W c):(∀a,(W.cell? a).isSome=true->c.cell? a=W.cell? a)/\(∀a,(W.cell? a).isSome=true->c.frozen? a=W.frozen? a):=
  ⟨λa h=>by obtain ⟨u,b⟩:=Option.isSome_iff_exists.1 h;exact d.cell (World.block_lt_of_cell? W a b) (by simp),
   λa h=>by obtain ⟨u,b⟩:=Option.isSome_iff_exists.1 h;exact d.frozen (World.block_lt_of_cell? W a b) (by simp)⟩
def VI(ty:Nat)(nm:String)(fn:Nat):Prop:=∀(p c:Nat) (W:World),W.cell? p=some (c:V)->(method 409 ty (.pointer (some p)) nm).run prog W=.ok (fn,.pointer (some c)) W
def MI(ty:Nat)(nm:String)(fn:Nat):Prop:=∀(p:Nat) (W:World),(method 409 ty (.pointer (some p)) nm).run prog W=.ok (fn,.pointer (some p)) W
def NI(ty:Nat)(nm:String):Prop:=∀(p:Nat) (W:World),(nilAhead 409 ty (.pointer (some p)) nm).run prog W=.ok (some false) W
def xA(M:Array Method)(nm:String)(l:List FieldStep)(b:Nat)(h:(Array.find? (λx=>x.name == nm) M).map (λm=>(m.path.toList,m.func,m.path.isEmpty))=some (l,some (b,true),false)):∃m,(Array.find? (λx=>x.name == nm) M)=some m/\m.path.toList=l/\m.func=some (b,true)/\m.path.isEmpty=false:=by
 cases a:Array.find? (λx=>x.name == nm) M with
 |none=>rw[a] at h;cases h
 |some m=>
  rw[a] at h;simp only[Option.map_some,Option.some.injEq,Prod.mk.injEq] at h;exact⟨m,rfl,h.1,h.2.1,h.2.2⟩
def xD{P:Prop}(h:P:=by go_simp;simp only[follow,Place.get];go_simp;(try unfold receiverAt);(try simp only[Place.get]);(try go_simp)):P:=h
def aP{f:Nat}{a:Array Value}{w w0:World}{v:Value}{Q:Ending->World->Prop}(h:Calls prog f a w λe w'=>e=.returned v/\w'=w0)(k:Q (.returned v) w0):Calls prog f a w Q:=h.mono λe w' h=>by rw[h.1,h.2];exact k
def β{P:Prop}(h:P:=by(repeat(first|assumption|exact ae.refl _ _|refine ae.alloc ?_ _|refine ae.drew ?_|refine ae.drewN ?_ _|refine ae.setCell ?_ ?_ _|focus(left;simp;done)|focus(right;simp;done)|focus(right;simp;omega)))):P:=h
def κ{P:Prop}(h:P:=by(repeat(first|assumption|exact ae.refl _ _|refine ae.drew ?_|refine ae.alloc ?_ _|refine ae.setCell ?_ ?_ _|focus(left;simp;done)|focus(right;simp;done)|focus(right;simp;omega)|(apply ae.trans;rotate_left;assumption;assumption)))):P:=h
def ν{P:Prop}(h:P:=by(repeat(first|assumption|exact ae.refl _ _|refine ae.drew ?_|refine ae.alloc ?_ _|refine ae.setCell ?_ ?_ _|focus(left;simp;done)|focus(right;simp;done)|focus(right;simp;omega)|(apply ae.trans;rotate_left;assumption)))):P:=h
def η{P:Prop}(h:P:=by(repeat(first|assumption|exact ae.refl _ _|refine ae.drew ?_|refine ae.alloc ?_ _|(apply ae.trans;rotate_left;assumption)))):P:=h
def ξ{P:Prop}(h:P:=by(repeat(first|assumption|exact ae.refl _ _|refine ae.alloc ?_ _|refine ae.drew ?_|refine ae.drewN ?_ _|refine ae.setCell ?_ (Or.inr (by first|(simp;done)|(simp;omega))) _|(apply ae.trans;rotate_left;assumption)))):P:=h
def ω{P:Prop}(h:P:=by omega):P:=h
def σ{P:Prop}(h:P:=by simp):P:=h
def ζ{P:Prop}(h:P:=by simp;omega):P:=h
def ι{P:Prop}(h:P:=by first|(simp;done)|(simp;omega)):P:=h
def μ{P:Prop}(h:P:=by unfold maxLen;omega):P:=h
def γ{P:Prop}(h:P:=by go_simp):P:=h
def δ{P:Prop}(h:P:=by decide):P:=h
def ψ{a b:Prop}(x:a)(y:b):a/\b:=⟨x,y⟩
def χ{p:Prop}(h:p):Hid p:=h
def φ{α:Type}{l:List α}{i:Nat}{a:α}:l.getD i a=l[i]?.getD a:=List.getD_eq_getElem?_getD
def π(n:Nat):(n:Int).toNat=n:=Int.toNat_natCast n
def ρ{α:Type _}{a b:α}{l:List α}:a∈b::l↔a=b\/a∈l:=List.mem_cons
def τ{α:Type _}{a:α}{s t:List α}:a∈s++t↔a∈s\/a∈t:=List.mem_append
def ε{α:Type _}{l:List α}{i:Nat}(h:i<l.length):l[i]?=some l[i]:=List.getElem?_eq_getElem h
def υ{α:Type _}{s t:List α}:(s++t).length=s.length+t.length:=List.length_append
def θ{α:Type _}{s t:List α}:(s++t).Nodup↔s.Nodup/\t.Nodup/\∀a∈s,∀b∈t,a≠b:=List.nodup_append
def ς{α:Type _}{a:α}:¬a∈([]:List α):=List.not_mem_nil
def Α:=@Or.inl
def Β:=@Or.inr
def Γ:=@if_neg
def Δ:=@if_pos
def Ε:=@World.block_lt_of_cell?
def Ζ:=@List.nodup_cons
def Η:=@List.mem_of_getElem?
def Θ:=@Nat.le_refl
def Ι:=@List.length_set
def Κ:=@World.size_alloc
def Λ:=@List.mem_cons_of_mem
def Μ:=@IntWalk.i64_in
def Ν:=@decide_eq_true
def Ξ:=@decide_eq_false
def Ο:=@decide_eq_true_eq
def Ρ:=@List.getElem?_append_left
def Τ:=@Bool.and_eq_true
def Υ:=@List.append_nil
def Φ:=@List.perm_append_comm
def Χ:=@Nat.le_trans
def Ψ:=@Nat.lt_of_lt_of_le
def Ω:=@List.length_cons
def ϊ:=@List.getElem?_append_right
def ϋ:=@List.append_assoc
def ό:=@List.Perm.refl
def ύ:=@List.getElem?_set
def ώ:=@List.take_add_one
def Ϗ:=@List.length_take
def ϐ:=@List.length_map
def ϑ:=@List.getElem?_map
def ϒ:=@List.mem_singleton
def ϓ:=@Nat.zero_add
def ϔ:=@Nat.add_zero
def ϕ:=@Nat.lt_or_ge
def ϖ:=@Option.some.injEq
def ϗ:=@List.getElem_mem
def Ϙ:=@Classical.byContradiction
def ϙ:=@List.eq_nil_of_length_eq_zero
def Ϛ:=@List.nil_append
def ϛ:=@Option.map_some
def Ϝ:=@List.drop_eq_getElem_cons
def ϝ:=@List.Perm.trans
def Ϟ:=@Bool.false_eq_true
def ϟ:=@of_decide_eq_true
def Ϡ:=@List.nodup_nil
end Go.Proofs.YtnpdakpagnpanaaGreat
namespace Go.Proofs.YtnpdakpagnpanaaGreat
open Tryz
structure Cl where
 i:Int
 k:Int
 s:Int
instance:Inhabited Cl:=⟨⟨0,0,0⟩⟩
def Cl.z:Cl:=⟨0,0,0⟩
structure NS where
 hs:List Bool
 cs:List Cl
def NS.c(A:NS)(x:Nat):Cl:=A.cs.getD x Cl.z
def NS.new(n:Nat):NS:=⟨[false],List.replicate n Cl.z⟩
def aW(A:NS)(h:Int):Bool:=decide (1<=h) && decide (h<A.hs.length) && A.hs.getD h.toNat false
def uZ(A:NS)(x:Int):Bool:=decide (0<=x) && decide (x<A.cs.length)
def bY(A:NS)(x:Int):Bool:=uZ A x && decide (0<(A.c x.toNat).i)
def gu(A:NS)(x:Nat)(c:Cl):NS:=⟨A.hs,A.cs.set x c⟩
def ry(k1 s1 k2 s2:Int):Bool:=if k1=k2 then decide (s1<s2) else decide (k1<k2)
def dF(A:NS):Int:=if 65536<A.hs.length then 0 else A.hs.length
def aO(A:NS):NS:=if 65536<A.hs.length then A else⟨A.hs++[true],A.cs⟩
def oF(A:NS)(h x:Int):Bool:=aW A h && uZ A x && !bY A x
def aN(A:NS)(h x k s:Int):NS:=if oF A h x then gu A x.toNat ⟨h,k,s⟩ else A
def aS(A:NS)(x:Int):NS:=if bY A x then gu A x.toNat Cl.z else A
def iX(A:NS)(x k s:Int):Bool:=bY A x && !ry (A.c x.toNat).k (A.c x.toNat).s k s
def aA(A:NS)(x k s:Int):NS:=if iX A x k s then gu A x.toNat ⟨(A.c x.toNat).i,k,s⟩ else A
def fQ(A:NS)(a b:Int):Bool:=aW A a && aW A b && !(a == b)
def az(A:NS)(a b:Int):NS:=if fQ A a b then⟨A.hs.set b.toNat false,A.cs.map λc=>if c.i=b then⟨a,c.k,c.s⟩ else c⟩ else A
def qO(cs:List Cl)(h:Int):Nat:=(cs.filter λc=>decide (c.i=h) && decide (0<h)).length
def cZ(A:NS)(h:Int):Nat:=qO A.cs h
def dA(A:NS)(a b:Nat):Prop:=(A.c a).k<(A.c b).k\/(A.c a).k=(A.c b).k/\((A.c a).s<(A.c b).s\/(A.c a).s=(A.c b).s/\a<b)
instance (A:NS) (a b:Nat):Decidable (dA A a b):=by unfold dA;infer_instance
def bW(A:NS)(a b:Int):Bool:=bY A a && bY A b && decide (dA A a.toNat b.toNat)
def AA(A:NS)(h:Int)(b:Option Nat)(x:Nat):Option Nat:=if decide (0<h) && decide ((A.c x).i=h) && (match b with|none=>true|some y=>bW A x y) then some x else b
def dB(A:NS)(h:Int):Option Nat:=(List.range A.cs.length).foldl (AA A h) none
def og(o:Option Nat):Int:=match o with|some x=>(x:Int)|none=>0
structure NS.Ok(A:NS):Prop where
 h0:1<=A.hs.length
 h1:A.hs.length<=65537
 h2:A.hs.getD 0 false=false
 c1:A.cs.length<=65536
 cell:∀x,x<A.cs.length->((A.c x).i=0/\(A.c x).k=0/\(A.c x).s=0)\/aW A (A.c x).i=true
 key:∀x, -9223372036854775808<=(A.c x).k/\(A.c x).k<=9223372036854775807/\0<=(A.c x).s/\(A.c x).s<=18446744073709551615
def aF(A:NS)(h:Int):aW A h=true↔1<=h/\h<A.hs.length/\A.hs.getD h.toNat false=true:=by
 unfold aW;simp[and_assoc]
def il(A:NS)(x:Int):uZ A x=true↔0<=x/\x<A.cs.length:=by unfold uZ;simp
def qF(A:NS)(x:Int):bY A x=true↔0<=x/\x<A.cs.length/\0<(A.c x.toNat).i:=by unfold bY uZ;simp[and_assoc]
def aj(A:NS)(x:Nat):bY A (x:Int)=true↔x<A.cs.length/\0<(A.c x).i:=by rw[qF];simp
def NS.Ok.nat{A:NS}(h:A.Ok)(x:Nat)(b:x<A.cs.length):0<=(A.c x).i/\(A.c x).i<A.hs.length:=by
 rcases h.cell x b with a|a
 .have:=h.h0;omega
 .have:=(aF _ _).1 a;omega
def mg(A:NS)(x:Nat)(c:Cl)(y:Nat):(gu A x c).c y=if y=x/\x<A.cs.length then c else A.c y:=by
 unfold gu NS.c
 grind
def fM(A:NS)(x:Nat)(c:Cl):(gu A x c).cs.length=A.cs.length:=by unfold gu;simp
def Va(A:NS)(x:Nat)(c:Cl)(h:Int):aW (gu A x c) h=aW A h:=rfl
def NS.Ok.with{A:NS}(h:A.Ok)(x:Nat)(c:Cl)(b:(c.i=0/\c.k=0/\c.s=0)\/aW A c.i=true)(d:-9223372036854775808<=c.k/\c.k<=9223372036854775807/\0<=c.s/\c.s<=18446744073709551615):(gu A x c).Ok:=by
 refine⟨h.h0,h.h1,h.h2,by rw[fM];exact h.c1,λy a=>?_,λy=>?_⟩
 .rw[fM] at a;rw[mg,Va]
  split
  .exact b
  .exact h.cell y a
 .rw[mg];split
  .exact d
  .exact h.key y
def NS.uK(n x:Nat):(NS.new n).c x=Cl.z:=by
 unfold NS.new NS.c
 grind
def NS.Nw(n:Nat)(a:n<=65536):(NS.new n).Ok:=by
 refine⟨by simp[NS.new],by simp[NS.new],rfl,by simp[NS.new];exact a,λx _=>Α ?_,λx=>?_⟩
 .rw[NS.uK];exact⟨rfl,rfl,rfl⟩
 .rw[NS.uK];exact⟨δ,δ,δ,δ⟩
def VF{A:NS}(h:A.Ok):(aO A).Ok:=by
 unfold aO;split
 .exact h
 .rename_i f
  have e:=h.h0;refine⟨σ,ζ,?_,h.c1,λx d=>?_,h.key⟩
  .have:=h.h2
   grind
  .rcases h.cell x d with b|b
   .exact Α b
   .refine Β ?_;have a:=(aF _ _).1 b;refine(aF _ _).2 ⟨a.1,by show(A.c x).i<((A.hs++[true]).length:Int);rw[υ];have:=a.2.1;omega,?_⟩;have c:=a.2.2;simp only[φ] at c ⊢;rw[Ρ (by show(A.c x).i.toNat<A.hs.length;omega)];exact c
def fB(A:NS)(h x:Int):oF A h x=true↔aW A h=true/\uZ A x=true/\bY A x=false:=by unfold oF;simp[and_assoc]
def ZJ{A:NS}(h:A.Ok)(g x k s:Int)(a:-9223372036854775808<=k/\k<=9223372036854775807/\0<=s/\s<=18446744073709551615):(aN A g x k s).Ok:=by
 unfold aN;split
 .rename_i hp
  exact h.with _ _ (Β ((fB _ _ _).1 hp).1) a
 .exact h
def TU{A:NS}(h:A.Ok)(x:Int):(aS A x).Ok:=by
 unfold aS;split
 .exact h.with _ _ (Α ⟨rfl,rfl,rfl⟩) ⟨δ,δ,δ,δ⟩
 .exact h
def iH{A:NS}(h:A.Ok){x:Int}(b:bY A x=true):aW A (A.c x.toNat).i=true:=by
 have c:=(qF _ _).1 b;rcases h.cell x.toNat ω with a|a
 .omega
 .exact a
def Zj{A:NS}(h:A.Ok)(x k s:Int)(a:-9223372036854775808<=k/\k<=9223372036854775807/\0<=s/\s<=18446744073709551615):(aA A x k s).Ok:=by
 unfold aA;split
 .rename_i hp
  unfold iX at hp;simp only[Τ] at hp;exact h.with _ _ (Β (iH h hp.1)) a
 .exact h
def dI(A:NS)(a b:Int):fQ A a b=true↔aW A a=true/\aW A b=true/\a≠b:=by unfold fQ;simp[and_assoc]
def yU{A:NS}{a b:Int}(c:fQ A a b=true)(x:Nat):(az A a b).c x=if(A.c x).i=b/\x<A.cs.length then⟨a,(A.c x).k,(A.c x).s⟩ else A.c x:=by
 unfold az;rw[Δ c];unfold NS.c
 grind
def eU(A:NS)(a b:Int):(az A a b).cs.length=A.cs.length:=by unfold az;split<;>simp
def rY{A:NS}{a b:Int}(c:fQ A a b=true)(h:Int):aW (az A a b) h=(aW A h && !(h == b)):=by
 have d:=(dI _ _ _).1 c;have e:=(aF _ _).1 d.2.1;unfold az;rw[Δ c];unfold aW
 grind
def VY{A:NS}(h:A.Ok)(a b:Int):(az A a b).Ok:=by
 by_cases c:fQ A a b=true
 .have g:=(dI _ _ _).1 c;have i:=(aF _ _).1 g.2.1;have e:(az A a b).hs=A.hs.set b.toNat false:=by unfold az;rw[Δ c]
  refine⟨by grind,by rw[e];simp;exact h.h1,?_,by rw[eU];exact h.c1,λx d=>?_,λx=>?_⟩
  .rw[e];have:=h.h2
   grind
  .rw[eU] at d;rw[yU c,rY c]
   split
   .grind
   .rename_i j
    rcases h.cell x d with f|f
    .exact Α f
    .grind
  .rw[yU c];split
   .exact h.key x
   .exact h.key x
 .unfold az;rw[Γ c];exact h
/-! ### how many are in a heap -/
def OB(cs:List Cl)(h:Int):qO cs h<=cs.length:=List.length_filter_le _ _
def Vh(cs:List Cl)(x:Nat)(c:Cl)(h:Int)(a:x<cs.length):
  qO (cs.set x c) h+(if(cs.getD x Cl.z).i=h/\0<h then 1 else 0)=qO cs h+(if c.i=h/\0<h then 1 else 0):=by
 unfold qO
 induction cs generalizing x with
 |nil=>simp at a
 |cons d r b=>
  cases x with
  |zero=>
   grind
  |succ x=>
   grind
def oH(A:NS)(x:Nat)(c:Cl)(h:Int)(a:x<A.cs.length):
  cZ (gu A x c) h+(if(A.c x).i=h/\0<h then 1 else 0)=cZ A h+(if c.i=h/\0<h then 1 else 0):=Vh A.cs x c h a
def VA{cs:List Cl}{h:Int}:0<qO cs h↔∃x,x<cs.length/\(cs.getD x Cl.z).i=h/\0<h:=by
 unfold qO;rw[List.length_pos_iff_exists_mem];constructor
 .rintro⟨c,b⟩;obtain⟨d,hp⟩:=List.mem_filter.1 b;obtain⟨x,a,rfl⟩:=List.mem_iff_getElem.1 d;simp only[Τ,Ο] at hp;exact⟨x,a,by grind,hp.2⟩
 .rintro⟨x,a,e,f⟩;refine⟨cs[x],List.mem_filter.2 ⟨ϗ a,?_⟩⟩
  grind
def fO{A:NS}{h:Int}:0<cZ A h↔∃x,x<A.cs.length/\(A.c x).i=h/\0<h:=VA
def Bb{A:NS}(a:A.Ok)(h:Int):cZ A h<=65536:=Χ (OB _ _) a.c1
def R5{A:NS}(d:A.Ok){h:Int}(g:aW A h=false):cZ A h=0:=by
 rcases Nat.eq_zero_or_pos (cZ A h) with a|a
 .exact a
 .obtain⟨x,b,e,f⟩:=fO.1 a;rcases d.cell x b with c|c
  .omega
  .grind
def Fp{A:NS}(j:A.Ok){a b:Int}(e:fQ A a b=true)(h:Int):cZ (az A a b) h=if h=a then cZ A a+cZ A b else if h=b then 0 else cZ A h:=by
 have c:=(dI _ _ _).1 e;have f:=(aF _ _).1 c.1;have g:=(aF _ _).1 c.2.1;unfold cZ az;rw[Δ e];unfold qO;simp only;generalize A.cs=cs
 induction cs with
 |nil=>split<;>simp
 |cons d r i=>
  grind
def PZ{A:NS}(h:Int):cZ (aO A) h=cZ A h:=by unfold aO;split<;>rfl
/-! ### the order of slots -/
def dH{A:NS}{a b c:Nat}(h:dA A a b)(d:dA A b c):dA A a c:=by unfold dA at *;omega
def qp{A:NS}{a:Nat}:¬dA A a a:=by unfold dA;omega
def jA{A:NS}{a b:Nat}(h:a≠b):dA A a b\/dA A b a:=by unfold dA;omega
def rA{A:NS}{a b:Nat}(h:dA A a b):¬dA A b a:=λc=>qp (dH h c)
def UY(A:NS)(a b:Nat):(ry (A.c a).k (A.c a).s (A.c b).k (A.c b).s || (decide ((A.c a).k=(A.c b).k/\(A.c a).s=(A.c b).s) && decide (a<b)))=decide (dA A a b):=by
 rw[Bool.eq_iff_iff,decide_eq_true_iff];unfold ry dA
 grind
def mZ(A:NS)(a b:Nat):bW A (a:Int) (b:Int)=(bY A a && bY A b && decide (dA A a b)):=by unfold bW;simp
def UK(A:NS)(h:Int)(l:List Nat)(m:Nat):Prop:=m∈l/\(A.c m).i=h/\∀y,y∈l->(A.c y).i=h->y=m\/dA A m y
def zK(A:NS)(h:Int)(r:0<h):∀(l:List Nat),(∀x∈l,x<A.cs.length)->∀(b:List Nat),(∀x∈b,x<A.cs.length)->∀o:Option Nat,
  (match o with|some m=>UK A h b m|none=>∀y∈b,(A.c y).i≠h)->
  (match l.foldl (AA A h) o with|some m=>UK A h (b++l) m|none=>∀y∈b++l,(A.c y).i≠h)
 | [],_,b,_,o,ho=>by simpa using ho
 |x::l,hl,b,hp,o,ho=>by
  have s:=hl x σ;have g:(match AA A h o x with|some m=>UK A h (b++[x]) m|none=>∀y∈b++[x],(A.c y).i≠h):=by
   unfold AA
   by_cases f:(A.c x).i=h
   .cases o with
    |none=>
     simp only at ho;simp only[f,r,decide_true,Bool.and_self,if_true];refine⟨σ,f,λy a d=>?_⟩;rcases τ.1 a with a|a
     .exact absurd d (ho y a)
     .exact Α (by grind)
    |some m=>
     simp only at ho;obtain⟨j,n,k⟩:=ho;have t:=hp m j;have p:bY A (x:Int)=true:=(aj A x).2 ⟨s,ω⟩;have q:bY A (m:Int)=true:=(aj A m).2 ⟨t,ω⟩;simp only[f,r,decide_true,Bool.and_self,Bool.true_and,mZ,p,q,Ο]
     by_cases c:dA A x m
     .rw[Δ c];refine⟨σ,f,λy a d=>?_⟩;rcases τ.1 a with a|a
      .rcases k y a d with rfl|i
       .exact Β c
       .exact Β (dH c i)
      .exact Α (by grind)
     .rw[Γ c];refine⟨by simp[j],n,λy a d=>?_⟩;rcases τ.1 a with a|a
      .exact k y a d
      .simp at a;subst a
       by_cases e:y=m
       .exact Α e
       .rcases jA (A:=A) e with i|i
        .exact absurd i c
        .exact Β i
   .simp only[f,decide_false,Bool.and_false,Bool.false_and,Ϟ,if_false];cases o with
    |none=>
     simp only at ho ⊢;intro y a;rcases τ.1 a with a|a
     .exact ho y a
     .simp at a;subst a;exact f
    |some m=>
     simp only at ho ⊢;obtain⟨j,n,k⟩:=ho;refine⟨by simp[j],n,λy a d=>?_⟩;rcases τ.1 a with a|a
     .exact k y a d
     .simp at a;subst a;exact absurd d f
  have:=zK A h r l (λy a=>hl y (by simp[a])) (b++[x]) (λy a=>by grind) _ g;simpa using this
def YZ(A:NS)(h:Int)(m:Nat):Prop:=m<A.cs.length/\(A.c m).i=h/\∀y,y<A.cs.length->(A.c y).i=h->y=m\/dA A m y
def jB{A:NS}{h:Int}(n:0<h){m:Nat}:dB A h=some m↔YZ A h m:=by
 have:=zK A h n (List.range A.cs.length) (λx g=>by simpa using g) [] σ none σ;simp only[Ϛ] at this
 change (match dB A h with|some m=>_|none=>_) at this
 constructor
 .intro e;rw[e] at this;obtain⟨c,a,b⟩:=this;exact⟨by grind,a,λy p i=>b y (by grind) i⟩
 .rintro⟨c,a,b⟩;cases e:dB A h with
  |none=>rw[e] at this;exact absurd a (this m (by grind))
  |some l=>
   rw[e] at this;obtain⟨o,d,f⟩:=this;rcases b l (by grind) d with rfl|j
   .rfl
   .rcases f m (by grind) a with rfl|k
    .rfl
    .exact absurd j (rA k)
def jV{A:NS}{h:Int}(c:0<h):dB A h=none↔cZ A h=0:=by
 have:=zK A h c (List.range A.cs.length) (λx b=>by simpa using b) [] σ none σ;simp only[Ϛ] at this
 change (match dB A h with|some m=>_|none=>_) at this
 cases e:dB A h with
 |none=>
  rw[e] at this;refine⟨λ_=>?_,λ_=>rfl⟩;rcases Nat.eq_zero_or_pos (cZ A h) with a|a
  .exact a
  .obtain⟨x,b,f,_⟩:=fO.1 a
   grind
 |some m=>
  rw[e] at this;obtain⟨g,d,_⟩:=this;refine⟨λh=>by(cases h),λi=>?_⟩;have:0<cZ A h:=fO.2 ⟨m,by grind,d,c⟩;omega
def rX{A:NS}{h:Int}(b:¬0<h):dB A h=none:=by
 unfold dB;generalize List.range A.cs.length=l;have:∀l:List Nat,l.foldl (AA A h) none=none:=λl=>by
  induction l with
  |nil=>rfl
  |cons x l a=>rw[List.foldl_cons,show AA A h none x=none by unfold AA;simp[b]];exact a
 exact this l
def TN{A:NS}{h:Int}(c:¬0<h):cZ A h=0:=by
 rcases Nat.eq_zero_or_pos (cZ A h) with a|a
 .exact a
 .obtain⟨x,_,_,b⟩:=fO.1 a;exact absurd b c
def nu{A A':NS}{x y:Nat}(h:dA A x y)(a:A'.c y=A.c y)(b:(A'.c x).k<(A.c x).k\/(A'.c x).k=(A.c x).k/\(A'.c x).s<=(A.c x).s):dA A' x y:=by
 unfold dA at *;rw[a];omega
def wJ{A:NS}{x k s:Int}(h:iX A x k s=true):k<(A.c x.toNat).k\/k=(A.c x.toNat).k/\s<=(A.c x.toNat).s:=by
 unfold iX ry at h
 grind
def vk{A:NS}{x:Nat}{k s:Int}(a:iX A x k s=true)(b:x<A.cs.length)(y:Nat):(aA A x k s).c y=if y=x then⟨(A.c x).i,k,s⟩ else A.c y:=by
 unfold aA;rw[Δ a,π,mg]
 grind
def iW{A:NS}{x:Nat}{k s:Int}(a:iX A x k s=true)(b:x<A.cs.length)(y:Nat):((aA A x k s).c y).i=(A.c y).i:=by
 rw[vk a b];split
 .rename_i e;rw[e]
 .rfl
def gD(A:NS)(x k s:Int):(aA A x k s).cs.length=A.cs.length:=by unfold aA;split;exact fM _ _ _;rfl
def mX(A:NS)(x k s:Int):(aA A x k s).hs=A.hs:=by unfold aA;split<;>rfl
def zN{A:NS}{x:Nat}(a:bY A x=true)(y:Nat):(aS A x).c y=if y=x then Cl.z else A.c y:=by
 have b:=((aj A x).1 a).1;unfold aS;rw[Δ a,π,mg]
 grind
def fF(A:NS)(x:Int):(aS A x).cs.length=A.cs.length:=by unfold aS;split;exact fM _ _ _;rfl
def jm(A:NS)(x:Int):(aS A x).hs=A.hs:=by unfold aS;split<;>rfl
def pO{A:NS}{a b:Int}(c:fQ A a b=true)(x:Nat):(az A a b).c x=⟨if(A.c x).i=b/\x<A.cs.length then a else(A.c x).i,(A.c x).k,(A.c x).s⟩:=by
 rw[yU c];split<;>rfl
def oW{A:NS}{a b:Int}(c:fQ A a b=true)(x y:Nat):dA (az A a b) x y↔dA A x y:=by
 unfold dA;rw[pO c,pO c]
def fC{A A':NS}{a b:Nat}(c:A'.c a=A.c a)(d:A'.c b=A.c b):dA A' a b↔dA A a b:=by unfold dA;rw[c,d]


open Go Go.RowKit

def jX{w:World}{base a b n:Nat}{e:TypeId}{v:Value}{xs:List Value}(h:w.ownsRow base e b v n xs)(j:a<=base):w.ownsRow a e b v n xs:=by
 refine⟨h.1,?_⟩;rcases h.2 with f|⟨g,cap,c,rfl,d,i,rest⟩
 .exact Α f
 .exact Β ⟨g,cap,c,rfl,Χ j d,i,rest⟩
def OD(W:World)(a:List Value)(e:TypeId)(j:Nat)(u:Value)(d:a[j]?=some u):(W.alloc (.cells a.toArray e)).cell? ((⟨W.heap.size,0,none⟩:Addr).add j)=some u:=by
 have b:((⟨W.heap.size,0,none⟩:Addr).add j)=⟨W.heap.size,j,none⟩:=by
  unfold Addr.add;split
  .subst_vars;rfl
  .simp
 rw[b];have c:(W.alloc (.cells a.toArray e)).heap[W.heap.size]?=some (.cells a.toArray e):=by
  show(W.heap.push _)[W.heap.size]?=_
  simp
 unfold World.cell?;simp only[c];simpa using d
def bD{P:Program}{H:Array Oper}{rest:List Oper}{o:Oper}{a:Act}{Q:Exit->Act->World->Prop}{W:World}(B:o.guard=none)(s x:Operand)(t:TypeId)
  (N:o.op=.call { callee:=.builtin .append,args:=#[s,x],argTypes:=#[t,t] })
  (base:Nat) (e:TypeId) (z:Value) (c d:Nat) (O:P.underlying t=some (.slice e)) (C:(P.info? e).map (λi=>(i.zero,i.size,i.bytes))=some (some z,c,d))
  (I:z.cells.size=c) (J:0<c) (v:Value) (n:Nat) (xs:List Value) (hs:a.eval s=v) (m:W.ownsRow base e c v n xs)
  (y:List Value) (X:y.length=c) (R:∀u∈y,u.oneCell'=true) (S:a.eval x=.slice (some W.heap.size) 1 1)
  (U:n+1<=maxLen) (p:(n+1)*d<=140737488355328) (T:base<=W.heap.size)
  (h:∀v' w',w'.ownsRow base e c v' (n+1) (xs++y)->ae v.ownBlock.toList W w'->(v'.ownBlock=v.ownBlock\/∀k,v'.ownBlock=some k->W.heap.size<k)->wpList P H Q rest (a.put o.dst v') w'):
  wpList P H Q (o::rest) a (W.alloc (.cells y.toArray e)):=by
 obtain⟨i,K,D,A,E⟩:=info_parts C;have l:=λj u M=>OD W y e j u M;rcases m.2 with⟨rfl,rfl⟩|⟨g,cap,cur,rfl,hbg,hg,hnc,hcm,hcs,htk⟩
 .have L:xs=[]:=ϙ (by rw[m.1,Nat.zero_mul]);subst L;refine wpList_append_grows _ B s x t N e i z c d O K D A E I J none 0 0 [] hs (λ_=>⟨rfl,rfl⟩) σ (λb F=>by cases F) ⟨W.heap.size,0,none⟩ 1 1 y S ω l R ω U p ?_;intro v' w' f q;refine h v' w' (jX f ζ) (((ae.refl _ _).alloc _).grown q (λk w=>by cases w)) (Β λk w=>?_);have:=(f.lt k w).1;simp at this;omega
 .have r:=m.alloc (.cells y.toArray e)
  by_cases G:n+1<=cap
  .refine wpList_append_fits _ B s x t N base e i c O K A g n cap xs hs r ⟨W.heap.size,0,none⟩ 1 1 y S ω l R G ?_;intro w' f q;exact h _ w' f (((ae.refl _ _).alloc _).grown q (λk w=>Α (by cases w;simp[Value.ownBlock]))) (Α rfl)
  .refine wpList_append_grows _ B s x t N e i z c d O K D A E I J (some ⟨g,0,none⟩) n cap xs hs (λF=>by cases F) m.1 (λb F j u M=>?_) ⟨W.heap.size,0,none⟩ 1 1 y S ω l R ω U p ?_
   .cases F;exact r.cells rfl j u M
   .intro v' w' f q;refine h v' w' (jX f ζ) (((ae.refl _ _).alloc _).grown q (λk w=>by cases w)) (Β λk w=>?_);have:=(f.lt k w).1;simp at this;omega
def au{w w':World}{S:List Nat}{base a n:Nat}{e:TypeId}{v:Value}{xs:List Value}(h:w.ownsRow base e a v n xs)(l:ae S w w')(d:∀k,v.ownBlock=some k->k∉S):w'.ownsRow base e a v n xs:=by
 refine⟨h.1,?_⟩;rcases h.2 with f|⟨g,cap,c,rfl,i,j,rest⟩
 .exact Α f
 .have b:=h.lt g rfl;exact Β ⟨g,cap,c,rfl,i,by rw[l.block g b.2 (d g rfl)];exact j,rest⟩
def ae.own{w0 w w':World}{S:List Nat}{base a n:Nat}{e:TypeId}{v:Value}{xs:List Value}(h:ae S w0 w)(b:w.ownsRow base e a v n xs)(c:w0.heap.size<=base)(d:ae v.ownBlock.toList w w'):ae S w0 w':=
 h.joined d (λx f=>Β (Χ c (b.lt x (by grind)).1))
def fU{w:World}{base a n:Nat}{e:TypeId}{v:Value}{xs:List Value}(h:w.ownsRow base e a v n xs)(d:0<n):
  ∃g cap,v=.slice (some (g:Nat)) n cap/\base<=g/\g<w.heap.size/\n<=cap/\cap<=9223372036854775807/\(∀j u,xs[j]?=some u->w.cell? ⟨g,j,none⟩=some u)/\∀j,w.frozen? ⟨g,j,none⟩=false:=by
 rcases h.2 with⟨_,h0⟩|⟨g,cap,cur,rfl,hb,hg,hnc,hcm,_⟩
 .omega
 .refine⟨g,cap,rfl,hb,(h.lt g rfl).2,hnc,by unfold maxLen at hcm;exact hcm,λj u c=>?_,λj=>h.frozenAt j⟩;have b:j<xs.length:=by
   grind
  rw[h.cellAt j (by grind)];exact c
def qz(W:World)(xs:List Value)(e:TypeId)(base a n:Nat)(b:xs.length=n*a)(c:base<=W.heap.size)(d:n<=maxLen):
  (W.alloc (.cells xs.toArray e)).ownsRow base e a (.slice (some W.heap.size) n n) n xs:=by
 refine⟨b,Β ⟨W.heap.size,n,xs.toArray,rfl,c,?_,Θ _,d,by grind,?_⟩⟩
 .show(W.heap.push _)[W.heap.size]?=_;simp
 .rw[←b];simp
def MO(W:World)(g:Nat)(b:g=W.heap.size)(xs:List Value)(e:TypeId)(base a n:Nat)(c:xs.length=n*a)(d:base<=W.heap.size)(f:n<=maxLen):
  (W.alloc (.cells xs.toArray e)).ownsRow base e a (.slice (some g) n n) n xs:=by
 subst b;exact qz W xs e base a n c d f
def bz{w:World}{base b n:Nat}{e:TypeId}{v:Value}{xs:List Value}(h:w.ownsRow base e b v n xs):∃a cap,v=.slice a n cap/\cap<=9223372036854775807:=by
 rcases h.2 with⟨rfl,rfl⟩|⟨g,cap,cur,rfl,_,_,_,hc,_⟩
 .grind
 .exact⟨_,cap,rfl,by unfold maxLen at hc;exact hc⟩
def aQ(w:World)(b:Nat)(e:TypeId)(m:Nat)(f:Nat->Value):Prop:=
 ∃arr:Array Value,w.heap[b]?=some (.cells arr e (0,0))/\arr.size=m/\∀j,j<m->arr[j]?=some (f j)
def aQ.lt{w:World}{b m:Nat}{e:TypeId}{f:Nat->Value}(h:aQ w b e m f):b<w.heap.size:=by
 obtain⟨a,c,_⟩:=h
 grind
def aQ.cell{w:World}{b m:Nat}{e:TypeId}{f:Nat->Value}(h:aQ w b e m f)(j:Nat)(g:j<m):w.cell? ⟨b,j,none⟩=some (f j):=by
 obtain⟨a,c,i,d⟩:=h;unfold World.cell?;simp only[c];simpa using d j g
def aQ.cellAt{w:World}{b m:Nat}{e:TypeId}{f:Nat->Value}{v:Value}(h:aQ w b e m f)(j:Nat)(a:j<m)(c:f j=v):w.cell? ⟨b,j,none⟩=some v:=by rw[←c];exact h.cell j a
def aQ.free{w:World}{b m:Nat}{e:TypeId}{f:Nat->Value}(h:aQ w b e m f)(j:Nat):w.frozen? ⟨b,j,none⟩=false:=by
 obtain⟨a,c,d,g⟩:=h;simp[World.frozen?,c]
def aQ.same{w w':World}{b m:Nat}{e:TypeId}{f:Nat->Value}(h:aQ w b e m f)(i:w'.heap[b]?=w.heap[b]?):aQ w' b e m f:=by
 obtain⟨a,c,d,g⟩:=h;exact⟨a,i.trans c,d,g⟩
def aQ.upd{w w':World}{S:List Nat}{b m:Nat}{e:TypeId}{f:Nat->Value}(h:aQ w b e m f)(a:ae S w w')(c:b∉S):aQ w' b e m f:=h.same (a.block b h.lt c)
def aQ.ext{w:World}{b m:Nat}{e:TypeId}{f g:Nat->Value}(h:aQ w b e m f)(l:∀j,j<m->f j=g j):aQ w b e m g:=by
 obtain⟨a,c,d,i⟩:=h;exact⟨a,c,d,λj k=>by grind⟩
def aQ.set{w:World}{b m:Nat}{e:TypeId}{f:Nat->Value}(h:aQ w b e m f)(j:Nat)(v:Value):
  aQ (w.setCell ⟨b,j,none⟩ v) b e m (λi=>if i=j then v else f i):=by
 obtain⟨a,c,d,g⟩:=h;refine⟨a.setIfInBounds j v,?_,by simp[d],λi k=>?_⟩
 .simp[World.setCell,Array.getElem?_modify,c]
 .grind
def aQ.far{w:World}{b m:Nat}{e:TypeId}{f:Nat->Value}(h:aQ w b e m f)(a:Addr)(v:Value)(c:b≠a.block):aQ (w.setCell a v) b e m f:=
 h.same (Below.heap_setCell _ _ _ _ c)
def aQ.drew{w:World}{b m:Nat}{e:TypeId}{f:Nat->Value}(h:aQ w b e m f):aQ w.drew b e m f:=h
def aQ.alloc{w:World}{b m:Nat}{e:TypeId}{f:Nat->Value}(h:aQ w b e m f)(o:Obj):aQ (w.alloc o) b e m f:=h.same (Below.heap_alloc _ _ _ h.lt)
def eO(w:World)(l:List Value)(e:TypeId):aQ (w.alloc (.cells l.toArray e)) w.heap.size e l.length (λj=>l.getD j undef):=by
 refine⟨l.toArray,?_,σ,λj a=>?_⟩
 .show(w.heap.push _)[w.heap.size]?=_;simp
 .grind
def Ld{w:World}{base a n cap g:Nat}{e:TypeId}{xs:List Value}(h:w.ownsRow base e a (.slice (some g) n cap) n xs)(b:cap=n)(f:n=0->xs=[]):
  aQ w g e (n*a) (λj=>xs.getD j undef):=by
 subst b;rcases h.2 with⟨h1,h0⟩|⟨g',cap',cur,h1,_,hg,_,_,hs,ht⟩
 .cases h1
 .simp only[Value.slice.injEq,ϖ,Addr.mk.injEq,and_true,true_and] at h1;obtain⟨rfl,rfl⟩:=h1;refine⟨cur,hg,hs,λj d=>?_⟩;have c:cur.toList=xs:=by rw[←ht,List.take_of_length_le (by simp[hs])]
  grind
def wpList_make_row{P:Program}{w:World}{f:Array Oper}{rest:List Oper}{o:Oper}{a:Act}{Q:Exit->Act->World->Prop}
  (y:o.guard=none) (l:Operand) (t:TypeId) (q:o.op=Op.makeSlice t l l) (e:TypeId) (z:Value) (b c:Nat) (A:P.underlying t=some (.slice e))
  (d:(P.info? e).map (λi=>(i.zero,i.size,i.bytes))=some (some z,b,c)) (n:Nat) (s:a.eval l=.int .i64 (n:Int)) (B:c*n<=281474976710656) (C:n<=maxLen)
  (D:∀w',aQ w' w.heap.size e (n*b) (λj=>(madeCells z.cells (n*b)).toList.getD j undef)->ae [] w w'->wpList P f Q rest (a.put o.dst (.slice (some w.heap.size) n n)) w'):
  wpList P f Q (o::rest) a w:=by
 obtain⟨i,u,g,h,m⟩:=info_parts d
 exact wpList_make_full w y l l t q w.heap.size e i z b A u g h .i64 .i64 n n n s s rfl rfl (by rw [m];exact B) C (Θ _) (λw' r p=>
  D w' (Ld r rfl (λv=>ϙ (by rw [r.1,v,Nat.zero_mul]))) ((ae.refl [] w).grown p (λk x=>by cases x)))
def jD(w:World)(lo:Nat)(v:Value)(n:Nat)(xs:List Value):Prop:=
 (v=.slice none 0 0/\n=0/\xs=[])\/
 ∃g cap,v=.slice (some (g:Nat)) n cap/\n<=cap/\cap<=9223372036854775807/\lo<=g/\g<w.heap.size/\∀j u,xs[j]?=some u->w.cell? ⟨g,j,none⟩=some u
def jD.open{w:World}{lo n:Nat}{v:Value}{xs:List Value}(h:jD w lo v n xs):
  ∃a cap,v=.slice a n cap/\cap<=9223372036854775807/\n<=cap/\(0<n->∃g,a=some ⟨g,0,none⟩/\lo<=g/\g<w.heap.size/\∀j u,xs[j]?=some u->w.cell? ⟨g,j,none⟩=some u):=by
 rcases h with⟨rfl,rfl,rfl⟩|⟨g,cap,rfl,h1,h2,h3⟩
 .grind
 .grind
def jD.vP{w:World}{base a n:Nat}{e:TypeId}{v:Value}{xs:List Value}(h:w.ownsRow base e a v n xs):jD w base v n xs:=by
 rcases h.2 with⟨rfl,rfl⟩|⟨g,cap,cur,rfl,hb,hg,hn,hc,_⟩
 .exact Α ⟨rfl,rfl,ϙ (by rw[h.1,Nat.zero_mul])⟩
 .refine Β ⟨g,cap,rfl,hn,by unfold maxLen at hc;exact hc,hb,(h.lt g rfl).2,λj u c=>?_⟩;have b:j<xs.length:=by
   grind
  rw[h.cellAt j (by grind)];exact c
def jD.upd{w w':World}{S:List Nat}{lo n:Nat}{v:Value}{xs:List Value}(h:jD w lo v n xs)(b:ae S w w')(m:∀k,k∈S->k<lo\/w.heap.size<=k):jD w' lo v n xs:=by
 rcases h with h|⟨g,cap,rfl,d,e,f,a,i⟩
 .exact Α h
 .exact Β ⟨g,cap,rfl,d,e,f,Ψ a b.size,λj u c=>by rw[b.cell a (λl=>by grind)];exact i j u c⟩
def jD.mono{w:World}{lo a n:Nat}{v:Value}{xs:List Value}(h:jD w lo v n xs)(f:a<=lo):jD w a v n xs:=by
 rcases h with h|⟨g,cap,rfl,b,c,d,e⟩
 .exact Α h
 .exact Β ⟨g,cap,rfl,b,c,Χ f d,e⟩
def DU{P:Program}{o:Oper}{a:Act}{w:World}{K:Act->World->Prop}{Q:Exit->Act->World->Prop}(s x:Operand)(t:TypeId)
  (I:o.op=.call { callee:=.builtin .append,args:=#[s,x],argTypes:=#[t,t] })
  (base:Nat) (e:TypeId) (z:Value) (b d:Nat) (J:P.underlying t=some (.slice e)) (p:(P.info? e).map (λi=>(i.zero,i.size,i.bytes))=some (some z,b,d))
  (E:z.cells.size=b) (F:0<b) (v:Value) (n:Nat) (xs:List Value) (hs:a.eval s=v) (l:w.ownsRow base e b v n xs)
  (lo m:Nat) (c:List Value) (L:Value) (M:a.eval x=L) (S:jD w lo L m c) (y:c.length=m*b) (D:∀u∈c,u.oneCell'=true)
  (T:n+m<=maxLen) (f:(n+m)*d<=140737488355328) (q:base<=w.heap.size)
  (h:∀v' w',w'.ownsRow base e b v' (n+m) (xs++c)->ae v.ownBlock.toList w w'->K (a.put o.dst v') w'):o.wp P a w K Q:=by
 obtain⟨i,G,A,B,C⟩:=info_parts p;rcases S with⟨rfl,rfl,rfl⟩|⟨g,cap,rfl,H,h3,h4,h5,h6⟩
 .have r:=run_append_owned_none (P:=P) (w:=w) base t o.type e i b J G v n xs l;unfold Oper.wp;simp[execOp,I,resolve,invoke,builtin,hs,M,r,Result.andThen];exact h v w (by grind) (ae.refl _ _)
 .refine wp_append_own w s x t I base e i z b d J G A B C E F v n xs hs l ⟨g,0,none⟩ m cap c M y (λj u O=>?_) D T f q (λv' w' D H _=>h v' w' D ((ae.refl _ _).grown H (λk R=>Α (by simp[R]))));have N:((⟨g,0,none⟩:Addr).add j)=⟨g,j,none⟩:=by
   unfold Addr.add;split
   .subst_vars;rfl
   .simp
  rw[N];exact h6 j u O
def yM{P:Program}{k:Array Oper}{rest:List Oper}{o:Oper}{a:Act}{w:World}{Q:Exit->Act->World->Prop}(q:o.guard=none)(s x:Operand)(t:TypeId)
  (E:o.op=.call { callee:=.builtin .append,args:=#[s,x],argTypes:=#[t,t] })
  (base:Nat) (e:TypeId) (z:Value) (b d:Nat) (F:P.underlying t=some (.slice e)) (g:(P.info? e).map (λi=>(i.zero,i.size,i.bytes))=some (some z,b,d))
  (r:z.cells.size=b) (y:0<b) (v:Value) (n:Nat) (xs:List Value) (hs:a.eval s=v) (l:w.ownsRow base e b v n xs)
  (lo m:Nat) (c:List Value) (A:Value) (G:a.eval x=A) (H:jD w lo A m c) (p:c.length=m*b) (I:∀u∈c,u.oneCell'=true)
  (J:n+m<=maxLen) (f:(n+m)*d<=140737488355328) (j:base<=w.heap.size)
  (h:∀v' w',w'.ownsRow base e b v' (n+m) (xs++c)->ae v.ownBlock.toList w w'->wpList P k Q rest (a.put o.dst v') w'):wpList P k Q (o::rest) a w:=
 wpList_plain q λ_ B=>DU s x t E base e z b d F g r y v n xs hs l lo m c A G H p I J f j λv' w' C D=>B _ _ (h v' w' C D)
def bH(w:World)(b:Nat)(e:TypeId)(m:Nat):Prop:=∃f,aQ w b e m f
def cv(w:World)(a:Addr):Value:=(w.cell? a).getD undef
def bH.cell{w:World}{b m:Nat}{e:TypeId}(h:bH w b e m)(j:Nat)(a:j<m):w.cell? ⟨b,j,none⟩=some (cv w ⟨b,j,none⟩):=by
 obtain⟨f,h⟩:=h;unfold cv;rw[h.cell j a];rfl
def bH.free{w:World}{b m:Nat}{e:TypeId}(h:bH w b e m)(j:Nat):w.frozen? ⟨b,j,none⟩=false:=by
 obtain⟨f,h⟩:=h;exact h.free j
def bH.upd{w w':World}{S:List Nat}{b m:Nat}{e:TypeId}(h:bH w b e m)(a:ae S w w')(c:b∉S):bH w' b e m:=by
 obtain⟨f,h⟩:=h;exact⟨f,h.upd a c⟩
def fE(w:World)(l:List Value)(e:TypeId):bH (w.alloc (.cells l.toArray e)) w.heap.size e l.length:=⟨_,eO w l e⟩
def Aa(g j:Nat):((⟨g,0,none⟩:Addr).add j)=⟨g,j,none⟩:=by
 unfold Addr.add;split
 .subst_vars;rfl
 .simp
def pM(W:World)(a:List Value)(e:TypeId)(j:Nat)(u:Value)(b:a[j]?=some u):(W.alloc (.cells a.toArray e)).cell? ⟨W.heap.size,j,none⟩=some u:=by
 rw[←Aa];exact OD W a e j u b
def wW{P:Program}{o:Oper}{a:Act}{w:World}{K:Act->World->Prop}{Q:Exit->Act->World->Prop}(s x:Operand)(t:TypeId)
  (L:o.op=.call { callee:=.builtin .append,args:=#[s,x],argTypes:=#[t,t] })
  (base:Nat) (e:TypeId) (z:Value) (b d:Nat) (M:P.underlying t=some (.slice e)) (l:(P.info? e).map (λi=>(i.zero,i.size,i.bytes))=some (some z,b,d))
  (B:z.cells.size=b) (C:0<b) (v:Value) (n:Nat) (xs:List Value) (hs:a.eval s=v) (q:w.ownsRow base e b v n xs)
  (g:Nat) (c:List Value) (N:a.eval x=.slice (some g) 1 1) (S:c.length=b) (m:∀j u,c[j]?=some u->w.cell? ⟨g,j,none⟩=some u) (O:∀u∈c,u.oneCell'=true)
  (R:n+1<=maxLen) (f:(n+1)*d<=140737488355328) (p:base<=w.heap.size)
  (h:∀v' w',w'.ownsRow base e b v' (n+1) (xs++c)->ae v.ownBlock.toList w w'->(v'.ownBlock=v.ownBlock\/v'.ownBlock=some w.heap.size)->K (a.put o.dst v') w'):Oper.wp P o a w K Q:=by
 obtain⟨i,D,r,y,A⟩:=info_parts l;obtain⟨v',w',E,F,G,_,H⟩:=run_append_own_at (P:=P) w base t o.type e i z b d M D r y A B C v n xs q ⟨g,0,none⟩ 1 1 c (by grind) (λj u I=>by rw[Aa];exact m j u I) O R f p;unfold Oper.wp execOp;simp only[L,resolve,invoke,builtin,Sem.run_bind,Sem.run_pure,Result.andThen_ok,List.map_toArray,List.map_cons,List.map_nil,hs,N,E];exact h _ _ F ((ae.refl _ _).grown G (λk J=>Α (by simp[J]))) H
def kX{P:Program}{p:Array Oper}{o:Oper}{a:Act}{w:World}{K:Act->World->Prop}{Q:Exit->Act->World->Prop}{E:Prop}(r:o.guard=none)(s x:Operand)(t:TypeId)
  (C:o.op=.call { callee:=.builtin .append,args:=#[s,x],argTypes:=#[t,t] })
  (base:Nat) (e:TypeId) (z:Value) (b d:Nat) (D:P.underlying t=some (.slice e)) (k:(P.info? e).map (λi=>(i.zero,i.size,i.bytes))=some (some z,b,d))
  (y:z.cells.size=b) (A:0<b) (v:Value) (n:Nat) (xs:List Value) (hs:a.eval s=v) (q:w.ownsRow base e b v n xs)
  (g:Nat) (c:List Value) (F:a.eval x=.slice (some g) 1 1) (G:c.length=b) (l:∀j u,c[j]?=some u->w.cell? ⟨g,j,none⟩=some u) (H:∀u∈c,u.oneCell'=true)
  (I:n+1<=maxLen) (f:(n+1)*d<=140737488355328) (m:base<=w.heap.size)
  (h:∀v' w',w'.ownsRow base e b v' (n+1) (xs++c)->ae v.ownBlock.toList w w'->(v'.ownBlock=v.ownBlock\/v'.ownBlock=some w.heap.size)->K (a.put o.dst v') w'):
  if Region.wanted o (yielded p a.tmps)=true then Oper.wp P o a w K Q else E:=by
 have B:Region.wanted o (yielded p a.tmps)=true:=by simp[Region.wanted,r]
 rw[Δ B];exact wW s x t C base e z b d D k y A v n xs hs q g c F G l H I f m h
def rC{P:Program}{p:Array Oper}{rest:List Oper}{o:Oper}{a:Act}{w:World}{Q:Exit->Act->World->Prop}(r:o.guard=none)(s x:Operand)(t:TypeId)
  (F:o.op=.call { callee:=.builtin .append,args:=#[s,x],argTypes:=#[t,t] })
  (base:Nat) (e:TypeId) (z:Value) (b d:Nat) (G:P.underlying t=some (.slice e)) (k:(P.info? e).map (λi=>(i.zero,i.size,i.bytes))=some (some z,b,d))
  (y:z.cells.size=b) (A:0<b) (v:Value) (n:Nat) (xs:List Value) (hs:a.eval s=v) (q:w.ownsRow base e b v n xs)
  (g:Nat) (c:List Value) (H:a.eval x=.slice (some g) 1 1) (I:c.length=b) (l:∀j u,c[j]?=some u->w.cell? ⟨g,j,none⟩=some u) (J:∀u∈c,u.oneCell'=true)
  (K:n+1<=maxLen) (f:(n+1)*d<=140737488355328) (m:base<=w.heap.size)
  (h:∀v' w',w'.ownsRow base e b v' (n+1) (xs++c)->ae v.ownBlock.toList w w'->(v'.ownBlock=v.ownBlock\/v'.ownBlock=some w.heap.size)->wpList P p Q rest (a.put o.dst v') w'):wpList P p Q (o::rest) a w:=
 wpList_plain r λ_ B=>wW s x t F base e z b d G k y A v n xs hs q g c H I l J K f m λv' w' C D E=>B _ _ (h v' w' C D E)
def gN:(prog.info? 3).map (λi=>(i.zero,i.size,i.bytes))=some (some (.int .i64 0),1,8):=by kernel_rfl
def aZ(l:List Int):List Value:=l.map (λx=>Value.int .i64 x)
def dO(a b:List Int):aZ (a++b)=aZ a++aZ b:=by unfold aZ;rw[List.map_append]
def iq(a:List Int):(aZ a).length=a.length:=by unfold aZ;simp
def Fw(l:List Int):∀u∈aZ l,u.oneCell'=true:=by
 intro u a;unfold aZ at a;simp only[List.mem_map] at a;obtain⟨x,_,rfl⟩:=a;rfl
def mM{l:List Int}{j:Nat}(a:j<l.length):(aZ l)[j]?=some (.int .i64 (l.getD j 0)):=by unfold aZ;simp[φ,a]
def Vd{X:World}{a:List Value}{e:TypeId}{g:Nat}(b:g=X.heap.size)(j:Nat){u:Value}(c:a[j]?=some u):(X.alloc (.cells a.toArray e)).cell? ⟨g,j,none⟩=some u:=by
 subst b;exact pM X a e j u c
def FN{X:World}{a:List Value}{e:TypeId}{g:Nat}(b:g=X.heap.size)(j:Nat){u:Value}(c:a[j]?=some u):((X.alloc (.cells a.toArray e)).drew).cell? ⟨g,j,none⟩=some u:=Vd b j c
structure IZ(w:World)(g cap:Nat)(l:List Int):Prop where
 own:w.ownsRow 0 3 1 (.slice (some g) l.length cap) l.length (aZ l)
def IZ.lt{w:World}{g cap:Nat}{l:List Int}(h:IZ w g cap l):g<w.heap.size:=(h.own.lt g rfl).2
def IZ.cap{w:World}{g cap:Nat}{l:List Int}(h:IZ w g cap l):l.length<=cap/\cap<=9223372036854775807:=by
 rcases h.own.2 with⟨h1,_⟩|⟨g',cap',cur,h1,_,_,h2,h3,_⟩
 .cases h1
 .cases h1;unfold maxLen at h3;exact⟨h2,h3⟩
def IZ.cell{w:World}{g cap:Nat}{l:List Int}(h:IZ w g cap l)(j:Nat)(a:j<l.length):w.cell? ⟨g,j,none⟩=some (.int .i64 (l.getD j 0)):=by
 rw[h.own.cellAt j ω];exact mM a
def IZ.free{w:World}{g cap:Nat}{l:List Int}(h:IZ w g cap l)(j:Nat):w.frozen? ⟨g,j,none⟩=false:=h.own.frozenAt j
def IZ.upd{w w':World}{S:List Nat}{g cap:Nat}{l:List Int}(h:IZ w g cap l)(b:ae S w w')(c:g∉S):IZ w' g cap l:=
 ⟨au h.own b (λk a=>by cases a;exact c)⟩
def IZ.drewN{w:World}{g cap:Nat}{l:List Int}(h:IZ w g cap l)(n:Nat):IZ (w.drewN n) g cap l:=h.upd ((ae.refl [] w).drewN n) σ
def IZ.set{w:World}{g cap:Nat}{l:List Int}(h:IZ w g cap l)(j:Nat)(x:Int):IZ (w.setCell ⟨g,j,none⟩ (.int .i64 x)) g cap (l.set j x):=by
 rcases h.own.2 with⟨h1,_⟩|⟨g',cap',cur,h1,hb,hg,hn,hc,hs,ht⟩
 .cases h1
 .cases h1;refine⟨⟨by rw[iq];omega,Β ⟨g,cap,cur.setIfInBounds j (.int .i64 x),by grind,ω,?_,by grind,hc,ζ,?_⟩⟩⟩
  .simp[World.setCell,Array.getElem?_modify,hg]
  .rw[Ι,Array.toList_setIfInBounds]
   by_cases a:j<l.length
   .rw[List.take_set,ht];unfold aZ;rw[List.map_set]
   .rw[List.take_set_of_le ω,ht,List.set_eq_of_length_le ω]
def IZ.lit(w:World)(l:List Int)(a:l.length<=1000000):IZ (w.alloc (.cells (aZ l).toArray 3)) w.heap.size l.length l:=
 ⟨qz w (aZ l) 3 0 1 l.length (by rw[iq];omega) ω μ⟩
def IZ.jd{w:World}{base:Nat}{v:Value}{l:List Int}(h:w.ownsRow base 3 1 v l.length (aZ l))(b:0<l.length):∃g cap,v=.slice (some (g:Nat)) l.length cap/\IZ w g cap l/\base<=g:=by
 obtain⟨g,cap,rfl,a,_⟩:=fU h b;exact⟨g,cap,rfl,⟨jX h ω⟩,a⟩
def lS(w:World)(F:List Nat)(v:Value)(xs:List Int):Prop:=
 ∃a cap,v=.slice a xs.length cap/\xs.length<=cap/\cap<=9223372036854775807/\∀j u,xs[j]?=some u->∃g off,a=some ⟨g,off,none⟩/\g<w.heap.size/\g∉F/\w.cell? ⟨g,off+j,none⟩=some ((u:Int):V)
def lS.jd{w:World}{base:Nat}{v:Value}{xs:List Int}{F:List Nat}(h:w.ownsRow base 3 1 v xs.length (aZ xs))(d:∀g,g∈F->g<base):lS w F v xs:=by
 rcases h.2 with⟨rfl,h0⟩|⟨g,cap,cur,rfl,hb,hg,hn,hc,_⟩
 .have:xs=[]:=ϙ h0;subst this;exact⟨none,0,rfl,σ,ω,λj u b=>by simp at b⟩
 .refine⟨_,cap,rfl,hn,by unfold maxLen at hc;exact hc,λj u b=>⟨g,0,rfl,(h.lt g rfl).2,λc=>by grind,?_⟩⟩;have a:=(List.getElem?_eq_some_iff.1 b).1;rw[ϓ,h.cellAt j ω,mM a]
  grind
def xV(a b:Int):Int:=if a<b then -1 else if b<a then 1 else 0
def DX(k1 s1 k2 s2:Int):Int:=if k1=k2 then xV s1 s2 else xV k1 k2
def Sc(a b c d:Int):decide (DX a b c d<0)=ry a b c d:=by
 unfold DX ry xV
 grind
def VW(x:Int)(w:World):Calls prog 162 #[x] w λe w'=>e=.returned false/\w'=w:=by
 go_enter func162,ntmps162
 go_wp2;go_ret;exact⟨rfl,rfl⟩
def WZ(x:Int)(w:World):Calls prog 163 #[.int .u64 x] w λe w'=>e=.returned false/\w'=w:=by
 go_enter func163,ntmps163
 go_wp2;go_ret;exact⟨rfl,rfl⟩
def Uu(a b:Int)(w:World):Calls prog 159 #[a,b] w λe w'=>e=.returned (xV a b:Int)/\w'=w:=by
 have k:=λx=>VW x w;unfold xV
 by_cases c:a<b
 .go_enter func159,ntmps159
  go_wp2_with (((with_reducible refine aP ((k _)) ?_)))
  go_ret;exact⟨by first|rfl|(refine jW ?_;simp;try omega),rfl⟩
 .by_cases d:b<a
  .go_enter func159,ntmps159
   go_wp2_with (((with_reducible refine aP ((k _)) ?_)))
   go_ret;exact⟨by first|rfl|(refine jW ?_;simp;try omega),rfl⟩
  .have e:a=b:=ω;subst e;clear c d
   go_enter func159,ntmps159
   go_wp2_with (((with_reducible refine aP ((k _)) ?_)))
   go_ret;exact⟨by first|rfl|(refine jW ?_;simp;try omega),rfl⟩
def Ux(a b:Int)(w:World):Calls prog 160 #[.int .u64 a,.int .u64 b] w λe w'=>e=.returned (xV a b:Int)/\w'=w:=by
 have k:=λx=>WZ x w;unfold xV
 by_cases c:a<b
 .go_enter func160,ntmps160
  go_wp2_with (((with_reducible refine aP ((k _)) ?_)))
  go_ret;exact⟨by first|rfl|(refine jW ?_;simp;try omega),rfl⟩
 .by_cases d:b<a
  .go_enter func160,ntmps160
   go_wp2_with (((with_reducible refine aP ((k _)) ?_)))
   go_ret;exact⟨by first|rfl|(refine jW ?_;simp;try omega),rfl⟩
  .have e:a=b:=ω;subst e;clear c d
   go_enter func160,ntmps160
   go_wp2_with (((with_reducible refine aP ((k _)) ?_)))
   go_ret;exact⟨by first|rfl|(refine jW ?_;simp;try omega),rfl⟩
def orZ(a b:Int):Int:=if a=0 then b else a
def acE(g:Nat)(a b:Int)(w:World)(j:w.cell? g=some (a:V))(k:w.cell? ⟨g,1,none⟩=some (b:V)):
  Calls prog 158 #[.slice (some g) 2 2] w λe w'=>e=.returned (orZ a b:Int)/\w'=w:=by
 unfold orZ
 by_cases c:a=0
 .subst c
  by_cases d:b=0
  .subst d
   go_enter func158,ntmps158
   go_wp2;refine wp_loop_rounds 3 ?_;rw[rounds_succ];go_wp2
   all_goals try(rw[rounds_succ];go_wp2)
   all_goals try(rw[rounds_succ];go_wp2)
   go_ret;exact⟨σ,rfl⟩
  .have f:(b != 0)=true:=by simpa using d
   go_enter func158,ntmps158
   go_wp2;refine wp_loop_rounds 3 ?_;rw[rounds_succ];go_wp2
   all_goals try(rw[rounds_succ];go_wp2)
   all_goals try(rw[rounds_succ];go_wp2)
   go_ret;exact⟨σ,rfl⟩
 .have h:(a != 0)=true:=by simpa using c
  have i:=χ c;clear c
  go_enter func158,ntmps158
  go_wp2;refine wp_loop_rounds 3 ?_;rw[rounds_succ];go_wp2
  all_goals try(rw[rounds_succ];go_wp2)
  all_goals try(rw[rounds_succ];go_wp2)
  go_ret;exact⟨by first|rfl|rw[Γ i.out],rfl⟩
def ZF(a c b d:Int):orZ (xV a b) (xV c d)=DX a c b d:=by
 unfold orZ DX
 by_cases h:a=b
 .subst h;simp[xV]
 .rw[Γ h,Γ];unfold xV;split;omega;split<;>omega
def Am(a b c d:Int)(w:World):Calls prog 153 #[.agg #[a,.int .u64 b],.agg #[c,.int .u64 d]] w λe w'=>e=.returned (DX a b c d:Int)/\ae [] w w':=by
 rw[←ZF];have f:=λW=>Uu a c W;have g:=λW=>Ux b d W;generalize xV a c=i at *;generalize xV b d=j at *;have k:∀W,ae [] ((w.alloc (.cells #[a,.int .u64 b] 97)).alloc (.cells #[c,.int .u64 d] 97)) W->W.cell? w.heap.size=some (a:V):=λW h=>h.was σ;have l:∀W,ae [] ((w.alloc (.cells #[a,.int .u64 b] 97)).alloc (.cells #[c,.int .u64 d] 97)) W->W.cell? ⟨w.heap.size,1,none⟩=some (.int .u64 b):=λW h=>h.was σ
 have m:∀W,ae [] ((w.alloc (.cells #[a,.int .u64 b] 97)).alloc (.cells #[c,.int .u64 d] 97)) W->W.cell? (w.heap.size+1:Nat)=some (c:V):=λW h=>h.was σ;have n:∀W,ae [] ((w.alloc (.cells #[a,.int .u64 b] 97)).alloc (.cells #[c,.int .u64 d] 97)) W->W.cell? ⟨w.heap.size+1,1,none⟩=some (.int .u64 d):=λW h=>h.was σ
 go_enter func153,ntmps153
 go_wp2
 go_region_held3 (ae [] ((w.alloc (.cells #[a,.int .u64 b] 97)).alloc (.cells #[c,.int .u64 d] 97))) (exact η)
  (first
   |((with_reducible refine aP (f _) ?_))
   |((with_reducible refine aP (g _) ?_))
   | ((with_reducible refine aP (acE _ i j _ (FN σ 0 rfl) (FN σ 1 rfl)) ?_)))
 go_wp2;go_ret;exact⟨rfl,ξ⟩
def SH(a b c d:Int)(w:World):Calls prog 145 #[.agg #[a,.int .u64 b],.agg #[c,.int .u64 d]] w λe w'=>e=.returned (.bool (ry a b c d))/\ae [] w w':=by
 rw[←Sc];have k:=λW=>Am a b c d W;generalize DX a b c d=z at *
 go_enter func145,ntmps145
 go_wp2_with ((with_reducible refine(k _).mono ?_);rintro e w' ⟨rfl,f⟩)
 all_goals
  go_ret;exact⟨bF (by first|rfl|simp|(simp;omega)),((ae.refl _ _).alloc _ |>.alloc _).trans f⟩
def Fg(a c b d:Int)(w:World):Calls prog 99 #[.agg #[a,.int .u64 c],.agg #[b,.int .u64 d]] w λe w'=>e=.returned (.bool (ry a c b d))/\ae [] w w':=by
 unfold ry
 by_cases h:a=b
 .subst h;rw[Δ rfl];have f:(a != a)=false:=σ
  go_enter func99,ntmps99
  go_wp2
  all_goals
   go_ret;exact⟨by first|rfl|(refine bF ?_;simp;try omega),ξ⟩
 .have f:(a != b)=true:=by simpa using h
  rw[Γ h]
  go_enter func99,ntmps99
  go_wp2
  all_goals
   go_ret;exact⟨by first|rfl|(refine bF ?_;simp;try omega),ξ⟩
structure qX(l:List Int)(rt dp:Nat->Nat):Prop where
 len:1<=l.length
 Sb:l.length<=65537
 xP:∀i,1<=i->i<l.length->1<=l.getD i 0/\l.getD i 0<l.length
 up:∀i,1<=i->i<l.length->rt (l.getD i 0).toNat=rt i
 top:∀i,1<=i->i<l.length->l.getD i 0=i->rt i=i
 low:∀i,1<=i->i<l.length->l.getD i 0≠i->dp (l.getD i 0).toNat<dp i
def qX.root{l:List Int}{rt dp:Nat->Nat}(h:qX l rt dp):∀(d i:Nat),dp i<=d->1<=i->i<l.length->1<=rt i/\rt i<l.length/\l.getD (rt i) 0=rt i
 |d,i,hd,h1,h2=>by
  by_cases e:l.getD i 0=i
  .rw[h.top i h1 h2 e];exact⟨h1,h2,e⟩
  .have hl:=h.low i h1 h2 e;have hr:=h.xP i h1 h2
   match d,hd with
   |0,hd=>omega
   |d+1,hd=>
    have:=qX.root h d (l.getD i 0).toNat ω ω ω;rwa[h.up i h1 h2] at this
def qX.aaH{l:List Int}{rt dp:Nat->Nat}(h:qX l rt dp){i:Nat}(a:1<=i)(b:i<l.length):1<=rt i/\rt i<l.length/\l.getD (rt i) 0=rt i:=h.root (dp i) i (Θ _) a b
def qX.V7{l:List Int}{rt dp:Nat->Nat}(h:qX l rt dp){i:Nat}(a:1<=i)(b:i<l.length):l.getD i 0=i↔rt i=i:=
 ⟨h.top i a b,λe=>by have:=h.aaH a b;rw[e] at this;exact this.2.2⟩
def Cb(l:List Int)(i:Nat)(x:Int)(j:Nat):(l.set i x).getD j 0=if j=i/\i<l.length then x else l.getD j 0:=by
 grind
def qX.short{l:List Int}{rt dp:Nat->Nat}(h:qX l rt dp){k:Nat}(d:1<=k)(f:k<l.length)(p:l.getD k 0≠k):qX (l.set k (l.getD (l.getD k 0).toNat 0)) rt dp:=by
 have t:=h.xP k d f;obtain⟨j,r⟩:∃j:Nat,l.getD k 0=j:=⟨(l.getD k 0).toNat,ω⟩;have g:=h.up k d f;have m:=h.low k d f p;rw[r] at t g m p ⊢;simp only[π] at g m ⊢;have n:=h.xP j ω ω;obtain⟨q,s⟩:∃q:Nat,l.getD j 0=q:=⟨(l.getD j 0).toNat,ω⟩;have o:=h.up j ω ω;have c:=h.low j ω ω;rw[s] at n o c ⊢;simp only[π] at o c;have u:q≠j->dp q<dp j:=λe=>c ω;clear c;refine⟨by grind,by simp;exact h.Sb,λi a b=>?_,λi a b=>?_,λi a b=>?_,λi a b=>?_⟩
 all_goals
  rw[Ι] at b;rw[Cb]
 .rw[Ι];split
  .exact n
  .exact h.xP i a b
 .split
  .grind
  .exact h.up i a b
 .split
  .grind
  .exact h.top i a b
 .split
  .grind
  .exact h.low i a b
structure jK(w:World)(nm g cap:Nat)(l:List Int):Prop where
 head:∃c:Int,aQ w nm 243 3 (λj=>[Value.slice (some g) l.length cap,.int .i64 65536,.int .i64 c].getD j undef)
 row:IZ w g cap l
 ne:nm≠g
def jK.upd{w w':World}{S:List Nat}{nm g cap:Nat}{l:List Int}(h:jK w nm g cap l)(a:ae S w w')(d:nm∉S)(e:g∉S):jK w' nm g cap l:=by
 obtain⟨c,b⟩:=h.head;exact⟨⟨c,b.upd a d⟩,h.row.upd a e,h.ne⟩
def jK.c0{w:World}{nm g cap:Nat}{l:List Int}(h:jK w nm g cap l):w.cell? nm=some (.slice (some g) l.length cap):=by obtain⟨c,h⟩:=h.head;exact h.cellAt 0 ω rfl
def jK.c1{w:World}{nm g cap:Nat}{l:List Int}(h:jK w nm g cap l):w.cell? ⟨nm,1,none⟩=some (.int .i64 65536):=by obtain⟨c,h⟩:=h.head;exact h.cellAt 1 ω rfl
def jK.lt{w:World}{nm g cap:Nat}{l:List Int}(h:jK w nm g cap l):nm<w.heap.size/\g<w.heap.size:=by obtain⟨c,a⟩:=h.head;exact⟨a.lt,h.row.lt⟩
def jK.set{w:World}{nm g cap:Nat}{l:List Int}(h:jK w nm g cap l)(j:Nat)(x:Int):jK (w.setCell ⟨g,j,none⟩ (.int .i64 x)) nm g cap (l.set j x):=by
 obtain⟨c,a⟩:=h.head;exact⟨⟨c,by rw[Ι];exact a.far _ _ h.ne⟩,h.row.set j x,h.ne⟩
def jK.Ua{w:World}{nm g cap:Nat}{l:List Int}(h:jK w nm g cap l)(x:Int):jK (w.setCell ⟨nm,2,none⟩ (.int .i64 x)) nm g cap l:=by
 obtain⟨c,a⟩:=h.head;refine⟨⟨x,(a.set 2 (.int .i64 x)).ext (λj b=>?_)⟩,h.row.upd ((ae.refl [nm] w).setCell (Α σ) _) (by simp;exact λe=>h.ne e.symm),h.ne⟩;rcases(ω:j=0\/j=1\/j=2) with rfl|rfl|rfl<;>simp
def jK.setRow{w:World}{nm g cap:Nat}{l:List Int}(h:jK w nm g cap l){W:World}{b a:Nat}{d:List Int}(i:ae [g] w W)(k:IZ W b a d)(e:nm≠b):jK (W.setCell nm (.slice (some b) d.length a)) nm b a d:=by
 obtain⟨c,f⟩:=h.head;refine⟨⟨c,((f.upd i (by simp;exact h.ne)).set 0 _).ext (λj m=>?_)⟩,k.upd ((ae.refl [nm] W).setCell (Α σ) _) (by grind),e⟩;rcases(ω:j=0\/j=1\/j=2) with rfl|rfl|rfl<;>simp
def K4(nm g cap:Nat)(l:List Int)(x:Int)(w:World)(h:jK w nm g cap l)(c:l.length<=65537):
  Calls prog 149 #[nm,x] w λe w'=>e=.returned (.bool (decide (0<x) && decide (x<l.length)))/\w'=w:=by
 have b:=h.c0;clear h
 by_cases a:0<x
 .go_enter func149,ntmps149
  go_wp2;go_ret;exact⟨bF (by simp[a]),rfl⟩
 .go_enter func149,ntmps149
  go_wp2;go_ret;exact⟨bF ζ,rfl⟩
def zt(l:List Int)(x:Int):Bool:=decide (0<x) && decide (x<l.length) && (l.getD x.toNat 0 == x)
def BU(nm g cap:Nat)(l:List Int)(x:Int)(w:World)(h:jK w nm g cap l)(b:l.length<=65537):
  Calls prog 136 #[nm,x] w λe w'=>e=.returned (.bool (zt l x))/\w'=w:=by
 have k:=K4 nm g cap l x w h b;unfold zt;have c:=h.c0
 by_cases f:0<x/\x<l.length
 .obtain⟨i,rfl⟩:∃i:Nat,x=i:=⟨x.toNat,ω⟩;rw[show(decide (0<(i:Int)) && decide ((i:Int)<l.length))=true by simp;omega] at *;have a:i<l.length:=ω;have d:=h.row.cell i a;simp only[π];generalize l.getD i 0=y at *;clear h
  go_enter func136,ntmps136
  go_wp2_with (((with_reducible refine aP k ?_)))
  go_ret;exact⟨bF σ,rfl⟩
 .rw[show(decide (0<x) && decide (x<l.length))=false by simp;omega] at *;clear h
  go_enter func136,ntmps136
  go_wp2_with (((with_reducible refine aP k ?_)))
  go_ret;exact⟨bF σ,rfl⟩
def I9(nm g cap:Nat)(l:List Int)(w:World)(h:jK w nm g cap l)(b:l.length<=65537):
  Calls prog 157 #[nm] w λe w'=>e=.returned (.int .i64 ((l.length:Int)-1))/\w'=w:=by
 have a:=h.c0;clear h
 go_enter func157,ntmps157
 go_wp2;go_ret;exact⟨rfl,rfl⟩
def RP(nm g cap:Nat)(l:List Int)(rt dp:Nat->Nat)(x:Nat)(w:World)(h:jK w nm g cap l)(J:qX l rt dp)(T:1<=x)(K:x<l.length):
  Calls prog 137 #[nm,(x:Int)] w λe w'=>∃a,e=.returned (.tuple #[(rt x:Int),true])/\jK w' nm g cap a/\qX a rt dp/\a.length=l.length/\ae [g] w w':=by
 have k:=K4 nm g cap l x w h J.Sb;rw[show(decide (0<(x:Int)) && decide ((x:Int)<l.length))=true by simp;omega] at k;generalize O:rt x=r at *;have P:=χ O;clear O
 go_enter func137,ntmps137
 go_wp2_with (((with_reducible refine aP k ?_)))
 clear k
 go_loopw [1] (λid wr=>∃(k:Nat) (a:List Int),id=.int .i64 (k:Int)/\1<=k/\k<a.length/\rt k=r/\jK wr nm g cap a/\qX a rt dp/\a.length=l.length/\ae [g] w wr) (λid _=>dp (intOf id).toNat)
 case atStart=>exact⟨x,l,rfl,T,K,P.out,h,J,rfl,ae.refl _ _⟩
 case round=>
  obtain⟨k,a,rfl,d,c,p,s,m,i,L⟩:=hrel;have U:=s.c0;have M:=s.row.cell k c;have W:=s.row.free k;have t:=m.xP k d c;have u:=χ (ψ s (ψ m (ψ i p)));clear h J s m i p
  by_cases b:a.getD k 0=k
  .rw[b] at M;have Q:=χ b;clear b t;go_wp2;go_ret2;obtain⟨y,f,z,A⟩:=u.out;exact⟨a,by rw[←A,f.top k d c Q.out];rfl,y,f,z,L⟩
  .obtain⟨j,C⟩:∃j:Nat,a.getD k 0=j:=⟨(a.getD k 0).toNat,ω⟩;have n:1<=j/\j<a.length:=ω;have R:=u.out.1.row.cell j n.2;have v:=u.out.2.1.xP j n.1 n.2;obtain⟨q,D⟩:∃q:Nat,a.getD j 0=q:=⟨(a.getD j 0).toNat,ω⟩;rw[C] at M t b;rw[D] at R v;have S:((j:Int) != (k:Int))=true:=by simpa using b
   have N:=χ (ψ C (ψ D b));clear C D b;go_wp2
   go_region
   go_wp2
   go_roundw
   case rel=>
    obtain⟨y,f,z,A⟩:=u.out;obtain⟨o,B,E⟩:=N.out;have hs:=f.short d c (by rw[o];exact E);rw[o] at hs;simp only[π] at hs;rw[B] at hs;have F:=f.up k d c;have G:=f.up j ω ω;rw[o] at F;rw[B] at G;simp only[π] at F G;exact⟨q,_,rfl,ω,by rw[Ι];omega,by rw[G,F,A],(y.set k q).upd ((ae.refl [] _).drew) σ σ,hs,by rw[Ι];exact z,((L.setCell (Α σ) _)).drew⟩
   case measure=>
    obtain⟨y,f,z,A⟩:=u.out;obtain⟨o,B,E⟩:=N.out;have H:=f.low k d c (by rw[o];exact E);have I:=f.low j ω ω;rw[o] at H;rw[B] at I;simp only[π] at H I;simp[intOf]
    by_cases e:q=j
    .rw[e];exact H
    .have:=I ω;omega
def U8(nm g cap:Nat)(l:List Int)(w:World)(h:jK w nm g cap l)(c:l.length=65537):
  Calls prog 150 #[nm] w λe w'=>e=.returned (.tuple #[(0:Int),false])/\ae [] w w':=by
 have k:=I9 nm g cap l;have a:=λW b=>k W b ω;rw[c] at a;have f:∀d,(w.drewN d).cell? ⟨nm,1,none⟩=some (.int .i64 65536):=λd=>h.c1;have H:=λd=>(h.upd ((ae.refl [] w).drewN d) σ σ)
 clear h k
 go_enter func150,ntmps150
 go_wp2
 go_quiet ((go_at_call 157;exact Calls.quiet_of_same (a _ (H _))))
 go_wp2;go_ret2;exact⟨rfl,(ae.refl _ _).drewN _⟩
def PN(nm g cap:Nat)(l:List Int)(w:World)(h:jK w nm g cap l)(X:1<=l.length)(O:l.length<=65536):
  Calls prog 150 #[nm] w λe w'=>∃s o,e=.returned (.tuple #[(l.length:Int),true])/\jK w' nm s o (l++[(l.length:Int)])/\ae [nm,g] w w'/\(s=g\/w.heap.size<=s):=by
 have D:=λW N=>I9 nm g cap l W N ω;have Q:∀d,(w.drewN d).cell? ⟨nm,1,none⟩=some (.int .i64 65536):=λd=>h.c1;have E:∀d,(w.drewN d).cell? nm=some (.slice (some g) l.length cap):=λd=>h.c0;obtain⟨u,q⟩:=h.head;have F:w.cell? ⟨nm,2,none⟩=some ((u:Int):V):=q.cellAt 2 ω rfl;have G:=q.free 0;have I:=q.free 2;have J:Hid (∀d,(w.drewN d).ownsRow 0 3 1 (.slice (some g) l.length cap) l.length (aZ l)):=λd=>(h.row.drewN d).own;have H:Hid (∀d,jK (w.drewN d) nm g cap l):=λd=>(h.upd ((ae.refl [] w).drewN d) σ σ)
 have b:=h.lt;have c:=h.ne;have K:((l.length:Int)-1 == 65536)=false:=ζ;clear h q;generalize f:l.length=i at *;have v:=χ f;clear f
 go_enter func150,ntmps150
 go_wp2
 go_quiet ((go_at_call 157;exact Calls.quiet_of_same (D _ (H.out _))))
 go_wp2_with (((at_builtin;refine bD rfl _ _ 77 rfl 0 3 (.int .i64 0) 1 8 underlying77 gN rfl δ _ _ _ rfl ((J.out _)) [.int .i64 (i:Int)] rfl (by simp[Value.oneCell']) (by first|rfl|(rw[Κ];rfl)) μ ω (σ) ?_;intro P j k m n));obtain⟨g1,mK,rfl,_,A,B,C,_⟩:=fU k ω;(have a:ae [g] (w.drewN nq) j:=m);(have L:g1=g\/w.heap.size<g1:=by(rcases n with t|t;(exact Α (Option.some.inj t));(exact Β (t g1 rfl))));clear m n;(have R:j.cell? nm=some (.slice (some g) i cap):=(a.cell (p:=⟨nm,0,none⟩) b.1 (by simp;exact c)).trans (E _));(have S:j.cell? ⟨nm,2,none⟩=some ((u:Int):V):=(a.cell (p:=⟨nm,2,none⟩) b.1 (by simp;exact c)).trans F);(have T:j.frozen? nm=false:=(a.frozen (p:=⟨nm,0,none⟩) b.1 (by simp;exact c)).trans G);(have U:j.frozen? ⟨nm,2,none⟩=false:=(a.frozen (p:=⟨nm,2,none⟩) b.1 (by simp;exact c)).trans I))
 go_ret2;have r:nm≠g1:=ω;have M:IZ j g1 mK (l++[(i:Int)]):=⟨by rw[υ,v.out,dO];exact k⟩;have y:=(H.out nq).setRow a M r;rw[υ,v.out] at y;refine⟨g1,mK,rfl,?_,?_,ω⟩
 .exact y.Ua _
 .exact((((ae.refl [nm,g] w).drewN nq).joined a (λx z=>Α (by simp at z;simp[z]))).setCell (Α σ) _).setCell (Α σ) _
def Su(nm g cap:Nat)(l:List Int)(a b:Nat)(w:World)(h:jK w nm g cap l)(m:l.length<=65537)(n:zt l a=true)(d:zt l b=true)(p:a≠b):
  Calls prog 151 #[nm,(a:Int),(b:Int)] w λe w'=>e=.returned true/\jK w' nm g cap (l.set b (a:Int))/\ae [nm,g] w w':=by
 have i:=BU nm g cap l a w h m;have j:=BU nm g cap l b w h m;rw[n] at i;rw[d] at j;have f:b<l.length:=by unfold zt at d;simp at d;omega
 have k:((a:Int) == (b:Int))=false:=ζ;obtain⟨q,c⟩:=h.head;have r:=h.c0;have s:=c.cellAt 2 ω rfl;have t:=c.free 2;have u:=h.row.cell b f;have v:=h.row.free b;have o:=h.ne;have H:=χ (ψ h c);clear n d h c;generalize l.getD b 0=y at *
 go_enter func151,ntmps151
 go_wp2_with (first|((with_reducible refine aP i ?_))|((with_reducible refine aP j ?_)))
 go_ret;exact⟨rfl,(H.out.1.set b a).Ua _,((ae.refl _ _).setCell (Α σ) _).setCell (Α σ) _⟩
def Ut(w:World):Calls prog 100 #[(65536:Int)] w λe w'=>∃nm g,e=.returned (.tuple #[(nm:Nat),(0:Int)])/\jK w' nm g 1 [0]/\ae [] w w'/\w.heap.size<=nm/\w.heap.size<=g:=by
 go_enter func100,ntmps100
 go_wp2;go_ret2;have a:=eO (w.alloc (.cells #[(0:Int)] 3)) [Value.slice (some w.heap.size) 1 1,.int .i64 65536,.int .i64 0] 243;rw[Κ] at a;exact⟨_,_,rfl,⟨⟨0,a⟩,(IZ.lit w [0] σ).upd ((ae.refl [] _).alloc _) σ,ω⟩,((ae.refl _ _).alloc _).alloc _,σ,Θ _⟩


open Go.Maps

def nodup_range:∀(n:Nat) (l:List Int),l.Nodup->(∀x,x∈l->0<=x/\x<n)->l.length<=n
 |0,l,_,h=>by
  cases l with
  |nil=>simp
  |cons x r=>have:=h x σ;omega
 |n+1,l,hn,h=>by
  have h1:=nodup_range n (l.filter (λx=>x != (n:Int))) (hn.filter _) (λx hx=>by
   simp only[List.mem_filter] at hx;have:=h x hx.1;have h2:x≠n:=by simpa using hx.2
   omega)
  have h2:l.length<=(l.filter (λx=>x != (n:Int))).length+1:=by
   clear h1 h
   induction l with
   |nil=>simp
   |cons y r ih=>
    rw[Ζ] at hn
    by_cases hy:y=n
    .subst hy;have e:r.filter (λx=>x != (n:Int))=r:=by
      rw[List.filter_eq_self];intro a ha;simp;intro e;subst e;exact hn.1 ha
     rw[List.filter_cons_of_neg σ,e];simp
    .rw[List.filter_cons_of_pos (by simpa using hy)];have:=ih hn.2;simp only[Ω];omega
  omega
def fK(w:World)(b:Nat)(f:Int->Option Int):Prop:=
 ∃D:DataW Unit,w.ownsMap prog 3 (plainElem prog 3) b (Maps.size D) D/\
  (∀kl,Maps.has D kl=true->∃k:Int,kl=.int .i64 k/\0<=k/\k<=65536/\(f k).isSome=true)/\
  (∀k z,f k=some z->Maps.has D (.int .i64 k)=true/\∀d,D.atKey (.int .i64 k) d=.lit (.int .i64 z))
def yE{w:World}{k:TypeId}{R:Value->Option (DataW Unit×List MemPlace)}{b n:Nat}{D:DataW Unit}(h:w.ownsMap prog k R b n D):w.ownsMap prog k R b (Maps.size D) D:=by
 obtain⟨c,a,d,F,hs,rfl⟩:=h;exact⟨c,a,d,F,by simp[Maps.size,length_sorted],rfl⟩
def su:Keyed prog 3:=int_keyed underlying3
def NW(w:World):(zeroValue 3).run prog w=.ok (.int .i64 0) w:=by kernel_rfl
def fK.same{w w':World}{b:Nat}{f:Int->Option Int}(h:fK w b f)(i:w'.heap[b]?=w.heap[b]?):fK w' b f:=by
 obtain⟨D,⟨c,a,d,e⟩,g⟩:=h;exact⟨D,⟨c,a,i.trans d,e⟩,g⟩
def fK.lt{w:World}{b:Nat}{f:Int->Option Int}(h:fK w b f):b<w.heap.size:=by
 obtain⟨D,a,_⟩:=h;exact a.lt
def fK.upd{w w':World}{S:List Nat}{b:Nat}{f:Int->Option Int}(h:fK w b f)(a:ae S w w')(c:b∉S):fK w' b f:=h.same (a.block b h.lt c)
def fK.ext{w:World}{b:Nat}{f g:Int->Option Int}(h:fK w b f)(a:∀k,f k=g k):fK w b g:=by
 rwa[show f=g from funext a] at h
def H9{P:Program}{k:TypeId}{R:Value->Option (DataW Unit×List MemPlace)}{b:Array MapEntry}{a:Nat}(K:Keyed P k)(F:Go.WideElems.Fit P k R b a){p:Lit×DataW Unit}
  (hp:p∈(b.toList.map (Go.WideElems.rg P k R)).foldr DataW.insert []):WideAt.IsKeyLit p.1:=by
 have c:=(Go.WideShapes.sorted_perm _).mem_iff.1 hp;obtain⟨x,e,rfl⟩:=List.mem_map.1 c;obtain⟨y,d⟩:=F.reads x e;rw[Go.WideElems.rg_of d];exact K.key (Go.WideElems.rd_key d)
def fK.small{w:World}{b:Nat}{f:Int->Option Int}{D:DataW Unit}(o:w.ownsMap prog 3 (plainElem prog 3) b (Maps.size D) D)
  (E:∀n,Maps.has D n=true->∃k:Int,n=.int .i64 k/\0<=k/\k<=65536/\(f k).isSome=true):Maps.size D<=65537:=by
 obtain⟨d,rfl,hp⟩:=o.tidy su
 let i:Lit->Int:=λl=>match l with | .int _ k=>k|_=>0
 have j:∀p∈d,∃k:Int,p.1=.int .i64 k/\0<=k/\k<=65536:=λp hp=>by
  have C:Maps.has (DataW.map d) p.1=true:=by
   rw[has_eq];refine List.any_eq_true.2 ⟨p,hp,WideAt.sameKey_self ?_⟩;obtain⟨g,h,_,F,_,s⟩:=o;have m:d=(g.toList.map (Go.WideElems.rg prog 3 (plainElem prog 3))).foldr DataW.insert []:=by simpa using s
   rw[m] at hp;exact H9 su F hp
  grind
 have:=nodup_range 65537 (d.map λp=>i p.1) (by
  unfold List.Nodup;rw[List.pairwise_map];refine(List.Pairwise.imp_of_mem ?_ hp);intro a b q r c e;obtain⟨t,u,_⟩:=j a q;obtain⟨v,y,_⟩:=j b r;rw[u,y] at e c;exact c (by rw[show t=v from e])) (λx z=>by
  obtain⟨p,hp,rfl⟩:=List.mem_map.1 z;obtain⟨k,e,A,B⟩:=j p hp
  rw [e];show 0<=k/\k<((65537:Nat):Int);omega)
 simpa[size_eq] using this
def yF{k:Int}(h:-9223372036854775808<=k/\k<=9223372036854775807):keyOf prog 3 (.int .i64 k)=some (.int .i64 k):=keyOf_int_mk underlying3 (WalkArith.wf_i64 h)
def fK.look{w:World}{b:Nat}{f:Int->Option Int}(h:fK w b f)(k:Int)(n:-9223372036854775808<=k/\k<=9223372036854775807):
  (Instr.lookup 205 (.map (some b)) (.int .i64 k) false).run prog w=.ok (.int .i64 ((f k).getD 0)) w:=by
 obtain⟨D,i,j,o⟩:=h;obtain⟨c,a,d,_⟩:=i.lookup_int su underlying205 underlying3 (NW w) (yF n);rw[a];cases l:f k with
 |some z=>
  grind
 |none=>
  have:Maps.has D (.int .i64 k)=false:=by
   cases m:Maps.has D (.int .i64 k)
   .rfl
   .obtain⟨p,e,_,_,g⟩:=j _ m;cases e;rw[l] at g;cases g
  rw[atKey_of_not_has this] at d
  grind
def fK.look_ok{w:World}{b:Nat}{f:Int->Option Int}(h:fK w b f)(k:Int)(q:-9223372036854775808<=k/\k<=9223372036854775807):
  (Instr.lookup 205 (.map (some b)) (.int .i64 k) true).run prog w=.ok (.tuple #[((f k).getD 0:Int),.bool (f k).isSome]) w:=by
 obtain⟨D,l,m,r⟩:=h;obtain⟨v,s,d,n⟩:=l.look_ok su underlying205 (NW w) (plainElem_int underlying3 (a:=0) δ) (yF q);obtain⟨c,rfl,i,_⟩:=plainElem_int_inv underlying3 n;simp only[Prod.mk.injEq] at i;have g:=i.1;rw[d];cases o:f k with
 |some z=>
  grind
 |none=>
  have:Maps.has D (.int .i64 k)=false:=by
   cases p:Maps.has D (.int .i64 k)
   .rfl
   .obtain⟨t,e,_,_,j⟩:=m _ p;cases e;rw[o] at j;cases j
  rw[atKey_of_not_has this] at g
  grind
def wT{w w':World}{b:Nat}(h:w.mapTurned w' b):ae [b] w w':=(ae.refl [b] w).grown h.grown (λk a=>Α (by cases a;simp))
def fK.store{w:World}{b:Nat}{f:Int->Option Int}(h:fK w b f)(k z:Int)(u:0<=k/\k<=65536)(t:-9223372036854775808<=z/\z<=9223372036854775807):
  ∃w',(Instr.mapUpdate 205 (.map (some b)) (.int .i64 k) (.int .i64 z)).run prog w=.ok () w'/\fK w' b (λq=>if q=k then some z else f q)/\ae [b] w w':=by
 obtain⟨D,j,o,m⟩:=h;have hs:=fK.small j o;obtain⟨w',c,p,r⟩:=j.store su underlying205 μ (yF (k:=k) ω) (plainElem_int underlying3 (a:=z) (WalkArith.wf_i64 t));have n:=j.isMap;refine⟨w',c,⟨_,yE p,λs l=>?_,λq y i=>?_⟩,wT r⟩
 .by_cases e:s=.int .i64 k
  .grind
  .rw[has_put_other e] at l
   grind
 .by_cases e:q=k
  .subst e;simp only[if_true,ϖ] at i;subst i;exact⟨has_put_same n (show WideAt.IsKeyLit (.int .i64 q) from True.intro) _,λd=>atKey_put_same n (show WideAt.IsKeyLit (.int .i64 q) from True.intro) _ _⟩
  .simp only[Γ e] at i;have g:(Lit.int .i64 q)≠.int .i64 k:=λh=>e (by cases h;rfl);rw[has_put_other g];exact⟨(m q y i).1,λd=>by rw[atKey_put_other g];exact(m q y i).2 d⟩
def fK.drop{w:World}{b:Nat}{f:Int->Option Int}(h:fK w b f)(k:Int)(r:-9223372036854775808<=k/\k<=9223372036854775807)(l:TypeId):
  ∃w',(Builtin.delete_ #[205,3] l #[.map (some b),k]).run prog w=.ok (.tuple #[]) w'/\fK w' b (λq=>if q=k then none else f q)/\ae [b] w w':=by
 obtain⟨D,m,s,j⟩:=h;obtain⟨w',c,n,o⟩:=m.drop su underlying205 (yF r) l;refine⟨w',c,⟨_,yE n,λp a=>?_,λq y i=>?_⟩,wT o⟩
 .by_cases e:p=.int .i64 k
  .subst e;rw[has_del_same] at a;cases a
  .rw[has_del_other e] at a
   grind
 .by_cases e:q=k
  .subst e;simp at i
  .simp only[Γ e] at i;have g:(Lit.int .i64 q)≠.int .i64 k:=λh=>e (by cases h;rfl);rw[has_del_other g];exact⟨(j q y i).1,λd=>by rw[atKey_del_other g];exact(j q y i).2 d⟩
def fK.made(w:World):fK (w.alloc (.map #[] 0)) w.heap.size (λ_=>none):=
 ⟨.map [],World.ownsMap_made w _ _ _,λc a=>by simp[has_eq] at a,λk z b=>by cases b⟩
def lG{w:World}{d:Array Oper}{rest:List Oper}{o:Oper}{a:Act}{Q:Exit->Act->World->Prop}(l:o.guard=none)(m x v:Operand)(g:o.op=Op.mapUpdate 205 m x v)
  (b:Nat) (f:Int->Option Int) (n:a.eval m=.map (some b)) (h:fK w b f) (k z:Int) (p:a.eval x=.int .i64 k) (r:a.eval v=.int .i64 z) (s:0<=k/\k<=65536) (t:-9223372036854775808<=z/\z<=9223372036854775807)
  (u:∀w',fK w' b (λq=>if q=k then some z else f q)->ae [b] w w'->wpList prog d Q rest (a.put o.dst undef) w'):wpList prog d Q (o::rest) a w:=by
 refine wpList_plain l λy e=>?_;obtain⟨w',c,i,j⟩:=h.store k z s t;unfold Oper.wp;simp[execOp,g,n,p,r,c,Result.andThen];exact e _ _ (u w' i j)
def nL{w:World}{d:Array Oper}{rest:List Oper}{o:Oper}{a:Act}{Q:Exit->Act->World->Prop}(l:o.guard=none)(m x:Operand)(g:o.op=Op.call { callee:=Callee.builtin Builtin.delete,args:=#[m,x],argTypes:=#[205,3] })
  (b:Nat) (f:Int->Option Int) (n:a.eval m=.map (some b)) (h:fK w b f) (k:Int) (p:a.eval x=.int .i64 k) (r:-9223372036854775808<=k/\k<=9223372036854775807)
  (s:∀w',fK w' b (λq=>if q=k then none else f q)->ae [b] w w'->wpList prog d Q rest (a.put o.dst (.tuple #[])) w'):wpList prog d Q (o::rest) a w:=by
 refine wpList_plain l λt e=>?_;obtain⟨w',c,i,j⟩:=h.drop k r o.type;unfold Oper.wp;simp[execOp,g,resolve,invoke,builtin,n,p,c,Result.andThen];exact e _ _ (s w' i j)
def iG{w:World}{d:Array Oper}{rest:List Oper}{o:Oper}{a:Act}{Q:Exit->Act->World->Prop}(i:o.guard=none)(m x:Operand)(g:o.op=Op.lookup 205 m x false)
  (b:Nat) (f:Int->Option Int) (j:a.eval m=.map (some b)) (h:fK w b f) (k:Int) (l:a.eval x=.int .i64 k) (n:-9223372036854775808<=k/\k<=9223372036854775807) (z:Int) (p:(f k).getD 0=z)
  (q:wpList prog d Q rest (a.put o.dst (.int .i64 z)) w):wpList prog d Q (o::rest) a w:=by
 refine wpList_plain i λr e=>?_;have c:=h.look k n;rw[p] at c;unfold Oper.wp;simp[execOp,g,j,l,c,Result.andThen];exact e _ _ q
def nV{w:World}{d:Array Oper}{rest:List Oper}{o:Oper}{a:Act}{Q:Exit->Act->World->Prop}(i:o.guard=none)(m x:Operand)(g:o.op=Op.lookup 205 m x true)
  (b:Nat) (f:Int->Option Int) (j:a.eval m=.map (some b)) (h:fK w b f) (k:Int) (l:a.eval x=.int .i64 k) (n:-9223372036854775808<=k/\k<=9223372036854775807)
  (p:wpList prog d Q rest (a.put o.dst (.tuple #[((f k).getD 0:Int),.bool (f k).isSome])) w):wpList prog d Q (o::rest) a w:=by
 refine wpList_plain i λq e=>?_;have c:=h.look_ok k n;unfold Oper.wp;simp[execOp,g,j,l,c,Result.andThen];exact e _ _ p
end Go.Proofs.YtnpdakpagnpanaaGreat
namespace Go.Proofs.YtnpdakpagnpanaaGreat
open Tryz
open Go Go.RowKit
def iw(raw:Nat->Cl)(j:Nat):Value:=if j % 3=0 then .int .i64 (raw (j / 3)).i else if j % 3=1 then .int .i64 (raw (j / 3)).k else .int .u64 (raw (j / 3)).s
def AV(raw:Nat->Cl)(x:Nat):iw raw (x*3)=.int .i64 (raw x).i:=by unfold iw;rw[Δ ω,show x*3 / 3=x by omega]
def vZ(raw:Nat->Cl)(x:Nat):iw raw (x*3+1)=.int .i64 (raw x).k:=by unfold iw;rw[Γ ω,Δ ω,show(x*3+1) / 3=x by omega]
def vS(raw:Nat->Cl)(x:Nat):iw raw (x*3+2)=.int .u64 (raw x).s:=by unfold iw;rw[Γ ω,Γ ω,show(x*3+2) / 3=x by omega]
def fJ(A:NS)(h:Int):Option Int:=if 0<cZ A h then some (cZ A h:Int) else none
def mI(A:NS)(h:Int):(fJ A h).getD 0=cZ A h:=by unfold fJ;split;rfl;simp;omega
structure CM(w:World)(c ca nm mb g cap:Nat)(l:List Int)(rt dp:Nat->Nat)(raw:Nat->Cl)(A:NS)(st:Nat):Prop where
 head:aQ w c 226 4 (λj=>[Value.int .i64 (st:Int),.slice (some ca) A.cs.length A.cs.length,.pointer (some nm),.map (some mb)].getD j undef)
 row:aQ w ca 260 (A.cs.length*3) (iw raw)
 X7:jK w nm g cap l
 many:fK w mb (fJ A)
 PK:qX l rt dp
 ok:A.Ok
 oG:st<=4611686018427387904
 rel:∀x,x<A.cs.length->(raw x=Cl.z/\A.c x=Cl.z)\/(1<=(raw x).i/\(raw x).i<l.length/\A.c x=⟨rt (raw x).i.toNat,(raw x).k,(raw x).s⟩)
 hlen:A.hs.length=l.length
 has:∀i,1<=i->i<l.length->A.hs.getD i false=decide (l.getD i 0=i)
 sep:(c≠ca/\c≠nm/\c≠mb/\c≠g)/\(ca≠nm/\ca≠mb/\ca≠g)/\(nm≠mb/\mb≠g)
def CM.upd{w w':World}{S:List Nat}{c ca nm mb g cap:Nat}{l:List Int}{rt dp:Nat->Nat}{raw:Nat->Cl}{A:NS}{st:Nat}(h:CM w c ca nm mb g cap l rt dp raw A st)(b:ae S w w')(a:∀x,x∈S->x∉[c,ca,nm,mb,g]):CM w' c ca nm mb g cap l rt dp raw A st:=
 ⟨h.head.upd b (λm=>a _ m σ),h.row.upd b (λm=>a _ m σ),h.X7.upd b (λm=>a _ m σ) (λm=>a _ m σ),h.many.upd b (λm=>a _ m σ),h.PK,h.ok,h.oG,h.rel,h.hlen,h.has,h.sep⟩
def aD(w:World)(c:Nat)(F:List Nat)(A:NS)(st:Nat):Prop:=∃ca nm mb g cap l rt dp raw,CM w c ca nm mb g cap l rt dp raw A st/\F=[c,ca,nm,mb,g]
def aD.upd{w w':World}{S F:List Nat}{c:Nat}{A:NS}{st:Nat}(h:aD w c F A st)(a:ae S w w')(b:∀x,x∈S->x∉F):aD w' c F A st:=by
 obtain⟨ca,nm,mb,g,cap,l,rt,dp,raw,h,rfl⟩:=h;exact⟨ca,nm,mb,g,cap,l,rt,dp,raw,h.upd a b,rfl⟩
def aD.ag{w w':World}{F:List Nat}{c:Nat}{A:NS}{st:Nat}(h:aD w c F A st)(a:ae [] w w'):aD w' c F A st:=h.upd a σ
def aD.ok{w:World}{F:List Nat}{c:Nat}{A:NS}{st:Nat}(h:aD w c F A st):A.Ok:=by
 obtain⟨ca,nm,mb,g,cap,l,rt,dp,raw,h,rfl⟩:=h;exact h.ok
def aD.oG{w:World}{F:List Nat}{c:Nat}{A:NS}{st:Nat}(h:aD w c F A st):st<=4611686018427387904:=by
 obtain⟨ca,nm,mb,g,cap,l,rt,dp,raw,h,rfl⟩:=h;exact h.oG
def aD.lt{w:World}{F:List Nat}{c:Nat}{A:NS}{st:Nat}(h:aD w c F A st):∀x,x∈F->x<w.heap.size:=by
 obtain⟨ca,nm,mb,g,cap,l,rt,dp,raw,h,rfl⟩:=h;intro x a;have:=h.head.lt;have:=h.row.lt;have:=h.X7.lt;have:=h.many.lt;simp at a;omega
def aD.mem{w:World}{F:List Nat}{c:Nat}{A:NS}{st:Nat}(h:aD w c F A st):c∈F:=by
 obtain⟨ca,nm,mb,g,cap,l,rt,dp,raw,h,rfl⟩:=h;simp
def Goes(F:List Nat)(w w':World)(P:List Nat->Prop):Prop:=∃F',P F'/\ae F w w'/\∀x,x∈F'->x∈F\/w.heap.size<=x
def Goes.stay{F:List Nat}{w w':World}{P:List Nat->Prop}(h:P F)(b:ae F w w'):Goes F w w' P:=⟨F,h,b,λx a=>Α a⟩
section
variable{w:World}{c ca nm mb g cap:Nat}{l:List Int}{rt dp:Nat->Nat}{raw:Nat->Cl}{A:NS}{st:Nat}
def CM.c0(h:CM w c ca nm mb g cap l rt dp raw A st):w.cell? (c:Nat)=some ((st:Int):V):=h.head.cellAt 0 ω rfl
def CM.c1(h:CM w c ca nm mb g cap l rt dp raw A st):w.cell? ⟨c,1,none⟩=some (.slice (some (ca:Nat)) A.cs.length A.cs.length):=h.head.cellAt 1 ω rfl
def CM.c2(h:CM w c ca nm mb g cap l rt dp raw A st):w.cell? ⟨c,2,none⟩=some ((nm:Nat):V):=h.head.cellAt 2 ω rfl
def CM.c3(h:CM w c ca nm mb g cap l rt dp raw A st):w.cell? ⟨c,3,none⟩=some (.map (some mb)):=h.head.cellAt 3 ω rfl
def CM.abt(h:CM w c ca nm mb g cap l rt dp raw A st){x:Nat}(a:x<A.cs.length):decide (0<(A.c x).i)=decide (0<(raw x).i):=by
 rcases h.rel x a with⟨h1,h2⟩|⟨h1,h2,h3⟩
 .rw[h1,h2]
 .have:=h.PK.aaH (i:=(raw x).i.toNat) ω ω
  grind
def CM.zt(h:CM w c ca nm mb g cap l rt dp raw A st)(x:Int):zt l x=aW A x:=by
 unfold Go.Proofs.YtnpdakpagnpanaaGreat.zt aW;rw[h.hlen]
 by_cases a:0<x/\x<l.length
 .rw[h.has x.toNat ω ω,Bool.eq_iff_iff]
  grind
 .grind
end
def jQ{w:World}{c st:Nat}{F:List Nat}{A:NS}(h:aD w c F A st)(x:Int):
  Calls prog 123 #[c,x] w λe w'=>e=.returned (.bool (aW A x))/\w'=w:=by
 obtain⟨ca,nm,mb,g,cap,l,rt,dp,raw,h,rfl⟩:=h;have a:=h.c2;have k:=BU nm g cap l x w h.X7 h.PK.Sb;rw[h.zt] at k;clear h
 go_enter func123,ntmps123
 go_wp2_with (((with_reducible refine aP k ?_)))
 go_ret;exact⟨rfl,rfl⟩
def jf{w:World}{c st:Nat}{F:List Nat}{A:NS}(h:aD w c F A st)(x:Int)(b:-9223372036854775808<=x/\x<=9223372036854775807):
  Calls prog 126 #[c,x] w λe w'=>e=.returned (cZ A x:Int)/\w'=w:=by
 obtain⟨ca,nm,mb,g,cap,l,rt,dp,raw,h,rfl⟩:=h;have d:=h.c3;have a:=h.many.look x b;rw[mI] at a;clear h
 go_enter func126,ntmps126
 go_wp2;go_ret;exact⟨rfl,rfl⟩
def Bu{w:World}{c st:Nat}{F:List Nat}{A:NS}(h:aD w c F A st)(x:Int):
  Calls prog 148 #[c,x] w λe w'=>e=.returned (.bool (uZ A x))/\w'=w:=by
 obtain⟨ca,nm,mb,g,cap,l,rt,dp,raw,h,rfl⟩:=h;have b:=h.c1;clear h;unfold uZ
 by_cases a:0<=x
 .go_enter func148,ntmps148
  go_wp2;go_ret;exact⟨bF (by simp[a]),rfl⟩
 .go_enter func148,ntmps148
  go_wp2;go_ret;exact⟨bF ζ,rfl⟩
def sJ{w:World}{c st:Nat}{F:List Nat}{A:NS}(h:aD w c F A st)(x:Int):
  Calls prog 135 #[c,x] w λe w'=>e=.returned (.bool (bY A x))/\w'=w:=by
 have k:=Bu h x;obtain⟨ca,nm,mb,g,cap,l,rt,dp,raw,h,rfl⟩:=h;have b:=h.c1;unfold bY;cases hs:uZ A x
 .rw[hs] at k;clear h
  go_enter func135,ntmps135
  go_wp2_with (((with_reducible refine aP k ?_)))
  go_ret;exact⟨rfl,rfl⟩
 .rw[hs] at k;have d:=(il _ _).1 hs;obtain⟨i,rfl⟩:∃i:Nat,x=i:=⟨x.toNat,ω⟩;have a:i<A.cs.length:=ω;have f:=h.row.cellAt (i*3) ω (AV raw i);simp only[π];rw[h.abt a];clear h hs
  go_enter func135,ntmps135
  go_wp2_with (((with_reducible refine aP k ?_)))
  go_ret;exact⟨bF σ,rfl⟩
def row3{w:World}{ca m i:Nat}{e:TypeId}{raw:Nat->Cl}(h:aQ w ca e m (iw raw))(a:Cl):
  aQ (((w.setCell ⟨ca,i*3,none⟩ (.int .i64 a.i)).setCell ⟨ca,i*3+1,none⟩ (.int .i64 a.k)).setCell ⟨ca,i*3+2,none⟩ (.int .u64 a.s)) ca e m (iw (λy=>if y=i then a else raw y)):=by
 refine(((h.set _ _).set _ _).set _ _).ext (λj b=>?_);simp only[iw]
 grind
def row2{w:World}{ca m i:Nat}{e:TypeId}{raw:Nat->Cl}(h:aQ w ca e m (iw raw))(k s:Int):
  aQ ((w.setCell ⟨ca,i*3+1,none⟩ (.int .i64 k)).setCell ⟨ca,i*3+2,none⟩ (.int .u64 s)) ca e m (iw (λy=>if y=i then⟨(raw i).i,k,s⟩ else raw y)):=by
 refine((h.set _ _).set _ _).ext (λj a=>?_);simp only[iw]
 grind
section
variable{w:World}{c ca nm mb g cap:Nat}{l:List Int}{rt dp:Nat->Nat}{raw:Nat->Cl}{A:NS}{st:Nat}
def CM.turn(h:CM w c ca nm mb g cap l rt dp raw A st){e:World}{b:Nat->Cl}{A':NS}(i:ae [ca,mb] w e)(d:aQ e ca 260 (A.cs.length*3) (iw b))(k:fK e mb (fJ A'))(f:A'.Ok)
  (a:A'.cs.length=A.cs.length) (j:A'.hs=A.hs) (hrel:∀x,x<A.cs.length->(b x=Cl.z/\A'.c x=Cl.z)\/(1<=(b x).i/\(b x).i<l.length/\A'.c x=⟨rt (b x).i.toNat,(b x).k,(b x).s⟩)):
  CM e c ca nm mb g cap l rt dp b A' st:=by
 have s:=h.sep;refine⟨?_,by rw[a];exact d,h.X7.upd i ι ι,k,h.PK,f,h.oG,by rw[a];exact hrel,by rw[j];exact h.hlen,by rw[j];exact h.has,s⟩;rw[a];exact h.head.upd i ι
def CM.Na(h:CM w c ca nm mb g cap l rt dp raw A st){i:Nat}(a:aW A i=true):1<=i/\i<l.length/\rt i=i/\l.getD i 0=i:=by
 rw[←h.zt] at a;unfold Go.Proofs.YtnpdakpagnpanaaGreat.zt at a;simp only[Τ,Ο,beq_iff_eq,π] at a;exact⟨ω,ω,h.PK.top i ω ω a.2,a.2⟩
end
def acz(l:List Int)(rt:Nat->Nat)(cr ca:Cl):Prop:=(cr=Cl.z/\ca=Cl.z)\/(1<=cr.i/\cr.i<l.length/\ca=⟨rt cr.i.toNat,cr.k,cr.s⟩)
def Bc{l:List Int}{rt:Nat->Nat}{raw:Nat->Cl}{A:NS}{x:Nat}{cr ca:Cl}(h:∀y,y<A.cs.length->acz l rt (raw y) (A.c y))(b:x<A.cs.length)(c:acz l rt cr ca):
  ∀y,y<A.cs.length->acz l rt (if y=x then cr else raw y) ((gu A x ca).c y):=by
 intro y a;rw[mg]
 grind
def MV{A:NS}{x:Nat}{c:Cl}(h:Int)(a:x<A.cs.length)(b:(A.c x).i=0)(d:0<c.i)(q:Int):(if q=c.i then some ((cZ A c.i:Int)+1) else fJ A q)=fJ (gu A x c) q:=by
 have:=oH A x c q a;rw[b] at this;unfold fJ
 grind
def oQ{w:World}{c st:Nat}{F:List Nat}{A:NS}(h:aD w c F A st)(a x:Nat)(k s:Int)(T:-9223372036854775808<=k/\k<=9223372036854775807/\0<=s/\s<=18446744073709551615)(L:oF A a x=true):
  Calls prog 138 #[c,(a:Int),(x:Int),.agg #[k,.int .u64 s]] w λe w'=>e=.returned true/\aD w' c F (aN A a x k s) st/\ae F w w':=by
 have C:=λW m=>jQ (h.ag (w':=W) m) a;have D:=λW m=>Bu (h.ag (w':=W) m) x;have E:=λW m=>sJ (h.ag (w':=W) m) x;have r:ae [] w (w.alloc (.cells #[k,.int .u64 s] 97)):=(ae.refl _ _).alloc _;have hp:=(fB _ _ _).1 L;rw[hp.1] at C;rw[hp.2.1] at D;rw[hp.2.2] at E;have N:=(il _ _).1 hp.2.1;have U:=(aF _ _).1 hp.1;have O:(A.c x).i<=0:=by have:=hp.2.2;unfold bY at this;rw[hp.2.1] at this;simpa using this
 have t:(A.c x).i=0:=by have:=h.ok.nat x ω;omega
 have G:=Bb h.ok (a:Int);have P:=h.ok.h1;obtain⟨ca,nm,mb,g,cap,l,rt,dp,raw,h,rfl⟩:=h;have Q:=h.c1;have X:=h.c3;have Y:=h.row.cell (x*3) ω;have Z:=h.row.cell (x*3+1) ω;have d2:=h.row.cell (x*3+2) ω;have f0:=h.row.free (x*3);have f1:=h.row.free (x*3+1);have f2:=h.row.free (x*3+2);have d:=aD.lt ⟨ca,nm,mb,g,cap,l,rt,dp,raw,h,rfl⟩;have l1:=d c σ;have l2:=d ca σ;have hs:=h.sep;have H:=χ h;have I:=χ hp;clear h hp L d;obtain⟨p,b⟩:∃n,n=A.cs.length:=⟨_,rfl⟩;rw[←b] at Q N;have R:=χ b;clear b;have u:x<p:=ω
 go_enter func138,ntmps138
 go_wp2_with (first|((with_reducible refine aP ((C _ r)) ?_))|((with_reducible refine aP ((D _ r)) ?_))|((with_reducible refine aP ((E _ r)) ?_)))
 go_region
 go_wp2_with (first
  |(at_lookup;refine iG rfl _ _ rfl mb (fJ A) rfl (H.out.many.upd (S:=[ca]) β ι) (a:Int) rfl ω (cZ A (a:Int):Int) (mI _ _) ?_)
  | (at_mapUpdate;refine lG rfl _ _ _ rfl mb (fJ A) rfl (H.out.many.upd (S:=[ca]) β ι) (a:Int) ((cZ A (a:Int):Int)+1) rfl rfl ω ω ?_;intro M o f))
 go_ret;have v:ae [ca] w ((((w.setCell ⟨ca,x*3,none⟩ (.int .i64 (a:Int))).setCell ⟨ca,x*3+1,none⟩ (.int .i64 k)).setCell ⟨ca,x*3+2,none⟩ (.int .u64 s)).alloc (.cells #[k,.int .u64 s] 97)).drew:=β;have z:=((row3 (i:=x) H.out.row ⟨(a:Int),k,s⟩).upd ((ae.refl [] _).alloc (.cells #[k,.int .u64 s] 97) |>.drew) σ).upd f ι;have J:ae [ca,mb] w M:=(v.mono ι).joined f (λy K=>Α (by simp at K;simp[K]));have B:=H.out.Na I.out.1;have j:x<A.cs.length:=by rw[←R.out];exact u
 have e:aN A (a:Int) (x:Int) k s=gu A x ⟨(a:Int),k,s⟩:=by unfold aN;rw[Δ ((fB _ _ _).2 I.out)];simp
 refine⟨rfl,⟨ca,nm,mb,g,cap,l,rt,dp,λy=>if y=x then⟨(a:Int),k,s⟩ else raw y,?_,rfl⟩,J.mono ι⟩;rw[e];refine H.out.turn J z (o.ext (λq=>MV (c:=⟨(a:Int),k,s⟩) (a:Int) j t (by show 0<(a:Int);omega) q)) (by rw[←e];exact ZJ H.out.ok _ _ _ _ T) (fM _ _ _) rfl (Bc H.out.rel j (Β ⟨by show 1<=(a:Int);omega,by show(a:Int)<l.length;omega,by rw[π,B.2.2.1]⟩))
def mH{w:World}{c st:Nat}{F:List Nat}{A:NS}(h:aD w c F A st)(x:Int)(a:bY A x=false):
  Calls prog 121 #[c,x] w λe w'=>e=.returned (.tuple #[.agg #[(0:Int),.int .u64 0],false])/\ae [] w w':=by
 have b:ae [] w (w.alloc (.cells #[(0:Int),.int .u64 0] 97)):=(ae.refl _ _).alloc _;have k:=sJ (h.ag b) x;rw[a] at k;clear h a
 go_enter func121,ntmps121
 go_wp2_with (((with_reducible refine aP k ?_)))
 exact bodyPost_ret (v:=.tuple #[.agg #[(0:Int),.int .u64 0],false]) (by simp[results,results121,go_sem]) rfl ⟨rfl,ξ⟩
def lg{w:World}{c st:Nat}{F:List Nat}{A:NS}(h:aD w c F A st)(x:Nat)(d:bY A x=true):
  Calls prog 121 #[c,(x:Int)] w λe w'=>e=.returned (.tuple #[.agg #[.int .i64 (A.c x).k,.int .u64 (A.c x).s],true])/\ae [] w w':=by
 have f:ae [] w (w.alloc (.cells #[(0:Int),.int .u64 0] 97)):=(ae.refl _ _).alloc _;have k:=sJ (h.ag f) x;rw[d] at k;obtain⟨b,a⟩:=(aj _ _).1 d;obtain⟨ca,nm,mb,g,cap,l,rt,dp,raw,h,rfl⟩:=h;have e:A.c x=⟨rt (raw x).i.toNat,(raw x).k,(raw x).s⟩:=by
  rcases h.rel x b with⟨h1,h2⟩|⟨h1,h2,h3⟩
  .rw[h2] at a;exact absurd a δ
  .exact h3
 rw[e];have i:=h.c1;have j:=h.row.cellAt (x*3+1) ω (vZ raw x);have m:=h.row.cellAt (x*3+2) ω (vS raw x);have n:=h.head.lt;have o:=h.row.lt;clear h d a e
 go_enter func121,ntmps121
 go_wp2_with (((with_reducible refine aP k ?_)))
 exact bodyPost_ret (v:=.tuple #[.agg #[.int .i64 (raw x).k,.int .u64 (raw x).s],true]) (by simp[results,results121,go_sem]) rfl ⟨rfl,ξ⟩
def CM.abT{w:World}{c ca nm mb g cap:Nat}{l a:List Int}{rt dp:Nat->Nat}{raw:Nat->Cl}{A:NS}{st:Nat}(h:CM w c ca nm mb g cap l rt dp raw A st){w':World}(k:jK w' nm g cap a)(j:qX a rt dp)(e:a.length=l.length)(f:ae [g] w w'):
  CM w' c ca nm mb g cap a rt dp raw A st:=by
 have s:=h.sep;refine⟨h.head.upd f ι,h.row.upd f ι,k,h.many.upd f ι,j,h.ok,h.oG,by rw[e];exact h.rel,by rw[e];exact h.hlen,λi b d=>?_,s⟩;rw[e] at d;rw[h.has i b d,decide_eq_decide,h.PK.V7 b d,j.V7 b (by grind)]
def bX{w:World}{c st:Nat}{F:List Nat}{A:NS}(h:aD w c F A st)(x:Nat)(q:bY A x=true):
  Calls prog 124 #[c,(x:Int)] w λe w'=>e=.returned (.tuple #[.int .i64 (A.c x).i,true])/\aD w' c F A st/\ae F w w':=by
 have k:=sJ h x;rw[q] at k;obtain⟨m,a⟩:=(aj _ _).1 q;obtain⟨ca,nm,mb,g,cap,l,rt,dp,raw,h,rfl⟩:=h;have e:1<=(raw x).i/\(raw x).i<l.length/\A.c x=⟨rt (raw x).i.toNat,(raw x).k,(raw x).s⟩:=by
  rcases h.rel x m with⟨h1,h2⟩|h3
  .rw[h2] at a;exact absurd a δ
  .exact h3
 obtain⟨r,n⟩:∃r:Nat,(raw x).i=r:=⟨(raw x).i.toNat,ω⟩;rw[e.2.2,n,π];have y:=h.c1;have z:=h.c2;have s:=h.row.cellAt (x*3) ω (AV raw x);rw[n] at s e;have hs:=h.sep;have H:=χ h;have o:1<=r:=ω;have p:r<l.length:=ω;clear h q a e n
 go_enter func124,ntmps124
 go_wp2_with (((with_reducible refine aP k ?_)))
 have B:∀W,ae [g] w W->W.cell? ⟨c,1,none⟩=some (.slice (some (ca:Nat)) A.cs.length A.cs.length):=λW f=>by rw[f.cell H.out.head.lt ι];exact y
 have C:∀W,ae [g] w W->W.cell? ⟨c,2,none⟩=some ((nm:Nat):V):=λW f=>by rw[f.cell H.out.head.lt ι];exact z
 have D:∀W,ae [g] w W->W.cell? ⟨ca,x*3,none⟩=some ((r:Int):V):=λW f=>by rw[f.cell H.out.row.lt ι];exact s
 go_region_held3 (ae [g] w) (exact η)
  (((with_reducible refine(RP nm g cap l rt dp r _ (H.out.X7.upd (S:=[]) β σ σ) H.out.PK o p).mono ?_);rintro e t ⟨u,rfl,v,i,b,j⟩;have d:ae [g] w t:=(by first|exact j|exact((ae.refl [g] w).drew.trans j)|exact((ae.refl [g] w).drewN _ |>.trans j))))
 go_wp2;go_ret2;exact⟨rfl,⟨ca,nm,mb,g,cap,u,rt,dp,raw,H.out.abT v i b d,rfl⟩,d.mono ι⟩
def Mr{A A':NS}(h:∀q,cZ A' q=cZ A q):fJ A'=fJ A:=by
 funext q;unfold fJ;rw[h q]
def iR{w:World}{c st:Nat}{F:List Nat}{A:NS}(h:aD w c F A st)(i:Nat)(k s:Int)(X:-9223372036854775808<=k/\k<=9223372036854775807/\0<=s/\s<=18446744073709551615)(p:iX A i k s=true):
  Calls prog 131 #[c,(i:Int),.agg #[k,.int .u64 s]] w λe w'=>e=.returned true/\aD w' c F (aA A i k s) st/\ae F w w':=by
 have a:ae [] w (w.alloc (.cells #[k,.int .u64 s] 97)):=(ae.refl _ _).alloc _;have x:=λW (d:ae [] (w.alloc (.cells #[k,.int .u64 s] 97)) W)=>sJ (h.ag (a.trans d)) i;have z:=χ p;unfold iX at p;simp only[Τ,Bool.not_eq_true',π] at p;obtain⟨e,u⟩:=p;rw[e] at x;obtain⟨v,j⟩:=(aj _ _).1 e;obtain⟨ca,nm,mb,g,cap,l,rt,dp,raw,h,rfl⟩:=h;have m:1<=(raw i).i/\(raw i).i<l.length/\A.c i=⟨rt (raw i).i.toNat,(raw i).k,(raw i).s⟩:=by
  rcases h.rel i v with⟨h1,h2⟩|h3
  .rw[h2] at j;exact absurd j δ
  .exact h3
 rw[m.2.2] at u;have D:=h.c1;have E:=h.row.cellAt (i*3+1) ω (vZ raw i);have G:=h.row.cellAt (i*3+2) ω (vS raw i);have H:=h.row.free (i*3+1);have I:=h.row.free (i*3+2);have B:=λW=>SH (raw i).k (raw i).s k s W;rw[u] at B;have J:Hid (∀f:World,ae [] (w.alloc (.cells #[k,.int .u64 s] 97)) f->aD ((f.setCell ⟨ca,i*3+1,none⟩ (.int .i64 k)).setCell ⟨ca,i*3+2,none⟩ (.int .u64 s)) c [c,ca,nm,mb,g] (aA A i k s) st/\ae [c,ca,nm,mb,g] w ((f.setCell ⟨ca,i*3+1,none⟩ (.int .i64 k)).setCell ⟨ca,i*3+2,none⟩ (.int .u64 s))):=λf o=>by
  have hs:=h.sep;have C:=h.upd (a.trans o) σ;have K:ae [ca,mb] f ((f.setCell ⟨ca,i*3+1,none⟩ (.int .i64 k)).setCell ⟨ca,i*3+2,none⟩ (.int .u64 s)):=β;have S:ae [ca] f ((f.setCell ⟨ca,i*3+1,none⟩ (.int .i64 k)).setCell ⟨ca,i*3+2,none⟩ (.int .u64 s)):=β;have L:aA A (i:Int) k s=gu A i ⟨(A.c i).i,k,s⟩:=by unfold aA;rw[Δ z.out];simp
  refine⟨⟨ca,nm,mb,g,cap,l,rt,dp,λy=>if y=i then⟨(raw i).i,k,s⟩ else raw y,?_,rfl⟩,((a.trans o).mono σ).trans (K.mono ι)⟩;rw[L];refine C.turn K (row2 C.row k s) ?_ (by rw[←L];exact Zj h.ok _ _ _ X) (fM _ _ _) rfl (Bc h.rel v (Β ⟨m.1,m.2.1,by rw[m.2.2]⟩));rw[Mr (A:=A) (A':=gu A i ⟨(A.c i).i,k,s⟩) (λq=>by have:=oH A i ⟨(A.c i).i,k,s⟩ q v;simp only at this;omega)];exact C.many.upd S ι
 generalize (raw i).k=T at *;generalize (raw i).s=U at *;have n:ca<w.heap.size:=h.row.lt;have M:∀W,ae [] (w.alloc (.cells #[k,.int .u64 s] 97)) W->W.cell? ⟨c,1,none⟩=some (.slice (some (ca:Nat)) A.cs.length A.cs.length):=λW d=>(a.trans d).was D;have N:∀W,ae [] (w.alloc (.cells #[k,.int .u64 s] 97)) W->W.cell? ⟨ca,i*3+1,none⟩=some ((T:Int):V):=λW d=>(a.trans d).was E;have O:∀W,ae [] (w.alloc (.cells #[k,.int .u64 s] 97)) W->W.cell? ⟨ca,i*3+2,none⟩=some (.int .u64 U):=λW d=>(a.trans d).was G
 have P:∀W,ae [] (w.alloc (.cells #[k,.int .u64 s] 97)) W->W.cell? w.heap.size=some (k:V):=λW h=>h.was σ;have Q:∀W,ae [] (w.alloc (.cells #[k,.int .u64 s] 97)) W->W.cell? ⟨w.heap.size,1,none⟩=some (.int .u64 s):=λW h=>h.was σ;have g1:∀W,ae [] (w.alloc (.cells #[k,.int .u64 s] 97)) W->W.frozen? ⟨ca,i*3+1,none⟩=false:=λW d=>by rw[(a.trans d).frozen n σ];exact H
 have g2:∀W,ae [] (w.alloc (.cells #[k,.int .u64 s] 97)) W->W.frozen? ⟨ca,i*3+2,none⟩=false:=λW d=>by rw[(a.trans d).frozen n σ];exact I
 clear h u m D E G H I e j
 go_enter func131,ntmps131
 go_wp2
 go_region_held3 (ae [] (w.alloc (.cells #[k,.int .u64 s] 97))) (exact η)
  (first
   |((with_reducible refine aP (x _ β) ?_))
   | ((with_reducible refine (B _).mono ?_);rintro e r ⟨rfl,t⟩;(have b:ae [] (w.alloc (.cells #[k,.int .u64 s] 97)) r:=η)))
 have Y:=M _ b;have Z:=N _ b;have q3:=O _ b;have q4:=P _ b;have q5:=Q _ b;have q6:=g1 _ b;have q7:=g2 _ b;clear M N O P Q g1 g2 x B;have R:=χ b;clear b a t;go_wp2
 go_region
 go_wp2;go_ret;exact⟨rfl,((J.out r R.out).1).ag ((ae.refl _ _).drew),(J.out r R.out).2.drew⟩
def dw(st k:Nat):Nat:=min (st+k) 4611686018427387904
def fG{st:Nat}(h:st<=4611686018427387904):dw st 0=st:=by unfold dw;omega
def je(st a b:Nat):dw (dw st a) b=dw st (a+b):=by unfold dw;omega
def NC(p:Addr)(s:Nat)(w:World)(b:s<=4611686018427387904)(c:w.cell? p=some (.int .i64 (s:Int)))(d:w.frozen? p=false):
  Calls prog 172 #[.pointer (some p),(1:Int)] w λe w'=>e=.returned (.tuple #[])/\w'=w.setCell p (.int .i64 (dw s 1:Nat)):=by
 by_cases h:s=4611686018427387904
 .have e:dw s 1=4611686018427387904:=by unfold dw;omega
  rw[e];have a:4611686018427387904-(s:Int)<1:=ω;clear e h
  go_enter func172,ntmps172
  go_wp2;go_end0;exact⟨rfl,rfl⟩
 .have e:((dw s 1:Nat):Int)=(s:Int)+1:=by unfold dw;omega
  rw[e];have a:¬4611686018427387904-(s:Int)<1:=ω;clear e h
  go_enter func172,ntmps172
  go_wp2;go_end0;exact⟨rfl,rfl⟩
def CM.count{w:World}{c ca nm mb g cap:Nat}{l:List Int}{rt dp:Nat->Nat}{raw:Nat->Cl}{A:NS}{st:Nat}(h:CM w c ca nm mb g cap l rt dp raw A st)(k:Nat):CM (w.setCell c (.int .i64 (dw st k:Nat))) c ca nm mb g cap l rt dp raw A (dw st k):=by
 have a:ae [c] w (w.setCell c (.int .i64 (dw st k:Nat))):=β;have s:=h.sep;refine⟨(h.head.set 0 _).ext (λj b=>?_),h.row.upd a ι,h.X7.upd a ι ι,h.many.upd a ι,h.PK,h.ok,by unfold dw;omega,h.rel,h.hlen,h.has,s⟩;rcases(ω:j=0\/j=1\/j=2\/j=3) with rfl|rfl|rfl|rfl<;>simp
def UL(A:NS)(a b:Nat):(decide (DX (A.c a).k (A.c a).s (A.c b).k (A.c b).s<0) || (decide (DX (A.c a).k (A.c a).s (A.c b).k (A.c b).s=0) && decide (a<b)))=decide (dA A a b):=by
 rw[Bool.eq_iff_iff,decide_eq_true_iff];simp only[Bool.or_eq_true,Τ,Ο];unfold DX xV dA
 grind
def fA{w:World}{c st:Nat}{F:List Nat}{A:NS}(h:aD w c F A st)(a b:Nat)(I:bY A a=true)(J:bY A b=true):
  Calls prog 164 #[c,(a:Int),(b:Int)] w λe w'=>e=.returned (.bool (decide (dA A a b)))/\aD w' c F A (dw st 1)/\ae [c] w w':=by
 have u:=sJ h a;have v:=sJ h b;rw[I] at u;rw[J] at v;obtain⟨B,n⟩:=(aj _ _).1 I;obtain⟨C,o⟩:=(aj _ _).1 J;obtain⟨ca,nm,mb,g,cap,l,rt,dp,raw,h,rfl⟩:=h;have K:A.c a=⟨rt (raw a).i.toNat,(raw a).k,(raw a).s⟩:=by
  rcases h.rel a B with⟨h1,h2⟩|h3
  .rw[h2] at n;exact absurd n δ
  .exact h3.2.2
 have L:A.c b=⟨rt (raw b).i.toNat,(raw b).k,(raw b).s⟩:=by
  rcases h.rel b C with⟨h1,h2⟩|h3
  .rw[h2] at o;exact absurd o δ
  .exact h3.2.2
 have i:=UL A a b;rw[K,L] at i;simp only at i;have Q:=h.c0;have R:=h.head.free 0;have M:=h.row.cellAt (a*3+1) ω (vZ raw a);have N:=h.row.cellAt (a*3+2) ω (vS raw a);have O:=h.row.cellAt (b*3+1) ω (vZ raw b);have P:=h.row.cellAt (b*3+2) ω (vS raw b);have s:=h.sep;have D:=h.oG;have E:=NC ⟨c,0,none⟩ st w D Q R;have G:=λW=>Am (raw a).k (raw a).s (raw b).k (raw b).s W;generalize T:DX (raw a).k (raw a).s (raw b).k (raw b).s=z at *;generalize (raw a).k=X at *;generalize (raw a).s=Y at *;generalize (raw b).k=Z at *;generalize (raw b).s=sb at *;have x:=h.row.lt
 have y:=χ (h.count 1);have H:=χ i;generalize U:dw st 1=d at *;have t:ae [c] w (w.setCell c (.int .i64 (d:Int))):=β;have r1:∀W,ae [] (w.setCell c (.int .i64 (d:Int))) W->W.cell? ⟨c,1,none⟩=some (.slice (some (ca:Nat)) A.cs.length A.cs.length):=λW k=>k.was y.out.c1;have r2:∀W,ae [] (w.setCell c (.int .i64 (d:Int))) W->W.cell? ⟨ca,a*3+1,none⟩=some ((X:Int):V):=λW k=>k.was ((t.cell x ι).trans M)
 have r3:∀W,ae [] (w.setCell c (.int .i64 (d:Int))) W->W.cell? ⟨ca,a*3+2,none⟩=some (.int .u64 Y):=λW k=>k.was ((t.cell x ι).trans N);have r4:∀W,ae [] (w.setCell c (.int .i64 (d:Int))) W->W.cell? ⟨ca,b*3+1,none⟩=some ((Z:Int):V):=λW k=>k.was ((t.cell x ι).trans O);have r5:∀W,ae [] (w.setCell c (.int .i64 (d:Int))) W->W.cell? ⟨ca,b*3+2,none⟩=some (.int .u64 sb):=λW k=>k.was ((t.cell x ι).trans P);clear h I J n o K L i M N O P T U t
 by_cases p:z<0
 .have m:decide (dA A a b)=true:=by rw[←H.out,Ν p];rfl
  rw[m];clear m
  go_enter func164,ntmps164
  go_wp2_with (first|((with_reducible refine aP u ?_))|((with_reducible refine aP v ?_))|((with_reducible refine aP E ?_)))
  go_region_held3 (ae [] (w.setCell c (.int .i64 (d:Int)))) (exact η)
   (((with_reducible refine(G _).mono ?_);rintro e q ⟨rfl,r⟩;(have f:ae [] (w.setCell c (.int .i64 (d:Int))) q:=η)))
  go_wp2;go_ret;exact⟨rfl,⟨ca,nm,mb,g,cap,l,rt,dp,raw,y.out.upd f σ,rfl⟩,((ae.refl [c] w).setCell (Α σ) _).then f⟩
 .by_cases j:z=0
  .have m:decide (dA A a b)=decide ((a:Int)<(b:Int)):=by rw[←H.out,Ξ p,Ν j];simp
   rw[m];subst j;clear m
   go_enter func164,ntmps164
   go_wp2_with (first|((with_reducible refine aP u ?_))|((with_reducible refine aP v ?_))|((with_reducible refine aP E ?_)))
   go_region_held3 (ae [] (w.setCell c (.int .i64 (d:Int)))) (exact η)
    (((with_reducible refine(G _).mono ?_);rintro e q ⟨rfl,r⟩;(have f:ae [] (w.setCell c (.int .i64 (d:Int))) q:=η)))
   go_wp2;go_ret;exact⟨bF σ,⟨ca,nm,mb,g,cap,l,rt,dp,raw,y.out.upd f σ,rfl⟩,((ae.refl [c] w).setCell (Α σ) _).then f⟩
  .have S:(z == 0)=false:=by simpa using j
   have m:decide (dA A a b)=false:=by rw[←H.out,Ξ p,Ξ j];rfl
   rw[m];clear m j
   go_enter func164,ntmps164
   go_wp2_with (first|((with_reducible refine aP u ?_))|((with_reducible refine aP v ?_))|((with_reducible refine aP E ?_)))
   go_region_held3 (ae [] (w.setCell c (.int .i64 (d:Int)))) (exact η)
    (((with_reducible refine(G _).mono ?_);rintro e q ⟨rfl,r⟩;(have f:ae [] (w.setCell c (.int .i64 (d:Int))) q:=η)))
   go_wp2;go_ret;exact⟨bF ζ,⟨ca,nm,mb,g,cap,l,rt,dp,raw,y.out.upd f σ,rfl⟩,((ae.refl [c] w).setCell (Α σ) _).then f⟩
