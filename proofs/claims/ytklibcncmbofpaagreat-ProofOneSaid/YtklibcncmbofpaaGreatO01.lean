/-
  Lemmas for ProofOne: Base, Ns, Own, Row, Append, Ints, Ent, Names, Map, Cells, Cells2, Cells4, Cells5, Ord, Enters, Mth, NestB, Qn, MapH, Fam, Cells3. Conditions: those of each lemma.
-/
import Derived.WalkKit
import Derived.WalkSpells
import Derived.WalkLawsBesides
import Derived.BigQuiet
import Derived.Deep.RegionHeld3
import Derived.ProofKit
import Derived.OpenShut
import Derived.Lib.Hide
import Derived.Maps.AppendAt
import Derived.Test.YtklibcncmbofpaaGreatProg
import Derived.StillTailTactics
import Derived.Maps.OwnSet
import Derived.Maps.OwnOps
import Derived.Maps.RangeWalk
import Derived.DeepKeys4
set_option linter.all false
set_option maxHeartbeats 8000000
set_option maxRecDepth 10000
namespace Go.Proofs.YtklibcncmbofpaaGreat
open Go.RowKit
theorem jL {k:IntKind} {a b:Int} (h:a=b):Ending.returned (.int k a)=.returned (.int k b):=by rw [h]
theorem aO {a b:Bool} (h:a=b):Ending.returned (.bool a)=.returned (.bool b):=by rw [h]
structure aa (S:List Nat) (w w':World):Prop where
 os:w'.os=w.os
 tape:w'.tape=w.tape
 output:w'.output=w.output
 size:w.heap.size<=w'.heap.size
 block:∀k,k<w.heap.size->k∉S->w'.heap[k]?=w.heap[k]?
theorem aa.refl (S:List Nat) (w:World):aa S w w:=⟨rfl,rfl,rfl,Nat.le_refl _,fun _ _ _=>rfl⟩
theorem aa.joined {S T:List Nat} {a b c:World} (h:aa S a b) (k:aa T b c) (hT:∀x,x∈T->x∈S\/a.heap.size<=x):aa S a c:=
  ⟨k.os.trans h.os,k.tape.trans h.tape,k.output.trans h.output,Nat.le_trans h.size k.size,
   fun i hi hs=>(k.block i (Nat.lt_of_lt_of_le hi h.size) (fun hm=>by rcases hT i hm with h1|h1;exact hs h1;omega)).trans (h.block i hi hs)⟩
theorem aa.trans {S:List Nat} {a b c:World} (h:aa S a b) (k:aa S b c):aa S a c:=h.joined k (fun _ hx=>Or.inl hx)
theorem aa.then {S:List Nat} {a b c:World} (h:aa S a b) (k:aa [] b c):aa S a c:=h.joined k (fun _ hx=>by cases hx)
theorem aa.mono {S T:List Nat} {a b:World} (h:aa S a b) (hs:∀x,x∈S->x∈T):aa T a b:=
 ⟨h.os,h.tape,h.output,h.size,fun k hk hn=>h.block k hk (fun hm=>hn (hs k hm))⟩
theorem aa.drew {S:List Nat} {a w:World} (h:aa S a w):aa S a w.drew:=⟨h.os,h.tape,h.output,h.size,h.block⟩
theorem aa.drewN {S:List Nat} {a w:World} (h:aa S a w) (n:Nat):aa S a (w.drewN n):=⟨h.os,h.tape,h.output,h.size,h.block⟩
theorem aa.alloc {S:List Nat} {a w:World} (h:aa S a w) (o:Obj):aa S a (w.alloc o):=
 h.joined (T:=[]) ⟨rfl,rfl,rfl,by simp,fun k hk _=>Below.heap_alloc _ _ _ hk⟩ (fun _ hx=>by cases hx)
theorem aa.setCell {S:List Nat} {a w:World} (h:aa S a w) {p:Addr} (hp:p.block∈S\/a.heap.size<=p.block) (u:Value):aa S a (w.setCell p u):=
 h.joined (T:=[p.block]) ⟨rfl,rfl,rfl,by simp [World.setCell],fun k hk hn=>Below.heap_setCell _ _ _ _ (by simpa using hn)⟩ (fun x hx=>by simp at hx;rw [hx];exact hp)
theorem aa.grown {S:List Nat} {a w w':World} {row:Option Nat} (h:aa S a w) (hg:w.grownBy w' row) (hr:∀k,row=some k->k∈S\/a.heap.size<=k):aa S a w':=
 h.joined (T:=row.toList) ⟨hg.os,hg.tape,hg.output,hg.size,fun k hk hn=>hg.block k hk (fun e=>hn (by rw [←e];simp))⟩ (fun x hx=>hr x (by simpa using hx))
theorem aa.cell {S:List Nat} {w w':World} (h:aa S w w') {p:Addr} (hp:p.block<w.heap.size) (hn:p.block∉S):w'.cell? p=w.cell? p:=World.cell?_of_block (w:=w) (h.block p.block hp hn)
theorem aa.frozen {S:List Nat} {w w':World} (h:aa S w w') {p:Addr} (hp:p.block<w.heap.size) (hn:p.block∉S):w'.frozen? p=w.frozen? p:=World.frozen?_of_block (w:=w) (h.block p.block hp hn)
theorem aa.below {w w':World} (h:aa [] w w'):Below w.heap.size w w':=⟨h.os,h.tape,h.output,h.size,fun k hk=>h.block k hk (by simp)⟩
theorem aa.was {w w':World} (h:aa [] w w') {p:Addr} {v:Value} (hv:w.cell? p=some v):w'.cell? p=some v:=by
 rw [h.cell (World.block_lt_of_cell? w p hv) (by simp)];exact hv
theorem aa.kept {S:List Nat} {w w':World} (h:aa S w w') {p:Addr} {v:Value} (hv:w.cell? p=some v) (hn:p.block∉S):w'.cell? p=some v:=by
 rw [h.cell (World.block_lt_of_cell? w p hv) hn];exact hv
theorem aa.aK {S:List Nat} {w w':World} (h:aa S w w') {p:Addr} {v:Value} (hv:w.cell? p=some v) (hn:p.block∉S) (hf:w.frozen? p=false):w'.frozen? p=false:=by
 rw [h.frozen (World.block_lt_of_cell? w p hv) hn];exact hf
theorem Xl {W w1:World} (hb:aa [] W w1):(∀a,(W.cell? a).isSome=true->w1.cell? a=W.cell? a)/\(∀a,(W.cell? a).isSome=true->w1.frozen? a=W.frozen? a):=
  ⟨fun a h=>by obtain ⟨u,hu⟩:=Option.isSome_iff_exists.1 h;exact hb.cell (World.block_lt_of_cell? W a hu) (by simp),
   fun a h=>by obtain ⟨u,hu⟩:=Option.isSome_iff_exists.1 h;exact hb.frozen (World.block_lt_of_cell? W a hu) (by simp)⟩
theorem β {P:Prop} (h:P:=by (repeat (first|assumption|exact aa.refl _ _|refine aa.alloc ?_ _|refine aa.drew ?_|refine aa.drewN ?_ _|refine aa.setCell ?_ ?_ _|focus (left;simp;done)|focus (right;simp;done)|focus (right;simp;omega)))):P:=h
theorem κ {P:Prop} (h:P:=by (repeat (first|assumption|exact aa.refl _ _|refine aa.drew ?_|refine aa.alloc ?_ _|refine aa.setCell ?_ ?_ _|focus (left;simp;done)|focus (right;simp;done)|focus (right;simp;omega)|(apply aa.trans;rotate_left;assumption;assumption)))):P:=h
theorem ν {P:Prop} (h:P:=by (repeat (first|assumption|exact aa.refl _ _|refine aa.drew ?_|refine aa.alloc ?_ _|refine aa.setCell ?_ ?_ _|focus (left;simp;done)|focus (right;simp;done)|focus (right;simp;omega)|(apply aa.trans;rotate_left;assumption)))):P:=h
theorem η {P:Prop} (h:P:=by (repeat (first|assumption|exact aa.refl _ _|refine aa.drew ?_|refine aa.alloc ?_ _|(apply aa.trans;rotate_left;assumption)))):P:=h
theorem ξ {P:Prop} (h:P:=by (repeat (first|assumption|exact aa.refl _ _|refine aa.alloc ?_ _|refine aa.drew ?_|refine aa.drewN ?_ _|refine aa.setCell ?_ (Or.inr (by first|(simp;done)|(simp;omega))) _|(apply aa.trans;rotate_left;assumption)))):P:=h
theorem ω {P:Prop} (h:P:=by omega):P:=h
theorem σ {P:Prop} (h:P:=by simp):P:=h
theorem ζ {P:Prop} (h:P:=by simp;omega):P:=h
theorem ι {P:Prop} (h:P:=by first|(simp;done)|(simp;omega)):P:=h
theorem μ {P:Prop} (h:P:=by unfold maxLen;omega):P:=h
theorem γ {P:Prop} (h:P:=by go_simp):P:=h
theorem δ {P:Prop} (h:P:=by decide):P:=h
theorem ψ {a b:Prop} (x:a) (y:b):a/\b:=⟨x,y⟩
theorem χ {p:Prop} (h:p):Hid p:=h
theorem φ {α:Type} {l:List α} {i:Nat} {a:α}:l.getD i a=l[i]?.getD a:=List.getD_eq_getElem?_getD
theorem π (n:Nat):(n:Int).toNat=n:=Int.toNat_natCast n
theorem ρ {α:Type _} {a b:α} {l:List α}:a∈b::l↔a=b\/a∈l:=List.mem_cons
theorem τ {α:Type _} {a:α} {s t:List α}:a∈s++t↔a∈s\/a∈t:=List.mem_append
theorem ε {α:Type _} {l:List α} {i:Nat} (h:i<l.length):l[i]?=some l[i]:=List.getElem?_eq_getElem h
theorem υ {α:Type _} {s t:List α}:(s++t).length=s.length+t.length:=List.length_append
theorem θ {α:Type _} {s t:List α}:(s++t).Nodup↔s.Nodup/\t.Nodup/\∀a∈s,∀b∈t,a≠b:=List.nodup_append
theorem ς {α:Type _} {a:α}:¬a∈([]:List α):=List.not_mem_nil
def Α:=@Or.inl
def Β:=@Or.inr
def Γ:=@if_neg
def Δ:=@if_pos
def Ε:=@World.block_lt_of_cell?
def Ζ:=@List.nodup_cons
def Η:=@List.mem_of_getElem?
def Θ:=@Nat.le_refl
def Ι:=@List.length_set
def Κ:=@World.size_alloc
def Λ:=@List.mem_cons_of_mem
def Μ:=@IntWalk.i64_in
def Ν:=@decide_eq_true
def Ξ:=@decide_eq_false
def Ο:=@decide_eq_true_eq
def Ρ:=@List.getElem?_append_left
def Τ:=@Bool.and_eq_true
def Υ:=@List.append_nil
def Φ:=@List.perm_append_comm
def Χ:=@Nat.le_trans
def Ψ:=@Nat.lt_of_lt_of_le
def Ω:=@List.length_cons
def ϊ:=@List.getElem?_append_right
def ϋ:=@List.append_assoc
def ό:=@List.Perm.refl
def ύ:=@List.getElem?_set
def ώ:=@List.getElem?_set_self
def Ϗ:=@List.getElem?_set_ne
def ϐ:=@List.take_add_one
def ϑ:=@List.length_take
def ϒ:=@List.length_map
def ϓ:=@List.getElem?_map
def ϔ:=@List.mem_singleton
def ϕ:=@Nat.zero_add
def ϖ:=@Nat.add_zero
def ϗ:=@Nat.lt_or_ge
def Ϙ:=@Option.some.injEq
def ϙ:=@List.getElem_mem
def Ϛ:=@Classical.byContradiction
def ϛ:=@List.eq_nil_of_length_eq_zero
def Ϝ:=@List.nil_append
def ϝ:=@List.drop_eq_getElem_cons
def Ϟ:=@List.Perm.trans
def ϟ:=@List.perm_middle
def Ϡ:=@Bool.false_eq_true
def ϡ:=@of_decide_eq_true
def Ϣ:=@List.nodup_nil
end Go.Proofs.YtklibcncmbofpaaGreat
namespace Go.Proofs.YtklibcncmbofpaaGreat
structure Cl where
 i:Int
 k:Int
 s:Int
instance:Inhabited Cl:=⟨⟨0,0,0⟩⟩
def Cl.z:Cl:=⟨0,0,0⟩
structure NS where
 hs:List Bool
 cs:List Cl
def NS.c (A:NS) (x:Nat):Cl:=A.cs.getD x Cl.z
def NS.new (n:Nat):NS:=⟨[false],List.replicate n Cl.z⟩
def bB (A:NS) (h:Int):Bool:=decide (1<=h) && decide (h<A.hs.length) && A.hs.getD h.toNat false
def wJ (A:NS) (x:Int):Bool:=decide (0<=x) && decide (x<A.cs.length)
def bM (A:NS) (x:Int):Bool:=wJ A x && decide (0<(A.c x.toNat).i)
def iN (A:NS) (x:Nat) (c:Cl):NS:=⟨A.hs,A.cs.set x c⟩
def Cf (k1 s1 k2 s2:Int):Bool:=if k1=k2 then decide (s1<s2) else decide (k1<k2)
def bW (A:NS):Int:=if 65536<A.hs.length then 0 else A.hs.length
def aL (A:NS):NS:=if 65536<A.hs.length then A else ⟨A.hs++[true],A.cs⟩
def nY (A:NS) (h x:Int):Bool:=bB A h && wJ A x && !bM A x
def aH (A:NS) (h x k s:Int):NS:=if nY A h x then iN A x.toNat ⟨h,k,s⟩ else A
def aY (A:NS) (x:Int):NS:=if bM A x then iN A x.toNat Cl.z else A
def iT (A:NS) (x k s:Int):Bool:=bM A x && !Cf (A.c x.toNat).k (A.c x.toNat).s k s
def ak (A:NS) (x k s:Int):NS:=if iT A x k s then iN A x.toNat ⟨(A.c x.toNat).i,k,s⟩ else A
def Jy (cs:List Cl) (h:Int):Nat:=(cs.filter fun c=>decide (c.i=h) && decide (0<h)).length
def dF (A:NS) (h:Int):Nat:=Jy A.cs h
def bU (A:NS) (a b:Nat):Prop:=(A.c a).k<(A.c b).k\/(A.c a).k=(A.c b).k/\((A.c a).s<(A.c b).s\/(A.c a).s=(A.c b).s/\a<b)
instance (A:NS) (a b:Nat):Decidable (bU A a b):=by unfold bU;infer_instance
def bR (A:NS) (a b:Int):Bool:=bM A a && bM A b && decide (bU A a.toNat b.toNat)
def JR (A:NS) (h:Int) (b:Option Nat) (x:Nat):Option Nat:=if decide (0<h) && decide ((A.c x).i=h) && (match b with|none=>true|some y=>bR A x y) then some x else b
def dD (A:NS) (h:Int):Option Nat:=(List.range A.cs.length).foldl (JR A h) none
def oU (o:Option Nat):Int:=match o with|some x=>(x:Int)|none=>0
structure NS.Ok (A:NS):Prop where
 h0:1<=A.hs.length
 h1:A.hs.length<=65537
 h2:A.hs.getD 0 false=false
 c1:A.cs.length<=65536
 cell:∀x,x<A.cs.length->((A.c x).i=0/\(A.c x).k=0/\(A.c x).s=0)\/bB A (A.c x).i=true
 key:∀x, -9223372036854775808<=(A.c x).k/\(A.c x).k<=9223372036854775807/\0<=(A.c x).s/\(A.c x).s<=18446744073709551615
theorem aP (A:NS) (h:Int):bB A h=true↔1<=h/\h<A.hs.length/\A.hs.getD h.toNat false=true:=by
 unfold bB;simp [and_assoc]
theorem gF (A:NS) (x:Int):wJ A x=true↔0<=x/\x<A.cs.length:=by unfold wJ;simp
theorem yO (A:NS) (x:Int):bM A x=true↔0<=x/\x<A.cs.length/\0<(A.c x.toNat).i:=by unfold bM wJ;simp [and_assoc]
theorem ae (A:NS) (x:Nat):bM A (x:Int)=true↔x<A.cs.length/\0<(A.c x).i:=by rw [yO];simp
theorem NS.Ok.nat {A:NS} (h:A.Ok) (x:Nat) (hx:x<A.cs.length):0<=(A.c x).i/\(A.c x).i<A.hs.length:=by
 rcases h.cell x hx with h'|h'
 ·have:=h.h0;omega
 ·have:=(aP _ _).1 h';omega
theorem jT (A:NS) (x:Nat) (c:Cl) (y:Nat):(iN A x c).c y=if y=x/\x<A.cs.length then c else A.c y:=by
 unfold iN NS.c;simp only [φ,ύ]
 by_cases h:x=y
 ·subst h
  by_cases hx:x<A.cs.length
  ·simp [hx]
  ·simp [hx,List.getElem?_eq_none (Nat.le_of_not_lt hx)]
 ·rw [Γ h,Γ (fun e=>h e.1.symm)]
theorem eU (A:NS) (x:Nat) (c:Cl):(iN A x c).cs.length=A.cs.length:=by unfold iN;simp
theorem Rc (A:NS) (x:Nat) (c:Cl) (h:Int):bB (iN A x c) h=bB A h:=rfl
theorem NS.Ok.with {A:NS} (h:A.Ok) (x:Nat) (c:Cl) (hc:(c.i=0/\c.k=0/\c.s=0)\/bB A c.i=true) (hk:-9223372036854775808<=c.k/\c.k<=9223372036854775807/\0<=c.s/\c.s<=18446744073709551615):(iN A x c).Ok:=by
 refine ⟨h.h0,h.h1,h.h2,by rw [eU];exact h.c1,fun y hy=>?_,fun y=>?_⟩
 ·rw [eU] at hy;rw [jT,Rc]
  split
  ·exact hc
  ·exact h.cell y hy
 ·rw [jT];split
  ·exact hk
  ·exact h.key y
theorem NS.yA (n x:Nat):(NS.new n).c x=Cl.z:=by
 unfold NS.new NS.c;rw [φ,List.getElem?_replicate];split<;>rfl
theorem NS.zS (n:Nat) (hn:n<=65536):(NS.new n).Ok:=by
 refine ⟨by simp [NS.new],by simp [NS.new],rfl,by simp [NS.new];exact hn,fun x _=>Α ?_,fun x=>?_⟩
 ·rw [NS.yA];exact ⟨rfl,rfl,rfl⟩
 ·rw [NS.yA];exact ⟨δ,δ,δ,δ⟩
theorem Ir {A:NS} (h:A.Ok):(aL A).Ok:=by
 unfold aL;split
 ·exact h
 ·rename_i hl
  have h0:=h.h0;refine ⟨σ,ζ,?_,h.c1,fun x hx=>?_,h.key⟩
  ·have:=h.h2;simp only [φ] at this ⊢;rw [Ρ ω];exact this
  ·rcases h.cell x hx with h'|h'
   ·exact Α h'
   ·refine Β ?_;have h2:=(aP _ _).1 h';refine (aP _ _).2 ⟨h2.1,by show (A.c x).i<((A.hs++[true]).length:Int);rw [υ];have:=h2.2.1;omega,?_⟩;have h3:=h2.2.2;simp only [φ] at h3 ⊢;rw [Ρ (by show (A.c x).i.toNat<A.hs.length;omega)];exact h3
theorem dV (A:NS) (h x:Int):nY A h x=true↔bB A h=true/\wJ A x=true/\bM A x=false:=by unfold nY;simp [and_assoc]
theorem ze {A:NS} (h:A.Ok) (g x k s:Int) (hk:-9223372036854775808<=k/\k<=9223372036854775807/\0<=s/\s<=18446744073709551615):(aH A g x k s).Ok:=by
 unfold aH;split
 ·rename_i hp
  exact h.with _ _ (Β ((dV _ _ _).1 hp).1) hk
 ·exact h
theorem FE {A:NS} (h:A.Ok) (x:Int):(aY A x).Ok:=by
 unfold aY;split
 ·exact h.with _ _ (Α ⟨rfl,rfl,rfl⟩) ⟨δ,δ,δ,δ⟩
 ·exact h
theorem iK {A:NS} (h:A.Ok) {x:Int} (hx:bM A x=true):bB A (A.c x.toNat).i=true:=by
 have h1:=(yO _ _).1 hx;rcases h.cell x.toNat ω with h'|h'
 ·omega
 ·exact h'
theorem Mc {A:NS} (h:A.Ok) (x k s:Int) (hk:-9223372036854775808<=k/\k<=9223372036854775807/\0<=s/\s<=18446744073709551615):(ak A x k s).Ok:=by
 unfold ak;split
 ·rename_i hp
  unfold iT at hp;simp only [Τ] at hp;exact h.with _ _ (Β (iK h hp.1)) hk
 ·exact h
/-! ### how many are in a heap -/
theorem Vq (cs:List Cl) (h:Int):Jy cs h<=cs.length:=List.length_filter_le _ _
theorem QN (cs:List Cl) (x:Nat) (c:Cl) (h:Int) (hx:x<cs.length) :
  Jy (cs.set x c) h+(if (cs.getD x Cl.z).i=h/\0<h then 1 else 0)=Jy cs h+(if c.i=h/\0<h then 1 else 0):=by
 unfold Jy
 induction cs generalizing x with
 | nil=>simp at hx
 | cons d r ih=>
  cases x with
  | zero=>
   simp only [List.set_cons_zero,List.filter_cons,List.getD_cons_zero];have e1:∀c:Cl,(decide (c.i=h) && decide (0<h))=decide (c.i=h/\0<h):=fun c=>by by_cases a:c.i=h<;>by_cases b:0<h<;>simp [a,b]
   have e2:∀ (p:Prop) [Decidable p] (d:Cl) (l:List Cl),(if decide p=true then d::l else l).length=l.length+(if p then 1 else 0):=fun p _ d l=>by by_cases hp:p<;>simp [hp]
   simp only [e1,e2];omega
  | succ x=>
   have:=ih x (by simpa using hx);simp only [List.set_cons_succ,List.filter_cons,List.getD_cons_succ]
   split<;>simp at this ⊢<;>omega
theorem mZ (A:NS) (x:Nat) (c:Cl) (h:Int) (hx:x<A.cs.length) :
  dF (iN A x c) h+(if (A.c x).i=h/\0<h then 1 else 0)=dF A h+(if c.i=h/\0<h then 1 else 0):=QN A.cs x c h hx
theorem Um {cs:List Cl} {h:Int}:0<Jy cs h↔∃x,x<cs.length/\(cs.getD x Cl.z).i=h/\0<h:=by
 unfold Jy;rw [List.length_pos_iff_exists_mem];constructor
 ·rintro ⟨c,hc⟩;obtain ⟨hm,hp⟩:=List.mem_filter.1 hc;obtain ⟨x,hx,rfl⟩:=List.mem_iff_getElem.1 hm;simp only [Τ,Ο] at hp;exact ⟨x,hx,by simpa [φ,hx] using hp.1,hp.2⟩
 ·rintro ⟨x,hx,h1,h2⟩;refine ⟨cs[x],List.mem_filter.2 ⟨ϙ hx,?_⟩⟩;simp only [φ,ε hx,Option.getD_some] at h1;simp [h1,h2]
theorem eH {A:NS} {h:Int}:0<dF A h↔∃x,x<A.cs.length/\(A.c x).i=h/\0<h:=Um
theorem DU {A:NS} (hA:A.Ok) (h:Int):dF A h<=65536:=Χ (Vq _ _) hA.c1
theorem Pw {A:NS} (hA:A.Ok) {h:Int} (hh:bB A h=false):dF A h=0:=by
 rcases Nat.eq_zero_or_pos (dF A h) with h'|h'
 ·exact h'
 ·obtain ⟨x,hx,h1,h2⟩:=eH.1 h';rcases hA.cell x hx with h3|h3
  ·omega
  ·rw [h1,hh] at h3;cases h3
theorem OM {A:NS} (h:Int):dF (aL A) h=dF A h:=by unfold aL;split<;>rfl
/-! ### the order of slots -/
theorem bQ {A:NS} {a b c:Nat} (h:bU A a b) (h':bU A b c):bU A a c:=by unfold bU at *;omega
theorem vP {A:NS} {a:Nat}:¬bU A a a:=by unfold bU;omega
theorem iP {A:NS} {a b:Nat} (h:a≠b):bU A a b\/bU A b a:=by unfold bU;omega
theorem pJ {A:NS} {a b:Nat} (h:bU A a b):¬bU A b a:=fun h'=>vP (bQ h h')
theorem lI (A:NS) (a b:Nat):bR A (a:Int) (b:Int)=(bM A a && bM A b && decide (bU A a b)):=by unfold bR;simp
def Qo (A:NS) (h:Int) (l:List Nat) (m:Nat):Prop:=m∈l/\(A.c m).i=h/\∀y,y∈l->(A.c y).i=h->y=m\/bU A m y
theorem yc (A:NS) (h:Int) (hh:0<h):∀ (l:List Nat),(∀x∈l,x<A.cs.length)->∀ (pre:List Nat),(∀x∈pre,x<A.cs.length)->∀o:Option Nat,
  (match o with|some m=>Qo A h pre m|none=>∀y∈pre,(A.c y).i≠h)->
  (match l.foldl (JR A h) o with|some m=>Qo A h (pre++l) m|none=>∀y∈pre++l,(A.c y).i≠h)
 | [],_,pre,_,o,ho=>by simpa using ho
 | x::l,hl,pre,hp,o,ho=>by
  have hx:=hl x σ;have step:(match JR A h o x with|some m=>Qo A h (pre++[x]) m|none=>∀y∈pre++[x],(A.c y).i≠h):=by
   unfold JR
   by_cases hi:(A.c x).i=h
   ·cases o with
    | none=>
     simp only at ho;simp only [hi,hh,decide_true,Bool.and_self,if_true];refine ⟨σ,hi,fun y hy he=>?_⟩;rcases τ.1 hy with hy|hy
     ·exact absurd he (ho y hy)
     ·exact Α (by simpa using hy)
    | some m=>
     simp only at ho;obtain ⟨h1,h2,h3⟩:=ho;have hm:=hp m h1;have hin:bM A (x:Int)=true:=(ae A x).2 ⟨hx,ω⟩;have him:bM A (m:Int)=true:=(ae A m).2 ⟨hm,ω⟩;simp only [hi,hh,decide_true,Bool.and_self,Bool.true_and,lI,hin,him,Ο]
     by_cases hlt:bU A x m
     ·rw [Δ hlt];refine ⟨σ,hi,fun y hy he=>?_⟩;rcases τ.1 hy with hy|hy
      ·rcases h3 y hy he with rfl|h4
       ·exact Β hlt
       ·exact Β (bQ hlt h4)
      ·exact Α (by simpa using hy)
     ·rw [Γ hlt];refine ⟨by simp [h1],h2,fun y hy he=>?_⟩;rcases τ.1 hy with hy|hy
      ·exact h3 y hy he
      ·simp at hy;subst hy
       by_cases e:y=m
       ·exact Α e
       ·rcases iP (A:=A) e with h4|h4
        ·exact absurd h4 hlt
        ·exact Β h4
   ·simp only [hi,decide_false,Bool.and_false,Bool.false_and,Ϡ,if_false];cases o with
    | none=>
     simp only at ho ⊢;intro y hy;rcases τ.1 hy with hy|hy
     ·exact ho y hy
     ·simp at hy;subst hy;exact hi
    | some m=>
     simp only at ho ⊢;obtain ⟨h1,h2,h3⟩:=ho;refine ⟨by simp [h1],h2,fun y hy he=>?_⟩;rcases τ.1 hy with hy|hy
     ·exact h3 y hy he
     ·simp at hy;subst hy;exact absurd he hi
  have:=yc A h hh l (fun y hy=>hl y (by simp [hy])) (pre++[x]) (fun y hy=>by rcases τ.1 hy with hy|hy;exact hp y hy;simp at hy;subst hy;exact hx) _ step;simpa using this
def WB (A:NS) (h:Int) (m:Nat):Prop:=m<A.cs.length/\(A.c m).i=h/\∀y,y<A.cs.length->(A.c y).i=h->y=m\/bU A m y
theorem iE {A:NS} {h:Int} (hh:0<h) {m:Nat}:dD A h=some m↔WB A h m:=by
 have:=yc A h hh (List.range A.cs.length) (fun x hx=>by simpa using hx) [] σ none σ;simp only [Ϝ] at this
 change (match dD A h with|some m=>_|none=>_) at this
 constructor
 ·intro e;rw [e] at this;obtain ⟨h1,h2,h3⟩:=this;exact ⟨by simpa using h1,h2,fun y hy he=>h3 y (by simpa using hy) he⟩
 ·rintro ⟨h1,h2,h3⟩;cases e:dD A h with
  | none=>rw [e] at this;exact absurd h2 (this m (by simpa using h1))
  | some m'=>
   rw [e] at this;obtain ⟨k1,k2,k3⟩:=this;rcases h3 m' (by simpa using k1) k2 with rfl|h4
   ·rfl
   ·rcases k3 m (by simpa using h1) h2 with rfl|h5
    ·rfl
    ·exact absurd h4 (pJ h5)
theorem jD {A:NS} {h:Int} (hh:0<h):dD A h=none↔dF A h=0:=by
 have:=yc A h hh (List.range A.cs.length) (fun x hx=>by simpa using hx) [] σ none σ;simp only [Ϝ] at this
 change (match dD A h with|some m=>_|none=>_) at this
 cases e:dD A h with
 | none=>
  rw [e] at this;refine ⟨fun _=>?_,fun _=>rfl⟩;rcases Nat.eq_zero_or_pos (dF A h) with h'|h'
  ·exact h'
  ·obtain ⟨x,hx,h1,_⟩:=eH.1 h';exact absurd h1 (this x (by simpa using hx))
 | some m=>
  rw [e] at this;obtain ⟨k1,k2,_⟩:=this;refine ⟨fun h=>by (cases h),fun h0=>?_⟩;have:0<dF A h:=eH.2 ⟨m,by simpa using k1,k2,hh⟩;omega
theorem pV {A:NS} {h:Int} (hh:¬0<h):dD A h=none:=by
 unfold dD;generalize List.range A.cs.length=l;have:∀l:List Nat,l.foldl (JR A h) none=none:=fun l=>by
  induction l with
  | nil=>rfl
  | cons x l ih=>rw [List.foldl_cons,show JR A h none x=none by unfold JR;simp [hh]];exact ih
 exact this l
theorem P9 {A:NS} {h:Int} (hh:¬0<h):dF A h=0:=by
 rcases Nat.eq_zero_or_pos (dF A h) with h'|h'
 ·exact h'
 ·obtain ⟨x,_,_,h2⟩:=eH.1 h';exact absurd h2 hh
theorem lS {A A':NS} {x y:Nat} (h:bU A x y) (hy:A'.c y=A.c y) (hx:(A'.c x).k<(A.c x).k\/(A'.c x).k=(A.c x).k/\(A'.c x).s<=(A.c x).s):bU A' x y:=by
 unfold bU at *;rw [hy];omega
theorem tN {A:NS} {x k s:Int} (h:iT A x k s=true):k<(A.c x.toNat).k\/k=(A.c x.toNat).k/\s<=(A.c x.toNat).s:=by
 unfold iT Cf at h;simp only [Τ,Bool.not_eq_true'] at h;have h2:=h.2
 split at h2
 ·simp at h2;omega
 ·simp at h2;omega
theorem qU {A:NS} {x:Nat} {k s:Int} (hB:iT A x k s=true) (hx:x<A.cs.length) (y:Nat):(ak A x k s).c y=if y=x then ⟨(A.c x).i,k,s⟩ else A.c y:=by
 unfold ak;rw [Δ hB,π,jT]
 by_cases e:y=x
 ·rw [Δ ⟨e,hx⟩,Δ e]
 ·rw [Γ (fun h=>e h.1),Γ e]
theorem iw {A:NS} {x:Nat} {k s:Int} (hB:iT A x k s=true) (hx:x<A.cs.length) (y:Nat):((ak A x k s).c y).i=(A.c y).i:=by
 rw [qU hB hx];split
 ·rename_i e;rw [e]
 ·rfl
theorem dY (A:NS) (x k s:Int):(ak A x k s).cs.length=A.cs.length:=by unfold ak;split;exact eU _ _ _;rfl
theorem kZ (A:NS) (x k s:Int):(ak A x k s).hs=A.hs:=by unfold ak;split<;>rfl
theorem xH {A:NS} {x:Nat} (hB:bM A x=true) (y:Nat):(aY A x).c y=if y=x then Cl.z else A.c y:=by
 have hx:=((ae A x).1 hB).1;unfold aY;rw [Δ hB,π,jT]
 by_cases e:y=x
 ·rw [Δ ⟨e,hx⟩,Δ e]
 ·rw [Γ (fun h=>e h.1),Γ e]
theorem eO (A:NS) (x:Int):(aY A x).cs.length=A.cs.length:=by unfold aY;split;exact eU _ _ _;rfl
theorem iL (A:NS) (x:Int):(aY A x).hs=A.hs:=by unfold aY;split<;>rfl
theorem eY {A A':NS} {a b:Nat} (ha:A'.c a=A.c a) (hb:A'.c b=A.c b):bU A' a b↔bU A a b:=by unfold bU;rw [ha,hb]
end Go.Proofs.YtklibcncmbofpaaGreat
namespace Go.Proofs.YtklibcncmbofpaaGreat
open Go Go.RowKit
theorem jE {w:World} {base base' size n:Nat} {e:TypeId} {v:Value} {xs:List Value} (h:w.ownsRow base e size v n xs) (hb:base'<=base):w.ownsRow base' e size v n xs:=by
 refine ⟨h.1,?_⟩;rcases h.2 with hn|⟨g,cap,cur,rfl,hb',hg,rest⟩
 ·exact Α hn
 ·exact Β ⟨g,cap,cur,rfl,Χ hb hb',hg,rest⟩
theorem Lc (W:World) (us:List Value) (e:TypeId) (j:Nat) (u:Value) (hj:us[j]?=some u):(W.alloc (.cells us.toArray e)).cell? ((⟨W.heap.size,0,none⟩:Addr).add j)=some u:=by
 have e1:((⟨W.heap.size,0,none⟩:Addr).add j)=⟨W.heap.size,j,none⟩:=by
  unfold Addr.add;split
  ·subst_vars;rfl
  ·simp
 rw [e1];have e2:(W.alloc (.cells us.toArray e)).heap[W.heap.size]?=some (.cells us.toArray e):=by
  show (W.heap.push _)[W.heap.size]?=_
  simp
 unfold World.cell?;simp only [e2];simpa using hj
theorem aQ {P:Program} {ops:Array Oper} {rest:List Oper} {o:Oper} {a:Act} {Q:Exit->Act->World->Prop} {W:World} (hgd:o.guard=none) (s x:Operand) (t:TypeId)
  (ho:o.op=.call { callee:=.builtin .append,args:=#[s,x],argTypes:=#[t,t] })
  (base:Nat) (e:TypeId) (z:Value) (size bytes:Nat) (ht:P.underlying t=some (.slice e)) (hinfo:(P.info? e).map (fun i=>(i.zero,i.size,i.bytes))=some (some z,size,bytes))
  (hzs:z.cells.size=size) (hsz:0<size) (v:Value) (n:Nat) (xs:List Value) (hs:a.eval s=v) (hown:W.ownsRow base e size v n xs)
  (us:List Value) (hus:us.length=size) (h1:∀u∈us,u.oneCell'=true) (hx:a.eval x=.slice (some ⟨W.heap.size,0,none⟩) 1 1)
  (hn:n+1<=maxLen) (hbytes:(n+1)*bytes<=140737488355328) (hbase:base<=W.heap.size)
  (h:∀v' w',w'.ownsRow base e size v' (n+1) (xs++us)->aa v.ownBlock.toList W w'->(v'.ownBlock=v.ownBlock\/∀k,v'.ownBlock=some k->W.heap.size<k)->wpList P ops Q rest (a.put o.dst v') w') :
  wpList P ops Q (o::rest) a (W.alloc (.cells us.toArray e)):=by
 obtain ⟨i,hi,hz0,hz1,hz2⟩:=info_parts hinfo;have hcell:=fun j u hj=>Lc W us e j u hj;rcases hown.2 with ⟨rfl,rfl⟩|⟨g,cap,cur,rfl,hbg,hg,hnc,hcm,hcs,htk⟩
 ·have hxs:xs=[]:=ϛ (by rw [hown.1,Nat.zero_mul]);subst hxs;refine wpList_append_grows _ hgd s x t ho e i z size bytes ht hi hz0 hz1 hz2 hzs hsz none 0 0 [] hs (fun _=>⟨rfl,rfl⟩) σ (fun b hb=>by cases hb) ⟨W.heap.size,0,none⟩ 1 1 us hx ω hcell h1 ω hn hbytes ?_;intro v' w' ho' hgr;refine h v' w' (jE ho' ζ) (((aa.refl _ _).alloc _).grown hgr (fun k hk=>by cases hk)) (Β fun k hk=>?_);have:=(ho'.lt k hk).1;simp at this;omega
 ·have hown':=hown.alloc (.cells us.toArray e)
  by_cases hfit:n+1<=cap
  ·refine wpList_append_fits _ hgd s x t ho base e i size ht hi hz1 g n cap xs hs hown' ⟨W.heap.size,0,none⟩ 1 1 us hx ω hcell h1 hfit ?_;intro w' ho' hgr;exact h _ w' ho' (((aa.refl _ _).alloc _).grown hgr (fun k hk=>Α (by cases hk;simp [Value.ownBlock]))) (Α rfl)
  ·refine wpList_append_grows _ hgd s x t ho e i z size bytes ht hi hz0 hz1 hz2 hzs hsz (some ⟨g,0,none⟩) n cap xs hs (fun hb=>by cases hb) hown.1 (fun b hb j u hj=>?_) ⟨W.heap.size,0,none⟩ 1 1 us hx ω hcell h1 ω hn hbytes ?_
   ·cases hb;exact hown'.cells rfl j u hj
   ·intro v' w' ho' hgr;refine h v' w' (jE ho' ζ) (((aa.refl _ _).alloc _).grown hgr (fun k hk=>by cases hk)) (Β fun k hk=>?_);have:=(ho'.lt k hk).1;simp at this;omega
theorem ay {w w':World} {S:List Nat} {base size n:Nat} {e:TypeId} {v:Value} {xs:List Value} (h:w.ownsRow base e size v n xs) (hu:aa S w w') (hne:∀k,v.ownBlock=some k->k∉S):w'.ownsRow base e size v n xs:=by
 refine ⟨h.1,?_⟩;rcases h.2 with hn|⟨g,cap,cur,rfl,hb,hg,rest⟩
 ·exact Α hn
 ·have hlt:=h.lt g rfl;exact Β ⟨g,cap,cur,rfl,hb,by rw [hu.block g hlt.2 (hne g rfl)];exact hg,rest⟩
theorem aa.own {w0 w w':World} {S:List Nat} {base size n:Nat} {e:TypeId} {v:Value} {xs:List Value} (h:aa S w0 w) (ho:w.ownsRow base e size v n xs) (hb:w0.heap.size<=base) (hu:aa v.ownBlock.toList w w'):aa S w0 w':=
 h.joined hu (fun x hx=>Β (Χ hb (ho.lt x (by simpa using hx)).1))
theorem fQ {w:World} {base size n:Nat} {e:TypeId} {v:Value} {xs:List Value} (h:w.ownsRow base e size v n xs) (hn:0<n) :
  ∃g cap,v=.slice (some ⟨g,0,none⟩) n cap/\base<=g/\g<w.heap.size/\n<=cap/\cap<=9223372036854775807/\(∀j u,xs[j]?=some u->w.cell? ⟨g,j,none⟩=some u)/\∀j,w.frozen? ⟨g,j,none⟩=false:=by
 rcases h.2 with ⟨_,h0⟩|⟨g,cap,cur,rfl,hb,hg,hnc,hcm,_⟩
 ·omega
 ·refine ⟨g,cap,rfl,hb,(h.lt g rfl).2,hnc,by unfold maxLen at hcm;exact hcm,fun j u hj=>?_,fun j=>h.frozenAt j⟩;have hlt:j<xs.length:=by
   rcases ϗ j xs.length with h'|h'
   ·exact h'
   ·rw [List.getElem?_eq_none h'] at hj;cases hj
  rw [h.cellAt j (by rw [←h.1];exact hlt)];exact hj
theorem mQ (W:World) (xs:List Value) (e:TypeId) (base size n:Nat) (hl:xs.length=n*size) (hb:base<=W.heap.size) (hn:n<=maxLen) :
  (W.alloc (.cells xs.toArray e)).ownsRow base e size (.slice (some ⟨W.heap.size,0,none⟩) n n) n xs:=by
 refine ⟨hl,Β ⟨W.heap.size,n,xs.toArray,rfl,hb,?_,Θ _,hn,by simpa using hl,?_⟩⟩
 ·show (W.heap.push _)[W.heap.size]?=_;simp
 ·rw [←hl];simp
theorem aV {w:World} {base size n:Nat} {e:TypeId} {v:Value} {xs:List Value} (h:w.ownsRow base e size v n xs):∃a cap,v=.slice a n cap/\cap<=9223372036854775807:=by
 rcases h.2 with ⟨rfl,rfl⟩|⟨g,cap,cur,rfl,_,_,_,hc,_⟩
 ·exact ⟨none,0,rfl,ω⟩
 ·exact ⟨_,cap,rfl,by unfold maxLen at hc;exact hc⟩
def aI (w:World) (b:Nat) (e:TypeId) (m:Nat) (f:Nat->Value):Prop:=
 ∃arr:Array Value,w.heap[b]?=some (.cells arr e (0,0))/\arr.size=m/\∀j,j<m->arr[j]?=some (f j)
theorem aI.lt {w:World} {b m:Nat} {e:TypeId} {f:Nat->Value} (h:aI w b e m f):b<w.heap.size:=by
 obtain ⟨arr,h1,_⟩:=h;rcases ϗ b w.heap.size with h'|h'
 ·exact h'
 ·rw [Array.getElem?_eq_none h'] at h1;cases h1
theorem aI.cell {w:World} {b m:Nat} {e:TypeId} {f:Nat->Value} (h:aI w b e m f) (j:Nat) (hj:j<m):w.cell? ⟨b,j,none⟩=some (f j):=by
 obtain ⟨arr,h1,h2,h3⟩:=h;unfold World.cell?;simp only [h1];simpa using h3 j hj
theorem aI.cellAt {w:World} {b m:Nat} {e:TypeId} {f:Nat->Value} {v:Value} (h:aI w b e m f) (j:Nat) (hj:j<m) (hv:f j=v):w.cell? ⟨b,j,none⟩=some v:=by rw [←hv];exact h.cell j hj
theorem aI.free {w:World} {b m:Nat} {e:TypeId} {f:Nat->Value} (h:aI w b e m f) (j:Nat):w.frozen? ⟨b,j,none⟩=false:=by
 obtain ⟨arr,h1,h2,h3⟩:=h;simp [World.frozen?,h1]
theorem aI.same {w w':World} {b m:Nat} {e:TypeId} {f:Nat->Value} (h:aI w b e m f) (hb:w'.heap[b]?=w.heap[b]?):aI w' b e m f:=by
 obtain ⟨arr,h1,h2,h3⟩:=h;exact ⟨arr,hb.trans h1,h2,h3⟩
theorem aI.upd {w w':World} {S:List Nat} {b m:Nat} {e:TypeId} {f:Nat->Value} (h:aI w b e m f) (hu:aa S w w') (hn:b∉S):aI w' b e m f:=h.same (hu.block b h.lt hn)
theorem aI.ext {w:World} {b m:Nat} {e:TypeId} {f g:Nat->Value} (h:aI w b e m f) (hg:∀j,j<m->f j=g j):aI w b e m g:=by
 obtain ⟨arr,h1,h2,h3⟩:=h;exact ⟨arr,h1,h2,fun j hj=>by rw [h3 j hj,hg j hj]⟩
theorem aI.set {w:World} {b m:Nat} {e:TypeId} {f:Nat->Value} (h:aI w b e m f) (j:Nat) (v:Value) :
  aI (w.setCell ⟨b,j,none⟩ v) b e m (fun i=>if i=j then v else f i):=by
 obtain ⟨arr,h1,h2,h3⟩:=h;refine ⟨arr.setIfInBounds j v,?_,by simp [h2],fun i hi=>?_⟩
 ·simp [World.setCell,Array.getElem?_modify,h1]
 ·rw [Array.getElem?_setIfInBounds]
  by_cases hij:j=i
  ·subst hij;simp [h2,hi]
  ·rw [Γ hij];show _=some (if i=j then v else f i);rw [Γ (fun e=>hij e.symm)];exact h3 i hi
theorem aI.far {w:World} {b m:Nat} {e:TypeId} {f:Nat->Value} (h:aI w b e m f) (a:Addr) (v:Value) (hn:b≠a.block):aI (w.setCell a v) b e m f:=
 h.same (Below.heap_setCell _ _ _ _ hn)
theorem aI.drew {w:World} {b m:Nat} {e:TypeId} {f:Nat->Value} (h:aI w b e m f):aI w.drew b e m f:=h
theorem aI.alloc {w:World} {b m:Nat} {e:TypeId} {f:Nat->Value} (h:aI w b e m f) (o:Obj):aI (w.alloc o) b e m f:=h.same (Below.heap_alloc _ _ _ h.lt)
theorem dH (w:World) (l:List Value) (e:TypeId):aI (w.alloc (.cells l.toArray e)) w.heap.size e l.length (fun j=>l.getD j undef):=by
 refine ⟨l.toArray,?_,σ,fun j hj=>?_⟩
 ·show (w.heap.push _)[w.heap.size]?=_;simp
 ·simp [hj,φ]
theorem JL {w:World} {base size n cap g:Nat} {e:TypeId} {xs:List Value} (h:w.ownsRow base e size (.slice (some ⟨g,0,none⟩) n cap) n xs) (hcap:cap=n) (hn:n=0->xs=[]) :
  aI w g e (n*size) (fun j=>xs.getD j undef):=by
 subst hcap;rcases h.2 with ⟨h1,h0⟩|⟨g',cap',cur,h1,_,hg,_,_,hs,ht⟩
 ·cases h1
 ·simp only [Value.slice.injEq,Ϙ,Addr.mk.injEq,and_true,true_and] at h1;obtain ⟨rfl,rfl⟩:=h1;refine ⟨cur,hg,hs,fun j hj=>?_⟩;have e1:cur.toList=xs:=by rw [←ht,List.take_of_length_le (by simp [hs])]
  rw [←e1];have hj':j<cur.toList.length:=by simp [hs];exact hj
  simp [φ];rw [Array.getElem?_eq_getElem (by simpa using hj')];rfl
theorem wpList_make_row {P:Program} {w:World} {ops:Array Oper} {rest:List Oper} {o:Oper} {a:Act} {Q:Exit->Act->World->Prop}
  (hg:o.guard=none) (l:Operand) (t:TypeId) (hop:o.op=Op.makeSlice t l l) (e:TypeId) (z:Value) (size bytes:Nat) (h1:P.underlying t=some (.slice e))
  (hinfo:(P.info? e).map (fun i=>(i.zero,i.size,i.bytes))=some (some z,size,bytes)) (n:Nat) (hl:a.eval l=.int .i64 (n:Int)) (b2:bytes*n<=281474976710656) (b3:n<=maxLen)
  (hK:∀w',aI w' w.heap.size e (n*size) (fun j=>(madeCells z.cells (n*size)).toList.getD j undef)->aa [] w w'->wpList P ops Q rest (a.put o.dst (.slice (some ⟨w.heap.size,0,none⟩) n n)) w') :
  wpList P ops Q (o::rest) a w:=by
 obtain ⟨i,hi,hz0,hz1,hz2⟩:=info_parts hinfo
 exact wpList_make_full w hg l l t hop w.heap.size e i z size h1 hi hz0 hz1 .i64 .i64 n n n hl hl rfl rfl (by rw [hz2];exact b2) b3 (Θ _) (fun w' ho hgr=>
  hK w' (JL ho rfl (fun h0=>ϛ (by rw [ho.1,h0,Nat.zero_mul]))) ((aa.refl [] w).grown hgr (fun k hk=>by cases hk)))
def iX (w:World) (lo:Nat) (v:Value) (n:Nat) (xs:List Value):Prop:=
 (v=.slice none 0 0/\n=0/\xs=[])\/
 ∃g cap,v=.slice (some ⟨g,0,none⟩) n cap/\n<=cap/\cap<=9223372036854775807/\lo<=g/\g<w.heap.size/\∀j u,xs[j]?=some u->w.cell? ⟨g,j,none⟩=some u
theorem iX.open {w:World} {lo n:Nat} {v:Value} {xs:List Value} (h:iX w lo v n xs) :
  ∃a cap,v=.slice a n cap/\cap<=9223372036854775807/\n<=cap/\(0<n->∃g,a=some ⟨g,0,none⟩/\lo<=g/\g<w.heap.size/\∀j u,xs[j]?=some u->w.cell? ⟨g,j,none⟩=some u):=by
 rcases h with ⟨rfl,rfl,rfl⟩|⟨g,cap,rfl,h1,h2,h3⟩
 ·exact ⟨none,0,rfl,ω,ω,fun h=>ω⟩
 ·exact ⟨_,cap,rfl,h2,h1,fun _=>⟨g,rfl,h3⟩⟩
theorem iX.uj {w:World} {base size n:Nat} {e:TypeId} {v:Value} {xs:List Value} (h:w.ownsRow base e size v n xs):iX w base v n xs:=by
 rcases h.2 with ⟨rfl,rfl⟩|⟨g,cap,cur,rfl,hb,hg,hn,hc,_⟩
 ·exact Α ⟨rfl,rfl,ϛ (by rw [h.1,Nat.zero_mul])⟩
 ·refine Β ⟨g,cap,rfl,hn,by unfold maxLen at hc;exact hc,hb,(h.lt g rfl).2,fun j u hj=>?_⟩;have hlt:j<xs.length:=by
   rcases ϗ j xs.length with h'|h'
   ·exact h'
   ·rw [List.getElem?_eq_none h'] at hj;cases hj
  rw [h.cellAt j (by rw [←h.1];exact hlt)];exact hj
theorem iX.upd {w w':World} {S:List Nat} {lo n:Nat} {v:Value} {xs:List Value} (h:iX w lo v n xs) (hu:aa S w w') (hS:∀k,k∈S->k<lo\/w.heap.size<=k):iX w' lo v n xs:=by
 rcases h with h|⟨g,cap,rfl,h1,h2,h3,h4,h5⟩
 ·exact Α h
 ·exact Β ⟨g,cap,rfl,h1,h2,h3,Ψ h4 hu.size,fun j u hj=>by rw [hu.cell h4 (fun hm=>by rcases hS _ hm with h'|h'<;>simp at *<;>omega)];exact h5 j u hj⟩
theorem iX.mono {w:World} {lo lo' n:Nat} {v:Value} {xs:List Value} (h:iX w lo v n xs) (hl:lo'<=lo):iX w lo' v n xs:=by
 rcases h with h|⟨g,cap,rfl,h1,h2,h3,h4⟩
 ·exact Α h
 ·exact Β ⟨g,cap,rfl,h1,h2,Χ hl h3,h4⟩
theorem BA {P:Program} {o:Oper} {a:Act} {w:World} {K:Act->World->Prop} {Q:Exit->Act->World->Prop} (s x:Operand) (t:TypeId)
  (ho:o.op=.call { callee:=.builtin .append,args:=#[s,x],argTypes:=#[t,t] })
  (base:Nat) (e:TypeId) (z:Value) (size bytes:Nat) (ht:P.underlying t=some (.slice e)) (hinfo:(P.info? e).map (fun i=>(i.zero,i.size,i.bytes))=some (some z,size,bytes))
  (hzs:z.cells.size=size) (hsz:0<size) (v:Value) (n:Nat) (xs:List Value) (hs:a.eval s=v) (hown:w.ownsRow base e size v n xs)
  (lo m:Nat) (news:List Value) (v2:Value) (hx:a.eval x=v2) (hl:iX w lo v2 m news) (hlen:news.length=m*size) (h1:∀u∈news,u.oneCell'=true)
  (hn:n+m<=maxLen) (hbytes:(n+m)*bytes<=140737488355328) (hbase:base<=w.heap.size)
  (h:∀v' w',w'.ownsRow base e size v' (n+m) (xs++news)->aa v.ownBlock.toList w w'->K (a.put o.dst v') w'):o.wp P a w K Q:=by
 obtain ⟨i,hi,hz0,hz1,hz2⟩:=info_parts hinfo;rcases hl with ⟨rfl,rfl,rfl⟩|⟨g,cap,rfl,h2,h3,h4,h5,h6⟩
 ·have hrun:=run_append_owned_none (P:=P) (w:=w) base t o.type e i size ht hi v n xs hown;unfold Oper.wp;simp [execOp,ho,resolve,invoke,builtin,hs,hx,hrun,Result.andThen];exact h v w (by simpa using hown) (aa.refl _ _)
 ·refine wp_append_own w s x t ho base e i z size bytes ht hi hz0 hz1 hz2 hzs hsz v n xs hs hown ⟨g,0,none⟩ m cap news hx hlen (fun j u hj=>?_) h1 hn hbytes hbase (fun v' w' h1 h2 _=>h v' w' h1 ((aa.refl _ _).grown h2 (fun k hk=>Α (by simp [hk]))));have e1:((⟨g,0,none⟩:Addr).add j)=⟨g,j,none⟩:=by
   unfold Addr.add;split
   ·subst_vars;rfl
   ·simp
  rw [e1];exact h6 j u hj
theorem vY {P:Program} {ops:Array Oper} {rest:List Oper} {o:Oper} {a:Act} {w:World} {Q:Exit->Act->World->Prop} (hgd:o.guard=none) (s x:Operand) (t:TypeId)
  (ho:o.op=.call { callee:=.builtin .append,args:=#[s,x],argTypes:=#[t,t] })
  (base:Nat) (e:TypeId) (z:Value) (size bytes:Nat) (ht:P.underlying t=some (.slice e)) (hinfo:(P.info? e).map (fun i=>(i.zero,i.size,i.bytes))=some (some z,size,bytes))
  (hzs:z.cells.size=size) (hsz:0<size) (v:Value) (n:Nat) (xs:List Value) (hs:a.eval s=v) (hown:w.ownsRow base e size v n xs)
  (lo m:Nat) (news:List Value) (v2:Value) (hx:a.eval x=v2) (hl:iX w lo v2 m news) (hlen:news.length=m*size) (h1:∀u∈news,u.oneCell'=true)
  (hn:n+m<=maxLen) (hbytes:(n+m)*bytes<=140737488355328) (hbase:base<=w.heap.size)
  (h:∀v' w',w'.ownsRow base e size v' (n+m) (xs++news)->aa v.ownBlock.toList w w'->wpList P ops Q rest (a.put o.dst v') w'):wpList P ops Q (o::rest) a w:=
 wpList_plain hgd fun _ hK=>BA s x t ho base e z size bytes ht hinfo hzs hsz v n xs hs hown lo m news v2 hx hl hlen h1 hn hbytes hbase fun v' w' h2 h3=>hK _ _ (h v' w' h2 h3)
def cv (w:World) (a:Addr):Value:=(w.cell? a).getD undef
theorem xD (g j:Nat):((⟨g,0,none⟩:Addr).add j)=⟨g,j,none⟩:=by
 unfold Addr.add;split
 ·subst_vars;rfl
 ·simp
theorem lY (W:World) (us:List Value) (e:TypeId) (j:Nat) (u:Value) (hj:us[j]?=some u):(W.alloc (.cells us.toArray e)).cell? ⟨W.heap.size,j,none⟩=some u:=by
 rw [←xD];exact Lc W us e j u hj
theorem BU {P:Program} {o:Oper} {a:Act} {w:World} {K:Act->World->Prop} {Q:Exit->Act->World->Prop} (s x:Operand) (t:TypeId)
  (ho:o.op=.call { callee:=.builtin .append,args:=#[s,x],argTypes:=#[t,t] })
  (base:Nat) (e:TypeId) (z:Value) (size bytes:Nat) (ht:P.underlying t=some (.slice e)) (hinfo:(P.info? e).map (fun i=>(i.zero,i.size,i.bytes))=some (some z,size,bytes))
  (hzs:z.cells.size=size) (hsz:0<size) (v:Value) (n:Nat) (xs:List Value) (hs:a.eval s=v) (hown:w.ownsRow base e size v n xs)
  (g:Nat) (news:List Value) (hx:a.eval x=.slice (some ⟨g,0,none⟩) 1 1) (hl:news.length=size) (hnews:∀j u,news[j]?=some u->w.cell? ⟨g,j,none⟩=some u) (h1:∀u∈news,u.oneCell'=true)
  (hn:n+1<=maxLen) (hbytes:(n+1)*bytes<=140737488355328) (hbase:base<=w.heap.size)
  (h:∀v' w',w'.ownsRow base e size v' (n+1) (xs++news)->aa v.ownBlock.toList w w'->(v'.ownBlock=v.ownBlock\/v'.ownBlock=some w.heap.size)->K (a.put o.dst v') w'):Oper.wp P o a w K Q:=by
 obtain ⟨i,hi,hz0,hz1,hz2⟩:=info_parts hinfo;obtain ⟨v',w',hr,h2,h3,_,h5⟩:=run_append_own_at (P:=P) w base t o.type e i z size bytes ht hi hz0 hz1 hz2 hzs hsz v n xs hown ⟨g,0,none⟩ 1 1 news (by rw [hl,Nat.one_mul]) (fun j u hj=>by rw [xD];exact hnews j u hj) h1 hn hbytes hbase;unfold Oper.wp execOp;simp only [ho,resolve,invoke,builtin,Sem.run_bind,Sem.run_pure,Result.andThen_ok,List.map_toArray,List.map_cons,List.map_nil,hs,hx,hr];exact h _ _ h2 ((aa.refl _ _).grown h3 (fun k hk=>Α (by simp [hk]))) h5
theorem jM {P:Program} {ops:Array Oper} {o:Oper} {a:Act} {w:World} {K:Act->World->Prop} {Q:Exit->Act->World->Prop} {E:Prop} (hgd:o.guard=none) (s x:Operand) (t:TypeId)
  (ho:o.op=.call { callee:=.builtin .append,args:=#[s,x],argTypes:=#[t,t] })
  (base:Nat) (e:TypeId) (z:Value) (size bytes:Nat) (ht:P.underlying t=some (.slice e)) (hinfo:(P.info? e).map (fun i=>(i.zero,i.size,i.bytes))=some (some z,size,bytes))
  (hzs:z.cells.size=size) (hsz:0<size) (v:Value) (n:Nat) (xs:List Value) (hs:a.eval s=v) (hown:w.ownsRow base e size v n xs)
  (g:Nat) (news:List Value) (hx:a.eval x=.slice (some ⟨g,0,none⟩) 1 1) (hl:news.length=size) (hnews:∀j u,news[j]?=some u->w.cell? ⟨g,j,none⟩=some u) (h1:∀u∈news,u.oneCell'=true)
  (hn:n+1<=maxLen) (hbytes:(n+1)*bytes<=140737488355328) (hbase:base<=w.heap.size)
  (h:∀v' w',w'.ownsRow base e size v' (n+1) (xs++news)->aa v.ownBlock.toList w w'->(v'.ownBlock=v.ownBlock\/v'.ownBlock=some w.heap.size)->K (a.put o.dst v') w') :
  if Region.wanted o (yielded ops a.tmps)=true then Oper.wp P o a w K Q else E:=by
 have hw:Region.wanted o (yielded ops a.tmps)=true:=by simp [Region.wanted,hgd]
 rw [Δ hw];exact BU s x t ho base e z size bytes ht hinfo hzs hsz v n xs hs hown g news hx hl hnews h1 hn hbytes hbase h
theorem dQ:(Tryz.prog.info? 3).map (fun i=>(i.zero,i.size,i.bytes))=some (some (.int .i64 0),1,8):=by kernel_rfl
def aF (l:List Int):List Value:=l.map (fun x=>Value.int .i64 x)
theorem bG (a b:List Int):aF (a++b)=aF a++aF b:=by unfold aF;rw [List.map_append]
theorem dA (a:List Int):(aF a).length=a.length:=by unfold aF;simp
theorem x9 (l:List Int):∀u∈aF l,u.oneCell'=true:=by
 intro u hu;unfold aF at hu;simp only [List.mem_map] at hu;obtain ⟨x,_,rfl⟩:=hu;rfl
theorem lK {l:List Int} {j:Nat} (hj:j<l.length):(aF l)[j]?=some (.int .i64 (l.getD j 0)):=by unfold aF;simp [φ,hj]
theorem QS {X:World} {us:List Value} {e:TypeId} {g:Nat} (hg:g=X.heap.size) (j:Nat) {u:Value} (hj:us[j]?=some u):(X.alloc (.cells us.toArray e)).cell? ⟨g,j,none⟩=some u:=by
 subst hg;exact lY X us e j u hj
theorem Dc {X:World} {us:List Value} {e:TypeId} {g:Nat} (hg:g=X.heap.size) (j:Nat) {u:Value} (hj:us[j]?=some u):((X.alloc (.cells us.toArray e)).drew).cell? ⟨g,j,none⟩=some u:=QS hg j hj
structure IZ (w:World) (g cap:Nat) (l:List Int):Prop where
 own:w.ownsRow 0 3 1 (.slice (some ⟨g,0,none⟩) l.length cap) l.length (aF l)
theorem IZ.lt {w:World} {g cap:Nat} {l:List Int} (h:IZ w g cap l):g<w.heap.size:=(h.own.lt g rfl).2
theorem IZ.cap {w:World} {g cap:Nat} {l:List Int} (h:IZ w g cap l):l.length<=cap/\cap<=9223372036854775807:=by
 rcases h.own.2 with ⟨h1,_⟩|⟨g',cap',cur,h1,_,_,h2,h3,_⟩
 ·cases h1
 ·cases h1;unfold maxLen at h3;exact ⟨h2,h3⟩
theorem IZ.cell {w:World} {g cap:Nat} {l:List Int} (h:IZ w g cap l) (j:Nat) (hj:j<l.length):w.cell? ⟨g,j,none⟩=some (.int .i64 (l.getD j 0)):=by
 rw [h.own.cellAt j ω];exact lK hj
theorem IZ.free {w:World} {g cap:Nat} {l:List Int} (h:IZ w g cap l) (j:Nat):w.frozen? ⟨g,j,none⟩=false:=h.own.frozenAt j
theorem IZ.upd {w w':World} {S:List Nat} {g cap:Nat} {l:List Int} (h:IZ w g cap l) (hu:aa S w w') (hn:g∉S):IZ w' g cap l:=
 ⟨ay h.own hu (fun k hk=>by cases hk;exact hn)⟩
theorem IZ.drewN {w:World} {g cap:Nat} {l:List Int} (h:IZ w g cap l) (n:Nat):IZ (w.drewN n) g cap l:=h.upd ((aa.refl [] w).drewN n) σ
theorem IZ.set {w:World} {g cap:Nat} {l:List Int} (h:IZ w g cap l) (j:Nat) (x:Int):IZ (w.setCell ⟨g,j,none⟩ (.int .i64 x)) g cap (l.set j x):=by
 rcases h.own.2 with ⟨h1,_⟩|⟨g',cap',cur,h1,hb,hg,hn,hc,hs,ht⟩
 ·cases h1
 ·cases h1;refine ⟨⟨by rw [dA];omega,Β ⟨g,cap,cur.setIfInBounds j (.int .i64 x),by rw [Ι],ω,?_,by rw [Ι];exact hn,hc,ζ,?_⟩⟩⟩
  ·simp [World.setCell,Array.getElem?_modify,hg]
  ·rw [Ι,Array.toList_setIfInBounds]
   by_cases hj:j<l.length
   ·rw [List.take_set,ht];unfold aF;rw [List.map_set]
   ·rw [List.take_set_of_le ω,ht,List.set_eq_of_length_le ω]
theorem IZ.lit (w:World) (l:List Int) (hl:l.length<=1000000):IZ (w.alloc (.cells (aF l).toArray 3)) w.heap.size l.length l:=
 ⟨mQ w (aF l) 3 0 1 l.length (by rw [dA];omega) ω μ⟩
theorem IZ.iJ {w:World} {base:Nat} {v:Value} {l:List Int} (h:w.ownsRow base 3 1 v l.length (aF l)) (hl:0<l.length):∃g cap,v=.slice (some ⟨g,0,none⟩) l.length cap/\IZ w g cap l/\base<=g:=by
 obtain ⟨g,cap,rfl,hb,_⟩:=fQ h hl;exact ⟨g,cap,rfl,⟨jE h ω⟩,hb⟩
def fw (w:World) (F:List Nat) (v:Value) (xs:List Int):Prop:=
 ∃a cap,v=.slice a xs.length cap/\xs.length<=cap/\cap<=9223372036854775807/\∀j u,xs[j]?=some u->∃g off,a=some ⟨g,off,none⟩/\g<w.heap.size/\g∉F/\w.cell? ⟨g,off+j,none⟩=some (.int .i64 u)
theorem fw.fresh {w w':World} {F F':List Nat} {v:Value} {xs:List Int} (h:fw w F v xs) (hu:aa F w w') (hF:∀g,g∈F'->g∈F\/w.heap.size<=g):fw w' F' v xs:=by
 obtain ⟨a,cap,rfl,h1,h2,h3⟩:=h;refine ⟨a,cap,rfl,h1,h2,fun j u hj=>?_⟩;obtain ⟨g,off,rfl,hg,hn,hc⟩:=h3 j u hj;exact ⟨g,off,rfl,Ψ hg hu.size,fun hm=>by rcases hF g hm with h'|h';exact hn h';omega,by rw [hu.cell hg hn];exact hc⟩
theorem fw.iJ {w:World} {base:Nat} {v:Value} {xs:List Int} {F:List Nat} (h:w.ownsRow base 3 1 v xs.length (aF xs)) (hF:∀g,g∈F->g<base):fw w F v xs:=by
 rcases h.2 with ⟨rfl,h0⟩|⟨g,cap,cur,rfl,hb,hg,hn,hc,_⟩
 ·have:xs=[]:=ϛ h0;subst this;exact ⟨none,0,rfl,σ,ω,fun j u hj=>by simp at hj⟩
 ·refine ⟨_,cap,rfl,hn,by unfold maxLen at hc;exact hc,fun j u hj=>⟨g,0,rfl,(h.lt g rfl).2,fun hm=>by have:=hF g hm;omega,?_⟩⟩;have hjl:=(List.getElem?_eq_some_iff.1 hj).1;rw [ϕ,h.cellAt j ω,lK hjl];simp [φ,hj]
def wS (a b:Int):Int:=if a<b then -1 else if b<a then 1 else 0
def Bq (k1 s1 k2 s2:Int):Int:=if k1=k2 then wS s1 s2 else wS k1 k2
theorem Oj (k1 s1 k2 s2:Int):decide (Bq k1 s1 k2 s2<0)=Cf k1 s1 k2 s2:=by
 unfold Bq Cf wS
 split
 ·rw [decide_eq_decide];split;omega;split<;>omega
 ·rw [decide_eq_decide];split;omega;split<;>omega
theorem Ri (x:Int) (w:World):Calls Tryz.prog 85 #[.int .i64 x] w fun e w'=>e=.returned (.bool false)/\w'=w:=by
 have h:(x != x)=false:=σ
 go_enter Tryz.func85,Tryz.ntmps85
 go_wp2;go_ret;exact ⟨rfl,rfl⟩
theorem QE (x:Int) (w:World):Calls Tryz.prog 173 #[.int .u64 x] w fun e w'=>e=.returned (.bool false)/\w'=w:=by
 have h:(x != x)=false:=σ
 go_enter Tryz.func173,Tryz.ntmps173
 go_wp2;go_ret;exact ⟨rfl,rfl⟩
theorem Ue (a b:Int) (w:World):Calls Tryz.prog 170 #[.int .i64 a,.int .i64 b] w fun e w'=>e=.returned (.int .i64 (wS a b))/\w'=w:=by
 have k:=fun x=>Ri x w;unfold wS
 by_cases h1:a<b
 ·go_enter Tryz.func170,Tryz.ntmps170
  go_wp2_with ((go_at_call 85;(with_reducible refine ((k _)).mono ?_);rintro e w9 ⟨rfl,aG⟩;rw [aG];clear aG w9))
  go_ret;exact ⟨by first|rfl|(refine jL ?_;simp;try omega),rfl⟩
 ·by_cases h2:b<a
  ·go_enter Tryz.func170,Tryz.ntmps170
   go_wp2_with ((go_at_call 85;(with_reducible refine ((k _)).mono ?_);rintro e w9 ⟨rfl,aG⟩;rw [aG];clear aG w9))
   go_ret;exact ⟨by first|rfl|(refine jL ?_;simp;try omega),rfl⟩
  ·have e:a=b:=ω;subst e;clear h1 h2
   go_enter Tryz.func170,Tryz.ntmps170
   go_wp2_with ((go_at_call 85;(with_reducible refine ((k _)).mono ?_);rintro e w9 ⟨rfl,aG⟩;rw [aG];clear aG w9))
   go_ret;exact ⟨by first|rfl|(refine jL ?_;simp;try omega),rfl⟩
theorem QH (a b:Int) (w:World):Calls Tryz.prog 171 #[.int .u64 a,.int .u64 b] w fun e w'=>e=.returned (.int .i64 (wS a b))/\w'=w:=by
 have k:=fun x=>QE x w;unfold wS
 by_cases h1:a<b
 ·go_enter Tryz.func171,Tryz.ntmps171
  go_wp2_with ((go_at_call 173;(with_reducible refine ((k _)).mono ?_);rintro e w9 ⟨rfl,aG⟩;rw [aG];clear aG w9))
  go_ret;exact ⟨by first|rfl|(refine jL ?_;simp;try omega),rfl⟩
 ·by_cases h2:b<a
  ·go_enter Tryz.func171,Tryz.ntmps171
   go_wp2_with ((go_at_call 173;(with_reducible refine ((k _)).mono ?_);rintro e w9 ⟨rfl,aG⟩;rw [aG];clear aG w9))
   go_ret;exact ⟨by first|rfl|(refine jL ?_;simp;try omega),rfl⟩
  ·have e:a=b:=ω;subst e;clear h1 h2
   go_enter Tryz.func171,Tryz.ntmps171
   go_wp2_with ((go_at_call 173;(with_reducible refine ((k _)).mono ?_);rintro e w9 ⟨rfl,aG⟩;rw [aG];clear aG w9))
   go_ret;exact ⟨by first|rfl|(refine jL ?_;simp;try omega),rfl⟩
def orZ (a b:Int):Int:=if a=0 then b else a
theorem YU (g:Nat) (a b:Int) (w:World) (c0:w.cell? ⟨g,0,none⟩=some (.int .i64 a)) (c1:w.cell? ⟨g,1,none⟩=some (.int .i64 b)) :
  Calls Tryz.prog 169 #[.slice (some ⟨g,0,none⟩) 2 2] w fun e w'=>e=.returned (.int .i64 (orZ a b))/\w'=w:=by
 unfold orZ
 by_cases ha:a=0
 ·subst ha
  by_cases hb:b=0
  ·subst hb
   go_enter Tryz.func169,Tryz.ntmps169
   go_wp2;refine wp_loop_rounds 3 ?_;rw [rounds_succ];go_wp2
   all_goals try (rw [rounds_succ];go_wp2)
   all_goals try (rw [rounds_succ];go_wp2)
   go_ret;exact ⟨σ,rfl⟩
  ·have hb':(b != 0)=true:=by simpa using hb
   go_enter Tryz.func169,Tryz.ntmps169
   go_wp2;refine wp_loop_rounds 3 ?_;rw [rounds_succ];go_wp2
   all_goals try (rw [rounds_succ];go_wp2)
   all_goals try (rw [rounds_succ];go_wp2)
   go_ret;exact ⟨σ,rfl⟩
 ·have ha':(a != 0)=true:=by simpa using ha
  have HA:=χ ha;clear ha
  go_enter Tryz.func169,Tryz.ntmps169
  go_wp2;refine wp_loop_rounds 3 ?_;rw [rounds_succ];go_wp2
  all_goals try (rw [rounds_succ];go_wp2)
  all_goals try (rw [rounds_succ];go_wp2)
  go_ret;exact ⟨by first|rfl|rw [Γ HA.out],rfl⟩
theorem Ww (k1 s1 k2 s2:Int):orZ (wS k1 k2) (wS s1 s2)=Bq k1 s1 k2 s2:=by
 unfold orZ Bq
 by_cases h:k1=k2
 ·subst h;simp [wS]
 ·rw [Γ h,Γ];unfold wS;split;omega;split<;>omega
theorem yo (k1 s1 k2 s2:Int) (w:World):Calls Tryz.prog 164 #[.agg #[.int .i64 k1,.int .u64 s1],.agg #[.int .i64 k2,.int .u64 s2]] w fun e w'=>e=.returned (.int .i64 (Bq k1 s1 k2 s2))/\aa [] w w':=by
 rw [←Ww];have ka:=fun W=>Ue k1 k2 W;have kb:=fun W=>QH s1 s2 W;generalize wS k1 k2=za at *;generalize wS s1 s2=zb at *;have r0:∀W,aa [] ((w.alloc (.cells #[.int .i64 k1,.int .u64 s1] 129)).alloc (.cells #[.int .i64 k2,.int .u64 s2] 129)) W->W.cell? ⟨w.heap.size,0,none⟩=some (.int .i64 k1):=fun W h=>h.was σ;have r1:∀W,aa [] ((w.alloc (.cells #[.int .i64 k1,.int .u64 s1] 129)).alloc (.cells #[.int .i64 k2,.int .u64 s2] 129)) W->W.cell? ⟨w.heap.size,1,none⟩=some (.int .u64 s1):=fun W h=>h.was σ
 have r2:∀W,aa [] ((w.alloc (.cells #[.int .i64 k1,.int .u64 s1] 129)).alloc (.cells #[.int .i64 k2,.int .u64 s2] 129)) W->W.cell? ⟨w.heap.size+1,0,none⟩=some (.int .i64 k2):=fun W h=>h.was σ;have r3:∀W,aa [] ((w.alloc (.cells #[.int .i64 k1,.int .u64 s1] 129)).alloc (.cells #[.int .i64 k2,.int .u64 s2] 129)) W->W.cell? ⟨w.heap.size+1,1,none⟩=some (.int .u64 s2):=fun W h=>h.was σ
 go_enter Tryz.func164,Tryz.ntmps164
 go_wp2
 go_region_held3 (aa [] ((w.alloc (.cells #[.int .i64 k1,.int .u64 s1] 129)).alloc (.cells #[.int .i64 k2,.int .u64 s2] 129))) (exact η)
  (first
   | (go_at_call 170;(with_reducible refine (ka _).mono ?_);rintro e w9 ⟨rfl,aG⟩;rw [aG];clear aG w9)
   | (go_at_call 171;(with_reducible refine (kb _).mono ?_);rintro e w9 ⟨rfl,aG⟩;rw [aG];clear aG w9)
   | (go_at_call 169;(with_reducible refine (YU _ za zb _ (Dc σ 0 rfl) (Dc σ 1 rfl)).mono ?_);rintro e w9 ⟨rfl,aG⟩;rw [aG];clear aG w9))
 go_wp2;go_ret;exact ⟨rfl,ξ⟩
theorem PD (k1 s1 k2 s2:Int) (w:World):Calls Tryz.prog 158 #[.agg #[.int .i64 k1,.int .u64 s1],.agg #[.int .i64 k2,.int .u64 s2]] w fun e w'=>e=.returned (.bool (Cf k1 s1 k2 s2))/\aa [] w w':=by
 rw [←Oj];have k:=fun W=>yo k1 s1 k2 s2 W;generalize Bq k1 s1 k2 s2=z at *
 go_enter Tryz.func158,Tryz.ntmps158
 go_wp2_with (go_at_call 164;(with_reducible refine (k _).mono ?_);rintro e w' ⟨rfl,hu⟩)
 all_goals
  go_ret;exact ⟨aO (by first|rfl|simp|(simp;omega)),((aa.refl _ _).alloc _ |>.alloc _).trans hu⟩
structure ry (l:List Int) (rt dp:Nat->Nat):Prop where
 len:1<=l.length
 RX:l.length<=65537
 wK:∀i,1<=i->i<l.length->1<=l.getD i 0/\l.getD i 0<l.length
 up:∀i,1<=i->i<l.length->rt (l.getD i 0).toNat=rt i
 top:∀i,1<=i->i<l.length->l.getD i 0=i->rt i=i
 low:∀i,1<=i->i<l.length->l.getD i 0≠i->dp (l.getD i 0).toNat<dp i
theorem ry.root {l:List Int} {rt dp:Nat->Nat} (h:ry l rt dp):∀ (d i:Nat),dp i<=d->1<=i->i<l.length->1<=rt i/\rt i<l.length/\l.getD (rt i) 0=rt i
 | d,i,hd,h1,h2=>by
  by_cases e:l.getD i 0=i
  ·rw [h.top i h1 h2 e];exact ⟨h1,h2,e⟩
  ·have hl:=h.low i h1 h2 e;have hr:=h.wK i h1 h2
   match d,hd with
   | 0,hd=>omega
   | d+1,hd=>
    have:=ry.root h d (l.getD i 0).toNat ω ω ω;rwa [h.up i h1 h2] at this
theorem ry.XI {l:List Int} {rt dp:Nat->Nat} (h:ry l rt dp) {i:Nat} (h1:1<=i) (h2:i<l.length):1<=rt i/\rt i<l.length/\l.getD (rt i) 0=rt i:=h.root (dp i) i (Θ _) h1 h2
theorem ry.Ua {l:List Int} {rt dp:Nat->Nat} (h:ry l rt dp) {i:Nat} (h1:1<=i) (h2:i<l.length):l.getD i 0=i↔rt i=i:=
 ⟨h.top i h1 h2,fun e=>by have:=h.XI h1 h2;rw [e] at this;exact this.2.2⟩
theorem Rq (l:List Int) (i:Nat) (x:Int) (j:Nat):(l.set i x).getD j 0=if j=i/\i<l.length then x else l.getD j 0:=by
 simp only [φ,ύ]
 by_cases h:i=j
 ·subst h
  by_cases hx:i<l.length
  ·simp [hx]
  ·simp [hx,List.getElem?_eq_none (Nat.le_of_not_lt hx)]
 ·rw [Γ h,Γ (fun e=>h e.1.symm)]
theorem ry.short {l:List Int} {rt dp:Nat->Nat} (h:ry l rt dp) {k:Nat} (h1:1<=k) (h2:k<l.length) (hk:l.getD k 0≠k):ry (l.set k (l.getD (l.getD k 0).toNat 0)) rt dp:=by
 have r1:=h.wK k h1 h2;obtain ⟨j,hj⟩:∃j:Nat,l.getD k 0=j:=⟨(l.getD k 0).toNat,ω⟩;have u1:=h.up k h1 h2;have d1:=h.low k h1 h2 hk;rw [hj] at r1 u1 d1 hk ⊢;simp only [π] at u1 d1 ⊢;have hjk:j≠k:=fun e=>hk (by rw [e]);have r2:=h.wK j ω ω;obtain ⟨q,hq⟩:∃q:Nat,l.getD j 0=q:=⟨(l.getD j 0).toNat,ω⟩;have u2:=h.up j ω ω;have d2:=h.low j ω ω;rw [hq] at r2 u2 d2 ⊢;simp only [π] at u2 d2;have d3:q≠j->dp q<dp j:=fun e=>d2 ω;clear d2;refine ⟨by simp;exact h.len,by simp;exact h.RX,fun i a b=>?_,fun i a b=>?_,fun i a b=>?_,fun i a b=>?_⟩
 all_goals
  rw [Ι] at b;rw [Rq]
 ·rw [Ι];split
  ·exact r2
  ·exact h.wK i a b
 ·split
  ·rename_i e;simp only [π];rw [u2,u1,e.1]
  ·exact h.up i a b
 ·split
  ·rename_i e
   intro he;have hqi:q=k:=by have:=e.1;omega
   by_cases e2:q=j
   ·exfalso;omega
   ·have:=d3 e2;rw [hqi] at this;omega
  ·exact h.top i a b
 ·split
  ·rename_i e
   intro he;simp only [π];rw [e.1]
   by_cases e2:q=j
   ·rw [e2];exact d1
   ·have:=d3 e2;omega
  ·exact h.low i a b
structure jS (w:World) (nm g cap:Nat) (l:List Int):Prop where
 head:∃c:Int,aI w nm 262 3 (fun j=>[Value.slice (some ⟨g,0,none⟩) l.length cap,.int .i64 65536,.int .i64 c].getD j undef)
 row:IZ w g cap l
 ne:nm≠g
theorem jS.upd {w w':World} {S:List Nat} {nm g cap:Nat} {l:List Int} (h:jS w nm g cap l) (hu:aa S w w') (h1:nm∉S) (h2:g∉S):jS w' nm g cap l:=by
 obtain ⟨c,h3⟩:=h.head;exact ⟨⟨c,h3.upd hu h1⟩,h.row.upd hu h2,h.ne⟩
theorem jS.c0 {w:World} {nm g cap:Nat} {l:List Int} (h:jS w nm g cap l):w.cell? ⟨nm,0,none⟩=some (.slice (some ⟨g,0,none⟩) l.length cap):=by obtain ⟨c,h⟩:=h.head;exact h.cellAt 0 ω rfl
theorem jS.c1 {w:World} {nm g cap:Nat} {l:List Int} (h:jS w nm g cap l):w.cell? ⟨nm,1,none⟩=some (.int .i64 65536):=by obtain ⟨c,h⟩:=h.head;exact h.cellAt 1 ω rfl
theorem jS.lt {w:World} {nm g cap:Nat} {l:List Int} (h:jS w nm g cap l):nm<w.heap.size/\g<w.heap.size:=by obtain ⟨c,h1⟩:=h.head;exact ⟨h1.lt,h.row.lt⟩
theorem jS.set {w:World} {nm g cap:Nat} {l:List Int} (h:jS w nm g cap l) (j:Nat) (x:Int):jS (w.setCell ⟨g,j,none⟩ (.int .i64 x)) nm g cap (l.set j x):=by
 obtain ⟨c,h1⟩:=h.head;exact ⟨⟨c,by rw [Ι];exact h1.far _ _ h.ne⟩,h.row.set j x,h.ne⟩
theorem jS.YY {w:World} {nm g cap:Nat} {l:List Int} (h:jS w nm g cap l) (x:Int):jS (w.setCell ⟨nm,2,none⟩ (.int .i64 x)) nm g cap l:=by
 obtain ⟨c,h1⟩:=h.head;refine ⟨⟨x,(h1.set 2 (.int .i64 x)).ext (fun j hj=>?_)⟩,h.row.upd ((aa.refl [nm] w).setCell (Α σ) _) (by simp;exact fun e=>h.ne e.symm),h.ne⟩;rcases (ω:j=0\/j=1\/j=2) with rfl|rfl|rfl<;>simp
theorem jS.setRow {w:World} {nm g cap:Nat} {l:List Int} (h:jS w nm g cap l) {W:World} {g' cap':Nat} {l':List Int} (hu:aa [g] w W) (hr:IZ W g' cap' l') (hne:nm≠g'):jS (W.setCell ⟨nm,0,none⟩ (.slice (some ⟨g',0,none⟩) l'.length cap')) nm g' cap' l':=by
 obtain ⟨c,h1⟩:=h.head;refine ⟨⟨c,((h1.upd hu (by simp;exact h.ne)).set 0 _).ext (fun j hj=>?_)⟩,hr.upd ((aa.refl [nm] W).setCell (Α σ) _) (by simp;exact fun e=>hne e.symm),hne⟩;rcases (ω:j=0\/j=1\/j=2) with rfl|rfl|rfl<;>simp
theorem Ga (nm g cap:Nat) (l:List Int) (x:Int) (w:World) (h:jS w nm g cap l) (hl:l.length<=65537) :
  Calls Tryz.prog 162 #[.pointer (some ⟨nm,0,none⟩),.int .i64 x] w fun e w'=>e=.returned (.bool (decide (0<x) && decide (x<l.length)))/\w'=w:=by
 have c0:=h.c0;have hc:=h.row.cap;clear h
 by_cases h0:0<x
 ·go_enter Tryz.func162,Tryz.ntmps162
  go_wp2;go_ret;exact ⟨aO (by simp [h0]),rfl⟩
 ·go_enter Tryz.func162,Tryz.ntmps162
  go_wp2;go_ret;exact ⟨aO ζ,rfl⟩
def Gs (l:List Int) (x:Int):Bool:=decide (0<x) && decide (x<l.length) && (l.getD x.toNat 0 == x)
theorem QX (nm g cap:Nat) (l:List Int) (x:Int) (w:World) (h:jS w nm g cap l) (hl:l.length<=65537) :
  Calls Tryz.prog 152 #[.pointer (some ⟨nm,0,none⟩),.int .i64 x] w fun e w'=>e=.returned (.bool (Gs l x))/\w'=w:=by
 have k:=Ga nm g cap l x w h hl;unfold Gs;have c0:=h.c0;have hc:=h.row.cap
 by_cases h0:0<x/\x<l.length
 ·obtain ⟨i,rfl⟩:∃i:Nat,x=i:=⟨x.toNat,ω⟩;rw [show (decide (0<(i:Int)) && decide ((i:Int)<l.length))=true by simp;omega] at *;have hi:i<l.length:=ω;have c1:=h.row.cell i hi;simp only [π];generalize l.getD i 0=y at *;clear h
  go_enter Tryz.func152,Tryz.ntmps152
  go_wp2_with ((go_at_call 162;(with_reducible refine (k).mono ?_);rintro e w9 ⟨rfl,aG⟩;rw [aG];clear aG w9))
  go_ret;exact ⟨aO σ,rfl⟩
 ·rw [show (decide (0<x) && decide (x<l.length))=false by simp;omega] at *;clear h
  go_enter Tryz.func152,Tryz.ntmps152
  go_wp2_with ((go_at_call 162;(with_reducible refine (k).mono ?_);rintro e w9 ⟨rfl,aG⟩;rw [aG];clear aG w9))
  go_ret;exact ⟨aO σ,rfl⟩
theorem II (nm g cap:Nat) (l:List Int) (w:World) (h:jS w nm g cap l) (hl:l.length<=65537) :
  Calls Tryz.prog 168 #[.pointer (some ⟨nm,0,none⟩)] w fun e w'=>e=.returned (.int .i64 ((l.length:Int)-1))/\w'=w:=by
 have c0:=h.c0;have hc:=h.row.cap;clear h
 go_enter Tryz.func168,Tryz.ntmps168
 go_wp2;go_ret;exact ⟨rfl,rfl⟩
theorem MO (nm g cap:Nat) (l:List Int) (rt dp:Nat->Nat) (x:Nat) (w:World) (h:jS w nm g cap l) (ok:ry l rt dp) (hx:1<=x) (hx2:x<l.length) :
  Calls Tryz.prog 153 #[.pointer (some ⟨nm,0,none⟩),.int .i64 (x:Int)] w fun e w'=>∃l',e=.returned (.tuple #[.int .i64 (rt x:Int),.bool true])/\jS w' nm g cap l'/\ry l' rt dp/\l'.length=l.length/\aa [g] w w':=by
 have k:=Ga nm g cap l x w h ok.RX;rw [show (decide (0<(x:Int)) && decide ((x:Int)<l.length))=true by simp;omega] at k;generalize hr:rt x=r at *;have HR:=χ hr;clear hr
 go_enter Tryz.func153,Tryz.ntmps153
 go_wp2_with ((go_at_call 162;(with_reducible refine (k).mono ?_);rintro e w9 ⟨rfl,aG⟩;rw [aG];clear aG w9))
 clear k
 go_loopw [1] (fun id wr=>∃ (k:Nat) (l':List Int),id=.int .i64 (k:Int)/\1<=k/\k<l'.length/\rt k=r/\jS wr nm g cap l'/\ry l' rt dp/\l'.length=l.length/\aa [g] w wr) (fun id _=>dp (intOf id).toNat)
 case atStart=>exact ⟨x,l,rfl,hx,hx2,HR.out,h,ok,rfl,aa.refl _ _⟩
 case round=>
  obtain ⟨k,l',rfl,hk1,hk2,hrt,hN,hok,hlen,hu⟩:=hrel;have c0:=hN.c0;have hc:=hN.row.cap;have c1:=hN.row.cell k hk2;have c2:=hN.row.free k;have hrg:=hok.wK k hk1 hk2;have hl2:=hok.RX;have HA:=χ (ψ h ok);have HB:=χ (ψ hN (ψ hok (ψ hlen hrt)));clear h ok hN hok hlen hrt
  by_cases hkk:l'.getD k 0=k
  ·rw [hkk] at c1;have HK:=χ hkk;clear hkk hrg;go_wp2;go_ret2;obtain ⟨h1,h2,h3,h4⟩:=HB.out;exact ⟨l',by rw [←h4,h2.top k hk1 hk2 HK.out];rfl,h1,h2,h3,hu⟩
  ·obtain ⟨j,hj⟩:∃j:Nat,l'.getD k 0=j:=⟨(l'.getD k 0).toNat,ω⟩;have hjr:1<=j/\j<l'.length:=ω;have c3:=HB.out.1.row.cell j hjr.2;have hrg2:=HB.out.2.1.wK j hjr.1 hjr.2;obtain ⟨q,hq⟩:∃q:Nat,l'.getD j 0=q:=⟨(l'.getD j 0).toNat,ω⟩;rw [hj] at c1 hrg hkk;rw [hq] at c3 hrg2;have hne:((j:Int) != (k:Int))=true:=by simpa using hkk
   have HJ:=χ (ψ hj (ψ hq hkk));clear hj hq hkk;go_wp2
   go_region
   go_wp2
   go_roundw
   case rel=>
    obtain ⟨h1,h2,h3,h4⟩:=HB.out;obtain ⟨e1,e2,e3⟩:=HJ.out;have hs:=h2.short hk1 hk2 (by rw [e1];exact e3);rw [e1] at hs;simp only [π] at hs;rw [e2] at hs;have u1:=h2.up k hk1 hk2;have u2:=h2.up j ω ω;rw [e1] at u1;rw [e2] at u2;simp only [π] at u1 u2;exact ⟨q,_,rfl,ω,by rw [Ι];omega,by rw [u2,u1,h4],(h1.set k q).upd ((aa.refl [] _).drew) σ σ,hs,by rw [Ι];exact h3,((hu.setCell (Α σ) _)).drew⟩
   case measure=>
    obtain ⟨h1,h2,h3,h4⟩:=HB.out;obtain ⟨e1,e2,e3⟩:=HJ.out;have d1:=h2.low k hk1 hk2 (by rw [e1];exact e3);have d2:=h2.low j ω ω;rw [e1] at d1;rw [e2] at d2;simp only [π] at d1 d2;simp [intOf]
    by_cases e:q=j
    ·rw [e];exact d1
    ·have:=d2 ω;omega
theorem Qr (nm g cap:Nat) (l:List Int) (w:World) (h:jS w nm g cap l) (hl:l.length=65537) :
  Calls Tryz.prog 163 #[.pointer (some ⟨nm,0,none⟩)] w fun e w'=>e=.returned (.tuple #[.int .i64 0,.bool false])/\aa [] w w':=by
 have k:=II nm g cap l;have k1:=fun W hW=>k W hW ω;rw [hl] at k1;have c1:∀d,(w.drewN d).cell? ⟨nm,1,none⟩=some (.int .i64 65536):=fun d=>h.c1;have H:=fun d=>(h.upd ((aa.refl [] w).drewN d) σ σ)
 clear h k
 go_enter Tryz.func163,Tryz.ntmps163
 go_wp2
 go_quiet ((go_at_call 168;exact Calls.quiet_of_same (k1 _ (H _))))
 go_wp2;go_ret2;exact ⟨rfl,(aa.refl _ _).drewN _⟩
theorem OP (nm g cap:Nat) (l:List Int) (w:World) (h:jS w nm g cap l) (hl:1<=l.length) (hl2:l.length<=65536) :
  Calls Tryz.prog 163 #[.pointer (some ⟨nm,0,none⟩)] w fun e w'=>∃g' cap',e=.returned (.tuple #[.int .i64 (l.length:Int),.bool true])/\jS w' nm g' cap' (l++[(l.length:Int)])/\aa [nm,g] w w'/\(g'=g\/w.heap.size<=g'):=by
 have k1:=fun W hW=>II nm g cap l W hW ω;have c1:∀d,(w.drewN d).cell? ⟨nm,1,none⟩=some (.int .i64 65536):=fun d=>h.c1;have c0:∀d,(w.drewN d).cell? ⟨nm,0,none⟩=some (.slice (some ⟨g,0,none⟩) l.length cap):=fun d=>h.c0;obtain ⟨cn,hh⟩:=h.head;have c2:w.cell? ⟨nm,2,none⟩=some (.int .i64 cn):=hh.cellAt 2 ω rfl;have f0:=hh.free 0;have f2:=hh.free 2;have HO:Hid (∀d,(w.drewN d).ownsRow 0 3 1 (.slice (some ⟨g,0,none⟩) l.length cap) l.length (aF l)):=fun d=>(h.row.drewN d).own;have H:Hid (∀d,jS (w.drewN d) nm g cap l):=fun d=>(h.upd ((aa.refl [] w).drewN d) σ σ)
 have hcap:=h.row.cap;have hlt:=h.lt;have hne:=h.ne;have hb1:((l.length:Int)-1 == 65536)=false:=ζ;clear h hh;generalize hlen:l.length=len at *;have HL:=χ hlen;clear hlen
 go_enter Tryz.func163,Tryz.ntmps163
 go_wp2
 go_quiet ((go_at_call 168;exact Calls.quiet_of_same (k1 _ (H.out _))))
 go_wp2_with (((at_builtin;refine aQ rfl _ _ 26 rfl 0 3 (.int .i64 0) 1 8 Tryz.underlying26 dQ rfl δ _ _ _ rfl ((HO.out _)) [.int .i64 (len:Int)] rfl (by simp [Value.oneCell']) (by first|rfl|(rw [Κ];rfl)) μ ω (σ) ?_;intro v1 w1 ho1 hu1 Xr));obtain ⟨g1,cap1,rfl,_,hg1,hc1,hc2,_⟩:=fQ ho1 ω;(have hu2:aa [g] (w.drewN nq) w1:=hu1);(have hs2:g1=g\/w.heap.size<g1:=by (rcases Xr with h'|h';(exact Α (Option.some.inj h'));(exact Β (h' g1 rfl))));clear hu1 Xr;(have q1:w1.cell? ⟨nm,0,none⟩=some (.slice (some ⟨g,0,none⟩) len cap):=(hu2.cell (p:=⟨nm,0,none⟩) hlt.1 (by simp;exact hne)).trans (c0 _));(have q2:w1.cell? ⟨nm,2,none⟩=some (.int .i64 cn):=(hu2.cell (p:=⟨nm,2,none⟩) hlt.1 (by simp;exact hne)).trans c2);(have q3:w1.frozen? ⟨nm,0,none⟩=false:=(hu2.frozen (p:=⟨nm,0,none⟩) hlt.1 (by simp;exact hne)).trans f0);(have q4:w1.frozen? ⟨nm,2,none⟩=false:=(hu2.frozen (p:=⟨nm,2,none⟩) hlt.1 (by simp;exact hne)).trans f2))
 go_ret2;have hn1:nm≠g1:=ω;have hz:IZ w1 g1 cap1 (l++[(len:Int)]):=⟨by rw [υ,HL.out,bG];exact ho1⟩;have hN:=(H.out nq).setRow hu2 hz hn1;rw [υ,HL.out] at hN;refine ⟨g1,cap1,rfl,?_,?_,ω⟩
 ·exact hN.YY _
 ·exact ((((aa.refl [nm,g] w).drewN nq).joined hu2 (fun x hx=>Α (by simp at hx;simp [hx]))).setCell (Α σ) _).setCell (Α σ) _
theorem Sq (w:World):Calls Tryz.prog 114 #[.int .i64 65536] w fun e w'=>∃nm g,e=.returned (.tuple #[.pointer (some ⟨nm,0,none⟩),.int .i64 0])/\jS w' nm g 1 [0]/\aa [] w w'/\w.heap.size<=nm/\w.heap.size<=g:=by
 go_enter Tryz.func114,Tryz.ntmps114
 go_wp2;go_ret2;have hr:=dH (w.alloc (.cells #[.int .i64 0] 3)) [Value.slice (some ⟨w.heap.size,0,none⟩) 1 1,.int .i64 65536,.int .i64 0] 262;rw [Κ] at hr;exact ⟨_,_,rfl,⟨⟨0,hr⟩,(IZ.lit w [0] σ).upd ((aa.refl [] _).alloc _) σ,ω⟩,((aa.refl _ _).alloc _).alloc _,σ,Θ _⟩
end Go.Proofs.YtklibcncmbofpaaGreat
namespace Go.Proofs.YtklibcncmbofpaaGreat
open Go Go.RowKit Go.Maps
theorem nodup_range:∀ (n:Nat) (l:List Int),l.Nodup->(∀x,x∈l->0<=x/\x<n)->l.length<=n
 | 0,l,_,h=>by
  cases l with
  | nil=>simp
  | cons x r=>have:=h x σ;omega
 | n+1,l,hn,h=>by
  have h1:=nodup_range n (l.filter (fun x=>x != (n:Int))) (hn.filter _) (fun x hx=>by
   simp only [List.mem_filter] at hx;have:=h x hx.1;have h2:x≠n:=by simpa using hx.2
   omega)
  have h2:l.length<=(l.filter (fun x=>x != (n:Int))).length+1:=by
   clear h1 h
   induction l with
   | nil=>simp
   | cons y r ih=>
    rw [Ζ] at hn
    by_cases hy:y=n
    ·subst hy;have e:r.filter (fun x=>x != (n:Int))=r:=by
      rw [List.filter_eq_self];intro a ha;simp;intro e;subst e;exact hn.1 ha
     rw [List.filter_cons_of_neg σ,e];simp
    ·rw [List.filter_cons_of_pos (by simpa using hy)];have:=ih hn.2;simp only [Ω];omega
  omega
def fU (w:World) (b:Nat) (f:Int->Option Int):Prop:=
 ∃D:DataW Unit,w.ownsMap Tryz.prog 3 (plainElem Tryz.prog 3) b (Maps.size D) D/\
  (∀kl,Maps.has D kl=true->∃k:Int,kl=.int .i64 k/\0<=k/\k<=65536/\(f k).isSome=true)/\
  (∀k z,f k=some z->Maps.has D (.int .i64 k)=true/\∀d,D.atKey (.int .i64 k) d=.lit (.int .i64 z))
theorem wm {w:World} {k:TypeId} {R:Value->Option (DataW Unit×List MemPlace)} {b n:Nat} {D:DataW Unit} (h:w.ownsMap Tryz.prog k R b n D):w.ownsMap Tryz.prog k R b (Maps.size D) D:=by
 obtain ⟨es,clock,hb,F,hs,rfl⟩:=h;exact ⟨es,clock,hb,F,by simp [Maps.size,length_sorted],rfl⟩
theorem oW:Keyed Tryz.prog 3:=int_keyed Tryz.underlying3
theorem Ea (w:World):(zeroValue 3).run Tryz.prog w=.ok (.int .i64 0) w:=by kernel_rfl
theorem fU.same {w w':World} {b:Nat} {f:Int->Option Int} (h:fU w b f) (hb:w'.heap[b]?=w.heap[b]?):fU w' b f:=by
 obtain ⟨D,⟨es,clock,h1,h2⟩,h3⟩:=h;exact ⟨D,⟨es,clock,hb.trans h1,h2⟩,h3⟩
theorem fU.lt {w:World} {b:Nat} {f:Int->Option Int} (h:fU w b f):b<w.heap.size:=by
 obtain ⟨D,h1,_⟩:=h;exact h1.lt
theorem fU.upd {w w':World} {S:List Nat} {b:Nat} {f:Int->Option Int} (h:fU w b f) (hu:aa S w w') (hn:b∉S):fU w' b f:=h.same (hu.block b h.lt hn)
theorem fU.ext {w:World} {b:Nat} {f g:Int->Option Int} (h:fU w b f) (hg:∀k,f k=g k):fU w b g:=by
 rwa [show f=g from funext hg] at h
theorem D8 {P:Program} {k:TypeId} {R:Value->Option (DataW Unit×List MemPlace)} {es':Array MapEntry} {clock:Nat} (K:Keyed P k) (F:Go.WideElems.Fit P k R es' clock) {p:Lit×DataW Unit}
  (hp:p∈(es'.toList.map (Go.WideElems.rg P k R)).foldr DataW.insert []):WideAt.IsKeyLit p.1:=by
 have hp2:=(Go.WideShapes.sorted_perm _).mem_iff.1 hp;obtain ⟨x,hx,rfl⟩:=List.mem_map.1 hp2;obtain ⟨y,hy⟩:=F.reads x hx;rw [Go.WideElems.rg_of hy];exact K.key (Go.WideElems.rd_key hy)
theorem fU.small {w:World} {b:Nat} {f:Int->Option Int} {D:DataW Unit} (h1:w.ownsMap Tryz.prog 3 (plainElem Tryz.prog 3) b (Maps.size D) D)
  (h2:∀kl,Maps.has D kl=true->∃k:Int,kl=.int .i64 k/\0<=k/\k<=65536/\(f k).isSome=true):Maps.size D<=65537:=by
 obtain ⟨es,rfl,hp⟩:=h1.tidy oW
 let num:Lit->Int:=fun l=>match l with | .int _ k=>k|_=>0
 have hk:∀p∈es,∃k:Int,p.1=.int .i64 k/\0<=k/\k<=65536:=fun p hp=>by
  have hh:Maps.has (DataW.map es) p.1=true:=by
   rw [has_eq];refine List.any_eq_true.2 ⟨p,hp,WideAt.sameKey_self ?_⟩;obtain ⟨es',clock,_,F,_,he⟩:=h1;have hes:es=(es'.toList.map (Go.WideElems.rg Tryz.prog 3 (plainElem Tryz.prog 3))).foldr DataW.insert []:=by simpa using he
   rw [hes] at hp;exact D8 oW F hp
  obtain ⟨k,hk,h3,h4,_⟩:=h2 _ hh;exact ⟨k,hk,h3,h4⟩
 have:=nodup_range 65537 (es.map fun p=>num p.1) (by
  unfold List.Nodup;rw [List.pairwise_map];refine (List.Pairwise.imp_of_mem ?_ hp);intro a b ha hb hab e;obtain ⟨k1,e1,_⟩:=hk a ha;obtain ⟨k2,e2,_⟩:=hk b hb;rw [e1,e2] at e hab;exact hab (by rw [show k1=k2 from e])) (fun x hx=>by
  obtain ⟨p,hp,rfl⟩:=List.mem_map.1 hx;obtain ⟨k,e,h3,h4⟩:=hk p hp
  rw [e];show 0<=k/\k<((65537:Nat):Int);omega)
 simpa [size_eq] using this
theorem xe {k:Int} (h:-9223372036854775808<=k/\k<=9223372036854775807):keyOf Tryz.prog 3 (.int .i64 k)=some (.int .i64 k):=keyOf_int_mk Tryz.underlying3 (WalkArith.wf_i64 h)
theorem fU.look {w:World} {b:Nat} {f:Int->Option Int} (h:fU w b f) (k:Int) (hk:-9223372036854775808<=k/\k<=9223372036854775807) :
  (Instr.lookup 232 (.map (some b)) (.int .i64 k) false).run Tryz.prog w=.ok (.int .i64 ((f k).getD 0)) w:=by
 obtain ⟨D,h1,h2,h3⟩:=h;obtain ⟨c,hrun,hat,_⟩:=h1.lookup_int oW Tryz.underlying232 Tryz.underlying3 (Ea w) (xe hk);rw [hrun];cases hf:f k with
 | some z=>
  rw [(h3 k z hf).2] at hat;have:z=c:=by simpa using hat
  rw [this];rfl
 | none=>
  have:Maps.has D (.int .i64 k)=false:=by
   cases hh:Maps.has D (.int .i64 k)
   ·rfl
   ·obtain ⟨k',e,_,_,h4⟩:=h2 _ hh;cases e;rw [hf] at h4;cases h4
  rw [atKey_of_not_has this] at hat;have:(0:Int)=c:=by simpa using hat
  rw [←this];rfl
theorem fU.look_ok {w:World} {b:Nat} {f:Int->Option Int} (h:fU w b f) (k:Int) (hk:-9223372036854775808<=k/\k<=9223372036854775807) :
  (Instr.lookup 232 (.map (some b)) (.int .i64 k) true).run Tryz.prog w=.ok (.tuple #[.int .i64 ((f k).getD 0),.bool (f k).isSome]) w:=by
 obtain ⟨D,h1,h2,h3⟩:=h;obtain ⟨v,ps,hrun,hv⟩:=h1.look_ok oW Tryz.underlying232 (Ea w) (plainElem_int Tryz.underlying3 (a:=0) δ) (xe hk);obtain ⟨c,rfl,hc,_⟩:=plainElem_int_inv Tryz.underlying3 hv;simp only [Prod.mk.injEq] at hc;have hat:=hc.1;rw [hrun];cases hf:f k with
 | some z=>
  rw [(h3 k z hf).2] at hat;rw [(h3 k z hf).1];have:z=c:=by simpa using hat
  rw [this];rfl
 | none=>
  have:Maps.has D (.int .i64 k)=false:=by
   cases hh:Maps.has D (.int .i64 k)
   ·rfl
   ·obtain ⟨k',e,_,_,h4⟩:=h2 _ hh;cases e;rw [hf] at h4;cases h4
  rw [atKey_of_not_has this] at hat;rw [this];have:(0:Int)=c:=by simpa using hat
  rw [←this];rfl
theorem oL {w w':World} {b:Nat} (h:w.mapTurned w' b):aa [b] w w':=(aa.refl [b] w).grown h.grown (fun k hk=>Α (by cases hk;simp))
theorem fU.store {w:World} {b:Nat} {f:Int->Option Int} (h:fU w b f) (k z:Int) (hk:0<=k/\k<=65536) (hz:-9223372036854775808<=z/\z<=9223372036854775807) :
  ∃w',(Instr.mapUpdate 232 (.map (some b)) (.int .i64 k) (.int .i64 z)).run Tryz.prog w=.ok () w'/\fU w' b (fun q=>if q=k then some z else f q)/\aa [b] w w':=by
 obtain ⟨D,h1,h2,h3⟩:=h;have hs:=fU.small h1 h2;obtain ⟨w',hrun,ho,ht⟩:=h1.store oW Tryz.underlying232 μ (xe (k:=k) ω) (plainElem_int Tryz.underlying3 (a:=z) (WalkArith.wf_i64 hz));have hD:=h1.isMap;refine ⟨w',hrun,⟨_,wm ho,fun kl hkl=>?_,fun q y hq=>?_⟩,oL ht⟩
 ·by_cases e:kl=.int .i64 k
  ·exact ⟨k,e,hk.1,hk.2,σ⟩
  ·rw [has_put_other e] at hkl;obtain ⟨q,rfl,a,b,c⟩:=h2 kl hkl;refine ⟨q,rfl,a,b,?_⟩
   show (if q=k then some z else f q).isSome=true
   split
   ·rfl
   ·exact c
 ·by_cases e:q=k
  ·subst e;simp only [if_true,Ϙ] at hq;subst hq;exact ⟨has_put_same hD (show WideAt.IsKeyLit (.int .i64 q) from True.intro) _,fun d=>atKey_put_same hD (show WideAt.IsKeyLit (.int .i64 q) from True.intro) _ _⟩
  ·simp only [Γ e] at hq;have hne:(Lit.int .i64 q)≠.int .i64 k:=fun h=>e (by cases h;rfl);rw [has_put_other hne];exact ⟨(h3 q y hq).1,fun d=>by rw [atKey_put_other hne];exact (h3 q y hq).2 d⟩
theorem fU.drop {w:World} {b:Nat} {f:Int->Option Int} (h:fU w b f) (k:Int) (hk:-9223372036854775808<=k/\k<=9223372036854775807) (ty:TypeId) :
  ∃w',(Builtin.delete_ #[232,3] ty #[.map (some b),.int .i64 k]).run Tryz.prog w=.ok (.tuple #[]) w'/\fU w' b (fun q=>if q=k then none else f q)/\aa [b] w w':=by
 obtain ⟨D,h1,h2,h3⟩:=h;obtain ⟨w',hrun,ho,ht⟩:=h1.drop oW Tryz.underlying232 (xe hk) ty;refine ⟨w',hrun,⟨_,wm ho,fun kl hkl=>?_,fun q y hq=>?_⟩,oL ht⟩
 ·by_cases e:kl=.int .i64 k
  ·subst e;rw [has_del_same] at hkl;cases hkl
  ·rw [has_del_other e] at hkl;obtain ⟨q,rfl,a,b,c⟩:=h2 kl hkl;exact ⟨q,rfl,a,b,by show (if q=k then none else f q).isSome=true;rw [Γ (fun h=>e (by rw [h]))];exact c⟩
 ·by_cases e:q=k
  ·subst e;simp at hq
  ·simp only [Γ e] at hq;have hne:(Lit.int .i64 q)≠.int .i64 k:=fun h=>e (by cases h;rfl);rw [has_del_other hne];exact ⟨(h3 q y hq).1,fun d=>by rw [atKey_del_other hne];exact (h3 q y hq).2 d⟩
theorem fU.made (w:World):fU (w.alloc (.map #[] 0)) w.heap.size (fun _=>none):=
 ⟨.map [],World.ownsMap_made w _ _ _,fun kl hkl=>by simp [has_eq] at hkl,fun k z hz=>by cases hz⟩
theorem ma {w:World} {ops:Array Oper} {rest:List Oper} {o:Oper} {a:Act} {Q:Exit->Act->World->Prop} (hg:o.guard=none) (m x v:Operand) (hop:o.op=Op.mapUpdate 232 m x v)
  (b:Nat) (f:Int->Option Int) (hm:a.eval m=.map (some b)) (h:fU w b f) (k z:Int) (hx:a.eval x=.int .i64 k) (hv:a.eval v=.int .i64 z) (hk:0<=k/\k<=65536) (hz:-9223372036854775808<=z/\z<=9223372036854775807)
  (hK:∀w',fU w' b (fun q=>if q=k then some z else f q)->aa [b] w w'->wpList Tryz.prog ops Q rest (a.put o.dst undef) w'):wpList Tryz.prog ops Q (o::rest) a w:=by
 refine wpList_plain hg fun K' hK'=>?_;obtain ⟨w',hrun,r1,r2⟩:=h.store k z hk hz;unfold Oper.wp;simp [execOp,hop,hm,hx,hv,hrun,Result.andThen];exact hK' _ _ (hK w' r1 r2)
theorem oq {w:World} {ops:Array Oper} {rest:List Oper} {o:Oper} {a:Act} {Q:Exit->Act->World->Prop} (hg:o.guard=none) (m x:Operand) (hop:o.op=Op.call { callee:=Callee.builtin Builtin.delete,args:=#[m,x],argTypes:=#[232,3] })
  (b:Nat) (f:Int->Option Int) (hm:a.eval m=.map (some b)) (h:fU w b f) (k:Int) (hx:a.eval x=.int .i64 k) (hk:-9223372036854775808<=k/\k<=9223372036854775807)
  (hK:∀w',fU w' b (fun q=>if q=k then none else f q)->aa [b] w w'->wpList Tryz.prog ops Q rest (a.put o.dst (.tuple #[])) w'):wpList Tryz.prog ops Q (o::rest) a w:=by
 refine wpList_plain hg fun K' hK'=>?_;obtain ⟨w',hrun,r1,r2⟩:=h.drop k hk o.type;unfold Oper.wp;simp [execOp,hop,resolve,invoke,builtin,hm,hx,hrun,Result.andThen];exact hK' _ _ (hK w' r1 r2)
theorem kV {w:World} {ops:Array Oper} {rest:List Oper} {o:Oper} {a:Act} {Q:Exit->Act->World->Prop} (hg:o.guard=none) (m x:Operand) (hop:o.op=Op.lookup 232 m x false)
  (b:Nat) (f:Int->Option Int) (hm:a.eval m=.map (some b)) (h:fU w b f) (k:Int) (hx:a.eval x=.int .i64 k) (hk:-9223372036854775808<=k/\k<=9223372036854775807) (z:Int) (hz:(f k).getD 0=z)
  (hK:wpList Tryz.prog ops Q rest (a.put o.dst (.int .i64 z)) w):wpList Tryz.prog ops Q (o::rest) a w:=by
 refine wpList_plain hg fun K' hK'=>?_;have hrun:=h.look k hk;rw [hz] at hrun;unfold Oper.wp;simp [execOp,hop,hm,hx,hrun,Result.andThen];exact hK' _ _ hK
theorem mM {w:World} {ops:Array Oper} {rest:List Oper} {o:Oper} {a:Act} {Q:Exit->Act->World->Prop} (hg:o.guard=none) (m x:Operand) (hop:o.op=Op.lookup 232 m x true)
  (b:Nat) (f:Int->Option Int) (hm:a.eval m=.map (some b)) (h:fU w b f) (k:Int) (hx:a.eval x=.int .i64 k) (hk:-9223372036854775808<=k/\k<=9223372036854775807)
  (hK:wpList Tryz.prog ops Q rest (a.put o.dst (.tuple #[.int .i64 ((f k).getD 0),.bool (f k).isSome])) w):wpList Tryz.prog ops Q (o::rest) a w:=by
 refine wpList_plain hg fun K' hK'=>?_;have hrun:=h.look_ok k hk;unfold Oper.wp;simp [execOp,hop,hm,hx,hrun,Result.andThen];exact hK' _ _ hK
end Go.Proofs.YtklibcncmbofpaaGreat
namespace Go.Proofs.YtklibcncmbofpaaGreat
open Go Go.RowKit
def jW (raw:Nat->Cl) (j:Nat):Value:=if j % 3=0 then .int .i64 (raw (j / 3)).i else if j % 3=1 then .int .i64 (raw (j / 3)).k else .int .u64 (raw (j / 3)).s
theorem LU (raw:Nat->Cl) (x:Nat):jW raw (x*3)=.int .i64 (raw x).i:=by unfold jW;rw [Δ ω,show x*3 / 3=x by omega]
theorem yN (raw:Nat->Cl) (x:Nat):jW raw (x*3+1)=.int .i64 (raw x).k:=by unfold jW;rw [Γ ω,Δ ω,show (x*3+1) / 3=x by omega]
theorem y8 (raw:Nat->Cl) (x:Nat):jW raw (x*3+2)=.int .u64 (raw x).s:=by unfold jW;rw [Γ ω,Γ ω,show (x*3+2) / 3=x by omega]
def jf (A:NS) (h:Int):Option Int:=if 0<dF A h then some (dF A h:Int) else none
theorem uD (A:NS) (h:Int):(jf A h).getD 0=dF A h:=by unfold jf;split;rfl;simp;omega
structure CM (w:World) (c ca nm mb g cap:Nat) (l:List Int) (rt dp:Nat->Nat) (raw:Nat->Cl) (A:NS) (st:Nat):Prop where
 head:aI w c 245 4 (fun j=>[Value.int .i64 (st:Int),.slice (some ⟨ca,0,none⟩) A.cs.length A.cs.length,.pointer (some ⟨nm,0,none⟩),.map (some mb)].getD j undef)
 row:aI w ca 281 (A.cs.length*3) (jW raw)
 Xz:jS w nm g cap l
 many:fU w mb (jf A)
 Ud:ry l rt dp
 ok:A.Ok
 oO:st<=4611686018427387904
 rel:∀x,x<A.cs.length->(raw x=Cl.z/\A.c x=Cl.z)\/(1<=(raw x).i/\(raw x).i<l.length/\A.c x=⟨rt (raw x).i.toNat,(raw x).k,(raw x).s⟩)
 hlen:A.hs.length=l.length
 has:∀i,1<=i->i<l.length->A.hs.getD i false=decide (l.getD i 0=i)
 sep:(c≠ca/\c≠nm/\c≠mb/\c≠g)/\(ca≠nm/\ca≠mb/\ca≠g)/\(nm≠mb/\mb≠g)
theorem CM.upd {w w':World} {S:List Nat} {c ca nm mb g cap:Nat} {l:List Int} {rt dp:Nat->Nat} {raw:Nat->Cl} {A:NS} {st:Nat} (h:CM w c ca nm mb g cap l rt dp raw A st) (hu:aa S w w') (hS:∀x,x∈S->x∉[c,ca,nm,mb,g]):CM w' c ca nm mb g cap l rt dp raw A st:=
 ⟨h.head.upd hu (fun m=>hS _ m σ),h.row.upd hu (fun m=>hS _ m σ),h.Xz.upd hu (fun m=>hS _ m σ) (fun m=>hS _ m σ),h.many.upd hu (fun m=>hS _ m σ),h.Ud,h.ok,h.oO,h.rel,h.hlen,h.has,h.sep⟩
def az (w:World) (c:Nat) (F:List Nat) (A:NS) (st:Nat):Prop:=∃ca nm mb g cap l rt dp raw,CM w c ca nm mb g cap l rt dp raw A st/\F=[c,ca,nm,mb,g]
theorem az.upd {w w':World} {S F:List Nat} {c:Nat} {A:NS} {st:Nat} (h:az w c F A st) (hu:aa S w w') (hS:∀x,x∈S->x∉F):az w' c F A st:=by
 obtain ⟨ca,nm,mb,g,cap,l,rt,dp,raw,h,rfl⟩:=h;exact ⟨ca,nm,mb,g,cap,l,rt,dp,raw,h.upd hu hS,rfl⟩
theorem az.aj {w w':World} {F:List Nat} {c:Nat} {A:NS} {st:Nat} (h:az w c F A st) (hu:aa [] w w'):az w' c F A st:=h.upd hu σ
theorem az.ok {w:World} {F:List Nat} {c:Nat} {A:NS} {st:Nat} (h:az w c F A st):A.Ok:=by
 obtain ⟨ca,nm,mb,g,cap,l,rt,dp,raw,h,rfl⟩:=h;exact h.ok
theorem az.oO {w:World} {F:List Nat} {c:Nat} {A:NS} {st:Nat} (h:az w c F A st):st<=4611686018427387904:=by
 obtain ⟨ca,nm,mb,g,cap,l,rt,dp,raw,h,rfl⟩:=h;exact h.oO
theorem az.lt {w:World} {F:List Nat} {c:Nat} {A:NS} {st:Nat} (h:az w c F A st):∀x,x∈F->x<w.heap.size:=by
 obtain ⟨ca,nm,mb,g,cap,l,rt,dp,raw,h,rfl⟩:=h;intro x hx;have:=h.head.lt;have:=h.row.lt;have:=h.Xz.lt;have:=h.many.lt;simp at hx;omega
theorem az.mem {w:World} {F:List Nat} {c:Nat} {A:NS} {st:Nat} (h:az w c F A st):c∈F:=by
 obtain ⟨ca,nm,mb,g,cap,l,rt,dp,raw,h,rfl⟩:=h;simp
def Goes (F:List Nat) (w w':World) (P:List Nat->Prop):Prop:=∃F',P F'/\aa F w w'/\∀x,x∈F'->x∈F\/w.heap.size<=x
theorem Goes.stay {F:List Nat} {w w':World} {P:List Nat->Prop} (h:P F) (hu:aa F w w'):Goes F w w' P:=⟨F,h,hu,fun x hx=>Α hx⟩
section
variable {w:World} {c ca nm mb g cap:Nat} {l:List Int} {rt dp:Nat->Nat} {raw:Nat->Cl} {A:NS} {st:Nat}
theorem CM.c0 (h:CM w c ca nm mb g cap l rt dp raw A st):w.cell? ⟨c,0,none⟩=some (.int .i64 (st:Int)):=h.head.cellAt 0 ω rfl
theorem CM.c1 (h:CM w c ca nm mb g cap l rt dp raw A st):w.cell? ⟨c,1,none⟩=some (.slice (some ⟨ca,0,none⟩) A.cs.length A.cs.length):=h.head.cellAt 1 ω rfl
theorem CM.c2 (h:CM w c ca nm mb g cap l rt dp raw A st):w.cell? ⟨c,2,none⟩=some (.pointer (some ⟨nm,0,none⟩)):=h.head.cellAt 2 ω rfl
theorem CM.c3 (h:CM w c ca nm mb g cap l rt dp raw A st):w.cell? ⟨c,3,none⟩=some (.map (some mb)):=h.head.cellAt 3 ω rfl
theorem CM.Y3 (h:CM w c ca nm mb g cap l rt dp raw A st) {x:Nat} (hx:x<A.cs.length):decide (0<(A.c x).i)=decide (0<(raw x).i):=by
 rcases h.rel x hx with ⟨h1,h2⟩|⟨h1,h2,h3⟩
 ·rw [h1,h2]
 ·have:=h.Ud.XI (i:=(raw x).i.toNat) ω ω;rw [h3,decide_eq_decide];simp only;omega
theorem CM.Gs (h:CM w c ca nm mb g cap l rt dp raw A st) (x:Int):Gs l x=bB A x:=by
 unfold Go.Proofs.YtklibcncmbofpaaGreat.Gs bB;rw [h.hlen]
 by_cases hx:0<x/\x<l.length
 ·rw [h.has x.toNat ω ω,Bool.eq_iff_iff];simp only [Τ,Ο,beq_iff_eq];constructor
  ·rintro ⟨_,h2⟩;exact ⟨⟨ω,ω⟩,ω⟩
  ·rintro ⟨_,h2⟩;exact ⟨⟨ω,ω⟩,ω⟩
 ·have e1:(decide (0<x) && decide (x<(l.length:Int)))=false:=ζ;have e2:(decide (1<=x) && decide (x<(l.length:Int)))=false:=ζ;rw [e1,e2];rfl
end
theorem jg {w:World} {c st:Nat} {F:List Nat} {A:NS} (h:az w c F A st) (x:Int) :
  Calls Tryz.prog 139 #[.pointer (some ⟨c,0,none⟩),.int .i64 x] w fun e w'=>e=.returned (.bool (bB A x))/\w'=w:=by
 obtain ⟨ca,nm,mb,g,cap,l,rt,dp,raw,h,rfl⟩:=h;have c2:=h.c2;have k:=QX nm g cap l x w h.Xz h.Ud.RX;rw [h.Gs] at k;clear h
 go_enter Tryz.func139,Tryz.ntmps139
 go_wp2_with ((go_at_call 152;(with_reducible refine (k).mono ?_);rintro e w9 ⟨rfl,aG⟩;rw [aG];clear aG w9))
 go_ret;exact ⟨rfl,rfl⟩
theorem pz {w:World} {c st:Nat} {F:List Nat} {A:NS} (h:az w c F A st) (x:Int) (hx:-9223372036854775808<=x/\x<=9223372036854775807) :
  Calls Tryz.prog 142 #[.pointer (some ⟨c,0,none⟩),.int .i64 x] w fun e w'=>e=.returned (.int .i64 (dF A x:Int))/\w'=w:=by
 obtain ⟨ca,nm,mb,g,cap,l,rt,dp,raw,h,rfl⟩:=h;have c3:=h.c3;have hl:=h.many.look x hx;rw [uD] at hl;clear h
 go_enter Tryz.func142,Tryz.ntmps142
 go_wp2;go_ret;exact ⟨rfl,rfl⟩
theorem Am {w:World} {c st:Nat} {F:List Nat} {A:NS} (h:az w c F A st) (x:Int) :
  Calls Tryz.prog 160 #[.pointer (some ⟨c,0,none⟩),.int .i64 x] w fun e w'=>e=.returned (.bool (wJ A x))/\w'=w:=by
 obtain ⟨ca,nm,mb,g,cap,l,rt,dp,raw,h,rfl⟩:=h;have c1:=h.c1;have h1:=h.ok.c1;clear h;unfold wJ
 by_cases h0:0<=x
 ·go_enter Tryz.func160,Tryz.ntmps160
  go_wp2;go_ret;exact ⟨aO (by simp [h0]),rfl⟩
 ·go_enter Tryz.func160,Tryz.ntmps160
  go_wp2;go_ret;exact ⟨aO ζ,rfl⟩
theorem qD {w:World} {c st:Nat} {F:List Nat} {A:NS} (h:az w c F A st) (x:Int) :
  Calls Tryz.prog 149 #[.pointer (some ⟨c,0,none⟩),.int .i64 x] w fun e w'=>e=.returned (.bool (bM A x))/\w'=w:=by
 have k:=Am h x;obtain ⟨ca,nm,mb,g,cap,l,rt,dp,raw,h,rfl⟩:=h;have c1:=h.c1;have h1:=h.ok.c1;unfold bM;cases hs:wJ A x
 ·rw [hs] at k;clear h
  go_enter Tryz.func149,Tryz.ntmps149
  go_wp2_with ((go_at_call 160;(with_reducible refine (k).mono ?_);rintro e w9 ⟨rfl,aG⟩;rw [aG];clear aG w9))
  go_ret;exact ⟨rfl,rfl⟩
 ·rw [hs] at k;have hx:=(gF _ _).1 hs;obtain ⟨i,rfl⟩:∃i:Nat,x=i:=⟨x.toNat,ω⟩;have hi:i<A.cs.length:=ω;have d0:=h.row.cellAt (i*3) ω (LU raw i);simp only [π];rw [h.Y3 hi];clear h hs
  go_enter Tryz.func149,Tryz.ntmps149
  go_wp2_with ((go_at_call 160;(with_reducible refine (k).mono ?_);rintro e w9 ⟨rfl,aG⟩;rw [aG];clear aG w9))
  go_ret;exact ⟨aO σ,rfl⟩
theorem row3 {w:World} {ca m i:Nat} {e:TypeId} {raw:Nat->Cl} (h:aI w ca e m (jW raw)) (cl:Cl) :
  aI (((w.setCell ⟨ca,i*3,none⟩ (.int .i64 cl.i)).setCell ⟨ca,i*3+1,none⟩ (.int .i64 cl.k)).setCell ⟨ca,i*3+2,none⟩ (.int .u64 cl.s)) ca e m (jW (fun y=>if y=i then cl else raw y)):=by
 refine (((h.set _ _).set _ _).set _ _).ext (fun j hj=>?_);simp only [jW]
 by_cases e0:j=i*3+2
 ·rw [Δ e0,Γ ω,Γ ω,Δ ω]
 ·rw [Γ e0]
  by_cases e1:j=i*3+1
  ·rw [Δ e1,Γ ω,Δ ω,Δ ω]
  ·rw [Γ e1]
   by_cases e2:j=i*3
   ·rw [Δ e2,Δ ω,Δ ω]
   ·rw [Γ e2,Γ (show ¬j / 3=i by omega)]
theorem row2 {w:World} {ca m i:Nat} {e:TypeId} {raw:Nat->Cl} (h:aI w ca e m (jW raw)) (k s:Int) :
  aI ((w.setCell ⟨ca,i*3+1,none⟩ (.int .i64 k)).setCell ⟨ca,i*3+2,none⟩ (.int .u64 s)) ca e m (jW (fun y=>if y=i then ⟨(raw i).i,k,s⟩ else raw y)):=by
 refine ((h.set _ _).set _ _).ext (fun j hj=>?_);simp only [jW]
 by_cases e0:j=i*3+2
 ·rw [Δ e0,Γ ω,Γ ω,Δ ω]
 ·rw [Γ e0]
  by_cases e1:j=i*3+1
  ·rw [Δ e1,Γ ω,Δ ω,Δ ω]
  ·rw [Γ e1]
   by_cases e2:j=i*3
   ·rw [Δ ω,Δ ω,Δ ω,show j / 3=i by omega]
   ·rw [Γ (show ¬j / 3=i by omega)]
section
variable {w:World} {c ca nm mb g cap:Nat} {l:List Int} {rt dp:Nat->Nat} {raw:Nat->Cl} {A:NS} {st:Nat}
theorem CM.turn (h:CM w c ca nm mb g cap l rt dp raw A st) {w2:World} {GD:Nat->Cl} {A':NS} (hu:aa [ca,mb] w w2) (hrow:aI w2 ca 281 (A.cs.length*3) (jW GD)) (hm:fU w2 mb (jf A')) (hok:A'.Ok)
  (hlen:A'.cs.length=A.cs.length) (lC:A'.hs=A.hs) (hrel:∀x,x<A.cs.length->(GD x=Cl.z/\A'.c x=Cl.z)\/(1<=(GD x).i/\(GD x).i<l.length/\A'.c x=⟨rt (GD x).i.toNat,(GD x).k,(GD x).s⟩)) :
  CM w2 c ca nm mb g cap l rt dp GD A' st:=by
 have s:=h.sep;refine ⟨?_,by rw [hlen];exact hrow,h.Xz.upd hu ι ι,hm,h.Ud,hok,h.oO,by rw [hlen];exact hrel,by rw [lC];exact h.hlen,by rw [lC];exact h.has,s⟩;rw [hlen];exact h.head.upd hu ι
theorem CM.Yu (h:CM w c ca nm mb g cap l rt dp raw A st) {i:Nat} (hi:bB A i=true):1<=i/\i<l.length/\rt i=i/\l.getD i 0=i:=by
 rw [←h.Gs] at hi;unfold Go.Proofs.YtklibcncmbofpaaGreat.Gs at hi;simp only [Τ,Ο,beq_iff_eq,π] at hi;exact ⟨ω,ω,h.Ud.top i ω ω hi.2,hi.2⟩
end
def Zw (l:List Int) (rt:Nat->Nat) (cr ca:Cl):Prop:=(cr=Cl.z/\ca=Cl.z)\/(1<=cr.i/\cr.i<l.length/\ca=⟨rt cr.i.toNat,cr.k,cr.s⟩)
theorem zN {l:List Int} {rt:Nat->Nat} {raw:Nat->Cl} {A:NS} {x:Nat} {cr ca:Cl} (h:∀y,y<A.cs.length->Zw l rt (raw y) (A.c y)) (hx:x<A.cs.length) (hc:Zw l rt cr ca) :
  ∀y,y<A.cs.length->Zw l rt (if y=x then cr else raw y) ((iN A x ca).c y):=by
 intro y hy;rw [jT]
 by_cases e:y=x
 ·simp only [e,hx,and_self,if_true];exact hc
 ·simp only [e,false_and,if_false];exact h y hy
theorem KR {A:NS} {x:Nat} {c:Cl} (h:Int) (hx:x<A.cs.length) (hz:(A.c x).i=0) (hc:0<c.i) (q:Int):(if q=c.i then some ((dF A c.i:Int)+1) else jf A q)=jf (iN A x c) q:=by
 have:=mZ A x c q hx;rw [hz] at this;unfold jf
 by_cases e:q=c.i
 ·subst e;rw [Δ rfl];rw [Γ ω,Δ ⟨rfl,hc⟩] at this;simp only [ϖ] at this;rw [Δ ω,this];simp
 ·rw [Γ e];rw [Γ ω,Γ ω] at this;simp only [ϖ] at this;rw [this]
theorem nM {w:World} {c st:Nat} {F:List Nat} {A:NS} (h:az w c F A st) (hh x:Nat) (k s:Int) (hk:-9223372036854775808<=k/\k<=9223372036854775807/\0<=s/\s<=18446744073709551615) (hB:nY A hh x=true) :
  Calls Tryz.prog 154 #[.pointer (some ⟨c,0,none⟩),.int .i64 (hh:Int),.int .i64 (x:Int),.agg #[.int .i64 k,.int .u64 s]] w fun e w'=>e=.returned (.bool true)/\az w' c F (aH A hh x k s) st/\aa F w w':=by
 have k1:=fun W hW=>jg (h.aj (w':=W) hW) hh;have k2:=fun W hW=>Am (h.aj (w':=W) hW) x;have k3:=fun W hW=>qD (h.aj (w':=W) hW) x;have hu:aa [] w (w.alloc (.cells #[.int .i64 k,.int .u64 s] 129)):=(aa.refl _ _).alloc _;have hp:=(dV _ _ _).1 hB;rw [hp.1] at k1;rw [hp.2.1] at k2;rw [hp.2.2] at k3;have hx:=(gF _ _).1 hp.2.1;have Fp:=(aP _ _).1 hp.1;have hAz:(A.c x).i<=0:=by have:=hp.2.2;unfold bM at this;rw [hp.2.1] at this;simpa using this
 have hin:(A.c x).i=0:=by have:=h.ok.nat x ω;omega
 have hlen:=DU h.ok (hh:Int);have hA1:=h.ok.h1;have hA2:=h.ok.c1;obtain ⟨ca,nm,mb,g,cap,l,rt,dp,raw,h,rfl⟩:=h;have c1:=h.c1;have c3:=h.c3;have d0:=h.row.cell (x*3) ω;have d1:=h.row.cell (x*3+1) ω;have d2:=h.row.cell (x*3+2) ω;have f0:=h.row.free (x*3);have f1:=h.row.free (x*3+1);have f2:=h.row.free (x*3+2);have hlt:=az.lt ⟨ca,nm,mb,g,cap,l,rt,dp,raw,h,rfl⟩;have l1:=hlt c σ;have l2:=hlt ca σ;have l3:=hlt mb σ;have hs:=h.sep;have H:=χ h;have HP:=χ hp;clear h hp hB hlt;obtain ⟨len,hle⟩:∃n,n=A.cs.length:=⟨_,rfl⟩;rw [←hle] at c1 hx;have HL:=χ hle;clear hle;have hx2:x<len:=ω
 go_enter Tryz.func154,Tryz.ntmps154
 go_wp2_with (first|(go_at_call 139;(with_reducible refine ((k1 _ hu)).mono ?_);rintro e w9 ⟨rfl,aG⟩;rw [aG];clear aG w9)|(go_at_call 160;(with_reducible refine ((k2 _ hu)).mono ?_);rintro e w9 ⟨rfl,aG⟩;rw [aG];clear aG w9)|(go_at_call 149;(with_reducible refine ((k3 _ hu)).mono ?_);rintro e w9 ⟨rfl,aG⟩;rw [aG];clear aG w9))
 go_region
 go_wp2_with (first
  | (at_lookup;refine kV rfl _ _ rfl mb (jf A) rfl (H.out.many.upd (S:=[ca]) β ι) (hh:Int) rfl ω (dF A (hh:Int):Int) (uD _ _) ?_)
  | (at_mapUpdate;refine ma rfl _ _ _ rfl mb (jf A) rfl (H.out.many.upd (S:=[ca]) β ι) (hh:Int) ((dF A (hh:Int):Int)+1) rfl rfl ω ω ?_;intro w2 hm2 hu2))
 go_ret;have hu3:aa [ca] w ((((w.setCell ⟨ca,x*3,none⟩ (.int .i64 (hh:Int))).setCell ⟨ca,x*3+1,none⟩ (.int .i64 k)).setCell ⟨ca,x*3+2,none⟩ (.int .u64 s)).alloc (.cells #[.int .i64 k,.int .u64 s] 129)).drew:=β;have hr3:=((row3 (i:=x) H.out.row ⟨(hh:Int),k,s⟩).upd ((aa.refl [] _).alloc (.cells #[.int .i64 k,.int .u64 s] 129) |>.drew) σ).upd hu2 ι;have fP:aa [ca,mb] w w2:=(hu3.mono ι).joined hu2 (fun y hy=>Α (by simp at hy;simp [hy]));have hrt:=H.out.Yu HP.out.1;have hxl:x<A.cs.length:=by rw [←HL.out];exact hx2
 have e:aH A (hh:Int) (x:Int) k s=iN A x ⟨(hh:Int),k,s⟩:=by unfold aH;rw [Δ ((dV _ _ _).2 HP.out)];simp
 refine ⟨rfl,⟨ca,nm,mb,g,cap,l,rt,dp,fun y=>if y=x then ⟨(hh:Int),k,s⟩ else raw y,?_,rfl⟩,fP.mono ι⟩;rw [e];refine H.out.turn fP hr3 (hm2.ext (fun q=>KR (c:=⟨(hh:Int),k,s⟩) (hh:Int) hxl hin (by show 0<(hh:Int);omega) q)) (by rw [←e];exact ze H.out.ok _ _ _ _ hk) (eU _ _ _) rfl (zN H.out.rel hxl (Β ⟨by show 1<=(hh:Int);omega,by show (hh:Int)<l.length;omega,by rw [π,hrt.2.2.1]⟩))
theorem lG {w:World} {c st:Nat} {F:List Nat} {A:NS} (h:az w c F A st) (x:Int) (hx:bM A x=false) :
  Calls Tryz.prog 137 #[.pointer (some ⟨c,0,none⟩),.int .i64 x] w fun e w'=>e=.returned (.tuple #[.agg #[.int .i64 0,.int .u64 0],.bool false])/\aa [] w w':=by
 have hu:aa [] w (w.alloc (.cells #[.int .i64 0,.int .u64 0] 129)):=(aa.refl _ _).alloc _;have k:=qD (h.aj hu) x;rw [hx] at k;clear h hx
 go_enter Tryz.func137,Tryz.ntmps137
 go_wp2_with ((go_at_call 149;(with_reducible refine (k).mono ?_);rintro e w9 ⟨rfl,aG⟩;rw [aG];clear aG w9))
 exact bodyPost_ret (v:=.tuple #[.agg #[.int .i64 0,.int .u64 0],.bool false]) (by simp [results,Tryz.results137,go_sem]) rfl ⟨rfl,ξ⟩
theorem jX {w:World} {c st:Nat} {F:List Nat} {A:NS} (h:az w c F A st) (x:Nat) (hx:bM A x=true) :
  Calls Tryz.prog 137 #[.pointer (some ⟨c,0,none⟩),.int .i64 (x:Int)] w fun e w'=>e=.returned (.tuple #[.agg #[.int .i64 (A.c x).k,.int .u64 (A.c x).s],.bool true])/\aa [] w w':=by
 have hu:aa [] w (w.alloc (.cells #[.int .i64 0,.int .u64 0] 129)):=(aa.refl _ _).alloc _;have k:=qD (h.aj hu) x;rw [hx] at k;obtain ⟨hx1,hx2⟩:=(ae _ _).1 hx;obtain ⟨ca,nm,mb,g,cap,l,rt,dp,raw,h,rfl⟩:=h;have e:A.c x=⟨rt (raw x).i.toNat,(raw x).k,(raw x).s⟩:=by
  rcases h.rel x hx1 with ⟨h1,h2⟩|⟨h1,h2,h3⟩
  ·rw [h2] at hx2;exact absurd hx2 δ
  ·exact h3
 rw [e];have c1:=h.c1;have d1:=h.row.cellAt (x*3+1) ω (yN raw x);have d2:=h.row.cellAt (x*3+2) ω (y8 raw x);have hA:=h.ok.c1;have l1:=h.head.lt;have l2:=h.row.lt;clear h hx hx2 e
 go_enter Tryz.func137,Tryz.ntmps137
 go_wp2_with ((go_at_call 149;(with_reducible refine (k).mono ?_);rintro e w9 ⟨rfl,aG⟩;rw [aG];clear aG w9))
 exact bodyPost_ret (v:=.tuple #[.agg #[.int .i64 (raw x).k,.int .u64 (raw x).s],.bool true]) (by simp [results,Tryz.results137,go_sem]) rfl ⟨rfl,ξ⟩
theorem CM.ZZ {w:World} {c ca nm mb g cap:Nat} {l l':List Int} {rt dp:Nat->Nat} {raw:Nat->Cl} {A:NS} {st:Nat} (h:CM w c ca nm mb g cap l rt dp raw A st) {w':World} (hN:jS w' nm g cap l') (ok:ry l' rt dp) (hl:l'.length=l.length) (hu:aa [g] w w') :
  CM w' c ca nm mb g cap l' rt dp raw A st:=by
 have s:=h.sep;refine ⟨h.head.upd hu ι,h.row.upd hu ι,hN,h.many.upd hu ι,ok,h.ok,h.oO,by rw [hl];exact h.rel,by rw [hl];exact h.hlen,fun i h1 h2=>?_,s⟩;rw [hl] at h2;rw [h.has i h1 h2,decide_eq_decide,h.Ud.Ua h1 h2,ok.Ua h1 (by rw [hl];exact h2)]
theorem dG {w:World} {c st:Nat} {F:List Nat} {A:NS} (h:az w c F A st) (x:Nat) (hx:bM A x=true) :
  Calls Tryz.prog 140 #[.pointer (some ⟨c,0,none⟩),.int .i64 (x:Int)] w fun e w'=>e=.returned (.tuple #[.int .i64 (A.c x).i,.bool true])/\az w' c F A st/\aa F w w':=by
 have k:=qD h x;rw [hx] at k;obtain ⟨hx1,hx2⟩:=(ae _ _).1 hx;obtain ⟨ca,nm,mb,g,cap,l,rt,dp,raw,h,rfl⟩:=h;have e:1<=(raw x).i/\(raw x).i<l.length/\A.c x=⟨rt (raw x).i.toNat,(raw x).k,(raw x).s⟩:=by
  rcases h.rel x hx1 with ⟨h1,h2⟩|h3
  ·rw [h2] at hx2;exact absurd hx2 δ
  ·exact h3
 obtain ⟨r,hr⟩:∃r:Nat,(raw x).i=r:=⟨(raw x).i.toNat,ω⟩;rw [e.2.2,hr,π];have c1:=h.c1;have c2:=h.c2;have d0:=h.row.cellAt (x*3) ω (LU raw x);rw [hr] at d0 e;have hA:=h.ok.c1;have hs:=h.sep;have H:=χ h;have hr1:1<=r:=ω;have hr2:r<l.length:=ω;clear h hx hx2 e hr
 go_enter Tryz.func140,Tryz.ntmps140
 go_wp2_with ((go_at_call 149;(with_reducible refine (k).mono ?_);rintro e w9 ⟨rfl,aG⟩;rw [aG];clear aG w9))
 have r1:∀W,aa [g] w W->W.cell? ⟨c,1,none⟩=some (.slice (some ⟨ca,0,none⟩) A.cs.length A.cs.length):=fun W hW=>by rw [hW.cell H.out.head.lt ι];exact c1
 have r2:∀W,aa [g] w W->W.cell? ⟨c,2,none⟩=some (.pointer (some ⟨nm,0,none⟩)):=fun W hW=>by rw [hW.cell H.out.head.lt ι];exact c2
 have r3:∀W,aa [g] w W->W.cell? ⟨ca,x*3,none⟩=some (.int .i64 (r:Int)):=fun W hW=>by rw [hW.cell H.out.row.lt ι];exact d0
 go_region_held3 (aa [g] w) (exact η)
  ((go_at_call 153;(with_reducible refine (MO nm g cap l rt dp r _ (H.out.Xz.upd (S:=[]) β σ σ) H.out.Ud hr1 hr2).mono ?_);rintro e w1 ⟨l',rfl,hN,hok,hlen,hu⟩;have hu':aa [g] w w1:=(by first|exact hu|exact ((aa.refl [g] w).drew.trans hu)|exact ((aa.refl [g] w).drewN _ |>.trans hu))))
 go_wp2;go_ret2;exact ⟨rfl,⟨ca,nm,mb,g,cap,l',rt,dp,raw,H.out.ZZ hN hok hlen hu',rfl⟩,hu'.mono ι⟩
theorem Ku {A A':NS} (h:∀q,dF A' q=dF A q):jf A'=jf A:=by
 funext q;unfold jf;rw [h q]
theorem gX {w:World} {c st:Nat} {F:List Nat} {A:NS} (h:az w c F A st) (i:Nat) (k s:Int) (hk:-9223372036854775808<=k/\k<=9223372036854775807/\0<=s/\s<=18446744073709551615) (hB:iT A i k s=true) :
  Calls Tryz.prog 147 #[.pointer (some ⟨c,0,none⟩),.int .i64 (i:Int),.agg #[.int .i64 k,.int .u64 s]] w fun e w'=>e=.returned (.bool true)/\az w' c F (ak A i k s) st/\aa F w w':=by
 have hu0:aa [] w (w.alloc (.cells #[.int .i64 k,.int .u64 s] 129)):=(aa.refl _ _).alloc _;have k3:=fun W (hW:aa [] (w.alloc (.cells #[.int .i64 k,.int .u64 s] 129)) W)=>qD (h.aj (hu0.trans hW)) i;have hB0:=χ hB;unfold iT at hB;simp only [Τ,Bool.not_eq_true',π] at hB;obtain ⟨e,hl⟩:=hB;rw [e] at k3;obtain ⟨hi,hx2⟩:=(ae _ _).1 e;obtain ⟨ca,nm,mb,g,cap,l,rt,dp,raw,h,rfl⟩:=h;have ee:1<=(raw i).i/\(raw i).i<l.length/\A.c i=⟨rt (raw i).i.toNat,(raw i).k,(raw i).s⟩:=by
  rcases h.rel i hi with ⟨h1,h2⟩|h3
  ·rw [h2] at hx2;exact absurd hx2 δ
  ·exact h3
 rw [ee.2.2] at hl;have c1:=h.c1;have d1:=h.row.cellAt (i*3+1) ω (yN raw i);have d2:=h.row.cellAt (i*3+2) ω (y8 raw i);have f1:=h.row.free (i*3+1);have f2:=h.row.free (i*3+2);have hA:=h.ok.c1;have kl:=fun W=>PD (raw i).k (raw i).s k s W;rw [hl] at kl;have R3:Hid (∀w2:World,aa [] (w.alloc (.cells #[.int .i64 k,.int .u64 s] 129)) w2->az ((w2.setCell ⟨ca,i*3+1,none⟩ (.int .i64 k)).setCell ⟨ca,i*3+2,none⟩ (.int .u64 s)) c [c,ca,nm,mb,g] (ak A i k s) st/\aa [c,ca,nm,mb,g] w ((w2.setCell ⟨ca,i*3+1,none⟩ (.int .i64 k)).setCell ⟨ca,i*3+2,none⟩ (.int .u64 s))):=fun w2 hw2=>by
  have hs:=h.sep;have hm:=h.upd (hu0.trans hw2) σ;have fP:aa [ca,mb] w2 ((w2.setCell ⟨ca,i*3+1,none⟩ (.int .i64 k)).setCell ⟨ca,i*3+2,none⟩ (.int .u64 s)):=β;have bP:aa [ca] w2 ((w2.setCell ⟨ca,i*3+1,none⟩ (.int .i64 k)).setCell ⟨ca,i*3+2,none⟩ (.int .u64 s)):=β;have e2:ak A (i:Int) k s=iN A i ⟨(A.c i).i,k,s⟩:=by unfold ak;rw [Δ hB0.out];simp
  refine ⟨⟨ca,nm,mb,g,cap,l,rt,dp,fun y=>if y=i then ⟨(raw i).i,k,s⟩ else raw y,?_,rfl⟩,((hu0.trans hw2).mono σ).trans (fP.mono ι)⟩;rw [e2];refine hm.turn fP (row2 hm.row k s) ?_ (by rw [←e2];exact Mc h.ok _ _ _ hk) (eU _ _ _) rfl (zN h.rel hi (Β ⟨ee.1,ee.2.1,by rw [ee.2.2]⟩));rw [Ku (A:=A) (A':=iN A i ⟨(A.c i).i,k,s⟩) (fun q=>by have:=mZ A i ⟨(A.c i).i,k,s⟩ q hi;simp only at this;omega)];exact hm.many.upd bP ι
 generalize (raw i).k=k0 at *;generalize (raw i).s=s0 at *;have hlt:ca<w.heap.size:=h.row.lt;have r1:∀W,aa [] (w.alloc (.cells #[.int .i64 k,.int .u64 s] 129)) W->W.cell? ⟨c,1,none⟩=some (.slice (some ⟨ca,0,none⟩) A.cs.length A.cs.length):=fun W hW=>(hu0.trans hW).was c1;have r2:∀W,aa [] (w.alloc (.cells #[.int .i64 k,.int .u64 s] 129)) W->W.cell? ⟨ca,i*3+1,none⟩=some (.int .i64 k0):=fun W hW=>(hu0.trans hW).was d1;have r3:∀W,aa [] (w.alloc (.cells #[.int .i64 k,.int .u64 s] 129)) W->W.cell? ⟨ca,i*3+2,none⟩=some (.int .u64 s0):=fun W hW=>(hu0.trans hW).was d2
 have r4:∀W,aa [] (w.alloc (.cells #[.int .i64 k,.int .u64 s] 129)) W->W.cell? ⟨w.heap.size,0,none⟩=some (.int .i64 k):=fun W h=>h.was σ;have r5:∀W,aa [] (w.alloc (.cells #[.int .i64 k,.int .u64 s] 129)) W->W.cell? ⟨w.heap.size,1,none⟩=some (.int .u64 s):=fun W h=>h.was σ;have g1:∀W,aa [] (w.alloc (.cells #[.int .i64 k,.int .u64 s] 129)) W->W.frozen? ⟨ca,i*3+1,none⟩=false:=fun W hW=>by rw [(hu0.trans hW).frozen hlt σ];exact f1
 have g2:∀W,aa [] (w.alloc (.cells #[.int .i64 k,.int .u64 s] 129)) W->W.frozen? ⟨ca,i*3+2,none⟩=false:=fun W hW=>by rw [(hu0.trans hW).frozen hlt σ];exact f2
 clear h hl ee c1 d1 d2 f1 f2 e hx2
 go_enter Tryz.func147,Tryz.ntmps147
 go_wp2
 go_region_held3 (aa [] (w.alloc (.cells #[.int .i64 k,.int .u64 s] 129))) (exact η)
  (first
   | (go_at_call 149;(with_reducible refine (k3 _ β).mono ?_);rintro e w9 ⟨rfl,aG⟩;rw [aG];clear aG w9)
   | (go_at_call 158;(with_reducible refine (kl _).mono ?_);rintro e w1 ⟨rfl,hu1⟩;(have hu2:aa [] (w.alloc (.cells #[.int .i64 k,.int .u64 s] 129)) w1:=η)))
 have q1:=r1 _ hu2;have q2:=r2 _ hu2;have q3:=r3 _ hu2;have q4:=r4 _ hu2;have q5:=r5 _ hu2;have q6:=g1 _ hu2;have q7:=g2 _ hu2;clear r1 r2 r3 r4 r5 g1 g2 k3 kl;have HQ:=χ hu2;clear hu2 hu0 hu1;go_wp2
 go_region
 go_wp2;go_ret;exact ⟨rfl,((R3.out w1 HQ.out).1).aj ((aa.refl _ _).drew),(R3.out w1 HQ.out).2.drew⟩
def bO (st k:Nat):Nat:=min (st+k) 4611686018427387904
theorem fT {st:Nat} (h:st<=4611686018427387904):bO st 0=st:=by unfold bO;omega
theorem iM (st a b:Nat):bO (bO st a) b=bO st (a+b):=by unfold bO;omega
theorem K8 (p:Addr) (s:Nat) (w:World) (h1:s<=4611686018427387904) (hc:w.cell? p=some (.int .i64 (s:Int))) (hf:w.frozen? p=false) :
  Calls Tryz.prog 182 #[.pointer (some p),.int .i64 1] w fun e w'=>e=.returned (.tuple #[])/\w'=w.setCell p (.int .i64 (bO s 1:Nat)):=by
 by_cases h:s=4611686018427387904
 ·have e:bO s 1=4611686018427387904:=by unfold bO;omega
  rw [e];have h':4611686018427387904-(s:Int)<1:=ω;clear e h
  go_enter Tryz.func182,Tryz.ntmps182
  go_wp2;go_end0;exact ⟨rfl,rfl⟩
 ·have e:((bO s 1:Nat):Int)=(s:Int)+1:=by unfold bO;omega
  rw [e];have h':¬4611686018427387904-(s:Int)<1:=ω;clear e h
  go_enter Tryz.func182,Tryz.ntmps182
  go_wp2;go_end0;exact ⟨rfl,rfl⟩
theorem CM.count {w:World} {c ca nm mb g cap:Nat} {l:List Int} {rt dp:Nat->Nat} {raw:Nat->Cl} {A:NS} {st:Nat} (h:CM w c ca nm mb g cap l rt dp raw A st) (k:Nat):CM (w.setCell ⟨c,0,none⟩ (.int .i64 (bO st k:Nat))) c ca nm mb g cap l rt dp raw A (bO st k):=by
 have hu:aa [c] w (w.setCell ⟨c,0,none⟩ (.int .i64 (bO st k:Nat))):=β;have s:=h.sep;refine ⟨(h.head.set 0 _).ext (fun j hj=>?_),h.row.upd hu ι,h.Xz.upd hu ι ι,h.many.upd hu ι,h.Ud,h.ok,by unfold bO;omega,h.rel,h.hlen,h.has,s⟩;rcases (ω:j=0\/j=1\/j=2\/j=3) with rfl|rfl|rfl|rfl<;>simp
theorem QQ (A:NS) (a b:Nat):(decide (Bq (A.c a).k (A.c a).s (A.c b).k (A.c b).s<0) || (decide (Bq (A.c a).k (A.c a).s (A.c b).k (A.c b).s=0) && decide (a<b)))=decide (bU A a b):=by
 rw [Bool.eq_iff_iff,decide_eq_true_iff];simp only [Bool.or_eq_true,Τ,Ο];unfold Bq wS bU
 by_cases h:(A.c a).k=(A.c b).k
 ·rw [Δ h]
  by_cases h1:(A.c a).s<(A.c b).s
  ·rw [Δ h1];omega
  ·rw [Γ h1];split<;>omega
 ·rw [Γ h]
  by_cases h1:(A.c a).k<(A.c b).k
  ·rw [Δ h1];omega
  ·rw [Γ h1];split<;>omega
theorem dU {w:World} {c st:Nat} {F:List Nat} {A:NS} (h:az w c F A st) (a b:Nat) (ha:bM A a=true) (hb:bM A b=true) :
  Calls Tryz.prog 174 #[.pointer (some ⟨c,0,none⟩),.int .i64 (a:Int),.int .i64 (b:Int)] w fun e w'=>e=.returned (.bool (decide (bU A a b)))/\az w' c F A (bO st 1)/\aa [c] w w':=by
 have k1:=qD h a;have k2:=qD h b;rw [ha] at k1;rw [hb] at k2;obtain ⟨ha1,ha2⟩:=(ae _ _).1 ha;obtain ⟨hb1,hb2⟩:=(ae _ _).1 hb;have hA:=h.ok.c1;obtain ⟨ca,nm,mb,g,cap,l,rt,dp,raw,h,rfl⟩:=h;have e1:A.c a=⟨rt (raw a).i.toNat,(raw a).k,(raw a).s⟩:=by
  rcases h.rel a ha1 with ⟨h1,h2⟩|h3
  ·rw [h2] at ha2;exact absurd ha2 δ
  ·exact h3.2.2
 have e2:A.c b=⟨rt (raw b).i.toNat,(raw b).k,(raw b).s⟩:=by
  rcases h.rel b hb1 with ⟨h1,h2⟩|h3
  ·rw [h2] at hb2;exact absurd hb2 δ
  ·exact h3.2.2
 have hres:=QQ A a b;rw [e1,e2] at hres;simp only at hres;have c0:=h.c0;have c1:=h.c1;have f0:=h.head.free 0;have d1:=h.row.cellAt (a*3+1) ω (yN raw a);have d2:=h.row.cellAt (a*3+2) ω (y8 raw a);have d3:=h.row.cellAt (b*3+1) ω (yN raw b);have d4:=h.row.cellAt (b*3+2) ω (y8 raw b);have s:=h.sep;have hst:=h.oO;have kc:=K8 ⟨c,0,none⟩ st w hst c0 f0;have kk:=fun W=>yo (raw a).k (raw a).s (raw b).k (raw b).s W;generalize hz:Bq (raw a).k (raw a).s (raw b).k (raw b).s=z at *;generalize (raw a).k=ka at *;generalize (raw a).s=sa at *;generalize (raw b).k=kb at *;generalize (raw b).s=sb at *
 have Wt:=h.row.lt;have hcw:=h.head.lt;have H1:=χ (h.count 1);have HR:=χ hres;generalize hn:bO st 1=st1 at *;have u0:aa [c] w (w.setCell ⟨c,0,none⟩ (.int .i64 (st1:Int))):=β;have r1:∀W,aa [] (w.setCell ⟨c,0,none⟩ (.int .i64 (st1:Int))) W->W.cell? ⟨c,1,none⟩=some (.slice (some ⟨ca,0,none⟩) A.cs.length A.cs.length):=fun W hW=>hW.was H1.out.c1;have r2:∀W,aa [] (w.setCell ⟨c,0,none⟩ (.int .i64 (st1:Int))) W->W.cell? ⟨ca,a*3+1,none⟩=some (.int .i64 ka):=fun W hW=>hW.was ((u0.cell Wt ι).trans d1)
 have r3:∀W,aa [] (w.setCell ⟨c,0,none⟩ (.int .i64 (st1:Int))) W->W.cell? ⟨ca,a*3+2,none⟩=some (.int .u64 sa):=fun W hW=>hW.was ((u0.cell Wt ι).trans d2);have r4:∀W,aa [] (w.setCell ⟨c,0,none⟩ (.int .i64 (st1:Int))) W->W.cell? ⟨ca,b*3+1,none⟩=some (.int .i64 kb):=fun W hW=>hW.was ((u0.cell Wt ι).trans d3);have r5:∀W,aa [] (w.setCell ⟨c,0,none⟩ (.int .i64 (st1:Int))) W->W.cell? ⟨ca,b*3+2,none⟩=some (.int .u64 sb):=fun W hW=>hW.was ((u0.cell Wt ι).trans d4);clear h ha hb ha2 hb2 e1 e2 hres d1 d2 d3 d4 hz hn u0
 by_cases hz1:z<0
 ·have hd:decide (bU A a b)=true:=by rw [←HR.out,Ν hz1];rfl
  rw [hd];clear hd
  go_enter Tryz.func174,Tryz.ntmps174
  go_wp2_with (first|(go_at_call 149;(with_reducible refine (k1).mono ?_);rintro e w9 ⟨rfl,aG⟩;rw [aG];clear aG w9)|(go_at_call 149;(with_reducible refine (k2).mono ?_);rintro e w9 ⟨rfl,aG⟩;rw [aG];clear aG w9)|(go_at_call 182;(with_reducible refine (kc).mono ?_);rintro e w9 ⟨rfl,aG⟩;rw [aG];clear aG w9))
  go_region_held3 (aa [] (w.setCell ⟨c,0,none⟩ (.int .i64 (st1:Int)))) (exact η)
   ((go_at_call 164;(with_reducible refine (kk _).mono ?_);rintro e w1 ⟨rfl,hu1⟩;(have hu2:aa [] (w.setCell ⟨c,0,none⟩ (.int .i64 (st1:Int))) w1:=η)))
  go_wp2;go_ret;exact ⟨rfl,⟨ca,nm,mb,g,cap,l,rt,dp,raw,H1.out.upd hu2 σ,rfl⟩,((aa.refl [c] w).setCell (Α σ) _).then hu2⟩
 ·by_cases hz2:z=0
  ·have hd:decide (bU A a b)=decide ((a:Int)<(b:Int)):=by rw [←HR.out,Ξ hz1,Ν hz2];simp
   rw [hd];subst hz2;clear hd
   go_enter Tryz.func174,Tryz.ntmps174
   go_wp2_with (first|(go_at_call 149;(with_reducible refine (k1).mono ?_);rintro e w9 ⟨rfl,aG⟩;rw [aG];clear aG w9)|(go_at_call 149;(with_reducible refine (k2).mono ?_);rintro e w9 ⟨rfl,aG⟩;rw [aG];clear aG w9)|(go_at_call 182;(with_reducible refine (kc).mono ?_);rintro e w9 ⟨rfl,aG⟩;rw [aG];clear aG w9))
   go_region_held3 (aa [] (w.setCell ⟨c,0,none⟩ (.int .i64 (st1:Int)))) (exact η)
    ((go_at_call 164;(with_reducible refine (kk _).mono ?_);rintro e w1 ⟨rfl,hu1⟩;(have hu2:aa [] (w.setCell ⟨c,0,none⟩ (.int .i64 (st1:Int))) w1:=η)))
   go_wp2;go_ret;exact ⟨aO σ,⟨ca,nm,mb,g,cap,l,rt,dp,raw,H1.out.upd hu2 σ,rfl⟩,((aa.refl [c] w).setCell (Α σ) _).then hu2⟩
  ·have hz3:(z == 0)=false:=by simpa using hz2
   have hd:decide (bU A a b)=false:=by rw [←HR.out,Ξ hz1,Ξ hz2];rfl
   rw [hd];clear hd hz2
   go_enter Tryz.func174,Tryz.ntmps174
   go_wp2_with (first|(go_at_call 149;(with_reducible refine (k1).mono ?_);rintro e w9 ⟨rfl,aG⟩;rw [aG];clear aG w9)|(go_at_call 149;(with_reducible refine (k2).mono ?_);rintro e w9 ⟨rfl,aG⟩;rw [aG];clear aG w9)|(go_at_call 182;(with_reducible refine (kc).mono ?_);rintro e w9 ⟨rfl,aG⟩;rw [aG];clear aG w9))
   go_region_held3 (aa [] (w.setCell ⟨c,0,none⟩ (.int .i64 (st1:Int)))) (exact η)
    ((go_at_call 164;(with_reducible refine (kk _).mono ?_);rintro e w1 ⟨rfl,hu1⟩;(have hu2:aa [] (w.setCell ⟨c,0,none⟩ (.int .i64 (st1:Int))) w1:=η)))
   go_wp2;go_ret;exact ⟨aO ζ,⟨ca,nm,mb,g,cap,l,rt,dp,raw,H1.out.upd hu2 σ,rfl⟩,((aa.refl [c] w).setCell (Α σ) _).then hu2⟩
theorem ry.make {l:List Int} {rt dp:Nat->Nat} (h:ry l rt dp) (hl:l.length<=65536):ry (l++[(l.length:Int)]) (fun i=>if i=l.length then i else rt i) dp:=by
 have h1:=h.len;have g1:∀i,i<l.length->(l++[(l.length:Int)]).getD i 0=l.getD i 0:=fun i hi=>by simp [φ,Ρ hi]
 have g2:(l++[(l.length:Int)]).getD l.length 0=l.length:=by simp [φ]
 refine ⟨σ,ζ,fun i a b=>?_,fun i a b=>?_,fun i a b=>?_,fun i a b=>?_⟩
 all_goals
  simp only [υ,Ω,List.length_nil] at b ⊢;rcases (ω:i<l.length\/i=l.length) with hi|hi
 ·rw [g1 i hi];have:=h.wK i a hi;omega
 ·rw [hi,g2];omega
 ·have:=h.wK i a hi;rw [g1 i hi,Γ (show ¬ (l.getD i 0).toNat=l.length by omega),Γ ω];exact h.up i a hi
 ·rw [hi,g2];simp
 ·rw [g1 i hi,Γ (show ¬i=l.length by omega)];exact h.top i a hi
 ·intro _;rw [Δ hi]
 ·rw [g1 i hi];exact h.low i a hi
 ·rw [hi,g2];intro hn;exact absurd rfl hn
theorem iD {w:World} {c st:Nat} {F:List Nat} {A:NS} (h:az w c F A st) :
  Calls Tryz.prog 156 #[.pointer (some ⟨c,0,none⟩)] w fun e w'=>e=.returned (.int .i64 (bW A))/\Goes F w w' (fun F'=>az w' c F' (aL A) st):=by
 have hC:=h;obtain ⟨ca,nm,mb,g,cap,l,rt,dp,raw,h,rfl⟩:=h;have c2:=h.c2;have hlen:=h.hlen;have hl1:=h.Ud.len;have hl2:=h.Ud.RX;have hs:=h.sep;unfold bW aL
 by_cases hfull:l.length=65537
 ·have k:=Qr nm g cap l w h.Xz hfull;rw [Δ ω,Δ ω];have HC:=χ hC;clear h hC hlen hfull
  go_enter Tryz.func156,Tryz.ntmps156
  go_wp2_with (go_at_call 163;(with_reducible refine (k).mono ?_);rintro e w1 ⟨rfl,hu⟩)
  go_ret;exact ⟨rfl,Goes.stay (HC.out.aj hu) (hu.mono σ)⟩
 ·have k:=OP nm g cap l w h.Xz hl1 ω;rw [Γ ω,Γ ω,hlen];have H:=χ h;have HL:=χ hlen;clear h hC hlen
  go_enter Tryz.func156,Tryz.ntmps156
  go_wp2_with (go_at_call 163;(with_reducible refine (k).mono ?_);rintro e w1 ⟨g',cap',rfl,hN,hu,hg⟩)
  go_ret;have h:=H.out;have hc:=h.head.lt;have hca:=h.row.lt;have hmb:=h.many.lt;have hsep:c≠g'/\ca≠g'/\mb≠g':=by rcases hg with rfl|hg;exact ⟨ω,ω,ω⟩;exact ⟨ω,ω,ω⟩
  have hok:(NS.mk (A.hs++[true]) A.cs).Ok:=by
   have:=Ir h.ok;unfold aL at this;rwa [Γ (by have:=HL.out;omega)] at this
  refine ⟨rfl,[c,ca,nm,mb,g'],⟨ca,nm,mb,g',cap',l++[(l.length:Int)],fun i=>if i=l.length then i else rt i,dp,raw,?_,rfl⟩,hu.mono ι,fun x hx=>by simp at hx ⊢;omega⟩;refine ⟨h.head.upd hu ι,h.row.upd hu ι,hN,h.many.upd hu ι,h.Ud.make ω,hok,h.oO,fun x hx=>?_,by simp [HL.out],fun i h1 h2=>?_,ω⟩
  ·rcases h.rel x hx with h'|⟨h3,h4,h5⟩
   ·exact Α h'
   ·refine Β ⟨h3,ζ,?_⟩;rw [Γ ω];exact h5
  ·simp only [υ,Ω,List.length_nil] at h2;have hLo:=HL.out;rcases (ω:i<l.length\/i=l.length) with hi|hi
   ·have:=h.has i h1 hi;simp only [φ] at this ⊢;rw [Ρ ω,Ρ hi];exact this
   ·subst hi;simp only [φ];rw [←hLo,ϊ (Θ _),ϊ ω];simp [hLo]
theorem J5 (n j:Nat) (hj:j<n*3):(madeCells #[Value.int .i64 0,.int .i64 0,.int .u64 0] (n*3)).toList.getD j undef=if j % 3=0 then .int .i64 0 else if j % 3=1 then .int .i64 0 else .int .u64 0:=by
 rw [φ,ε (by simp [size_madeCells];omega)];simp only [Option.getD_some,madeCells,Array.getElem_toList,Array.getElem_map,Array.getElem_range];rcases (ω:j % 3=0\/j % 3=1\/j % 3=2) with e|e|e<;>simp [e]
theorem Ut:(Tryz.prog.info? 281).map (fun i=>(i.zero,i.size,i.bytes))=some (some (.agg #[.int .i64 0,.int .i64 0,.int .u64 0]),3,24):=by kernel_rfl
theorem nP (n:Nat) (w:World) (h:n<=65536) :
  Calls Tryz.prog 107 #[.int .i64 (n:Int)] w fun e w'=>∃c F,e=.returned (.tuple #[.pointer (some ⟨c,0,none⟩),.int .i64 0])/\az w' c F (NS.new n) 0/\aa [] w w'/\∀x,x∈F->w.heap.size<=x:=by
 have hmm:=@run_makeMap Tryz.prog
 go_enter Tryz.func107,Tryz.ntmps107
 go_wp2_with (first
  | ((go_at_call 114;(with_reducible refine (Sq _).mono ?_));rintro e w1 ⟨nm,g,rfl,hN,hu1,hb1,hb2⟩)
  | (at_make;refine wpList_make_row rfl _ 241 rfl 281 (.agg #[.int .i64 0,.int .i64 0,.int .u64 0]) 3 24 Tryz.underlying241 Ut n rfl ω μ ?_;intro w2 hr2 hu2))
 go_ret2;have hu3:aa [] w2 ((w2.alloc (.map #[] 0)).alloc (.cells #[.int .i64 0,.slice (some ⟨w1.heap.size,0,none⟩) n n,.pointer (some ⟨nm,0,none⟩),.map (some w2.heap.size)] 245)):=β;have hh:=dH (w2.alloc (.map #[] 0)) [.int .i64 0,.slice (some ⟨w1.heap.size,0,none⟩) n n,.pointer (some ⟨nm,0,none⟩),.map (some w2.heap.size)] 245;rw [Κ] at hh;have l1:=hN.lt;have l2:=hu2.size;have l3:=hr2.lt;have l4:=hu1.size;have hcs:(NS.new n).cs.length=n:=by simp [NS.new]
 refine ⟨w2.heap.size+1,[w2.heap.size+1,w1.heap.size,nm,w2.heap.size,g],rfl,⟨w1.heap.size,nm,w2.heap.size,g,1,[0],fun i=>i,fun _=>0,fun _=>Cl.z,?_,rfl⟩,(hu1.trans hu2).trans hu3,fun x hx=>by simp at hx;omega⟩;refine ⟨?_,?_,(hN.upd hu2 σ σ).upd hu3 σ σ,((fU.made w2).upd ((aa.refl [] _).alloc _) σ).ext (fun k=>?_),?_,NS.zS n h,ω,fun x _=>Α ⟨rfl,NS.yA n x⟩,rfl,fun i h1 h2=>by simp at h2;omega,ω⟩
 ·rw [hcs];exact hh
 ·rw [hcs];refine (hr2.upd hu3 σ).ext (fun j hj=>?_);have hz:(Value.agg #[.int .i64 0,.int .i64 0,.int .u64 0]).cells=#[.int .i64 0,.int .i64 0,.int .u64 0]:=rfl;rw [hz];unfold jW Cl.z;have:=J5 n j hj;rw [this]
 ·unfold jf;have:dF (NS.new n) k=0:=by
   rcases Nat.eq_zero_or_pos (dF (NS.new n) k) with h'|h'
   ·exact h'
   ·obtain ⟨x,_,h1,h2⟩:=eH.1 h';rw [NS.yA] at h1;have:(0:Int)=k:=h1;omega
  rw [this];rfl
 ·exact ⟨σ,σ,fun i h1 h2=>by simp at h2;omega,fun i h1 h2=>by simp at h2;omega,fun i h1 h2=>by simp at h2;omega,fun i h1 h2=>by simp at h2;omega⟩
theorem lg {A:NS} {h:Int} {m:Nat} (hm:dD A h=some m):0<h/\m<A.cs.length/\(A.c m).i=h/\bM A m=true:=by
 by_cases hh:0<h
 ·have h1:=(iE hh).1 hm;exact ⟨hh,h1.1,h1.2.1,(ae _ _).2 ⟨h1.1,by rw [h1.2.1];exact hh⟩⟩
 ·rw [pV hh] at hm;cases hm
theorem gZ {A:NS} {h:Int}:dD A h=none↔dF A h=0:=by
 by_cases hh:0<h
 ·exact jD hh
 ·rw [pV hh,P9 hh];simp
def lenOf:Value->Nat | .slice _ l _=>l|_=>0
def bz (l:List Nat):List Int:=l.map (fun (x:Nat)=>(x:Int))
def Enters (f:FuncId):Prop:=∀ (args:Array Value) (W:World),(callFunc f args).run Tryz.prog W=.ok (.enter f args) W
def uH (A:NS) (h:Int):NS:=match dD A h with|some m=>aY A m|none=>A
def OO (ty:TypeId) (p:Nat) (name:String) (w:World) (mk:Value->Array Value) (Q:World->Ending->World->Prop):Prop:=
 ∃f v,Enters f/\∀W,aa [] w W->(method 429 ty (.pointer (some ⟨p,0,none⟩)) name).run Tryz.prog W=.ok (f,v) W/\Calls Tryz.prog f (mk v) W (Q W)
theorem OO.now {ty:TypeId} {p:Nat} {name:String} {w:World} {mk:Value->Array Value} {Q:World->Ending->World->Prop} (h:OO ty p name w mk Q) :
  ∃f v,Enters f/\(method 429 ty (.pointer (some ⟨p,0,none⟩)) name).run Tryz.prog w=.ok (f,v) w/\Calls Tryz.prog f (mk v) w (Q w):=by
 obtain ⟨f,v,he,h⟩:=h;exact ⟨f,v,he,h w (aa.refl _ _)⟩
theorem qy {A:NS} {x:Int} (hB:bM A x=true):∃y:Nat,x=y:=⟨x.toNat,by have:=(yO _ _).1 hB;omega⟩
theorem qN {A:NS} {x k s:Int} (hB:iT A x k s=true):bM A x=true:=by
 unfold iT at hB;simp only [Τ] at hB;exact hB.1
theorem aS {ty:TypeId} {p:Nat} {name:String} {w:World} {mk:Value->Array Value} {Q:World->Ending->World->Prop} (f:FuncId) (he:Enters f) (hm:∀W,(method 429 ty (.pointer (some ⟨p,0,none⟩)) name).run Tryz.prog W=.ok (f,.pointer (some ⟨p,0,none⟩)) W)
  (hc:∀W,aa [] w W->Calls Tryz.prog f (mk (.pointer (some ⟨p,0,none⟩))) W (Q W)):OO ty p name w mk Q:=⟨f,_,he,fun W hW=>⟨hm W,hc W hW⟩⟩
theorem iy {ty:TypeId} {p c:Nat} {name:String} {w:World} {mk:Value->Array Value} {Q:World->Ending->World->Prop} (f:FuncId) (he:Enters f) (h0:w.cell? ⟨p,0,none⟩=some (.pointer (some ⟨c,0,none⟩)))
  (hm:∀W,W.cell? ⟨p,0,none⟩=some (.pointer (some ⟨c,0,none⟩))->(method 429 ty (.pointer (some ⟨p,0,none⟩)) name).run Tryz.prog W=.ok (f,.pointer (some ⟨c,0,none⟩)) W)
  (hc:∀W,aa [] w W->Calls Tryz.prog f (mk (.pointer (some ⟨c,0,none⟩))) W (Q W)):OO ty p name w mk Q:=⟨f,_,he,fun W hW=>⟨hm W (hW.was h0),hc W hW⟩⟩
structure gB where
 ty:TypeId
 at_:World->Nat->List Nat->NS->Prop
 upd:∀ {w w':World} {p:Nat} {F S:List Nat} {A:NS},at_ w p F A->aa S w w'->(∀x,x∈S->x∉F)->at_ w' p F A
 lt:∀ {w:World} {p:Nat} {F:List Nat} {A:NS},at_ w p F A->∀x,x∈F->x<w.heap.size
 ok:∀ {w:World} {p:Nat} {F:List Nat} {A:NS},at_ w p F A->A.Ok
 make:∀ {w:World} {p:Nat} {F:List Nat} {A:NS},at_ w p F A->OO ty p "Make" w (fun v=>#[v]) fun w e w'=>e=.returned (.int .i64 (bW A))/\Goes F w w' (fun F'=>at_ w' p F' (aL A))
 insert:∀ {w:World} {p:Nat} {F:List Nat} {A:NS} (h x:Nat) (k s:Int),(-9223372036854775808<=k/\k<=9223372036854775807/\0<=s/\s<=18446744073709551615)->nY A h x=true->at_ w p F A->OO ty p "Insert" w (fun v=>#[v,.int .i64 (h:Int),.int .i64 (x:Int),.agg #[.int .i64 k,.int .u64 s]]) fun w e w'=>e=.returned (.bool true)/\Goes F w w' (fun F'=>at_ w' p F' (aH A h x k s))
 min:∀ {w:World} {p:Nat} {F:List Nat} {A:NS} (h:Nat),bB A h=true->at_ w p F A->OO ty p "Min" w (fun v=>#[v,.int .i64 (h:Int)]) fun w e w'=>e=.returned (.tuple #[.int .i64 (oU (dD A h)),.bool (dD A h).isSome])/\Goes F w w' (fun F'=>at_ w' p F' A)
 extract:∀ {w:World} {p:Nat} {F:List Nat} {A:NS} (h m:Nat),dD A h=some m->at_ w p F A->OO ty p "Extract" w (fun v=>#[v,.int .i64 (h:Int)]) fun w e w'=>e=.returned (.tuple #[.int .i64 (m:Int),.bool true])/\Goes F w w' (fun F'=>at_ w' p F' (aY A m))
 lW:∀ {w:World} {p:Nat} {F:List Nat} {A:NS} (x:Nat) (k s:Int),(-9223372036854775808<=k/\k<=9223372036854775807/\0<=s/\s<=18446744073709551615)->iT A x k s=true->at_ w p F A->OO ty p "Decrease" w (fun v=>#[v,.int .i64 (x:Int),.agg #[.int .i64 k,.int .u64 s]]) fun w e w'=>e=.returned (.bool true)/\Goes F w w' (fun F'=>at_ w' p F' (ak A x k s))
 has:∀ {w:World} {p:Nat} {F:List Nat} {A:NS} (x:Int),at_ w p F A->OO ty p "Has" w (fun v=>#[v,.int .i64 x]) fun w e w'=>e=.returned (.bool (bB A x))/\w'=w
 entry:∀ {w:World} {p:Nat} {F:List Nat} {A:NS} (x:Int),at_ w p F A->OO ty p "Entry" w (fun v=>#[v,.int .i64 x]) fun w e w'=>e=.returned (.tuple #[.agg #[.int .i64 (if bM A x then (A.c x.toNat).k else 0),.int .u64 (if bM A x then (A.c x.toNat).s else 0)],.bool (bM A x)])/\aa [] w w'
end Go.Proofs.YtklibcncmbofpaaGreat
namespace Go.Proofs.YtklibcncmbofpaaGreat
open Go Go.RowKit Go.Maps
theorem aaR:laidOutB Tryz.prog=true:=by kernel_rfl
theorem DT:Keyed Tryz.prog 85:=Keyed.of_law (Go.deep_law_laid aaR (m:=3) ω (ϡ (by kernel_rfl)) (by kernel_rfl) (by rw [Tryz.underlying85]))
def hV (x g:Int):Value:=.agg #[.int .i64 x,.int .u32 g]
theorem hKey {x g:Int} (hx:-9223372036854775808<=x/\x<=9223372036854775807) (hg:0<=g/\g<=4294967295):∃l,keyOf Tryz.prog 85 (hV x g)=some l:=by
 have h1:Tryz.prog.keyType 85=true:=by kernel_rfl
 have h2:(hV x g).formed Tryz.prog 85=true:=by
  unfold hV Value.formed;simp only [Tryz.underlying85];rw [show Tryz.prog.cellsOf 85=2 by kernel_rfl]
  rfl
 have c0:Tryz.prog.cellsOf 3=1:=by kernel_rfl
 have c1:Tryz.prog.cellsOf 83=1:=by kernel_rfl
 have c2:Tryz.prog.cellsOf 85=2:=by kernel_rfl
 have w0:(Lit.int .i64 x).wf=true:=WalkArith.wf_i64 hx;have w1:(Lit.int .u32 g).wf=true:=by simp [Lit.wf,IntKind.min,IntKind.max,IntKind.signed,IntKind.bits];omega
 have key:∀n,Tryz.prog.keyLits (n+1+1) 85 [.int .i64 x,.int .u32 g]=some [.int .i64 x,.int .u32 g]:=fun n=>by
  simp [Program.keyLits,Tryz.underlying85,Tryz.underlying3,Tryz.underlying83,c0,c1,c2,w0,w1]
 have hpos:0<Tryz.prog.types.size:=ϡ (by kernel_rfl);obtain ⟨n,hn⟩:∃n,Tryz.prog.types.size+1=n+1+1:=⟨Tryz.prog.types.size-1,ω⟩;refine ⟨.string (keyBytes [.int .i64 x,.int .u32 g]),?_⟩;unfold keyOf;rw [Tryz.underlying85];simp only [];rw [Δ (by rw [h1,h2];rfl),hn,show (hV x g).cells.toList=[.int .i64 x,.int .u32 g] from rfl,key]
 rfl
theorem Yh {x g x' g':Int} (h:hV x g=hV x' g'):x=x'/\g=g':=by
 unfold hV at h;simp only [Value.agg.injEq] at h;have h2:=congrArg Array.toList h;simp at h2;exact h2
def nZ (w:World) (b c:Nat) (f:Int->Int->Option Int):Prop:=
 ∃D:DataW Unit,w.ownsMap Tryz.prog 85 (plainElem Tryz.prog 3) b c D/\∀x g z kl,f x g=some z->keyOf Tryz.prog 85 (hV x g)=some kl->∀d,D.atKey kl d=.lit (.int .i64 z)
theorem nZ.upd {w w':World} {S:List Nat} {b c:Nat} {f:Int->Int->Option Int} (h:nZ w b c f) (hu:aa S w w') (hn:b∉S):nZ w' b c f:=by
 obtain ⟨D,h1,h3⟩:=h;have hl:=h1.lt;obtain ⟨es,clock,h1,h2⟩:=h1;exact ⟨D,⟨es,clock,(hu.block b hl hn).trans h1,h2⟩,h3⟩
theorem nZ.lt {w:World} {b c:Nat} {f:Int->Int->Option Int} (h:nZ w b c f):b<w.heap.size:=by
 obtain ⟨D,h1,_⟩:=h;exact h1.lt
theorem nZ.made (w:World):nZ (w.alloc (.map #[] 0)) w.heap.size 0 (fun _ _=>none):=
 ⟨.map [],World.ownsMap_made w _ _ _,fun x g z kl hz=>by cases hz⟩
theorem nZ.look {w:World} {b c:Nat} {f:Int->Int->Option Int} (h:nZ w b c f) {x g z:Int} (hz:f x g=some z) (hx:-9223372036854775808<=x/\x<=9223372036854775807) (hg:0<=g/\g<=4294967295) :
  (Instr.lookup 82 (.map (some b)) (hV x g) false).run Tryz.prog w=.ok (.int .i64 z) w:=by
 obtain ⟨D,h1,h3⟩:=h;obtain ⟨kl,hk⟩:=hKey hx hg;obtain ⟨c',hrun,hat,_⟩:=h1.lookup_int DT Tryz.underlying82 Tryz.underlying3 (Ea w) hk;rw [hrun];rw [h3 x g z kl hz hk] at hat;have:z=c':=by simpa using hat
 rw [this]
theorem nZ.store {w:World} {b c:Nat} {f:Int->Int->Option Int} (h:nZ w b c f) (hc:c<9223372036854775807) (x g z:Int) (hx:-9223372036854775808<=x/\x<=9223372036854775807) (hg:0<=g/\g<=4294967295) (hz:-9223372036854775808<=z/\z<=9223372036854775807) :
  ∃w',(Instr.mapUpdate 82 (.map (some b)) (hV x g) (.int .i64 z)).run Tryz.prog w=.ok () w'/\nZ w' b (c+1) (fun y e=>if y=x/\e=g then some z else f y e)/\aa [b] w w':=by
 obtain ⟨D,h1,h3⟩:=h;obtain ⟨kl,hk⟩:=hKey hx hg;obtain ⟨w',hrun,ho,ht⟩:=h1.store DT Tryz.underlying82 μ hk (plainElem_int Tryz.underlying3 (a:=z) (WalkArith.wf_i64 hz));have hD:=h1.isMap;refine ⟨w',hrun,⟨_,ho,fun y e u MJ hf hk2 d=>?_⟩,oL ht⟩
 replace hf:(if y=x/\e=g then some z else f y e)=some u:=hf
 by_cases e1:y=x/\e=g
 ·rw [Δ e1] at hf;obtain ⟨rfl,rfl⟩:=e1;rw [hk] at hk2;cases hk2;cases hf;exact atKey_put_same hD (DT.key hk) _ _
 ·rw [Γ e1] at hf;have hne:MJ≠kl:=fun e2=>e1 (Yh (DT.inj (by rw [hk2,e2]) hk));rw [atKey_put_other hne];exact h3 y e u MJ hf hk2 d
end Go.Proofs.YtklibcncmbofpaaGreat
namespace Go.Proofs.YtklibcncmbofpaaGreat
open Go Go.RowKit
structure RwK where
 at_:World->Nat->List Nat->List Nat->Prop
 upd:∀ {w w':World} {p:Nat} {G S L:List Nat},at_ w p G L->aa S w w'->(∀z,z∈S->z∉G)->at_ w' p G L
 lt:∀ {w:World} {p:Nat} {G L:List Nat},at_ w p G L->∀z,z∈G->z<w.heap.size
def Bw (o:Option Nat):Value:=.pointer (o.map fun b=>⟨b,0,none⟩)
def z8 (f:Nat->Option Nat) (m:Nat):List Value:=(List.range m).map fun h=>Bw (f h)
theorem Ol {f:Nat->Option Nat} {m j:Nat} (h:j<m):(z8 f m)[j]?=some (Bw (f j)):=by unfold z8;simp [h]
theorem J4 (f:Nat->Option Nat) (m:Nat) (o:Option Nat):z8 f m++[Bw o]=z8 (fun h=>if h=m then o else f h) (m+1):=by
 unfold z8;rw [List.range_succ,List.map_append]
 congr 1
 ·apply List.map_congr_left;intro a ha;have:=List.mem_range.1 ha
  show Bw (f a)=Bw (if a=m then o else f a)
  rw [Γ ω]
 ·simp
def jK {α:Type} (f:Nat->α) (h:Nat) (x:α):Nat->α:=fun k=>if k=h then x else f k
theorem dC {α:Type} (f:Nat->α) (h:Nat) (x:α):jK f h x h=x:=by unfold jK;rw [Δ rfl]
theorem bI {α:Type} (f:Nat->α) {h k:Nat} (x:α) (e:k≠h):jK f h x k=f k:=by unfold jK;rw [Γ e]
structure vB (K:RwK) (ety:TypeId) (w:World) (gr cr m:Nat) (has:Nat->Bool) (Z:List Nat) (ptr:Nat->Option Nat) (G L:Nat->List Nat):Prop where
 rows:w.ownsRow 0 ety 1 (.slice (some ⟨gr,0,none⟩) m cr) m (z8 ptr m)
 row:∀h,has h=true->∃rp,ptr h=some rp/\K.at_ w rp (G h) (L h)
 yC:∀h,has h=true->∀z,z∈G h->z∈Z
 U8:∀h k,has h=true->has k=true->h≠k->∀z,z∈G h->z∉G k
 J7:∀z,z∈Z->z<w.heap.size
 UJ:gr∉Z
section
variable {K:RwK} {ety:TypeId} {w w':World} {gr cr m:Nat} {has:Nat->Bool} {Z:List Nat} {ptr:Nat->Option Nat} {G L:Nat->List Nat}
theorem vB.lt (h:vB K ety w gr cr m has Z ptr G L):gr<w.heap.size:=(h.rows.lt gr rfl).2
theorem vB.upd {S:List Nat} (h:vB K ety w gr cr m has Z ptr G L) (hu:aa S w w') (hS:∀z,z∈S->z≠gr/\z∉Z):vB K ety w' gr cr m has Z ptr G L:=
 ⟨ay h.rows hu (fun k hk hm=>by cases hk;exact (hS _ hm).1 rfl),fun g hg=>by
  obtain ⟨rp,e,hr⟩:=h.row g hg
  exact ⟨rp,e,K.upd hr hu (fun z hz hm=>(hS z hz).2 (h.yC g hg z hm))⟩,h.yC,h.U8,fun z hz=>Ψ (h.J7 z hz) hu.size,h.UJ⟩
theorem vB.cell (h:vB K ety w gr cr m has Z ptr G L) {g rp:Nat} (hg:g<m) (hp:ptr g=some rp):w.cell? ⟨gr,g,none⟩=some (.pointer (some ⟨rp,0,none⟩)):=by
 rw [h.rows.cellAt g ω,Ol hg,hp];rfl
theorem vB.one {S G' L':List Nat} {g rp:Nat} (h:vB K ety w gr cr m has Z ptr G L) (hg:has g=true) (hp:ptr g=some rp) (hu:aa S w w') (hS:∀z,z∈S->z∈G g\/(z≠gr/\z∉Z)) (hr:K.at_ w' rp G' L') (hG:∀z,z∈G'->z∈G g\/w.heap.size<=z) :
  vB K ety w' gr cr m has (Z++G') ptr (jK G g G') (jK L g L'):=by
 have hgl:=h.lt;have hgr:∀z,z∈S->z≠gr:=fun z hz e=>by
  rcases hS z hz with h1|h1
  ·exact h.UJ (by rw [←e];exact h.yC g hg z h1)
  ·exact h1.1 e
 have hoth:∀k,has k=true->k≠g->∀z,z∈S->z∉G k:=fun k hk hne z hz hm=>by
  rcases hS z hz with h1|h1
  ·exact h.U8 g k hg hk (fun e=>hne e.symm) z h1 hm
  ·exact h1.2 (h.yC k hk z hm)
 refine ⟨ay h.rows hu (fun k hk hm=>by cases hk;exact hgr _ hm rfl),fun k hk=>?_,fun k hk z hz=>?_,fun k j hk hj hne z hz=>?_,fun z hz=>?_,fun hm=>?_⟩
 ·by_cases e:k=g
  ·subst e;rw [dC,dC];exact ⟨rp,hp,hr⟩
  ·rw [bI _ _ e,bI _ _ e];obtain ⟨q,e2,hq⟩:=h.row k hk;exact ⟨q,e2,K.upd hq hu (hoth k hk e)⟩
 ·by_cases e:k=g
  ·subst e;rw [dC] at hz;exact τ.2 (Β hz)
  ·rw [bI _ _ e] at hz;exact τ.2 (Α (h.yC k hk z hz))
 ·by_cases e:k=g
  ·subst e;rw [dC] at hz;rw [bI _ _ (fun e=>hne e.symm)];rcases hG z hz with h1|h1
   ·exact h.U8 k j hk hj hne z h1
   ·exact fun hm=>by have:=h.J7 z (h.yC j hj z hm);omega
  ·rw [bI _ _ e] at hz
   by_cases e2:j=g
   ·subst e2;rw [dC];intro hm;rcases hG z hm with h1|h1
    ·exact h.U8 k j hk hj hne z hz h1
    ·have:=h.J7 z (h.yC k hk z hz);omega
   ·rw [bI _ _ e2];exact h.U8 k j hk hj hne z hz
 ·rcases τ.1 hz with h1|h1
  ·exact Ψ (h.J7 z h1) hu.size
  ·exact K.lt hr z h1
 ·rcases τ.1 hm with h1|h1
  ·exact h.UJ h1
  ·rcases hG gr h1 with h2|h2
   ·exact h.UJ (h.yC g hg gr h2)
   ·omega
theorem vB.snoc {S G' L':List Nat} {rp gr' cr':Nat} (h:vB K ety w gr cr m has Z ptr G L) (hm:has m=false) (hu:aa S w w') (hS:∀z,z∈S->z∉Z) (hr:K.at_ w' rp G' L') (hG:∀z,z∈G'->w.heap.size<=z) (hg1:gr'∉Z) (hg2:gr'∉G')
  (hrow:w'.ownsRow 0 ety 1 (.slice (some ⟨gr',0,none⟩) (m+1) cr') (m+1) (z8 ptr m++[Bw (some rp)])) :
  vB K ety w' gr' cr' (m+1) (fun h=>has h || h == m) (Z++G') (jK ptr m (some rp)) (jK G m G') (jK L m L'):=by
 have hcase:∀k,(has k || k == m)=true->k=m\/(k≠m/\has k=true):=fun k hk=>by
  by_cases e:k=m
  ·exact Α e
  ·right;simp [e] at hk;exact ⟨e,hk⟩
 refine ⟨by rw [J4] at hrow;exact hrow,fun k hk=>?_,fun k hk z hz=>?_,fun k j hk hj hne z hz=>?_,fun z hz=>?_,fun hmm=>?_⟩
 ·rcases hcase k hk with rfl|⟨e,hk'⟩
  ·rw [dC,dC,dC];exact ⟨rp,rfl,hr⟩
  ·rw [bI _ _ e,bI _ _ e,bI _ _ e];obtain ⟨q,e2,hq⟩:=h.row k hk';exact ⟨q,e2,K.upd hq hu (fun z hz hm=>hS z hz (h.yC k hk' z hm))⟩
 ·rcases hcase k hk with rfl|⟨e,hk'⟩
  ·rw [dC] at hz;exact τ.2 (Β hz)
  ·rw [bI _ _ e] at hz;exact τ.2 (Α (h.yC k hk' z hz))
 ·rcases hcase k hk with rfl|⟨e,hk'⟩
  ·rcases hcase j hj with rfl|⟨e2,hj'⟩
   ·exact absurd rfl hne
   ·rw [dC] at hz;rw [bI _ _ e2];exact fun hm=>by have:=h.J7 z (h.yC j hj' z hm);have:=hG z hz;omega
  ·rw [bI _ _ e] at hz;rcases hcase j hj with rfl|⟨e2,hj'⟩
   ·rw [dC];exact fun hm=>by have:=h.J7 z (h.yC k hk' z hz);have:=hG z hm;omega
   ·rw [bI _ _ e2];exact h.U8 k j hk' hj' hne z hz
 ·rcases τ.1 hz with h1|h1
  ·exact Ψ (h.J7 z h1) hu.size
  ·exact K.lt hr z h1
 ·rcases τ.1 hmm with h1|h1
  ·exact hg1 h1
  ·exact hg2 h1
end
theorem J3 {A:NS} {x:Nat} (hx:x<A.cs.length) (hz:0<(A.c x).i) (q:Int) :
  (if q=(A.c x).i then (if (dF A (A.c x).i:Int)-1=0 then none else some ((dF A (A.c x).i:Int)-1)) else jf A q)=jf (iN A x Cl.z) q:=by
 have:=mZ A x Cl.z q hx;have hp:0<dF A (A.c x).i:=eH.2 ⟨x,hx,rfl,hz⟩;unfold jf
 by_cases e:q=(A.c x).i
 ·subst e;rw [Δ rfl];rw [Δ ⟨rfl,hz⟩,Γ (show ¬ (Cl.z.i=(A.c x).i/\0<(A.c x).i) from fun h=>by have:(0:Int)=(A.c x).i:=h.1;omega)] at this
  by_cases h1:dF A (A.c x).i=1
  ·rw [Δ ω,Γ ω]
  ·rw [Γ ω,Δ ω]
   congr 1;omega
 ·rw [Γ e];rw [Γ (fun h=>e h.1.symm),Γ (show ¬ (Cl.z.i=q/\0<q) from fun h=>by have:(0:Int)=q:=h.1;omega)] at this;simp only [ϖ] at this;rw [this]
theorem gM {w:World} {c st:Nat} {F:List Nat} {A:NS} (h:az w c F A st) (x:Nat) (hx:bM A x=true) :
  Calls Tryz.prog 151 #[.pointer (some ⟨c,0,none⟩),.int .i64 (x:Int)] w fun e w'=>e=.returned (.bool true)/\az w' c F (aY A x) st/\aa F w w':=by
 have k:=dG h x hx;obtain ⟨hx1,hx2⟩:=(ae _ _).1 hx;have hrng:=h.ok.nat x hx1;have hA1:=h.ok.h1;have hA2:=h.ok.c1;obtain ⟨hh,hhe⟩:∃r:Nat,(A.c x).i=r:=⟨(A.c x).i.toNat,ω⟩;have hp:0<dF A (hh:Int):=eH.2 ⟨x,hx1,hhe,ω⟩;have hlen:=DU h.ok (hh:Int);have hM:=fun q=>J3 hx1 hx2 q;have ok':=FE h.ok x;have e:aY A (x:Int)=iN A x Cl.z:=by unfold aY;rw [Δ hx];simp
 rw [hhe] at k hM hrng;have HE:=χ e;have HM:=χ hM;have Fp:1<=hh:=ω;have HO:=χ ok';obtain ⟨len,hle⟩:∃n,n=A.cs.length:=⟨_,rfl⟩;have HL:=χ hle;clear h hx hM ok' e hle hx2 hhe;have hx1:x<len:=by have:=HL.out;omega
 obtain ⟨m,hm⟩:∃m:Int,m=(dF A (hh:Int):Int):=⟨_,rfl⟩;rw [←hm] at HM;have HZ:=χ hm;have hm1:0<m:=ω;have hm2:m<=65536:=ω;clear hm hp hlen
 go_enter Tryz.func151,Tryz.ntmps151
 go_wp2_with fail
 refine k.mono ?_;rintro e w1 ⟨rfl,hC,hu⟩;have hsz:=hu.size;have hlt:=hC.lt;obtain ⟨ca,nm,mb,g,cap,l,rt,dp,raw,h,rfl⟩:=hC;have c1:=h.c1;have c3:=h.c3;rw [←HL.out] at c1;have d0:=h.row.cell (x*3) (by rw [←HL.out];omega);have d1:=h.row.cell (x*3+1) (by rw [←HL.out];omega);have d2:=h.row.cell (x*3+2) (by rw [←HL.out];omega);have f0:=h.row.free (x*3);have f1:=h.row.free (x*3+1);have f2:=h.row.free (x*3+2);have l1:=hlt c σ;have l2:=hlt ca σ;have l3:=hlt mb σ;have hs:=h.sep;have H:=χ h;have HU:=χ hu;clear h hlt k hu
 have fin:∀ (w2:World),fU w2 mb (jf (iN A x Cl.z))->aa [mb] (((w1.setCell ⟨ca,x*3,none⟩ (.int .i64 0)).setCell ⟨ca,x*3+1,none⟩ (.int .i64 0)).setCell ⟨ca,x*3+2,none⟩ (.int .u64 0)) w2->
   az w2 c [c,ca,nm,mb,g] (aY A x) st/\aa [c,ca,nm,mb,g] w w2:=fun w2 hm2 hu2=>by
  have hu3:aa [ca] w1 (((w1.setCell ⟨ca,x*3,none⟩ (.int .i64 0)).setCell ⟨ca,x*3+1,none⟩ (.int .i64 0)).setCell ⟨ca,x*3+2,none⟩ (.int .u64 0)):=β;have hr3:=(row3 (i:=x) H.out.row Cl.z).upd hu2 ι;have fP:aa [ca,mb] w1 w2:=(hu3.mono ι).joined hu2 (fun y hy=>Α (by simp at hy;simp [hy]));refine ⟨⟨ca,nm,mb,g,cap,l,rt,dp,fun y=>if y=x then Cl.z else raw y,?_,rfl⟩,HU.out.trans (fP.mono ι)⟩;have ok':=HO.out;rw [HE.out] at ok' ⊢;exact H.out.turn fP hr3 hm2 ok' (eU _ _ _) rfl (zN H.out.rel (by rw [←HL.out];exact hx1) (Α ⟨rfl,rfl⟩))
 have FIN:=χ fin;clear fin
 by_cases h1:m=1
 ·have hb:(m-1 == 0)=true:=ζ;have H1:=χ h1;clear h1
  go_wp2_with (first
   | (at_lookup;refine kV (o:=⟨some 27,_,_,_,_,_⟩) (by rfl) _ _ (by rfl) mb (jf A) (by rfl) (H.out.many.upd (S:=[ca]) β ι) (hh:Int) (by rfl) ω m ((uD _ _).trans HZ.out.symm) ?_)
   | (at_lookup;refine kV (o:=⟨some 34,_,_,_,_,_⟩) (by rfl) _ _ (by rfl) mb _ (by rfl) hm2 (hh:Int) (by rfl) ω (m-1) σ ?_)
   | (at_mapUpdate;refine ma rfl _ _ _ rfl mb (jf A) rfl (H.out.many.upd (S:=[ca]) β ι) (hh:Int) (m-1) rfl rfl ω ω ?_;intro w2 hm2 hu2;(have q1:=hu2.cell (p:=⟨c,3,none⟩) (by simp;exact l1) ι))
   | (at_delete;refine oq rfl _ _ rfl mb _ rfl hm2 (hh:Int) rfl ω ?_;intro w3 UH hu3))
  go_ret
  have hm4:fU w3 mb (jf (iN A x Cl.z)):=fU.ext UH (fun q=>by
   rw [←HM.out q]
   by_cases e:q=(hh:Int)
   ·rw [Δ e,Δ e,Δ (by have:=H1.out;omega)]
   ·rw [Γ e,Γ e,Γ e])
  exact ⟨rfl,FIN.out w3 hm4 (hu2.trans hu3)⟩
 ·have hb:(m-1 == 0)=false:=ζ;have H1:=χ h1;clear h1
  go_wp2_with (first
   | (at_lookup;refine kV (o:=⟨some 27,_,_,_,_,_⟩) (by rfl) _ _ (by rfl) mb (jf A) (by rfl) (H.out.many.upd (S:=[ca]) β ι) (hh:Int) (by rfl) ω m ((uD _ _).trans HZ.out.symm) ?_)
   | (at_lookup;refine kV (o:=⟨some 34,_,_,_,_,_⟩) (by rfl) _ _ (by rfl) mb _ (by rfl) hm2 (hh:Int) (by rfl) ω (m-1) σ ?_)
   | (at_mapUpdate;refine ma rfl _ _ _ rfl mb (jf A) rfl (H.out.many.upd (S:=[ca]) β ι) (hh:Int) (m-1) rfl rfl ω ω ?_;intro w2 hm2 hu2;(have q1:=hu2.cell (p:=⟨c,3,none⟩) (by simp;exact l1) ι)))
  go_ret
  have hm4:fU w2 mb (jf (iN A x Cl.z)):=fU.ext hm2 (fun q=>by
   rw [←HM.out q]
   by_cases e:q=(hh:Int)
   ·rw [Δ e,Δ e,Γ (by have:=H1.out;omega)]
   ·rw [Γ e,Γ e])
  exact ⟨rfl,FIN.out w2 hm4 hu2⟩
end Go.Proofs.YtklibcncmbofpaaGreat
