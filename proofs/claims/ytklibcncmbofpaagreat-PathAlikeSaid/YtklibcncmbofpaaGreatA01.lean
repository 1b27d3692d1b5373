/-
  Lemmas for PathAlike: Base, Ns, Own, Row, Append, Ints, Ent, Names, Map, Cells, Cells2, Cells4, Cells5, Ord, Enters, Mth, NestB, Qn, MapH, SameW, SameSl, Fam, Cells3. Conditions: those of each lemma.
-/
import Derived.WalkKit
import Derived.WalkSpells
import Derived.WalkLawsBesides
import Derived.BigQuiet
import Derived.Deep.RegionHeld3
import Derived.ProofKit
import Derived.OpenShut
import Derived.Lib.Hide
import Derived.Maps.AppendAt
import Derived.Test.YtklibcncmbofpaaGreatProg
import Derived.StillTailTactics
import Derived.Maps.OwnSet
import Derived.Maps.OwnOps
import Derived.Maps.RangeWalk
import Derived.DeepKeys4
set_option linter.all false
set_option maxHeartbeats 8000000
set_option maxRecDepth 10000
namespace Go.Proofs.YtklibcncmbofpaaGreat
open Go.RowKit
theorem jL {k:IntKind} {a b:Int} (h:a=b):Ending.returned (.int k a)=.returned (.int k b):=by rw [h]
theorem aU {a b:Bool} (h:a=b):Ending.returned (.bool a)=.returned (.bool b):=by rw [h]
structure aa (S:List Nat) (w w':World):Prop where
 os:w'.os=w.os
 tape:w'.tape=w.tape
 output:w'.output=w.output
 size:w.heap.size<=w'.heap.size
 block:∀k,k<w.heap.size->k∉S->w'.heap[k]?=w.heap[k]?
theorem aa.refl (S:List Nat) (w:World):aa S w w:=⟨rfl,rfl,rfl,Nat.le_refl _,fun _ _ _=>rfl⟩
theorem aa.joined {S T:List Nat} {a b c:World} (h:aa S a b) (k:aa T b c) (hT:∀x,x∈T->x∈S\/a.heap.size<=x):aa S a c:=
  ⟨k.os.trans h.os,k.tape.trans h.tape,k.output.trans h.output,Nat.le_trans h.size k.size,
   fun i hi hs=>(k.block i (Nat.lt_of_lt_of_le hi h.size) (fun hm=>by rcases hT i hm with h1|h1;exact hs h1;omega)).trans (h.block i hi hs)⟩
theorem aa.trans {S:List Nat} {a b c:World} (h:aa S a b) (k:aa S b c):aa S a c:=h.joined k (fun _ hx=>Or.inl hx)
theorem aa.then {S:List Nat} {a b c:World} (h:aa S a b) (k:aa [] b c):aa S a c:=h.joined k (fun _ hx=>by cases hx)
theorem aa.mono {S T:List Nat} {a b:World} (h:aa S a b) (hs:∀x,x∈S->x∈T):aa T a b:=
 ⟨h.os,h.tape,h.output,h.size,fun k hk hn=>h.block k hk (fun hm=>hn (hs k hm))⟩
theorem aa.drew {S:List Nat} {a w:World} (h:aa S a w):aa S a w.drew:=⟨h.os,h.tape,h.output,h.size,h.block⟩
theorem aa.drewN {S:List Nat} {a w:World} (h:aa S a w) (n:Nat):aa S a (w.drewN n):=⟨h.os,h.tape,h.output,h.size,h.block⟩
theorem aa.alloc {S:List Nat} {a w:World} (h:aa S a w) (o:Obj):aa S a (w.alloc o):=
 h.joined (T:=[]) ⟨rfl,rfl,rfl,by simp,fun k hk _=>Below.heap_alloc _ _ _ hk⟩ (fun _ hx=>by cases hx)
theorem aa.setCell {S:List Nat} {a w:World} (h:aa S a w) {p:Addr} (hp:p.block∈S\/a.heap.size<=p.block) (u:Value):aa S a (w.setCell p u):=
 h.joined (T:=[p.block]) ⟨rfl,rfl,rfl,by simp [World.setCell],fun k hk hn=>Below.heap_setCell _ _ _ _ (by simpa using hn)⟩ (fun x hx=>by simp at hx;rw [hx];exact hp)
theorem aa.grown {S:List Nat} {a w w':World} {row:Option Nat} (h:aa S a w) (hg:w.grownBy w' row) (hr:∀k,row=some k->k∈S\/a.heap.size<=k):aa S a w':=
 h.joined (T:=row.toList) ⟨hg.os,hg.tape,hg.output,hg.size,fun k hk hn=>hg.block k hk (fun e=>hn (by rw [←e];simp))⟩ (fun x hx=>hr x (by simpa using hx))
theorem aa.cell {S:List Nat} {w w':World} (h:aa S w w') {p:Addr} (hp:p.block<w.heap.size) (hn:p.block∉S):w'.cell? p=w.cell? p:=World.cell?_of_block (w:=w) (h.block p.block hp hn)
theorem aa.frozen {S:List Nat} {w w':World} (h:aa S w w') {p:Addr} (hp:p.block<w.heap.size) (hn:p.block∉S):w'.frozen? p=w.frozen? p:=World.frozen?_of_block (w:=w) (h.block p.block hp hn)
theorem aa.below {w w':World} (h:aa [] w w'):Below w.heap.size w w':=⟨h.os,h.tape,h.output,h.size,fun k hk=>h.block k hk (by simp)⟩
theorem aa.was {w w':World} (h:aa [] w w') {p:Addr} {v:Value} (hv:w.cell? p=some v):w'.cell? p=some v:=by
 rw [h.cell (World.block_lt_of_cell? w p hv) (by simp)];exact hv
theorem aa.kept {S:List Nat} {w w':World} (h:aa S w w') {p:Addr} {v:Value} (hv:w.cell? p=some v) (hn:p.block∉S):w'.cell? p=some v:=by
 rw [h.cell (World.block_lt_of_cell? w p hv) hn];exact hv
theorem aa.aH {S:List Nat} {w w':World} (h:aa S w w') {p:Addr} {v:Value} (hv:w.cell? p=some v) (hn:p.block∉S) (hf:w.frozen? p=false):w'.frozen? p=false:=by
 rw [h.frozen (World.block_lt_of_cell? w p hv) hn];exact hf
theorem WW {W w1:World} (hb:aa [] W w1):(∀a,(W.cell? a).isSome=true->w1.cell? a=W.cell? a)/\(∀a,(W.cell? a).isSome=true->w1.frozen? a=W.frozen? a):=
  ⟨fun a h=>by obtain ⟨u,hu⟩:=Option.isSome_iff_exists.1 h;exact hb.cell (World.block_lt_of_cell? W a hu) (by simp),
   fun a h=>by obtain ⟨u,hu⟩:=Option.isSome_iff_exists.1 h;exact hb.frozen (World.block_lt_of_cell? W a hu) (by simp)⟩
theorem β {P:Prop} (h:P:=by (repeat (first|assumption|exact aa.refl _ _|refine aa.alloc ?_ _|refine aa.drew ?_|refine aa.drewN ?_ _|refine aa.setCell ?_ ?_ _|focus (left;simp;done)|focus (right;simp;done)|focus (right;simp;omega)))):P:=h
theorem κ {P:Prop} (h:P:=by (repeat (first|assumption|exact aa.refl _ _|refine aa.drew ?_|refine aa.alloc ?_ _|refine aa.setCell ?_ ?_ _|focus (left;simp;done)|focus (right;simp;done)|focus (right;simp;omega)|(apply aa.trans;rotate_left;assumption;assumption)))):P:=h
theorem ν {P:Prop} (h:P:=by (repeat (first|assumption|exact aa.refl _ _|refine aa.drew ?_|refine aa.alloc ?_ _|refine aa.setCell ?_ ?_ _|focus (left;simp;done)|focus (right;simp;done)|focus (right;simp;omega)|(apply aa.trans;rotate_left;assumption)))):P:=h
theorem η {P:Prop} (h:P:=by (repeat (first|assumption|exact aa.refl _ _|refine aa.drew ?_|refine aa.alloc ?_ _|(apply aa.trans;rotate_left;assumption)))):P:=h
theorem ξ {P:Prop} (h:P:=by (repeat (first|assumption|exact aa.refl _ _|refine aa.alloc ?_ _|refine aa.drew ?_|refine aa.drewN ?_ _|refine aa.setCell ?_ (Or.inr (by first|(simp;done)|(simp;omega))) _|(apply aa.trans;rotate_left;assumption)))):P:=h
theorem ω {P:Prop} (h:P:=by omega):P:=h
theorem σ {P:Prop} (h:P:=by simp):P:=h
theorem ζ {P:Prop} (h:P:=by simp;omega):P:=h
theorem ι {P:Prop} (h:P:=by first|(simp;done)|(simp;omega)):P:=h
theorem μ {P:Prop} (h:P:=by unfold maxLen;omega):P:=h
theorem γ {P:Prop} (h:P:=by go_simp):P:=h
theorem δ {P:Prop} (h:P:=by decide):P:=h
theorem ψ {a b:Prop} (x:a) (y:b):a/\b:=⟨x,y⟩
theorem χ {p:Prop} (h:p):Hid p:=h
theorem φ {α:Type} {l:List α} {i:Nat} {a:α}:l.getD i a=l[i]?.getD a:=List.getD_eq_getElem?_getD
theorem π (n:Nat):(n:Int).toNat=n:=Int.toNat_natCast n
theorem ρ {α:Type _} {a b:α} {l:List α}:a∈b::l↔a=b\/a∈l:=List.mem_cons
theorem τ {α:Type _} {a:α} {s t:List α}:a∈s++t↔a∈s\/a∈t:=List.mem_append
theorem ε {α:Type _} {l:List α} {i:Nat} (h:i<l.length):l[i]?=some l[i]:=List.getElem?_eq_getElem h
theorem υ {α:Type _} {s t:List α}:(s++t).length=s.length+t.length:=List.length_append
theorem θ {α:Type _} {s t:List α}:(s++t).Nodup↔s.Nodup/\t.Nodup/\∀a∈s,∀b∈t,a≠b:=List.nodup_append
theorem ς {α:Type _} {a:α}:¬a∈([]:List α):=List.not_mem_nil
def Α:=@Or.inl
def Β:=@Or.inr
def Γ:=@if_neg
def Δ:=@if_pos
def Ε:=@World.block_lt_of_cell?
def Ζ:=@List.nodup_cons
def Η:=@List.mem_of_getElem?
def Θ:=@Nat.le_refl
def Ι:=@List.length_set
def Κ:=@World.size_alloc
def Λ:=@List.mem_cons_of_mem
def Μ:=@IntWalk.i64_in
def Ν:=@decide_eq_true
def Ξ:=@decide_eq_false
def Ο:=@decide_eq_true_eq
def Ρ:=@List.getElem?_append_left
def Τ:=@Bool.and_eq_true
def Υ:=@List.append_nil
def Φ:=@List.perm_append_comm
def Χ:=@Nat.le_trans
def Ψ:=@Nat.lt_of_lt_of_le
def Ω:=@List.length_cons
def ϊ:=@List.getElem?_append_right
def ϋ:=@List.append_assoc
def ό:=@List.Perm.refl
def ύ:=@List.getElem?_set
def ώ:=@List.getElem?_set_ne
def Ϗ:=@List.take_add_one
def ϐ:=@List.length_take
def ϑ:=@List.getElem?_map
def ϒ:=@List.mem_singleton
def ϓ:=@Nat.zero_add
def ϔ:=@Nat.add_zero
def ϕ:=@Nat.lt_or_ge
def ϖ:=@Option.some.injEq
def ϗ:=@List.getElem_mem
def Ϙ:=@Classical.byContradiction
def ϙ:=@List.eq_nil_of_length_eq_zero
def Ϛ:=@List.nil_append
def ϛ:=@List.drop_eq_getElem_cons
def Ϝ:=@List.Perm.trans
def ϝ:=@List.perm_middle
def Ϟ:=@Bool.false_eq_true
def ϟ:=@of_decide_eq_true
def Ϡ:=@List.nodup_nil
end Go.Proofs.YtklibcncmbofpaaGreat
namespace Go.Proofs.YtklibcncmbofpaaGreat
structure Cl where
 i:Int
 k:Int
 s:Int
instance:Inhabited Cl:=⟨⟨0,0,0⟩⟩
def Cl.z:Cl:=⟨0,0,0⟩
structure NS where
 hs:List Bool
 cs:List Cl
def NS.c (A:NS) (x:Nat):Cl:=A.cs.getD x Cl.z
def NS.new (n:Nat):NS:=⟨[false],List.replicate n Cl.z⟩
def bD (A:NS) (h:Int):Bool:=decide (1<=h) && decide (h<A.hs.length) && A.hs.getD h.toNat false
def wL (A:NS) (x:Int):Bool:=decide (0<=x) && decide (x<A.cs.length)
def bQ (A:NS) (x:Int):Bool:=wL A x && decide (0<(A.c x.toNat).i)
def iM (A:NS) (x:Nat) (c:Cl):NS:=⟨A.hs,A.cs.set x c⟩
def BU (k1 s1 k2 s2:Int):Bool:=if k1=k2 then decide (s1<s2) else decide (k1<k2)
def cu (A:NS):Int:=if 65536<A.hs.length then 0 else A.hs.length
def aN (A:NS):NS:=if 65536<A.hs.length then A else ⟨A.hs++[true],A.cs⟩
def nR (A:NS) (h x:Int):Bool:=bD A h && wL A x && !bQ A x
def aJ (A:NS) (h x k s:Int):NS:=if nR A h x then iM A x.toNat ⟨h,k,s⟩ else A
def aZ (A:NS) (x:Int):NS:=if bQ A x then iM A x.toNat Cl.z else A
def iT (A:NS) (x k s:Int):Bool:=bQ A x && !BU (A.c x.toNat).k (A.c x.toNat).s k s
def ak (A:NS) (x k s:Int):NS:=if iT A x k s then iM A x.toNat ⟨(A.c x.toNat).i,k,s⟩ else A
def Jq (cs:List Cl) (h:Int):Nat:=(cs.filter fun c=>decide (c.i=h) && decide (0<h)).length
def dI (A:NS) (h:Int):Nat:=Jq A.cs h
def bX (A:NS) (a b:Nat):Prop:=(A.c a).k<(A.c b).k\/(A.c a).k=(A.c b).k/\((A.c a).s<(A.c b).s\/(A.c a).s=(A.c b).s/\a<b)
instance (A:NS) (a b:Nat):Decidable (bX A a b):=by unfold bX;infer_instance
def bU (A:NS) (a b:Int):Bool:=bQ A a && bQ A b && decide (bX A a.toNat b.toNat)
def Kq (A:NS) (h:Int) (b:Option Nat) (x:Nat):Option Nat:=if decide (0<h) && decide ((A.c x).i=h) && (match b with|none=>true|some y=>bU A x y) then some x else b
def dF (A:NS) (h:Int):Option Nat:=(List.range A.cs.length).foldl (Kq A h) none
def pQ (o:Option Nat):Int:=match o with|some x=>(x:Int)|none=>0
structure NS.Ok (A:NS):Prop where
 h0:1<=A.hs.length
 h1:A.hs.length<=65537
 h2:A.hs.getD 0 false=false
 c1:A.cs.length<=65536
 cell:∀x,x<A.cs.length->((A.c x).i=0/\(A.c x).k=0/\(A.c x).s=0)\/bD A (A.c x).i=true
 key:∀x, -9223372036854775808<=(A.c x).k/\(A.c x).k<=9223372036854775807/\0<=(A.c x).s/\(A.c x).s<=18446744073709551615
theorem aO (A:NS) (h:Int):bD A h=true↔1<=h/\h<A.hs.length/\A.hs.getD h.toNat false=true:=by
 unfold bD;simp [and_assoc]
theorem gH (A:NS) (x:Int):wL A x=true↔0<=x/\x<A.cs.length:=by unfold wL;simp
theorem yL (A:NS) (x:Int):bQ A x=true↔0<=x/\x<A.cs.length/\0<(A.c x.toNat).i:=by unfold bQ wL;simp [and_assoc]
theorem ae (A:NS) (x:Nat):bQ A (x:Int)=true↔x<A.cs.length/\0<(A.c x).i:=by rw [yL];simp
theorem NS.Ok.nat {A:NS} (h:A.Ok) (x:Nat) (hx:x<A.cs.length):0<=(A.c x).i/\(A.c x).i<A.hs.length:=by
 rcases h.cell x hx with h'|h'
 ·have:=h.h0;omega
 ·have:=(aO _ _).1 h';omega
theorem jQ (A:NS) (x:Nat) (c:Cl) (y:Nat):(iM A x c).c y=if y=x/\x<A.cs.length then c else A.c y:=by
 unfold iM NS.c;simp only [φ,ύ]
 by_cases h:x=y
 ·subst h
  by_cases hx:x<A.cs.length
  ·simp [hx]
  ·simp [hx,List.getElem?_eq_none (Nat.le_of_not_lt hx)]
 ·rw [Γ h,Γ (fun e=>h e.1.symm)]
theorem eY (A:NS) (x:Nat) (c:Cl):(iM A x c).cs.length=A.cs.length:=by unfold iM;simp
theorem PT (A:NS) (x:Nat) (c:Cl) (h:Int):bD (iM A x c) h=bD A h:=rfl
theorem NS.Ok.with {A:NS} (h:A.Ok) (x:Nat) (c:Cl) (hc:(c.i=0/\c.k=0/\c.s=0)\/bD A c.i=true) (hk:-9223372036854775808<=c.k/\c.k<=9223372036854775807/\0<=c.s/\c.s<=18446744073709551615):(iM A x c).Ok:=by
 refine ⟨h.h0,h.h1,h.h2,by rw [eY];exact h.c1,fun y hy=>?_,fun y=>?_⟩
 ·rw [eY] at hy;rw [jQ,PT]
  split
  ·exact hc
  ·exact h.cell y hy
 ·rw [jQ];split
  ·exact hk
  ·exact h.key y
theorem NS.xY (n x:Nat):(NS.new n).c x=Cl.z:=by
 unfold NS.new NS.c;rw [φ,List.getElem?_replicate];split<;>rfl
theorem NS.zB (n:Nat) (hn:n<=65536):(NS.new n).Ok:=by
 refine ⟨by simp [NS.new],by simp [NS.new],rfl,by simp [NS.new];exact hn,fun x _=>Α ?_,fun x=>?_⟩
 ·rw [NS.xY];exact ⟨rfl,rfl,rfl⟩
 ·rw [NS.xY];exact ⟨δ,δ,δ,δ⟩
theorem Hu {A:NS} (h:A.Ok):(aN A).Ok:=by
 unfold aN;split
 ·exact h
 ·rename_i hl
  have h0:=h.h0;refine ⟨σ,ζ,?_,h.c1,fun x hx=>?_,h.key⟩
  ·have:=h.h2;simp only [φ] at this ⊢;rw [Ρ ω];exact this
  ·rcases h.cell x hx with h'|h'
   ·exact Α h'
   ·refine Β ?_;have h2:=(aO _ _).1 h';refine (aO _ _).2 ⟨h2.1,by show (A.c x).i<((A.hs++[true]).length:Int);rw [υ];have:=h2.2.1;omega,?_⟩;have h3:=h2.2.2;simp only [φ] at h3 ⊢;rw [Ρ (by show (A.c x).i.toNat<A.hs.length;omega)];exact h3
theorem dW (A:NS) (h x:Int):nR A h x=true↔bD A h=true/\wL A x=true/\bQ A x=false:=by unfold nR;simp [and_assoc]
theorem yI {A:NS} (h:A.Ok) (g x k s:Int) (hk:-9223372036854775808<=k/\k<=9223372036854775807/\0<=s/\s<=18446744073709551615):(aJ A g x k s).Ok:=by
 unfold aJ;split
 ·rename_i hp
  exact h.with _ _ (Β ((dW _ _ _).1 hp).1) hk
 ·exact h
theorem GU {A:NS} (h:A.Ok) (x:Int):(aZ A x).Ok:=by
 unfold aZ;split
 ·exact h.with _ _ (Α ⟨rfl,rfl,rfl⟩) ⟨δ,δ,δ,δ⟩
 ·exact h
theorem iJ {A:NS} (h:A.Ok) {x:Int} (hx:bQ A x=true):bD A (A.c x.toNat).i=true:=by
 have h1:=(yL _ _).1 hx;rcases h.cell x.toNat ω with h'|h'
 ·omega
 ·exact h'
theorem Li {A:NS} (h:A.Ok) (x k s:Int) (hk:-9223372036854775808<=k/\k<=9223372036854775807/\0<=s/\s<=18446744073709551615):(ak A x k s).Ok:=by
 unfold ak;split
 ·rename_i hp
  unfold iT at hp;simp only [Τ] at hp;exact h.with _ _ (Β (iJ h hp.1)) hk
 ·exact h
/-! ### how many are in a heap -/
theorem Uu (cs:List Cl) (h:Int):Jq cs h<=cs.length:=List.length_filter_le _ _
theorem TH (cs:List Cl) (x:Nat) (c:Cl) (h:Int) (hx:x<cs.length) :
  Jq (cs.set x c) h+(if (cs.getD x Cl.z).i=h/\0<h then 1 else 0)=Jq cs h+(if c.i=h/\0<h then 1 else 0):=by
 unfold Jq
 induction cs generalizing x with
 | nil=>simp at hx
 | cons d r ih=>
  cases x with
  | zero=>
   simp only [List.set_cons_zero,List.filter_cons,List.getD_cons_zero];have e1:∀c:Cl,(decide (c.i=h) && decide (0<h))=decide (c.i=h/\0<h):=fun c=>by by_cases a:c.i=h<;>by_cases b:0<h<;>simp [a,b]
   have e2:∀ (p:Prop) [Decidable p] (d:Cl) (l:List Cl),(if decide p=true then d::l else l).length=l.length+(if p then 1 else 0):=fun p _ d l=>by by_cases hp:p<;>simp [hp]
   simp only [e1,e2];omega
  | succ x=>
   have:=ih x (by simpa using hx);simp only [List.set_cons_succ,List.filter_cons,List.getD_cons_succ]
   split<;>simp at this ⊢<;>omega
theorem mW (A:NS) (x:Nat) (c:Cl) (h:Int) (hx:x<A.cs.length) :
  dI (iM A x c) h+(if (A.c x).i=h/\0<h then 1 else 0)=dI A h+(if c.i=h/\0<h then 1 else 0):=TH A.cs x c h hx
theorem SF {cs:List Cl} {h:Int}:0<Jq cs h↔∃x,x<cs.length/\(cs.getD x Cl.z).i=h/\0<h:=by
 unfold Jq;rw [List.length_pos_iff_exists_mem];constructor
 ·rintro ⟨c,hc⟩;obtain ⟨hm,hp⟩:=List.mem_filter.1 hc;obtain ⟨x,hx,rfl⟩:=List.mem_iff_getElem.1 hm;simp only [Τ,Ο] at hp;exact ⟨x,hx,by simpa [φ,hx] using hp.1,hp.2⟩
 ·rintro ⟨x,hx,h1,h2⟩;refine ⟨cs[x],List.mem_filter.2 ⟨ϗ hx,?_⟩⟩;simp only [φ,ε hx,Option.getD_some] at h1;simp [h1,h2]
theorem eH {A:NS} {h:Int}:0<dI A h↔∃x,x<A.cs.length/\(A.c x).i=h/\0<h:=SF
theorem Dq {A:NS} (hA:A.Ok) (h:Int):dI A h<=65536:=Χ (Uu _ _) hA.c1
theorem Ms {A:NS} (hA:A.Ok) {h:Int} (hh:bD A h=false):dI A h=0:=by
 rcases Nat.eq_zero_or_pos (dI A h) with h'|h'
 ·exact h'
 ·obtain ⟨x,hx,h1,h2⟩:=eH.1 h';rcases hA.cell x hx with h3|h3
  ·omega
  ·rw [h1,hh] at h3;cases h3
theorem Nk {A:NS} (h:Int):dI (aN A) h=dI A h:=by unfold aN;split<;>rfl
/-! ### the order of slots -/
theorem bT {A:NS} {a b c:Nat} (h:bX A a b) (h':bX A b c):bX A a c:=by unfold bX at *;omega
theorem vV {A:NS} {a:Nat}:¬bX A a a:=by unfold bX;omega
theorem iQ {A:NS} {a b:Nat} (h:a≠b):bX A a b\/bX A b a:=by unfold bX;omega
theorem pI {A:NS} {a b:Nat} (h:bX A a b):¬bX A b a:=fun h'=>vV (bT h h')
theorem lJ (A:NS) (a b:Nat):bU A (a:Int) (b:Int)=(bQ A a && bQ A b && decide (bX A a b)):=by unfold bU;simp
def Sv (A:NS) (h:Int) (l:List Nat) (m:Nat):Prop:=m∈l/\(A.c m).i=h/\∀y,y∈l->(A.c y).i=h->y=m\/bX A m y
theorem xA (A:NS) (h:Int) (hh:0<h):∀ (l:List Nat),(∀x∈l,x<A.cs.length)->∀ (pre:List Nat),(∀x∈pre,x<A.cs.length)->∀o:Option Nat,
  (match o with|some m=>Sv A h pre m|none=>∀y∈pre,(A.c y).i≠h)->
  (match l.foldl (Kq A h) o with|some m=>Sv A h (pre++l) m|none=>∀y∈pre++l,(A.c y).i≠h)
 | [],_,pre,_,o,ho=>by simpa using ho
 | x::l,hl,pre,hp,o,ho=>by
  have hx:=hl x σ;have step:(match Kq A h o x with|some m=>Sv A h (pre++[x]) m|none=>∀y∈pre++[x],(A.c y).i≠h):=by
   unfold Kq
   by_cases hi:(A.c x).i=h
   ·cases o with
    | none=>
     simp only at ho;simp only [hi,hh,decide_true,Bool.and_self,if_true];refine ⟨σ,hi,fun y hy he=>?_⟩;rcases τ.1 hy with hy|hy
     ·exact absurd he (ho y hy)
     ·exact Α (by simpa using hy)
    | some m=>
     simp only at ho;obtain ⟨h1,h2,h3⟩:=ho;have hm:=hp m h1;have hin:bQ A (x:Int)=true:=(ae A x).2 ⟨hx,ω⟩;have him:bQ A (m:Int)=true:=(ae A m).2 ⟨hm,ω⟩;simp only [hi,hh,decide_true,Bool.and_self,Bool.true_and,lJ,hin,him,Ο]
     by_cases hlt:bX A x m
     ·rw [Δ hlt];refine ⟨σ,hi,fun y hy he=>?_⟩;rcases τ.1 hy with hy|hy
      ·rcases h3 y hy he with rfl|h4
       ·exact Β hlt
       ·exact Β (bT hlt h4)
      ·exact Α (by simpa using hy)
     ·rw [Γ hlt];refine ⟨by simp [h1],h2,fun y hy he=>?_⟩;rcases τ.1 hy with hy|hy
      ·exact h3 y hy he
      ·simp at hy;subst hy
       by_cases e:y=m
       ·exact Α e
       ·rcases iQ (A:=A) e with h4|h4
        ·exact absurd h4 hlt
        ·exact Β h4
   ·simp only [hi,decide_false,Bool.and_false,Bool.false_and,Ϟ,if_false];cases o with
    | none=>
     simp only at ho ⊢;intro y hy;rcases τ.1 hy with hy|hy
     ·exact ho y hy
     ·simp at hy;subst hy;exact hi
    | some m=>
     simp only at ho ⊢;obtain ⟨h1,h2,h3⟩:=ho;refine ⟨by simp [h1],h2,fun y hy he=>?_⟩;rcases τ.1 hy with hy|hy
     ·exact h3 y hy he
     ·simp at hy;subst hy;exact absurd he hi
  have:=xA A h hh l (fun y hy=>hl y (by simp [hy])) (pre++[x]) (fun y hy=>by rcases τ.1 hy with hy|hy;exact hp y hy;simp at hy;subst hy;exact hx) _ step;simpa using this
def Vf (A:NS) (h:Int) (m:Nat):Prop:=m<A.cs.length/\(A.c m).i=h/\∀y,y<A.cs.length->(A.c y).i=h->y=m\/bX A m y
theorem iB {A:NS} {h:Int} (hh:0<h) {m:Nat}:dF A h=some m↔Vf A h m:=by
 have:=xA A h hh (List.range A.cs.length) (fun x hx=>by simpa using hx) [] σ none σ;simp only [Ϛ] at this
 change (match dF A h with|some m=>_|none=>_) at this
 constructor
 ·intro e;rw [e] at this;obtain ⟨h1,h2,h3⟩:=this;exact ⟨by simpa using h1,h2,fun y hy he=>h3 y (by simpa using hy) he⟩
 ·rintro ⟨h1,h2,h3⟩;cases e:dF A h with
  | none=>rw [e] at this;exact absurd h2 (this m (by simpa using h1))
  | some m'=>
   rw [e] at this;obtain ⟨k1,k2,k3⟩:=this;rcases h3 m' (by simpa using k1) k2 with rfl|h4
   ·rfl
   ·rcases k3 m (by simpa using h1) h2 with rfl|h5
    ·rfl
    ·exact absurd h4 (pI h5)
theorem jB {A:NS} {h:Int} (hh:0<h):dF A h=none↔dI A h=0:=by
 have:=xA A h hh (List.range A.cs.length) (fun x hx=>by simpa using hx) [] σ none σ;simp only [Ϛ] at this
 change (match dF A h with|some m=>_|none=>_) at this
 cases e:dF A h with
 | none=>
  rw [e] at this;refine ⟨fun _=>?_,fun _=>rfl⟩;rcases Nat.eq_zero_or_pos (dI A h) with h'|h'
  ·exact h'
  ·obtain ⟨x,hx,h1,_⟩:=eH.1 h';exact absurd h1 (this x (by simpa using hx))
 | some m=>
  rw [e] at this;obtain ⟨k1,k2,_⟩:=this;refine ⟨fun h=>by (cases h),fun h0=>?_⟩;have:0<dI A h:=eH.2 ⟨m,by simpa using k1,k2,hh⟩;omega
theorem o9 {A:NS} {h:Int} (hh:¬0<h):dF A h=none:=by
 unfold dF;generalize List.range A.cs.length=l;have:∀l:List Nat,l.foldl (Kq A h) none=none:=fun l=>by
  induction l with
  | nil=>rfl
  | cons x l ih=>rw [List.foldl_cons,show Kq A h none x=none by unfold Kq;simp [hh]];exact ih
 exact this l
theorem Rs {A:NS} {h:Int} (hh:¬0<h):dI A h=0:=by
 rcases Nat.eq_zero_or_pos (dI A h) with h'|h'
 ·exact h'
 ·obtain ⟨x,_,_,h2⟩:=eH.1 h';exact absurd h2 hh
theorem lI {A A':NS} {x y:Nat} (h:bX A x y) (hy:A'.c y=A.c y) (hx:(A'.c x).k<(A.c x).k\/(A'.c x).k=(A.c x).k/\(A'.c x).s<=(A.c x).s):bX A' x y:=by
 unfold bX at *;rw [hy];omega
theorem sP {A:NS} {x k s:Int} (h:iT A x k s=true):k<(A.c x.toNat).k\/k=(A.c x.toNat).k/\s<=(A.c x.toNat).s:=by
 unfold iT BU at h;simp only [Τ,Bool.not_eq_true'] at h;have h2:=h.2
 split at h2
 ·simp at h2;omega
 ·simp at h2;omega
theorem qN {A:NS} {x:Nat} {k s:Int} (hB:iT A x k s=true) (hx:x<A.cs.length) (y:Nat):(ak A x k s).c y=if y=x then ⟨(A.c x).i,k,s⟩ else A.c y:=by
 unfold ak;rw [Δ hB,π,jQ]
 by_cases e:y=x
 ·rw [Δ ⟨e,hx⟩,Δ e]
 ·rw [Γ (fun h=>e h.1),Γ e]
theorem iy {A:NS} {x:Nat} {k s:Int} (hB:iT A x k s=true) (hx:x<A.cs.length) (y:Nat):((ak A x k s).c y).i=(A.c y).i:=by
 rw [qN hB hx];split
 ·rename_i e;rw [e]
 ·rfl
theorem eB (A:NS) (x k s:Int):(ak A x k s).cs.length=A.cs.length:=by unfold ak;split;exact eY _ _ _;rfl
theorem kV (A:NS) (x k s:Int):(ak A x k s).hs=A.hs:=by unfold ak;split<;>rfl
theorem xz {A:NS} {x:Nat} (hB:bQ A x=true) (y:Nat):(aZ A x).c y=if y=x then Cl.z else A.c y:=by
 have hx:=((ae A x).1 hB).1;unfold aZ;rw [Δ hB,π,jQ]
 by_cases e:y=x
 ·rw [Δ ⟨e,hx⟩,Δ e]
 ·rw [Γ (fun h=>e h.1),Γ e]
theorem eU (A:NS) (x:Int):(aZ A x).cs.length=A.cs.length:=by unfold aZ;split;exact eY _ _ _;rfl
theorem iK (A:NS) (x:Int):(aZ A x).hs=A.hs:=by unfold aZ;split<;>rfl
theorem eZ {A A':NS} {a b:Nat} (ha:A'.c a=A.c a) (hb:A'.c b=A.c b):bX A' a b↔bX A a b:=by unfold bX;rw [ha,hb]
end Go.Proofs.YtklibcncmbofpaaGreat
namespace Go.Proofs.YtklibcncmbofpaaGreat
open Go Go.RowKit
theorem lF {w:World} {base base' size n:Nat} {e:TypeId} {v:Value} {xs:List Value} (h:w.ownsRow base e size v n xs) (hb:base'<=base):w.ownsRow base' e size v n xs:=by
 refine ⟨h.1,?_⟩;rcases h.2 with hn|⟨g,cap,cur,rfl,hb',hg,rest⟩
 ·exact Α hn
 ·exact Β ⟨g,cap,cur,rfl,Χ hb hb',hg,rest⟩
theorem DY (W:World) (us:List Value) (e:TypeId) (j:Nat) (u:Value) (hj:us[j]?=some u):(W.alloc (.cells us.toArray e)).cell? ((⟨W.heap.size,0,none⟩:Addr).add j)=some u:=by
 have e1:((⟨W.heap.size,0,none⟩:Addr).add j)=⟨W.heap.size,j,none⟩:=by
  unfold Addr.add;split
  ·subst_vars;rfl
  ·simp
 rw [e1];have e2:(W.alloc (.cells us.toArray e)).heap[W.heap.size]?=some (.cells us.toArray e):=by
  show (W.heap.push _)[W.heap.size]?=_
  simp
 unfold World.cell?;simp only [e2];simpa using hj
theorem aV {P:Program} {ops:Array Oper} {rest:List Oper} {o:Oper} {a:Act} {Q:Exit->Act->World->Prop} {W:World} (hgd:o.guard=none) (s x:Operand) (t:TypeId)
  (ho:o.op=.call { callee:=.builtin .append,args:=#[s,x],argTypes:=#[t,t] })
  (base:Nat) (e:TypeId) (z:Value) (size bytes:Nat) (ht:P.underlying t=some (.slice e)) (hinfo:(P.info? e).map (fun i=>(i.zero,i.size,i.bytes))=some (some z,size,bytes))
  (hzs:z.cells.size=size) (hsz:0<size) (v:Value) (n:Nat) (xs:List Value) (hs:a.eval s=v) (hown:W.ownsRow base e size v n xs)
  (us:List Value) (hus:us.length=size) (h1:∀u∈us,u.oneCell'=true) (hx:a.eval x=.slice (some ⟨W.heap.size,0,none⟩) 1 1)
  (hn:n+1<=maxLen) (hbytes:(n+1)*bytes<=140737488355328) (hbase:base<=W.heap.size)
  (h:∀v' w',w'.ownsRow base e size v' (n+1) (xs++us)->aa v.ownBlock.toList W w'->(v'.ownBlock=v.ownBlock\/∀k,v'.ownBlock=some k->W.heap.size<k)->wpList P ops Q rest (a.put o.dst v') w') :
  wpList P ops Q (o::rest) a (W.alloc (.cells us.toArray e)):=by
 obtain ⟨i,hi,hz0,hz1,hz2⟩:=info_parts hinfo;have hcell:=fun j u hj=>DY W us e j u hj;rcases hown.2 with ⟨rfl,rfl⟩|⟨g,cap,cur,rfl,hbg,hg,hnc,hcm,hcs,htk⟩
 ·have hxs:xs=[]:=ϙ (by rw [hown.1,Nat.zero_mul]);subst hxs;refine wpList_append_grows _ hgd s x t ho e i z size bytes ht hi hz0 hz1 hz2 hzs hsz none 0 0 [] hs (fun _=>⟨rfl,rfl⟩) σ (fun b hb=>by cases hb) ⟨W.heap.size,0,none⟩ 1 1 us hx ω hcell h1 ω hn hbytes ?_;intro v' w' ho' hgr;refine h v' w' (lF ho' ζ) (((aa.refl _ _).alloc _).grown hgr (fun k hk=>by cases hk)) (Β fun k hk=>?_);have:=(ho'.lt k hk).1;simp at this;omega
 ·have hown':=hown.alloc (.cells us.toArray e)
  by_cases hfit:n+1<=cap
  ·refine wpList_append_fits _ hgd s x t ho base e i size ht hi hz1 g n cap xs hs hown' ⟨W.heap.size,0,none⟩ 1 1 us hx ω hcell h1 hfit ?_;intro w' ho' hgr;exact h _ w' ho' (((aa.refl _ _).alloc _).grown hgr (fun k hk=>Α (by cases hk;simp [Value.ownBlock]))) (Α rfl)
  ·refine wpList_append_grows _ hgd s x t ho e i z size bytes ht hi hz0 hz1 hz2 hzs hsz (some ⟨g,0,none⟩) n cap xs hs (fun hb=>by cases hb) hown.1 (fun b hb j u hj=>?_) ⟨W.heap.size,0,none⟩ 1 1 us hx ω hcell h1 ω hn hbytes ?_
   ·cases hb;exact hown'.cells rfl j u hj
   ·intro v' w' ho' hgr;refine h v' w' (lF ho' ζ) (((aa.refl _ _).alloc _).grown hgr (fun k hk=>by cases hk)) (Β fun k hk=>?_);have:=(ho'.lt k hk).1;simp at this;omega
theorem ay {w w':World} {S:List Nat} {base size n:Nat} {e:TypeId} {v:Value} {xs:List Value} (h:w.ownsRow base e size v n xs) (hu:aa S w w') (hne:∀k,v.ownBlock=some k->k∉S):w'.ownsRow base e size v n xs:=by
 refine ⟨h.1,?_⟩;rcases h.2 with hn|⟨g,cap,cur,rfl,hb,hg,rest⟩
 ·exact Α hn
 ·have hlt:=h.lt g rfl;exact Β ⟨g,cap,cur,rfl,hb,by rw [hu.block g hlt.2 (hne g rfl)];exact hg,rest⟩
theorem aa.own {w0 w w':World} {S:List Nat} {base size n:Nat} {e:TypeId} {v:Value} {xs:List Value} (h:aa S w0 w) (ho:w.ownsRow base e size v n xs) (hb:w0.heap.size<=base) (hu:aa v.ownBlock.toList w w'):aa S w0 w':=
 h.joined hu (fun x hx=>Β (Χ hb (ho.lt x (by simpa using hx)).1))
theorem fM {w:World} {base size n:Nat} {e:TypeId} {v:Value} {xs:List Value} (h:w.ownsRow base e size v n xs) (hn:0<n) :
  ∃g cap,v=.slice (some ⟨g,0,none⟩) n cap/\base<=g/\g<w.heap.size/\n<=cap/\cap<=9223372036854775807/\(∀j u,xs[j]?=some u->w.cell? ⟨g,j,none⟩=some u)/\∀j,w.frozen? ⟨g,j,none⟩=false:=by
 rcases h.2 with ⟨_,h0⟩|⟨g,cap,cur,rfl,hb,hg,hnc,hcm,_⟩
 ·omega
 ·refine ⟨g,cap,rfl,hb,(h.lt g rfl).2,hnc,by unfold maxLen at hcm;exact hcm,fun j u hj=>?_,fun j=>h.frozenAt j⟩;have hlt:j<xs.length:=by
   rcases ϕ j xs.length with h'|h'
   ·exact h'
   ·rw [List.getElem?_eq_none h'] at hj;cases hj
  rw [h.cellAt j (by rw [←h.1];exact hlt)];exact hj
theorem qy (W:World) (xs:List Value) (e:TypeId) (base size n:Nat) (hl:xs.length=n*size) (hb:base<=W.heap.size) (hn:n<=maxLen) :
  (W.alloc (.cells xs.toArray e)).ownsRow base e size (.slice (some ⟨W.heap.size,0,none⟩) n n) n xs:=by
 refine ⟨hl,Β ⟨W.heap.size,n,xs.toArray,rfl,hb,?_,Θ _,hn,by simpa using hl,?_⟩⟩
 ·show (W.heap.push _)[W.heap.size]?=_;simp
 ·rw [←hl];simp
theorem aY {w:World} {base size n:Nat} {e:TypeId} {v:Value} {xs:List Value} (h:w.ownsRow base e size v n xs):∃a cap,v=.slice a n cap/\cap<=9223372036854775807:=by
 rcases h.2 with ⟨rfl,rfl⟩|⟨g,cap,cur,rfl,_,_,_,hc,_⟩
 ·exact ⟨none,0,rfl,ω⟩
 ·exact ⟨_,cap,rfl,by unfold maxLen at hc;exact hc⟩
def aK (w:World) (b:Nat) (e:TypeId) (m:Nat) (f:Nat->Value):Prop:=
 ∃arr:Array Value,w.heap[b]?=some (.cells arr e (0,0))/\arr.size=m/\∀j,j<m->arr[j]?=some (f j)
theorem aK.lt {w:World} {b m:Nat} {e:TypeId} {f:Nat->Value} (h:aK w b e m f):b<w.heap.size:=by
 obtain ⟨arr,h1,_⟩:=h;rcases ϕ b w.heap.size with h'|h'
 ·exact h'
 ·rw [Array.getElem?_eq_none h'] at h1;cases h1
theorem aK.cell {w:World} {b m:Nat} {e:TypeId} {f:Nat->Value} (h:aK w b e m f) (j:Nat) (hj:j<m):w.cell? ⟨b,j,none⟩=some (f j):=by
 obtain ⟨arr,h1,h2,h3⟩:=h;unfold World.cell?;simp only [h1];simpa using h3 j hj
theorem aK.cellAt {w:World} {b m:Nat} {e:TypeId} {f:Nat->Value} {v:Value} (h:aK w b e m f) (j:Nat) (hj:j<m) (hv:f j=v):w.cell? ⟨b,j,none⟩=some v:=by rw [←hv];exact h.cell j hj
theorem aK.free {w:World} {b m:Nat} {e:TypeId} {f:Nat->Value} (h:aK w b e m f) (j:Nat):w.frozen? ⟨b,j,none⟩=false:=by
 obtain ⟨arr,h1,h2,h3⟩:=h;simp [World.frozen?,h1]
theorem aK.same {w w':World} {b m:Nat} {e:TypeId} {f:Nat->Value} (h:aK w b e m f) (hb:w'.heap[b]?=w.heap[b]?):aK w' b e m f:=by
 obtain ⟨arr,h1,h2,h3⟩:=h;exact ⟨arr,hb.trans h1,h2,h3⟩
theorem aK.upd {w w':World} {S:List Nat} {b m:Nat} {e:TypeId} {f:Nat->Value} (h:aK w b e m f) (hu:aa S w w') (hn:b∉S):aK w' b e m f:=h.same (hu.block b h.lt hn)
theorem aK.ext {w:World} {b m:Nat} {e:TypeId} {f g:Nat->Value} (h:aK w b e m f) (hg:∀j,j<m->f j=g j):aK w b e m g:=by
 obtain ⟨arr,h1,h2,h3⟩:=h;exact ⟨arr,h1,h2,fun j hj=>by rw [h3 j hj,hg j hj]⟩
theorem aK.set {w:World} {b m:Nat} {e:TypeId} {f:Nat->Value} (h:aK w b e m f) (j:Nat) (v:Value) :
  aK (w.setCell ⟨b,j,none⟩ v) b e m (fun i=>if i=j then v else f i):=by
 obtain ⟨arr,h1,h2,h3⟩:=h;refine ⟨arr.setIfInBounds j v,?_,by simp [h2],fun i hi=>?_⟩
 ·simp [World.setCell,Array.getElem?_modify,h1]
 ·rw [Array.getElem?_setIfInBounds]
  by_cases hij:j=i
  ·subst hij;simp [h2,hi]
  ·rw [Γ hij];show _=some (if i=j then v else f i);rw [Γ (fun e=>hij e.symm)];exact h3 i hi
theorem aK.far {w:World} {b m:Nat} {e:TypeId} {f:Nat->Value} (h:aK w b e m f) (a:Addr) (v:Value) (hn:b≠a.block):aK (w.setCell a v) b e m f:=
 h.same (Below.heap_setCell _ _ _ _ hn)
theorem aK.drew {w:World} {b m:Nat} {e:TypeId} {f:Nat->Value} (h:aK w b e m f):aK w.drew b e m f:=h
theorem aK.alloc {w:World} {b m:Nat} {e:TypeId} {f:Nat->Value} (h:aK w b e m f) (o:Obj):aK (w.alloc o) b e m f:=h.same (Below.heap_alloc _ _ _ h.lt)
theorem dJ (w:World) (l:List Value) (e:TypeId):aK (w.alloc (.cells l.toArray e)) w.heap.size e l.length (fun j=>l.getD j undef):=by
 refine ⟨l.toArray,?_,σ,fun j hj=>?_⟩
 ·show (w.heap.push _)[w.heap.size]?=_;simp
 ·simp [hj,φ]
theorem JA {w:World} {base size n cap g:Nat} {e:TypeId} {xs:List Value} (h:w.ownsRow base e size (.slice (some ⟨g,0,none⟩) n cap) n xs) (hcap:cap=n) (hn:n=0->xs=[]) :
  aK w g e (n*size) (fun j=>xs.getD j undef):=by
 subst hcap;rcases h.2 with ⟨h1,h0⟩|⟨g',cap',cur,h1,_,hg,_,_,hs,ht⟩
 ·cases h1
 ·simp only [Value.slice.injEq,ϖ,Addr.mk.injEq,and_true,true_and] at h1;obtain ⟨rfl,rfl⟩:=h1;refine ⟨cur,hg,hs,fun j hj=>?_⟩;have e1:cur.toList=xs:=by rw [←ht,List.take_of_length_le (by simp [hs])]
  rw [←e1];have hj':j<cur.toList.length:=by simp [hs];exact hj
  simp [φ];rw [Array.getElem?_eq_getElem (by simpa using hj')];rfl
theorem wpList_make_row {P:Program} {w:World} {ops:Array Oper} {rest:List Oper} {o:Oper} {a:Act} {Q:Exit->Act->World->Prop}
  (hg:o.guard=none) (l:Operand) (t:TypeId) (hop:o.op=Op.makeSlice t l l) (e:TypeId) (z:Value) (size bytes:Nat) (h1:P.underlying t=some (.slice e))
  (hinfo:(P.info? e).map (fun i=>(i.zero,i.size,i.bytes))=some (some z,size,bytes)) (n:Nat) (hl:a.eval l=.int .i64 (n:Int)) (b2:bytes*n<=281474976710656) (b3:n<=maxLen)
  (hK:∀w',aK w' w.heap.size e (n*size) (fun j=>(madeCells z.cells (n*size)).toList.getD j undef)->aa [] w w'->wpList P ops Q rest (a.put o.dst (.slice (some ⟨w.heap.size,0,none⟩) n n)) w') :
  wpList P ops Q (o::rest) a w:=by
 obtain ⟨i,hi,hz0,hz1,hz2⟩:=info_parts hinfo
 exact wpList_make_full w hg l l t hop w.heap.size e i z size h1 hi hz0 hz1 .i64 .i64 n n n hl hl rfl rfl (by rw [hz2];exact b2) b3 (Θ _) (fun w' ho hgr=>
  hK w' (JA ho rfl (fun h0=>ϙ (by rw [ho.1,h0,Nat.zero_mul]))) ((aa.refl [] w).grown hgr (fun k hk=>by cases hk)))
def iY (w:World) (lo:Nat) (v:Value) (n:Nat) (xs:List Value):Prop:=
 (v=.slice none 0 0/\n=0/\xs=[])\/
 ∃g cap,v=.slice (some ⟨g,0,none⟩) n cap/\n<=cap/\cap<=9223372036854775807/\lo<=g/\g<w.heap.size/\∀j u,xs[j]?=some u->w.cell? ⟨g,j,none⟩=some u
theorem iY.open {w:World} {lo n:Nat} {v:Value} {xs:List Value} (h:iY w lo v n xs) :
  ∃a cap,v=.slice a n cap/\cap<=9223372036854775807/\n<=cap/\(0<n->∃g,a=some ⟨g,0,none⟩/\lo<=g/\g<w.heap.size/\∀j u,xs[j]?=some u->w.cell? ⟨g,j,none⟩=some u):=by
 rcases h with ⟨rfl,rfl,rfl⟩|⟨g,cap,rfl,h1,h2,h3⟩
 ·exact ⟨none,0,rfl,ω,ω,fun h=>ω⟩
 ·exact ⟨_,cap,rfl,h2,h1,fun _=>⟨g,rfl,h3⟩⟩
theorem iY.sI {w:World} {base size n:Nat} {e:TypeId} {v:Value} {xs:List Value} (h:w.ownsRow base e size v n xs):iY w base v n xs:=by
 rcases h.2 with ⟨rfl,rfl⟩|⟨g,cap,cur,rfl,hb,hg,hn,hc,_⟩
 ·exact Α ⟨rfl,rfl,ϙ (by rw [h.1,Nat.zero_mul])⟩
 ·refine Β ⟨g,cap,rfl,hn,by unfold maxLen at hc;exact hc,hb,(h.lt g rfl).2,fun j u hj=>?_⟩;have hlt:j<xs.length:=by
   rcases ϕ j xs.length with h'|h'
   ·exact h'
   ·rw [List.getElem?_eq_none h'] at hj;cases hj
  rw [h.cellAt j (by rw [←h.1];exact hlt)];exact hj
theorem iY.upd {w w':World} {S:List Nat} {lo n:Nat} {v:Value} {xs:List Value} (h:iY w lo v n xs) (hu:aa S w w') (hS:∀k,k∈S->k<lo\/w.heap.size<=k):iY w' lo v n xs:=by
 rcases h with h|⟨g,cap,rfl,h1,h2,h3,h4,h5⟩
 ·exact Α h
 ·exact Β ⟨g,cap,rfl,h1,h2,h3,Ψ h4 hu.size,fun j u hj=>by rw [hu.cell h4 (fun hm=>by rcases hS _ hm with h'|h'<;>simp at *<;>omega)];exact h5 j u hj⟩
theorem iY.mono {w:World} {lo lo' n:Nat} {v:Value} {xs:List Value} (h:iY w lo v n xs) (hl:lo'<=lo):iY w lo' v n xs:=by
 rcases h with h|⟨g,cap,rfl,h1,h2,h3,h4⟩
 ·exact Α h
 ·exact Β ⟨g,cap,rfl,h1,h2,Χ hl h3,h4⟩
theorem Bp {P:Program} {o:Oper} {a:Act} {w:World} {K:Act->World->Prop} {Q:Exit->Act->World->Prop} (s x:Operand) (t:TypeId)
  (ho:o.op=.call { callee:=.builtin .append,args:=#[s,x],argTypes:=#[t,t] })
  (base:Nat) (e:TypeId) (z:Value) (size bytes:Nat) (ht:P.underlying t=some (.slice e)) (hinfo:(P.info? e).map (fun i=>(i.zero,i.size,i.bytes))=some (some z,size,bytes))
  (hzs:z.cells.size=size) (hsz:0<size) (v:Value) (n:Nat) (xs:List Value) (hs:a.eval s=v) (hown:w.ownsRow base e size v n xs)
  (lo m:Nat) (news:List Value) (v2:Value) (hx:a.eval x=v2) (hl:iY w lo v2 m news) (hlen:news.length=m*size) (h1:∀u∈news,u.oneCell'=true)
  (hn:n+m<=maxLen) (hbytes:(n+m)*bytes<=140737488355328) (hbase:base<=w.heap.size)
  (h:∀v' w',w'.ownsRow base e size v' (n+m) (xs++news)->aa v.ownBlock.toList w w'->K (a.put o.dst v') w'):o.wp P a w K Q:=by
 obtain ⟨i,hi,hz0,hz1,hz2⟩:=info_parts hinfo;rcases hl with ⟨rfl,rfl,rfl⟩|⟨g,cap,rfl,h2,h3,h4,h5,h6⟩
 ·have hrun:=run_append_owned_none (P:=P) (w:=w) base t o.type e i size ht hi v n xs hown;unfold Oper.wp;simp [execOp,ho,resolve,invoke,builtin,hs,hx,hrun,Result.andThen];exact h v w (by simpa using hown) (aa.refl _ _)
 ·refine wp_append_own w s x t ho base e i z size bytes ht hi hz0 hz1 hz2 hzs hsz v n xs hs hown ⟨g,0,none⟩ m cap news hx hlen (fun j u hj=>?_) h1 hn hbytes hbase (fun v' w' h1 h2 _=>h v' w' h1 ((aa.refl _ _).grown h2 (fun k hk=>Α (by simp [hk]))));have e1:((⟨g,0,none⟩:Addr).add j)=⟨g,j,none⟩:=by
   unfold Addr.add;split
   ·subst_vars;rfl
   ·simp
  rw [e1];exact h6 j u hj
theorem vZ {P:Program} {ops:Array Oper} {rest:List Oper} {o:Oper} {a:Act} {w:World} {Q:Exit->Act->World->Prop} (hgd:o.guard=none) (s x:Operand) (t:TypeId)
  (ho:o.op=.call { callee:=.builtin .append,args:=#[s,x],argTypes:=#[t,t] })
  (base:Nat) (e:TypeId) (z:Value) (size bytes:Nat) (ht:P.underlying t=some (.slice e)) (hinfo:(P.info? e).map (fun i=>(i.zero,i.size,i.bytes))=some (some z,size,bytes))
  (hzs:z.cells.size=size) (hsz:0<size) (v:Value) (n:Nat) (xs:List Value) (hs:a.eval s=v) (hown:w.ownsRow base e size v n xs)
  (lo m:Nat) (news:List Value) (v2:Value) (hx:a.eval x=v2) (hl:iY w lo v2 m news) (hlen:news.length=m*size) (h1:∀u∈news,u.oneCell'=true)
  (hn:n+m<=maxLen) (hbytes:(n+m)*bytes<=140737488355328) (hbase:base<=w.heap.size)
  (h:∀v' w',w'.ownsRow base e size v' (n+m) (xs++news)->aa v.ownBlock.toList w w'->wpList P ops Q rest (a.put o.dst v') w'):wpList P ops Q (o::rest) a w:=
 wpList_plain hgd fun _ hK=>Bp s x t ho base e z size bytes ht hinfo hzs hsz v n xs hs hown lo m news v2 hx hl hlen h1 hn hbytes hbase fun v' w' h2 h3=>hK _ _ (h v' w' h2 h3)
def cv (w:World) (a:Addr):Value:=(w.cell? a).getD undef
theorem xB (g j:Nat):((⟨g,0,none⟩:Addr).add j)=⟨g,j,none⟩:=by
 unfold Addr.add;split
 ·subst_vars;rfl
 ·simp
theorem ma (W:World) (us:List Value) (e:TypeId) (j:Nat) (u:Value) (hj:us[j]?=some u):(W.alloc (.cells us.toArray e)).cell? ⟨W.heap.size,j,none⟩=some u:=by
 rw [←xB];exact DY W us e j u hj
theorem Bg {P:Program} {o:Oper} {a:Act} {w:World} {K:Act->World->Prop} {Q:Exit->Act->World->Prop} (s x:Operand) (t:TypeId)
  (ho:o.op=.call { callee:=.builtin .append,args:=#[s,x],argTypes:=#[t,t] })
  (base:Nat) (e:TypeId) (z:Value) (size bytes:Nat) (ht:P.underlying t=some (.slice e)) (hinfo:(P.info? e).map (fun i=>(i.zero,i.size,i.bytes))=some (some z,size,bytes))
  (hzs:z.cells.size=size) (hsz:0<size) (v:Value) (n:Nat) (xs:List Value) (hs:a.eval s=v) (hown:w.ownsRow base e size v n xs)
  (g:Nat) (news:List Value) (hx:a.eval x=.slice (some ⟨g,0,none⟩) 1 1) (hl:news.length=size) (hnews:∀j u,news[j]?=some u->w.cell? ⟨g,j,none⟩=some u) (h1:∀u∈news,u.oneCell'=true)
  (hn:n+1<=maxLen) (hbytes:(n+1)*bytes<=140737488355328) (hbase:base<=w.heap.size)
  (h:∀v' w',w'.ownsRow base e size v' (n+1) (xs++news)->aa v.ownBlock.toList w w'->(v'.ownBlock=v.ownBlock\/v'.ownBlock=some w.heap.size)->K (a.put o.dst v') w'):Oper.wp P o a w K Q:=by
 obtain ⟨i,hi,hz0,hz1,hz2⟩:=info_parts hinfo;obtain ⟨v',w',hr,h2,h3,_,h5⟩:=run_append_own_at (P:=P) w base t o.type e i z size bytes ht hi hz0 hz1 hz2 hzs hsz v n xs hown ⟨g,0,none⟩ 1 1 news (by rw [hl,Nat.one_mul]) (fun j u hj=>by rw [xB];exact hnews j u hj) h1 hn hbytes hbase;unfold Oper.wp execOp;simp only [ho,resolve,invoke,builtin,Sem.run_bind,Sem.run_pure,Result.andThen_ok,List.map_toArray,List.map_cons,List.map_nil,hs,hx,hr];exact h _ _ h2 ((aa.refl _ _).grown h3 (fun k hk=>Α (by simp [hk]))) h5
theorem iL {P:Program} {ops:Array Oper} {o:Oper} {a:Act} {w:World} {K:Act->World->Prop} {Q:Exit->Act->World->Prop} {E:Prop} (hgd:o.guard=none) (s x:Operand) (t:TypeId)
  (ho:o.op=.call { callee:=.builtin .append,args:=#[s,x],argTypes:=#[t,t] })
  (base:Nat) (e:TypeId) (z:Value) (size bytes:Nat) (ht:P.underlying t=some (.slice e)) (hinfo:(P.info? e).map (fun i=>(i.zero,i.size,i.bytes))=some (some z,size,bytes))
  (hzs:z.cells.size=size) (hsz:0<size) (v:Value) (n:Nat) (xs:List Value) (hs:a.eval s=v) (hown:w.ownsRow base e size v n xs)
  (g:Nat) (news:List Value) (hx:a.eval x=.slice (some ⟨g,0,none⟩) 1 1) (hl:news.length=size) (hnews:∀j u,news[j]?=some u->w.cell? ⟨g,j,none⟩=some u) (h1:∀u∈news,u.oneCell'=true)
  (hn:n+1<=maxLen) (hbytes:(n+1)*bytes<=140737488355328) (hbase:base<=w.heap.size)
  (h:∀v' w',w'.ownsRow base e size v' (n+1) (xs++news)->aa v.ownBlock.toList w w'->(v'.ownBlock=v.ownBlock\/v'.ownBlock=some w.heap.size)->K (a.put o.dst v') w') :
  if Region.wanted o (yielded ops a.tmps)=true then Oper.wp P o a w K Q else E:=by
 have hw:Region.wanted o (yielded ops a.tmps)=true:=by simp [Region.wanted,hgd]
 rw [Δ hw];exact Bg s x t ho base e z size bytes ht hinfo hzs hsz v n xs hs hown g news hx hl hnews h1 hn hbytes hbase h
theorem fE:(Tryz.prog.info? 3).map (fun i=>(i.zero,i.size,i.bytes))=some (some (.int .i64 0),1,8):=by kernel_rfl
def aP (l:List Int):List Value:=l.map (fun x=>Value.int .i64 x)
theorem bP (a b:List Int):aP (a++b)=aP a++aP b:=by unfold aP;rw [List.map_append]
theorem fq (a:List Int):(aP a).length=a.length:=by unfold aP;simp
theorem Og (l:List Int):∀u∈aP l,u.oneCell'=true:=by
 intro u hu;unfold aP at hu;simp only [List.mem_map] at hu;obtain ⟨x,_,rfl⟩:=hu;rfl
theorem lG {l:List Int} {j:Nat} (hj:j<l.length):(aP l)[j]?=some (.int .i64 (l.getD j 0)):=by unfold aP;simp [φ,hj]
theorem Sn {X:World} {us:List Value} {e:TypeId} {g:Nat} (hg:g=X.heap.size) (j:Nat) {u:Value} (hj:us[j]?=some u):(X.alloc (.cells us.toArray e)).cell? ⟨g,j,none⟩=some u:=by
 subst hg;exact ma X us e j u hj
theorem BZ {X:World} {us:List Value} {e:TypeId} {g:Nat} (hg:g=X.heap.size) (j:Nat) {u:Value} (hj:us[j]?=some u):((X.alloc (.cells us.toArray e)).drew).cell? ⟨g,j,none⟩=some u:=Sn hg j hj
structure IZ (w:World) (g cap:Nat) (l:List Int):Prop where
 own:w.ownsRow 0 3 1 (.slice (some ⟨g,0,none⟩) l.length cap) l.length (aP l)
theorem IZ.lt {w:World} {g cap:Nat} {l:List Int} (h:IZ w g cap l):g<w.heap.size:=(h.own.lt g rfl).2
theorem IZ.cap {w:World} {g cap:Nat} {l:List Int} (h:IZ w g cap l):l.length<=cap/\cap<=9223372036854775807:=by
 rcases h.own.2 with ⟨h1,_⟩|⟨g',cap',cur,h1,_,_,h2,h3,_⟩
 ·cases h1
 ·cases h1;unfold maxLen at h3;exact ⟨h2,h3⟩
theorem IZ.cell {w:World} {g cap:Nat} {l:List Int} (h:IZ w g cap l) (j:Nat) (hj:j<l.length):w.cell? ⟨g,j,none⟩=some (.int .i64 (l.getD j 0)):=by
 rw [h.own.cellAt j ω];exact lG hj
theorem IZ.free {w:World} {g cap:Nat} {l:List Int} (h:IZ w g cap l) (j:Nat):w.frozen? ⟨g,j,none⟩=false:=h.own.frozenAt j
theorem IZ.upd {w w':World} {S:List Nat} {g cap:Nat} {l:List Int} (h:IZ w g cap l) (hu:aa S w w') (hn:g∉S):IZ w' g cap l:=
 ⟨ay h.own hu (fun k hk=>by cases hk;exact hn)⟩
theorem IZ.drewN {w:World} {g cap:Nat} {l:List Int} (h:IZ w g cap l) (n:Nat):IZ (w.drewN n) g cap l:=h.upd ((aa.refl [] w).drewN n) σ
theorem IZ.set {w:World} {g cap:Nat} {l:List Int} (h:IZ w g cap l) (j:Nat) (x:Int):IZ (w.setCell ⟨g,j,none⟩ (.int .i64 x)) g cap (l.set j x):=by
 rcases h.own.2 with ⟨h1,_⟩|⟨g',cap',cur,h1,hb,hg,hn,hc,hs,ht⟩
 ·cases h1
 ·cases h1;refine ⟨⟨by rw [fq];omega,Β ⟨g,cap,cur.setIfInBounds j (.int .i64 x),by rw [Ι],ω,?_,by rw [Ι];exact hn,hc,ζ,?_⟩⟩⟩
  ·simp [World.setCell,Array.getElem?_modify,hg]
  ·rw [Ι,Array.toList_setIfInBounds]
   by_cases hj:j<l.length
   ·rw [List.take_set,ht];unfold aP;rw [List.map_set]
   ·rw [List.take_set_of_le ω,ht,List.set_eq_of_length_le ω]
theorem IZ.lit (w:World) (l:List Int) (hl:l.length<=1000000):IZ (w.alloc (.cells (aP l).toArray 3)) w.heap.size l.length l:=
 ⟨qy w (aP l) 3 0 1 l.length (by rw [fq];omega) ω μ⟩
theorem IZ.gW {w:World} {base:Nat} {v:Value} {l:List Int} (h:w.ownsRow base 3 1 v l.length (aP l)) (hl:0<l.length):∃g cap,v=.slice (some ⟨g,0,none⟩) l.length cap/\IZ w g cap l/\base<=g:=by
 obtain ⟨g,cap,rfl,hb,_⟩:=fM h hl;exact ⟨g,cap,rfl,⟨lF h ω⟩,hb⟩
def iC (w:World) (F:List Nat) (v:Value) (xs:List Int):Prop:=
 ∃a cap,v=.slice a xs.length cap/\xs.length<=cap/\cap<=9223372036854775807/\∀j u,xs[j]?=some u->∃g off,a=some ⟨g,off,none⟩/\g<w.heap.size/\g∉F/\w.cell? ⟨g,off+j,none⟩=some (.int .i64 u)
theorem iC.fresh {w w':World} {F F':List Nat} {v:Value} {xs:List Int} (h:iC w F v xs) (hu:aa F w w') (hF:∀g,g∈F'->g∈F\/w.heap.size<=g):iC w' F' v xs:=by
 obtain ⟨a,cap,rfl,h1,h2,h3⟩:=h;refine ⟨a,cap,rfl,h1,h2,fun j u hj=>?_⟩;obtain ⟨g,off,rfl,hg,hn,hc⟩:=h3 j u hj;exact ⟨g,off,rfl,Ψ hg hu.size,fun hm=>by rcases hF g hm with h'|h';exact hn h';omega,by rw [hu.cell hg hn];exact hc⟩
theorem iC.gW {w:World} {base:Nat} {v:Value} {xs:List Int} {F:List Nat} (h:w.ownsRow base 3 1 v xs.length (aP xs)) (hF:∀g,g∈F->g<base):iC w F v xs:=by
 rcases h.2 with ⟨rfl,h0⟩|⟨g,cap,cur,rfl,hb,hg,hn,hc,_⟩
 ·have:xs=[]:=ϙ h0;subst this;exact ⟨none,0,rfl,σ,ω,fun j u hj=>by simp at hj⟩
 ·refine ⟨_,cap,rfl,hn,by unfold maxLen at hc;exact hc,fun j u hj=>⟨g,0,rfl,(h.lt g rfl).2,fun hm=>by have:=hF g hm;omega,?_⟩⟩;have hjl:=(List.getElem?_eq_some_iff.1 hj).1;rw [ϓ,h.cellAt j ω,lG hjl];simp [φ,hj]
def wm (a b:Int):Int:=if a<b then -1 else if b<a then 1 else 0
def Bo (k1 s1 k2 s2:Int):Int:=if k1=k2 then wm s1 s2 else wm k1 k2
theorem Ov (k1 s1 k2 s2:Int):decide (Bo k1 s1 k2 s2<0)=BU k1 s1 k2 s2:=by
 unfold Bo BU wm
 split
 ·rw [decide_eq_decide];split;omega;split<;>omega
 ·rw [decide_eq_decide];split;omega;split<;>omega
theorem TA (x:Int) (w:World):Calls Tryz.prog 85 #[.int .i64 x] w fun e w'=>e=.returned (.bool false)/\w'=w:=by
 have h:(x != x)=false:=σ
 go_enter Tryz.func85,Tryz.ntmps85
 go_wp2;go_ret;exact ⟨rfl,rfl⟩
theorem RX (x:Int) (w:World):Calls Tryz.prog 173 #[.int .u64 x] w fun e w'=>e=.returned (.bool false)/\w'=w:=by
 have h:(x != x)=false:=σ
 go_enter Tryz.func173,Tryz.ntmps173
 go_wp2;go_ret;exact ⟨rfl,rfl⟩
theorem RG (a b:Int) (w:World):Calls Tryz.prog 170 #[.int .i64 a,.int .i64 b] w fun e w'=>e=.returned (.int .i64 (wm a b))/\w'=w:=by
 have k:=fun x=>TA x w;unfold wm
 by_cases h1:a<b
 ·go_enter Tryz.func170,Tryz.ntmps170
  go_wp2_with ((go_at_call 85;(with_reducible refine ((k _)).mono ?_);rintro e w9 ⟨rfl,aI⟩;rw [aI];clear aI w9))
  go_ret;exact ⟨by first|rfl|(refine jL ?_;simp;try omega),rfl⟩
 ·by_cases h2:b<a
  ·go_enter Tryz.func170,Tryz.ntmps170
   go_wp2_with ((go_at_call 85;(with_reducible refine ((k _)).mono ?_);rintro e w9 ⟨rfl,aI⟩;rw [aI];clear aI w9))
   go_ret;exact ⟨by first|rfl|(refine jL ?_;simp;try omega),rfl⟩
  ·have e:a=b:=ω;subst e;clear h1 h2
   go_enter Tryz.func170,Tryz.ntmps170
   go_wp2_with ((go_at_call 85;(with_reducible refine ((k _)).mono ?_);rintro e w9 ⟨rfl,aI⟩;rw [aI];clear aI w9))
   go_ret;exact ⟨by first|rfl|(refine jL ?_;simp;try omega),rfl⟩
theorem Qe (a b:Int) (w:World):Calls Tryz.prog 171 #[.int .u64 a,.int .u64 b] w fun e w'=>e=.returned (.int .i64 (wm a b))/\w'=w:=by
 have k:=fun x=>RX x w;unfold wm
 by_cases h1:a<b
 ·go_enter Tryz.func171,Tryz.ntmps171
  go_wp2_with ((go_at_call 173;(with_reducible refine ((k _)).mono ?_);rintro e w9 ⟨rfl,aI⟩;rw [aI];clear aI w9))
  go_ret;exact ⟨by first|rfl|(refine jL ?_;simp;try omega),rfl⟩
 ·by_cases h2:b<a
  ·go_enter Tryz.func171,Tryz.ntmps171
   go_wp2_with ((go_at_call 173;(with_reducible refine ((k _)).mono ?_);rintro e w9 ⟨rfl,aI⟩;rw [aI];clear aI w9))
   go_ret;exact ⟨by first|rfl|(refine jL ?_;simp;try omega),rfl⟩
  ·have e:a=b:=ω;subst e;clear h1 h2
   go_enter Tryz.func171,Tryz.ntmps171
   go_wp2_with ((go_at_call 173;(with_reducible refine ((k _)).mono ?_);rintro e w9 ⟨rfl,aI⟩;rw [aI];clear aI w9))
   go_ret;exact ⟨by first|rfl|(refine jL ?_;simp;try omega),rfl⟩
def orZ (a b:Int):Int:=if a=0 then b else a
theorem Y3 (g:Nat) (a b:Int) (w:World) (c0:w.cell? ⟨g,0,none⟩=some (.int .i64 a)) (c1:w.cell? ⟨g,1,none⟩=some (.int .i64 b)) :
  Calls Tryz.prog 169 #[.slice (some ⟨g,0,none⟩) 2 2] w fun e w'=>e=.returned (.int .i64 (orZ a b))/\w'=w:=by
 unfold orZ
 by_cases ha:a=0
 ·subst ha
  by_cases hb:b=0
  ·subst hb
   go_enter Tryz.func169,Tryz.ntmps169
   go_wp2;refine wp_loop_rounds 3 ?_;rw [rounds_succ];go_wp2
   all_goals try (rw [rounds_succ];go_wp2)
   all_goals try (rw [rounds_succ];go_wp2)
   go_ret;exact ⟨σ,rfl⟩
  ·have hb':(b != 0)=true:=by simpa using hb
   go_enter Tryz.func169,Tryz.ntmps169
   go_wp2;refine wp_loop_rounds 3 ?_;rw [rounds_succ];go_wp2
   all_goals try (rw [rounds_succ];go_wp2)
   all_goals try (rw [rounds_succ];go_wp2)
   go_ret;exact ⟨σ,rfl⟩
 ·have ha':(a != 0)=true:=by simpa using ha
  have HA:=χ ha;clear ha
  go_enter Tryz.func169,Tryz.ntmps169
  go_wp2;refine wp_loop_rounds 3 ?_;rw [rounds_succ];go_wp2
  all_goals try (rw [rounds_succ];go_wp2)
  all_goals try (rw [rounds_succ];go_wp2)
  go_ret;exact ⟨by first|rfl|rw [Γ HA.out],rfl⟩
theorem Vh (k1 s1 k2 s2:Int):orZ (wm k1 k2) (wm s1 s2)=Bo k1 s1 k2 s2:=by
 unfold orZ Bo
 by_cases h:k1=k2
 ·subst h;simp [wm]
 ·rw [Γ h,Γ];unfold wm;split;omega;split<;>omega
theorem xU (k1 s1 k2 s2:Int) (w:World):Calls Tryz.prog 164 #[.agg #[.int .i64 k1,.int .u64 s1],.agg #[.int .i64 k2,.int .u64 s2]] w fun e w'=>e=.returned (.int .i64 (Bo k1 s1 k2 s2))/\aa [] w w':=by
 rw [←Vh];have ka:=fun W=>RG k1 k2 W;have kb:=fun W=>Qe s1 s2 W;generalize wm k1 k2=za at *;generalize wm s1 s2=zb at *;have r0:∀W,aa [] ((w.alloc (.cells #[.int .i64 k1,.int .u64 s1] 129)).alloc (.cells #[.int .i64 k2,.int .u64 s2] 129)) W->W.cell? ⟨w.heap.size,0,none⟩=some (.int .i64 k1):=fun W h=>h.was σ;have r1:∀W,aa [] ((w.alloc (.cells #[.int .i64 k1,.int .u64 s1] 129)).alloc (.cells #[.int .i64 k2,.int .u64 s2] 129)) W->W.cell? ⟨w.heap.size,1,none⟩=some (.int .u64 s1):=fun W h=>h.was σ
 have r2:∀W,aa [] ((w.alloc (.cells #[.int .i64 k1,.int .u64 s1] 129)).alloc (.cells #[.int .i64 k2,.int .u64 s2] 129)) W->W.cell? ⟨w.heap.size+1,0,none⟩=some (.int .i64 k2):=fun W h=>h.was σ;have r3:∀W,aa [] ((w.alloc (.cells #[.int .i64 k1,.int .u64 s1] 129)).alloc (.cells #[.int .i64 k2,.int .u64 s2] 129)) W->W.cell? ⟨w.heap.size+1,1,none⟩=some (.int .u64 s2):=fun W h=>h.was σ
 go_enter Tryz.func164,Tryz.ntmps164
 go_wp2
 go_region_held3 (aa [] ((w.alloc (.cells #[.int .i64 k1,.int .u64 s1] 129)).alloc (.cells #[.int .i64 k2,.int .u64 s2] 129))) (exact η)
  (first
   | (go_at_call 170;(with_reducible refine (ka _).mono ?_);rintro e w9 ⟨rfl,aI⟩;rw [aI];clear aI w9)
   | (go_at_call 171;(with_reducible refine (kb _).mono ?_);rintro e w9 ⟨rfl,aI⟩;rw [aI];clear aI w9)
   | (go_at_call 169;(with_reducible refine (Y3 _ za zb _ (BZ σ 0 rfl) (BZ σ 1 rfl)).mono ?_);rintro e w9 ⟨rfl,aI⟩;rw [aI];clear aI w9))
 go_wp2;go_ret;exact ⟨rfl,ξ⟩
theorem NL (k1 s1 k2 s2:Int) (w:World):Calls Tryz.prog 158 #[.agg #[.int .i64 k1,.int .u64 s1],.agg #[.int .i64 k2,.int .u64 s2]] w fun e w'=>e=.returned (.bool (BU k1 s1 k2 s2))/\aa [] w w':=by
 rw [←Ov];have k:=fun W=>xU k1 s1 k2 s2 W;generalize Bo k1 s1 k2 s2=z at *
 go_enter Tryz.func158,Tryz.ntmps158
 go_wp2_with (go_at_call 164;(with_reducible refine (k _).mono ?_);rintro e w' ⟨rfl,hu⟩)
 all_goals
  go_ret;exact ⟨aU (by first|rfl|simp|(simp;omega)),((aa.refl _ _).alloc _ |>.alloc _).trans hu⟩
structure qR (l:List Int) (rt dp:Nat->Nat):Prop where
 len:1<=l.length
 PQ:l.length<=65537
 vD:∀i,1<=i->i<l.length->1<=l.getD i 0/\l.getD i 0<l.length
 up:∀i,1<=i->i<l.length->rt (l.getD i 0).toNat=rt i
 top:∀i,1<=i->i<l.length->l.getD i 0=i->rt i=i
 low:∀i,1<=i->i<l.length->l.getD i 0≠i->dp (l.getD i 0).toNat<dp i
theorem qR.root {l:List Int} {rt dp:Nat->Nat} (h:qR l rt dp):∀ (d i:Nat),dp i<=d->1<=i->i<l.length->1<=rt i/\rt i<l.length/\l.getD (rt i) 0=rt i
 | d,i,hd,h1,h2=>by
  by_cases e:l.getD i 0=i
  ·rw [h.top i h1 h2 e];exact ⟨h1,h2,e⟩
  ·have hl:=h.low i h1 h2 e;have hr:=h.vD i h1 h2
   match d,hd with
   | 0,hd=>omega
   | d+1,hd=>
    have:=qR.root h d (l.getD i 0).toNat ω ω ω;rwa [h.up i h1 h2] at this
theorem qR.WT {l:List Int} {rt dp:Nat->Nat} (h:qR l rt dp) {i:Nat} (h1:1<=i) (h2:i<l.length):1<=rt i/\rt i<l.length/\l.getD (rt i) 0=rt i:=h.root (dp i) i (Θ _) h1 h2
theorem qR.PW {l:List Int} {rt dp:Nat->Nat} (h:qR l rt dp) {i:Nat} (h1:1<=i) (h2:i<l.length):l.getD i 0=i↔rt i=i:=
 ⟨h.top i h1 h2,fun e=>by have:=h.WT h1 h2;rw [e] at this;exact this.2.2⟩
theorem QU (l:List Int) (i:Nat) (x:Int) (j:Nat):(l.set i x).getD j 0=if j=i/\i<l.length then x else l.getD j 0:=by
 simp only [φ,ύ]
 by_cases h:i=j
 ·subst h
  by_cases hx:i<l.length
  ·simp [hx]
  ·simp [hx,List.getElem?_eq_none (Nat.le_of_not_lt hx)]
 ·rw [Γ h,Γ (fun e=>h e.1.symm)]
theorem qR.short {l:List Int} {rt dp:Nat->Nat} (h:qR l rt dp) {k:Nat} (h1:1<=k) (h2:k<l.length) (hk:l.getD k 0≠k):qR (l.set k (l.getD (l.getD k 0).toNat 0)) rt dp:=by
 have r1:=h.vD k h1 h2;obtain ⟨j,hj⟩:∃j:Nat,l.getD k 0=j:=⟨(l.getD k 0).toNat,ω⟩;have u1:=h.up k h1 h2;have d1:=h.low k h1 h2 hk;rw [hj] at r1 u1 d1 hk ⊢;simp only [π] at u1 d1 ⊢;have hjk:j≠k:=fun e=>hk (by rw [e]);have r2:=h.vD j ω ω;obtain ⟨q,hq⟩:∃q:Nat,l.getD j 0=q:=⟨(l.getD j 0).toNat,ω⟩;have u2:=h.up j ω ω;have d2:=h.low j ω ω;rw [hq] at r2 u2 d2 ⊢;simp only [π] at u2 d2;have d3:q≠j->dp q<dp j:=fun e=>d2 ω;clear d2;refine ⟨by simp;exact h.len,by simp;exact h.PQ,fun i a b=>?_,fun i a b=>?_,fun i a b=>?_,fun i a b=>?_⟩
 all_goals
  rw [Ι] at b;rw [QU]
 ·rw [Ι];split
  ·exact r2
  ·exact h.vD i a b
 ·split
  ·rename_i e;simp only [π];rw [u2,u1,e.1]
  ·exact h.up i a b
 ·split
  ·rename_i e
   intro he;have hqi:q=k:=by have:=e.1;omega
   by_cases e2:q=j
   ·exfalso;omega
   ·have:=d3 e2;rw [hqi] at this;omega
  ·exact h.top i a b
 ·split
  ·rename_i e
   intro he;simp only [π];rw [e.1]
   by_cases e2:q=j
   ·rw [e2];exact d1
   ·have:=d3 e2;omega
  ·exact h.low i a b
structure jO (w:World) (nm g cap:Nat) (l:List Int):Prop where
 head:∃c:Int,aK w nm 262 3 (fun j=>[Value.slice (some ⟨g,0,none⟩) l.length cap,.int .i64 65536,.int .i64 c].getD j undef)
 row:IZ w g cap l
 ne:nm≠g
theorem jO.upd {w w':World} {S:List Nat} {nm g cap:Nat} {l:List Int} (h:jO w nm g cap l) (hu:aa S w w') (h1:nm∉S) (h2:g∉S):jO w' nm g cap l:=by
 obtain ⟨c,h3⟩:=h.head;exact ⟨⟨c,h3.upd hu h1⟩,h.row.upd hu h2,h.ne⟩
theorem jO.c0 {w:World} {nm g cap:Nat} {l:List Int} (h:jO w nm g cap l):w.cell? ⟨nm,0,none⟩=some (.slice (some ⟨g,0,none⟩) l.length cap):=by obtain ⟨c,h⟩:=h.head;exact h.cellAt 0 ω rfl
theorem jO.c1 {w:World} {nm g cap:Nat} {l:List Int} (h:jO w nm g cap l):w.cell? ⟨nm,1,none⟩=some (.int .i64 65536):=by obtain ⟨c,h⟩:=h.head;exact h.cellAt 1 ω rfl
theorem jO.lt {w:World} {nm g cap:Nat} {l:List Int} (h:jO w nm g cap l):nm<w.heap.size/\g<w.heap.size:=by obtain ⟨c,h1⟩:=h.head;exact ⟨h1.lt,h.row.lt⟩
theorem jO.set {w:World} {nm g cap:Nat} {l:List Int} (h:jO w nm g cap l) (j:Nat) (x:Int):jO (w.setCell ⟨g,j,none⟩ (.int .i64 x)) nm g cap (l.set j x):=by
 obtain ⟨c,h1⟩:=h.head;exact ⟨⟨c,by rw [Ι];exact h1.far _ _ h.ne⟩,h.row.set j x,h.ne⟩
theorem jO.Yc {w:World} {nm g cap:Nat} {l:List Int} (h:jO w nm g cap l) (x:Int):jO (w.setCell ⟨nm,2,none⟩ (.int .i64 x)) nm g cap l:=by
 obtain ⟨c,h1⟩:=h.head;refine ⟨⟨x,(h1.set 2 (.int .i64 x)).ext (fun j hj=>?_)⟩,h.row.upd ((aa.refl [nm] w).setCell (Α σ) _) (by simp;exact fun e=>h.ne e.symm),h.ne⟩;rcases (ω:j=0\/j=1\/j=2) with rfl|rfl|rfl<;>simp
theorem jO.setRow {w:World} {nm g cap:Nat} {l:List Int} (h:jO w nm g cap l) {W:World} {g' cap':Nat} {l':List Int} (hu:aa [g] w W) (hr:IZ W g' cap' l') (hne:nm≠g'):jO (W.setCell ⟨nm,0,none⟩ (.slice (some ⟨g',0,none⟩) l'.length cap')) nm g' cap' l':=by
 obtain ⟨c,h1⟩:=h.head;refine ⟨⟨c,((h1.upd hu (by simp;exact h.ne)).set 0 _).ext (fun j hj=>?_)⟩,hr.upd ((aa.refl [nm] W).setCell (Α σ) _) (by simp;exact fun e=>hne e.symm),hne⟩;rcases (ω:j=0\/j=1\/j=2) with rfl|rfl|rfl<;>simp
theorem GD (nm g cap:Nat) (l:List Int) (x:Int) (w:World) (h:jO w nm g cap l) (hl:l.length<=65537) :
  Calls Tryz.prog 162 #[.pointer (some ⟨nm,0,none⟩),.int .i64 x] w fun e w'=>e=.returned (.bool (decide (0<x) && decide (x<l.length)))/\w'=w:=by
 have c0:=h.c0;have hc:=h.row.cap;clear h
 by_cases h0:0<x
 ·go_enter Tryz.func162,Tryz.ntmps162
  go_wp2;go_ret;exact ⟨aU (by simp [h0]),rfl⟩
 ·go_enter Tryz.func162,Tryz.ntmps162
  go_wp2;go_ret;exact ⟨aU ζ,rfl⟩
def GA (l:List Int) (x:Int):Bool:=decide (0<x) && decide (x<l.length) && (l.getD x.toNat 0 == x)
theorem TG (nm g cap:Nat) (l:List Int) (x:Int) (w:World) (h:jO w nm g cap l) (hl:l.length<=65537) :
  Calls Tryz.prog 152 #[.pointer (some ⟨nm,0,none⟩),.int .i64 x] w fun e w'=>e=.returned (.bool (GA l x))/\w'=w:=by
 have k:=GD nm g cap l x w h hl;unfold GA;have c0:=h.c0;have hc:=h.row.cap
 by_cases h0:0<x/\x<l.length
 ·obtain ⟨i,rfl⟩:∃i:Nat,x=i:=⟨x.toNat,ω⟩;rw [show (decide (0<(i:Int)) && decide ((i:Int)<l.length))=true by simp;omega] at *;have hi:i<l.length:=ω;have c1:=h.row.cell i hi;simp only [π];generalize l.getD i 0=y at *;clear h
  go_enter Tryz.func152,Tryz.ntmps152
  go_wp2_with ((go_at_call 162;(with_reducible refine (k).mono ?_);rintro e w9 ⟨rfl,aI⟩;rw [aI];clear aI w9))
  go_ret;exact ⟨aU σ,rfl⟩
 ·rw [show (decide (0<x) && decide (x<l.length))=false by simp;omega] at *;clear h
  go_enter Tryz.func152,Tryz.ntmps152
  go_wp2_with ((go_at_call 162;(with_reducible refine (k).mono ?_);rintro e w9 ⟨rfl,aI⟩;rw [aI];clear aI w9))
  go_ret;exact ⟨aU σ,rfl⟩
theorem Gr (nm g cap:Nat) (l:List Int) (w:World) (h:jO w nm g cap l) (hl:l.length<=65537) :
  Calls Tryz.prog 168 #[.pointer (some ⟨nm,0,none⟩)] w fun e w'=>e=.returned (.int .i64 ((l.length:Int)-1))/\w'=w:=by
 have c0:=h.c0;have hc:=h.row.cap;clear h
 go_enter Tryz.func168,Tryz.ntmps168
 go_wp2;go_ret;exact ⟨rfl,rfl⟩
theorem NA (nm g cap:Nat) (l:List Int) (rt dp:Nat->Nat) (x:Nat) (w:World) (h:jO w nm g cap l) (ok:qR l rt dp) (hx:1<=x) (hx2:x<l.length) :
  Calls Tryz.prog 153 #[.pointer (some ⟨nm,0,none⟩),.int .i64 (x:Int)] w fun e w'=>∃l',e=.returned (.tuple #[.int .i64 (rt x:Int),.bool true])/\jO w' nm g cap l'/\qR l' rt dp/\l'.length=l.length/\aa [g] w w':=by
 have k:=GD nm g cap l x w h ok.PQ;rw [show (decide (0<(x:Int)) && decide ((x:Int)<l.length))=true by simp;omega] at k;generalize hr:rt x=r at *;have HR:=χ hr;clear hr
 go_enter Tryz.func153,Tryz.ntmps153
 go_wp2_with ((go_at_call 162;(with_reducible refine (k).mono ?_);rintro e w9 ⟨rfl,aI⟩;rw [aI];clear aI w9))
 clear k
 go_loopw [1] (fun id wr=>∃ (k:Nat) (l':List Int),id=.int .i64 (k:Int)/\1<=k/\k<l'.length/\rt k=r/\jO wr nm g cap l'/\qR l' rt dp/\l'.length=l.length/\aa [g] w wr) (fun id _=>dp (intOf id).toNat)
 case atStart=>exact ⟨x,l,rfl,hx,hx2,HR.out,h,ok,rfl,aa.refl _ _⟩
 case round=>
  obtain ⟨k,l',rfl,hk1,hk2,hrt,hN,hok,hlen,hu⟩:=hrel;have c0:=hN.c0;have hc:=hN.row.cap;have c1:=hN.row.cell k hk2;have c2:=hN.row.free k;have hrg:=hok.vD k hk1 hk2;have hl2:=hok.PQ;have HA:=χ (ψ h ok);have HB:=χ (ψ hN (ψ hok (ψ hlen hrt)));clear h ok hN hok hlen hrt
  by_cases hkk:l'.getD k 0=k
  ·rw [hkk] at c1;have HK:=χ hkk;clear hkk hrg;go_wp2;go_ret2;obtain ⟨h1,h2,h3,h4⟩:=HB.out;exact ⟨l',by rw [←h4,h2.top k hk1 hk2 HK.out];rfl,h1,h2,h3,hu⟩
  ·obtain ⟨j,hj⟩:∃j:Nat,l'.getD k 0=j:=⟨(l'.getD k 0).toNat,ω⟩;have hjr:1<=j/\j<l'.length:=ω;have c3:=HB.out.1.row.cell j hjr.2;have hrg2:=HB.out.2.1.vD j hjr.1 hjr.2;obtain ⟨q,hq⟩:∃q:Nat,l'.getD j 0=q:=⟨(l'.getD j 0).toNat,ω⟩;rw [hj] at c1 hrg hkk;rw [hq] at c3 hrg2;have hne:((j:Int) != (k:Int))=true:=by simpa using hkk
   have HJ:=χ (ψ hj (ψ hq hkk));clear hj hq hkk;go_wp2
   go_region
   go_wp2
   go_roundw
   case rel=>
    obtain ⟨h1,h2,h3,h4⟩:=HB.out;obtain ⟨e1,e2,e3⟩:=HJ.out;have hs:=h2.short hk1 hk2 (by rw [e1];exact e3);rw [e1] at hs;simp only [π] at hs;rw [e2] at hs;have u1:=h2.up k hk1 hk2;have u2:=h2.up j ω ω;rw [e1] at u1;rw [e2] at u2;simp only [π] at u1 u2;exact ⟨q,_,rfl,ω,by rw [Ι];omega,by rw [u2,u1,h4],(h1.set k q).upd ((aa.refl [] _).drew) σ σ,hs,by rw [Ι];exact h3,((hu.setCell (Α σ) _)).drew⟩
   case measure=>
    obtain ⟨h1,h2,h3,h4⟩:=HB.out;obtain ⟨e1,e2,e3⟩:=HJ.out;have d1:=h2.low k hk1 hk2 (by rw [e1];exact e3);have d2:=h2.low j ω ω;rw [e1] at d1;rw [e2] at d2;simp only [π] at d1 d2;simp [intOf]
    by_cases e:q=j
    ·rw [e];exact d1
    ·have:=d2 ω;omega
theorem P7 (nm g cap:Nat) (l:List Int) (w:World) (h:jO w nm g cap l) (hl:l.length=65537) :
  Calls Tryz.prog 163 #[.pointer (some ⟨nm,0,none⟩)] w fun e w'=>e=.returned (.tuple #[.int .i64 0,.bool false])/\aa [] w w':=by
 have k:=Gr nm g cap l;have k1:=fun W hW=>k W hW ω;rw [hl] at k1;have c1:∀d,(w.drewN d).cell? ⟨nm,1,none⟩=some (.int .i64 65536):=fun d=>h.c1;have H:=fun d=>(h.upd ((aa.refl [] w).drewN d) σ σ)
 clear h k
 go_enter Tryz.func163,Tryz.ntmps163
 go_wp2
 go_quiet ((go_at_call 168;exact Calls.quiet_of_same (k1 _ (H _))))
 go_wp2;go_ret2;exact ⟨rfl,(aa.refl _ _).drewN _⟩
theorem Mw (nm g cap:Nat) (l:List Int) (w:World) (h:jO w nm g cap l) (hl:1<=l.length) (hl2:l.length<=65536) :
  Calls Tryz.prog 163 #[.pointer (some ⟨nm,0,none⟩)] w fun e w'=>∃g' cap',e=.returned (.tuple #[.int .i64 (l.length:Int),.bool true])/\jO w' nm g' cap' (l++[(l.length:Int)])/\aa [nm,g] w w'/\(g'=g\/w.heap.size<=g'):=by
 have k1:=fun W hW=>Gr nm g cap l W hW ω;have c1:∀d,(w.drewN d).cell? ⟨nm,1,none⟩=some (.int .i64 65536):=fun d=>h.c1;have c0:∀d,(w.drewN d).cell? ⟨nm,0,none⟩=some (.slice (some ⟨g,0,none⟩) l.length cap):=fun d=>h.c0;obtain ⟨cn,hh⟩:=h.head;have c2:w.cell? ⟨nm,2,none⟩=some (.int .i64 cn):=hh.cellAt 2 ω rfl;have f0:=hh.free 0;have f2:=hh.free 2;have HO:Hid (∀d,(w.drewN d).ownsRow 0 3 1 (.slice (some ⟨g,0,none⟩) l.length cap) l.length (aP l)):=fun d=>(h.row.drewN d).own;have H:Hid (∀d,jO (w.drewN d) nm g cap l):=fun d=>(h.upd ((aa.refl [] w).drewN d) σ σ)
 have hcap:=h.row.cap;have hlt:=h.lt;have hne:=h.ne;have hb1:((l.length:Int)-1 == 65536)=false:=ζ;clear h hh;generalize hlen:l.length=len at *;have HL:=χ hlen;clear hlen
 go_enter Tryz.func163,Tryz.ntmps163
 go_wp2
 go_quiet ((go_at_call 168;exact Calls.quiet_of_same (k1 _ (H.out _))))
 go_wp2_with (((at_builtin;refine aV rfl _ _ 26 rfl 0 3 (.int .i64 0) 1 8 Tryz.underlying26 fE rfl δ _ _ _ rfl ((HO.out _)) [.int .i64 (len:Int)] rfl (by simp [Value.oneCell']) (by first|rfl|(rw [Κ];rfl)) μ ω (σ) ?_;intro v1 w1 ho1 hu1 Ww));obtain ⟨g1,cap1,rfl,_,hg1,hc1,hc2,_⟩:=fM ho1 ω;(have hu2:aa [g] (w.drewN nq) w1:=hu1);(have hs2:g1=g\/w.heap.size<g1:=by (rcases Ww with h'|h';(exact Α (Option.some.inj h'));(exact Β (h' g1 rfl))));clear hu1 Ww;(have q1:w1.cell? ⟨nm,0,none⟩=some (.slice (some ⟨g,0,none⟩) len cap):=(hu2.cell (p:=⟨nm,0,none⟩) hlt.1 (by simp;exact hne)).trans (c0 _));(have q2:w1.cell? ⟨nm,2,none⟩=some (.int .i64 cn):=(hu2.cell (p:=⟨nm,2,none⟩) hlt.1 (by simp;exact hne)).trans c2);(have q3:w1.frozen? ⟨nm,0,none⟩=false:=(hu2.frozen (p:=⟨nm,0,none⟩) hlt.1 (by simp;exact hne)).trans f0);(have q4:w1.frozen? ⟨nm,2,none⟩=false:=(hu2.frozen (p:=⟨nm,2,none⟩) hlt.1 (by simp;exact hne)).trans f2))
 go_ret2;have hn1:nm≠g1:=ω;have hz:IZ w1 g1 cap1 (l++[(len:Int)]):=⟨by rw [υ,HL.out,bP];exact ho1⟩;have hN:=(H.out nq).setRow hu2 hz hn1;rw [υ,HL.out] at hN;refine ⟨g1,cap1,rfl,?_,?_,ω⟩
 ·exact hN.Yc _
 ·exact ((((aa.refl [nm,g] w).drewN nq).joined hu2 (fun x hx=>Α (by simp at hx;simp [hx]))).setCell (Α σ) _).setCell (Α σ) _
theorem TL (w:World):Calls Tryz.prog 114 #[.int .i64 65536] w fun e w'=>∃nm g,e=.returned (.tuple #[.pointer (some ⟨nm,0,none⟩),.int .i64 0])/\jO w' nm g 1 [0]/\aa [] w w'/\w.heap.size<=nm/\w.heap.size<=g:=by
 go_enter Tryz.func114,Tryz.ntmps114
 go_wp2;go_ret2;have hr:=dJ (w.alloc (.cells #[.int .i64 0] 3)) [Value.slice (some ⟨w.heap.size,0,none⟩) 1 1,.int .i64 65536,.int .i64 0] 262;rw [Κ] at hr;exact ⟨_,_,rfl,⟨⟨0,hr⟩,(IZ.lit w [0] σ).upd ((aa.refl [] _).alloc _) σ,ω⟩,((aa.refl _ _).alloc _).alloc _,σ,Θ _⟩
end Go.Proofs.YtklibcncmbofpaaGreat
namespace Go.Proofs.YtklibcncmbofpaaGreat
open Go Go.RowKit Go.Maps
theorem nodup_range:∀ (n:Nat) (l:List Int),l.Nodup->(∀x,x∈l->0<=x/\x<n)->l.length<=n
 | 0,l,_,h=>by
  cases l with
  | nil=>simp
  | cons x r=>have:=h x σ;omega
 | n+1,l,hn,h=>by
  have h1:=nodup_range n (l.filter (fun x=>x != (n:Int))) (hn.filter _) (fun x hx=>by
   simp only [List.mem_filter] at hx;have:=h x hx.1;have h2:x≠n:=by simpa using hx.2
   omega)
  have h2:l.length<=(l.filter (fun x=>x != (n:Int))).length+1:=by
   clear h1 h
   induction l with
   | nil=>simp
   | cons y r ih=>
    rw [Ζ] at hn
    by_cases hy:y=n
    ·subst hy;have e:r.filter (fun x=>x != (n:Int))=r:=by
      rw [List.filter_eq_self];intro a ha;simp;intro e;subst e;exact hn.1 ha
     rw [List.filter_cons_of_neg σ,e];simp
    ·rw [List.filter_cons_of_pos (by simpa using hy)];have:=ih hn.2;simp only [Ω];omega
  omega
def fT (w:World) (b:Nat) (f:Int->Option Int):Prop:=
 ∃D:DataW Unit,w.ownsMap Tryz.prog 3 (plainElem Tryz.prog 3) b (Maps.size D) D/\
  (∀kl,Maps.has D kl=true->∃k:Int,kl=.int .i64 k/\0<=k/\k<=65536/\(f k).isSome=true)/\
  (∀k z,f k=some z->Maps.has D (.int .i64 k)=true/\∀d,D.atKey (.int .i64 k) d=.lit (.int .i64 z))
theorem vW {w:World} {k:TypeId} {R:Value->Option (DataW Unit×List MemPlace)} {b n:Nat} {D:DataW Unit} (h:w.ownsMap Tryz.prog k R b n D):w.ownsMap Tryz.prog k R b (Maps.size D) D:=by
 obtain ⟨es,clock,hb,F,hs,rfl⟩:=h;exact ⟨es,clock,hb,F,by simp [Maps.size,length_sorted],rfl⟩
theorem oU:Keyed Tryz.prog 3:=int_keyed Tryz.underlying3
theorem Dk (w:World):(zeroValue 3).run Tryz.prog w=.ok (.int .i64 0) w:=by kernel_rfl
theorem fT.same {w w':World} {b:Nat} {f:Int->Option Int} (h:fT w b f) (hb:w'.heap[b]?=w.heap[b]?):fT w' b f:=by
 obtain ⟨D,⟨es,clock,h1,h2⟩,h3⟩:=h;exact ⟨D,⟨es,clock,hb.trans h1,h2⟩,h3⟩
theorem fT.lt {w:World} {b:Nat} {f:Int->Option Int} (h:fT w b f):b<w.heap.size:=by
 obtain ⟨D,h1,_⟩:=h;exact h1.lt
theorem fT.upd {w w':World} {S:List Nat} {b:Nat} {f:Int->Option Int} (h:fT w b f) (hu:aa S w w') (hn:b∉S):fT w' b f:=h.same (hu.block b h.lt hn)
theorem fT.ext {w:World} {b:Nat} {f g:Int->Option Int} (h:fT w b f) (hg:∀k,f k=g k):fT w b g:=by
 rwa [show f=g from funext hg] at h
theorem EL {P:Program} {k:TypeId} {R:Value->Option (DataW Unit×List MemPlace)} {es':Array MapEntry} {clock:Nat} (K:Keyed P k) (F:Go.WideElems.Fit P k R es' clock) {p:Lit×DataW Unit}
  (hp:p∈(es'.toList.map (Go.WideElems.rg P k R)).foldr DataW.insert []):WideAt.IsKeyLit p.1:=by
 have hp2:=(Go.WideShapes.sorted_perm _).mem_iff.1 hp;obtain ⟨x,hx,rfl⟩:=List.mem_map.1 hp2;obtain ⟨y,hy⟩:=F.reads x hx;rw [Go.WideElems.rg_of hy];exact K.key (Go.WideElems.rd_key hy)
theorem fT.small {w:World} {b:Nat} {f:Int->Option Int} {D:DataW Unit} (h1:w.ownsMap Tryz.prog 3 (plainElem Tryz.prog 3) b (Maps.size D) D)
  (h2:∀kl,Maps.has D kl=true->∃k:Int,kl=.int .i64 k/\0<=k/\k<=65536/\(f k).isSome=true):Maps.size D<=65537:=by
 obtain ⟨es,rfl,hp⟩:=h1.tidy oU
 let num:Lit->Int:=fun l=>match l with | .int _ k=>k|_=>0
 have hk:∀p∈es,∃k:Int,p.1=.int .i64 k/\0<=k/\k<=65536:=fun p hp=>by
  have hh:Maps.has (DataW.map es) p.1=true:=by
   rw [has_eq];refine List.any_eq_true.2 ⟨p,hp,WideAt.sameKey_self ?_⟩;obtain ⟨es',clock,_,F,_,he⟩:=h1;have hes:es=(es'.toList.map (Go.WideElems.rg Tryz.prog 3 (plainElem Tryz.prog 3))).foldr DataW.insert []:=by simpa using he
   rw [hes] at hp;exact EL oU F hp
  obtain ⟨k,hk,h3,h4,_⟩:=h2 _ hh;exact ⟨k,hk,h3,h4⟩
 have:=nodup_range 65537 (es.map fun p=>num p.1) (by
  unfold List.Nodup;rw [List.pairwise_map];refine (List.Pairwise.imp_of_mem ?_ hp);intro a b ha hb hab e;obtain ⟨k1,e1,_⟩:=hk a ha;obtain ⟨k2,e2,_⟩:=hk b hb;rw [e1,e2] at e hab;exact hab (by rw [show k1=k2 from e])) (fun x hx=>by
  obtain ⟨p,hp,rfl⟩:=List.mem_map.1 hx;obtain ⟨k,e,h3,h4⟩:=hk p hp
  rw [e];show 0<=k/\k<((65537:Nat):Int);omega)
 simpa [size_eq] using this
theorem wR {k:Int} (h:-9223372036854775808<=k/\k<=9223372036854775807):keyOf Tryz.prog 3 (.int .i64 k)=some (.int .i64 k):=keyOf_int_mk Tryz.underlying3 (WalkArith.wf_i64 h)
theorem fT.look {w:World} {b:Nat} {f:Int->Option Int} (h:fT w b f) (k:Int) (hk:-9223372036854775808<=k/\k<=9223372036854775807) :
  (Instr.lookup 232 (.map (some b)) (.int .i64 k) false).run Tryz.prog w=.ok (.int .i64 ((f k).getD 0)) w:=by
 obtain ⟨D,h1,h2,h3⟩:=h;obtain ⟨c,hrun,hat,_⟩:=h1.lookup_int oU Tryz.underlying232 Tryz.underlying3 (Dk w) (wR hk);rw [hrun];cases hf:f k with
 | some z=>
  rw [(h3 k z hf).2] at hat;have:z=c:=by simpa using hat
  rw [this];rfl
 | none=>
  have:Maps.has D (.int .i64 k)=false:=by
   cases hh:Maps.has D (.int .i64 k)
   ·rfl
   ·obtain ⟨k',e,_,_,h4⟩:=h2 _ hh;cases e;rw [hf] at h4;cases h4
  rw [atKey_of_not_has this] at hat;have:(0:Int)=c:=by simpa using hat
  rw [←this];rfl
theorem fT.look_ok {w:World} {b:Nat} {f:Int->Option Int} (h:fT w b f) (k:Int) (hk:-9223372036854775808<=k/\k<=9223372036854775807) :
  (Instr.lookup 232 (.map (some b)) (.int .i64 k) true).run Tryz.prog w=.ok (.tuple #[.int .i64 ((f k).getD 0),.bool (f k).isSome]) w:=by
 obtain ⟨D,h1,h2,h3⟩:=h;obtain ⟨v,ps,hrun,hv⟩:=h1.look_ok oU Tryz.underlying232 (Dk w) (plainElem_int Tryz.underlying3 (a:=0) δ) (wR hk);obtain ⟨c,rfl,hc,_⟩:=plainElem_int_inv Tryz.underlying3 hv;simp only [Prod.mk.injEq] at hc;have hat:=hc.1;rw [hrun];cases hf:f k with
 | some z=>
  rw [(h3 k z hf).2] at hat;rw [(h3 k z hf).1];have:z=c:=by simpa using hat
  rw [this];rfl
 | none=>
  have:Maps.has D (.int .i64 k)=false:=by
   cases hh:Maps.has D (.int .i64 k)
   ·rfl
   ·obtain ⟨k',e,_,_,h4⟩:=h2 _ hh;cases e;rw [hf] at h4;cases h4
  rw [atKey_of_not_has this] at hat;rw [this];have:(0:Int)=c:=by simpa using hat
  rw [←this];rfl
theorem oF {w w':World} {b:Nat} (h:w.mapTurned w' b):aa [b] w w':=(aa.refl [b] w).grown h.grown (fun k hk=>Α (by cases hk;simp))
theorem fT.store {w:World} {b:Nat} {f:Int->Option Int} (h:fT w b f) (k z:Int) (hk:0<=k/\k<=65536) (hz:-9223372036854775808<=z/\z<=9223372036854775807) :
  ∃w',(Instr.mapUpdate 232 (.map (some b)) (.int .i64 k) (.int .i64 z)).run Tryz.prog w=.ok () w'/\fT w' b (fun q=>if q=k then some z else f q)/\aa [b] w w':=by
 obtain ⟨D,h1,h2,h3⟩:=h;have hs:=fT.small h1 h2;obtain ⟨w',hrun,ho,ht⟩:=h1.store oU Tryz.underlying232 μ (wR (k:=k) ω) (plainElem_int Tryz.underlying3 (a:=z) (WalkArith.wf_i64 hz));have hD:=h1.isMap;refine ⟨w',hrun,⟨_,vW ho,fun kl hkl=>?_,fun q y hq=>?_⟩,oF ht⟩
 ·by_cases e:kl=.int .i64 k
  ·exact ⟨k,e,hk.1,hk.2,σ⟩
  ·rw [has_put_other e] at hkl;obtain ⟨q,rfl,a,b,c⟩:=h2 kl hkl;refine ⟨q,rfl,a,b,?_⟩
   show (if q=k then some z else f q).isSome=true
   split
   ·rfl
   ·exact c
 ·by_cases e:q=k
  ·subst e;simp only [if_true,ϖ] at hq;subst hq;exact ⟨has_put_same hD (show WideAt.IsKeyLit (.int .i64 q) from True.intro) _,fun d=>atKey_put_same hD (show WideAt.IsKeyLit (.int .i64 q) from True.intro) _ _⟩
  ·simp only [Γ e] at hq;have hne:(Lit.int .i64 q)≠.int .i64 k:=fun h=>e (by cases h;rfl);rw [has_put_other hne];exact ⟨(h3 q y hq).1,fun d=>by rw [atKey_put_other hne];exact (h3 q y hq).2 d⟩
theorem fT.drop {w:World} {b:Nat} {f:Int->Option Int} (h:fT w b f) (k:Int) (hk:-9223372036854775808<=k/\k<=9223372036854775807) (ty:TypeId) :
  ∃w',(Builtin.delete_ #[232,3] ty #[.map (some b),.int .i64 k]).run Tryz.prog w=.ok (.tuple #[]) w'/\fT w' b (fun q=>if q=k then none else f q)/\aa [b] w w':=by
 obtain ⟨D,h1,h2,h3⟩:=h;obtain ⟨w',hrun,ho,ht⟩:=h1.drop oU Tryz.underlying232 (wR hk) ty;refine ⟨w',hrun,⟨_,vW ho,fun kl hkl=>?_,fun q y hq=>?_⟩,oF ht⟩
 ·by_cases e:kl=.int .i64 k
  ·subst e;rw [has_del_same] at hkl;cases hkl
  ·rw [has_del_other e] at hkl;obtain ⟨q,rfl,a,b,c⟩:=h2 kl hkl;exact ⟨q,rfl,a,b,by show (if q=k then none else f q).isSome=true;rw [Γ (fun h=>e (by rw [h]))];exact c⟩
 ·by_cases e:q=k
  ·subst e;simp at hq
  ·simp only [Γ e] at hq;have hne:(Lit.int .i64 q)≠.int .i64 k:=fun h=>e (by cases h;rfl);rw [has_del_other hne];exact ⟨(h3 q y hq).1,fun d=>by rw [atKey_del_other hne];exact (h3 q y hq).2 d⟩
theorem fT.made (w:World):fT (w.alloc (.map #[] 0)) w.heap.size (fun _=>none):=
 ⟨.map [],World.ownsMap_made w _ _ _,fun kl hkl=>by simp [has_eq] at hkl,fun k z hz=>by cases hz⟩
theorem lX {w:World} {ops:Array Oper} {rest:List Oper} {o:Oper} {a:Act} {Q:Exit->Act->World->Prop} (hg:o.guard=none) (m x v:Operand) (hop:o.op=Op.mapUpdate 232 m x v)
  (b:Nat) (f:Int->Option Int) (hm:a.eval m=.map (some b)) (h:fT w b f) (k z:Int) (hx:a.eval x=.int .i64 k) (hv:a.eval v=.int .i64 z) (hk:0<=k/\k<=65536) (hz:-9223372036854775808<=z/\z<=9223372036854775807)
  (hK:∀w',fT w' b (fun q=>if q=k then some z else f q)->aa [b] w w'->wpList Tryz.prog ops Q rest (a.put o.dst undef) w'):wpList Tryz.prog ops Q (o::rest) a w:=by
 refine wpList_plain hg fun K' hK'=>?_;obtain ⟨w',hrun,r1,r2⟩:=h.store k z hk hz;unfold Oper.wp;simp [execOp,hop,hm,hx,hv,hrun,Result.andThen];exact hK' _ _ (hK w' r1 r2)
theorem nZ {w:World} {ops:Array Oper} {rest:List Oper} {o:Oper} {a:Act} {Q:Exit->Act->World->Prop} (hg:o.guard=none) (m x:Operand) (hop:o.op=Op.call { callee:=Callee.builtin Builtin.delete,args:=#[m,x],argTypes:=#[232,3] })
  (b:Nat) (f:Int->Option Int) (hm:a.eval m=.map (some b)) (h:fT w b f) (k:Int) (hx:a.eval x=.int .i64 k) (hk:-9223372036854775808<=k/\k<=9223372036854775807)
  (hK:∀w',fT w' b (fun q=>if q=k then none else f q)->aa [b] w w'->wpList Tryz.prog ops Q rest (a.put o.dst (.tuple #[])) w'):wpList Tryz.prog ops Q (o::rest) a w:=by
 refine wpList_plain hg fun K' hK'=>?_;obtain ⟨w',hrun,r1,r2⟩:=h.drop k hk o.type;unfold Oper.wp;simp [execOp,hop,resolve,invoke,builtin,hm,hx,hrun,Result.andThen];exact hK' _ _ (hK w' r1 r2)
theorem kT {w:World} {ops:Array Oper} {rest:List Oper} {o:Oper} {a:Act} {Q:Exit->Act->World->Prop} (hg:o.guard=none) (m x:Operand) (hop:o.op=Op.lookup 232 m x false)
  (b:Nat) (f:Int->Option Int) (hm:a.eval m=.map (some b)) (h:fT w b f) (k:Int) (hx:a.eval x=.int .i64 k) (hk:-9223372036854775808<=k/\k<=9223372036854775807) (z:Int) (hz:(f k).getD 0=z)
  (hK:wpList Tryz.prog ops Q rest (a.put o.dst (.int .i64 z)) w):wpList Tryz.prog ops Q (o::rest) a w:=by
 refine wpList_plain hg fun K' hK'=>?_;have hrun:=h.look k hk;rw [hz] at hrun;unfold Oper.wp;simp [execOp,hop,hm,hx,hrun,Result.andThen];exact hK' _ _ hK
theorem mg {w:World} {ops:Array Oper} {rest:List Oper} {o:Oper} {a:Act} {Q:Exit->Act->World->Prop} (hg:o.guard=none) (m x:Operand) (hop:o.op=Op.lookup 232 m x true)
  (b:Nat) (f:Int->Option Int) (hm:a.eval m=.map (some b)) (h:fT w b f) (k:Int) (hx:a.eval x=.int .i64 k) (hk:-9223372036854775808<=k/\k<=9223372036854775807)
  (hK:wpList Tryz.prog ops Q rest (a.put o.dst (.tuple #[.int .i64 ((f k).getD 0),.bool (f k).isSome])) w):wpList Tryz.prog ops Q (o::rest) a w:=by
 refine wpList_plain hg fun K' hK'=>?_;have hrun:=h.look_ok k hk;unfold Oper.wp;simp [execOp,hop,hm,hx,hrun,Result.andThen];exact hK' _ _ hK
end Go.Proofs.YtklibcncmbofpaaGreat
namespace Go.Proofs.YtklibcncmbofpaaGreat
open Go Go.RowKit
def jT (raw:Nat->Cl) (j:Nat):Value:=if j % 3=0 then .int .i64 (raw (j / 3)).i else if j % 3=1 then .int .i64 (raw (j / 3)).k else .int .u64 (raw (j / 3)).s
theorem Mg (raw:Nat->Cl) (x:Nat):jT raw (x*3)=.int .i64 (raw x).i:=by unfold jT;rw [Δ ω,show x*3 / 3=x by omega]
theorem yR (raw:Nat->Cl) (x:Nat):jT raw (x*3+1)=.int .i64 (raw x).k:=by unfold jT;rw [Γ ω,Δ ω,show (x*3+1) / 3=x by omega]
theorem yD (raw:Nat->Cl) (x:Nat):jT raw (x*3+2)=.int .u64 (raw x).s:=by unfold jT;rw [Γ ω,Γ ω,show (x*3+2) / 3=x by omega]
def jw (A:NS) (h:Int):Option Int:=if 0<dI A h then some (dI A h:Int) else none
theorem ui (A:NS) (h:Int):(jw A h).getD 0=dI A h:=by unfold jw;split;rfl;simp;omega
structure CM (w:World) (c ca nm mb g cap:Nat) (l:List Int) (rt dp:Nat->Nat) (raw:Nat->Cl) (A:NS) (st:Nat):Prop where
 head:aK w c 245 4 (fun j=>[Value.int .i64 (st:Int),.slice (some ⟨ca,0,none⟩) A.cs.length A.cs.length,.pointer (some ⟨nm,0,none⟩),.map (some mb)].getD j undef)
 row:aK w ca 281 (A.cs.length*3) (jT raw)
 Xf:jO w nm g cap l
 many:fT w mb (jw A)
 Qa:qR l rt dp
 ok:A.Ok
 ou:st<=4611686018427387904
 rel:∀x,x<A.cs.length->(raw x=Cl.z/\A.c x=Cl.z)\/(1<=(raw x).i/\(raw x).i<l.length/\A.c x=⟨rt (raw x).i.toNat,(raw x).k,(raw x).s⟩)
 hlen:A.hs.length=l.length
 has:∀i,1<=i->i<l.length->A.hs.getD i false=decide (l.getD i 0=i)
 sep:(c≠ca/\c≠nm/\c≠mb/\c≠g)/\(ca≠nm/\ca≠mb/\ca≠g)/\(nm≠mb/\mb≠g)
theorem CM.upd {w w':World} {S:List Nat} {c ca nm mb g cap:Nat} {l:List Int} {rt dp:Nat->Nat} {raw:Nat->Cl} {A:NS} {st:Nat} (h:CM w c ca nm mb g cap l rt dp raw A st) (hu:aa S w w') (hS:∀x,x∈S->x∉[c,ca,nm,mb,g]):CM w' c ca nm mb g cap l rt dp raw A st:=
 ⟨h.head.upd hu (fun m=>hS _ m σ),h.row.upd hu (fun m=>hS _ m σ),h.Xf.upd hu (fun m=>hS _ m σ) (fun m=>hS _ m σ),h.many.upd hu (fun m=>hS _ m σ),h.Qa,h.ok,h.ou,h.rel,h.hlen,h.has,h.sep⟩
def aC (w:World) (c:Nat) (F:List Nat) (A:NS) (st:Nat):Prop:=∃ca nm mb g cap l rt dp raw,CM w c ca nm mb g cap l rt dp raw A st/\F=[c,ca,nm,mb,g]
theorem aC.upd {w w':World} {S F:List Nat} {c:Nat} {A:NS} {st:Nat} (h:aC w c F A st) (hu:aa S w w') (hS:∀x,x∈S->x∉F):aC w' c F A st:=by
 obtain ⟨ca,nm,mb,g,cap,l,rt,dp,raw,h,rfl⟩:=h;exact ⟨ca,nm,mb,g,cap,l,rt,dp,raw,h.upd hu hS,rfl⟩
theorem aC.aj {w w':World} {F:List Nat} {c:Nat} {A:NS} {st:Nat} (h:aC w c F A st) (hu:aa [] w w'):aC w' c F A st:=h.upd hu σ
theorem aC.ok {w:World} {F:List Nat} {c:Nat} {A:NS} {st:Nat} (h:aC w c F A st):A.Ok:=by
 obtain ⟨ca,nm,mb,g,cap,l,rt,dp,raw,h,rfl⟩:=h;exact h.ok
theorem aC.ou {w:World} {F:List Nat} {c:Nat} {A:NS} {st:Nat} (h:aC w c F A st):st<=4611686018427387904:=by
 obtain ⟨ca,nm,mb,g,cap,l,rt,dp,raw,h,rfl⟩:=h;exact h.ou
theorem aC.lt {w:World} {F:List Nat} {c:Nat} {A:NS} {st:Nat} (h:aC w c F A st):∀x,x∈F->x<w.heap.size:=by
 obtain ⟨ca,nm,mb,g,cap,l,rt,dp,raw,h,rfl⟩:=h;intro x hx;have:=h.head.lt;have:=h.row.lt;have:=h.Xf.lt;have:=h.many.lt;simp at hx;omega
theorem aC.mem {w:World} {F:List Nat} {c:Nat} {A:NS} {st:Nat} (h:aC w c F A st):c∈F:=by
 obtain ⟨ca,nm,mb,g,cap,l,rt,dp,raw,h,rfl⟩:=h;simp
def Goes (F:List Nat) (w w':World) (P:List Nat->Prop):Prop:=∃F',P F'/\aa F w w'/\∀x,x∈F'->x∈F\/w.heap.size<=x
theorem Goes.stay {F:List Nat} {w w':World} {P:List Nat->Prop} (h:P F) (hu:aa F w w'):Goes F w w' P:=⟨F,h,hu,fun x hx=>Α hx⟩
section
variable {w:World} {c ca nm mb g cap:Nat} {l:List Int} {rt dp:Nat->Nat} {raw:Nat->Cl} {A:NS} {st:Nat}
theorem CM.c0 (h:CM w c ca nm mb g cap l rt dp raw A st):w.cell? ⟨c,0,none⟩=some (.int .i64 (st:Int)):=h.head.cellAt 0 ω rfl
theorem CM.c1 (h:CM w c ca nm mb g cap l rt dp raw A st):w.cell? ⟨c,1,none⟩=some (.slice (some ⟨ca,0,none⟩) A.cs.length A.cs.length):=h.head.cellAt 1 ω rfl
theorem CM.c2 (h:CM w c ca nm mb g cap l rt dp raw A st):w.cell? ⟨c,2,none⟩=some (.pointer (some ⟨nm,0,none⟩)):=h.head.cellAt 2 ω rfl
theorem CM.c3 (h:CM w c ca nm mb g cap l rt dp raw A st):w.cell? ⟨c,3,none⟩=some (.map (some mb)):=h.head.cellAt 3 ω rfl
theorem CM.Yd (h:CM w c ca nm mb g cap l rt dp raw A st) {x:Nat} (hx:x<A.cs.length):decide (0<(A.c x).i)=decide (0<(raw x).i):=by
 rcases h.rel x hx with ⟨h1,h2⟩|⟨h1,h2,h3⟩
 ·rw [h1,h2]
 ·have:=h.Qa.WT (i:=(raw x).i.toNat) ω ω;rw [h3,decide_eq_decide];simp only;omega
theorem CM.GA (h:CM w c ca nm mb g cap l rt dp raw A st) (x:Int):GA l x=bD A x:=by
 unfold Go.Proofs.YtklibcncmbofpaaGreat.GA bD;rw [h.hlen]
 by_cases hx:0<x/\x<l.length
 ·rw [h.has x.toNat ω ω,Bool.eq_iff_iff];simp only [Τ,Ο,beq_iff_eq];constructor
  ·rintro ⟨_,h2⟩;exact ⟨⟨ω,ω⟩,ω⟩
  ·rintro ⟨_,h2⟩;exact ⟨⟨ω,ω⟩,ω⟩
 ·have e1:(decide (0<x) && decide (x<(l.length:Int)))=false:=ζ;have e2:(decide (1<=x) && decide (x<(l.length:Int)))=false:=ζ;rw [e1,e2];rfl
end
theorem jm {w:World} {c st:Nat} {F:List Nat} {A:NS} (h:aC w c F A st) (x:Int) :
  Calls Tryz.prog 139 #[.pointer (some ⟨c,0,none⟩),.int .i64 x] w fun e w'=>e=.returned (.bool (bD A x))/\w'=w:=by
 obtain ⟨ca,nm,mb,g,cap,l,rt,dp,raw,h,rfl⟩:=h;have c2:=h.c2;have k:=TG nm g cap l x w h.Xf h.Qa.PQ;rw [h.GA] at k;clear h
 go_enter Tryz.func139,Tryz.ntmps139
 go_wp2_with ((go_at_call 152;(with_reducible refine (k).mono ?_);rintro e w9 ⟨rfl,aI⟩;rw [aI];clear aI w9))
 go_ret;exact ⟨rfl,rfl⟩
theorem pW {w:World} {c st:Nat} {F:List Nat} {A:NS} (h:aC w c F A st) (x:Int) (hx:-9223372036854775808<=x/\x<=9223372036854775807) :
  Calls Tryz.prog 142 #[.pointer (some ⟨c,0,none⟩),.int .i64 x] w fun e w'=>e=.returned (.int .i64 (dI A x:Int))/\w'=w:=by
 obtain ⟨ca,nm,mb,g,cap,l,rt,dp,raw,h,rfl⟩:=h;have c3:=h.c3;have hl:=h.many.look x hx;rw [ui] at hl;clear h
 go_enter Tryz.func142,Tryz.ntmps142
 go_wp2;go_ret;exact ⟨rfl,rfl⟩
theorem AP {w:World} {c st:Nat} {F:List Nat} {A:NS} (h:aC w c F A st) (x:Int) :
  Calls Tryz.prog 160 #[.pointer (some ⟨c,0,none⟩),.int .i64 x] w fun e w'=>e=.returned (.bool (wL A x))/\w'=w:=by
 obtain ⟨ca,nm,mb,g,cap,l,rt,dp,raw,h,rfl⟩:=h;have c1:=h.c1;have h1:=h.ok.c1;clear h;unfold wL
 by_cases h0:0<=x
 ·go_enter Tryz.func160,Tryz.ntmps160
  go_wp2;go_ret;exact ⟨aU (by simp [h0]),rfl⟩
 ·go_enter Tryz.func160,Tryz.ntmps160
  go_wp2;go_ret;exact ⟨aU ζ,rfl⟩
theorem qE {w:World} {c st:Nat} {F:List Nat} {A:NS} (h:aC w c F A st) (x:Int) :
  Calls Tryz.prog 149 #[.pointer (some ⟨c,0,none⟩),.int .i64 x] w fun e w'=>e=.returned (.bool (bQ A x))/\w'=w:=by
 have k:=AP h x;obtain ⟨ca,nm,mb,g,cap,l,rt,dp,raw,h,rfl⟩:=h;have c1:=h.c1;have h1:=h.ok.c1;unfold bQ;cases hs:wL A x
 ·rw [hs] at k;clear h
  go_enter Tryz.func149,Tryz.ntmps149
  go_wp2_with ((go_at_call 160;(with_reducible refine (k).mono ?_);rintro e w9 ⟨rfl,aI⟩;rw [aI];clear aI w9))
  go_ret;exact ⟨rfl,rfl⟩
 ·rw [hs] at k;have hx:=(gH _ _).1 hs;obtain ⟨i,rfl⟩:∃i:Nat,x=i:=⟨x.toNat,ω⟩;have hi:i<A.cs.length:=ω;have d0:=h.row.cellAt (i*3) ω (Mg raw i);simp only [π];rw [h.Yd hi];clear h hs
  go_enter Tryz.func149,Tryz.ntmps149
  go_wp2_with ((go_at_call 160;(with_reducible refine (k).mono ?_);rintro e w9 ⟨rfl,aI⟩;rw [aI];clear aI w9))
  go_ret;exact ⟨aU σ,rfl⟩
theorem row3 {w:World} {ca m i:Nat} {e:TypeId} {raw:Nat->Cl} (h:aK w ca e m (jT raw)) (cl:Cl) :
  aK (((w.setCell ⟨ca,i*3,none⟩ (.int .i64 cl.i)).setCell ⟨ca,i*3+1,none⟩ (.int .i64 cl.k)).setCell ⟨ca,i*3+2,none⟩ (.int .u64 cl.s)) ca e m (jT (fun y=>if y=i then cl else raw y)):=by
 refine (((h.set _ _).set _ _).set _ _).ext (fun j hj=>?_);simp only [jT]
 by_cases e0:j=i*3+2
 ·rw [Δ e0,Γ ω,Γ ω,Δ ω]
 ·rw [Γ e0]
  by_cases e1:j=i*3+1
  ·rw [Δ e1,Γ ω,Δ ω,Δ ω]
  ·rw [Γ e1]
   by_cases e2:j=i*3
   ·rw [Δ e2,Δ ω,Δ ω]
   ·rw [Γ e2,Γ (show ¬j / 3=i by omega)]
theorem row2 {w:World} {ca m i:Nat} {e:TypeId} {raw:Nat->Cl} (h:aK w ca e m (jT raw)) (k s:Int) :
  aK ((w.setCell ⟨ca,i*3+1,none⟩ (.int .i64 k)).setCell ⟨ca,i*3+2,none⟩ (.int .u64 s)) ca e m (jT (fun y=>if y=i then ⟨(raw i).i,k,s⟩ else raw y)):=by
 refine ((h.set _ _).set _ _).ext (fun j hj=>?_);simp only [jT]
 by_cases e0:j=i*3+2
 ·rw [Δ e0,Γ ω,Γ ω,Δ ω]
 ·rw [Γ e0]
  by_cases e1:j=i*3+1
  ·rw [Δ e1,Γ ω,Δ ω,Δ ω]
  ·rw [Γ e1]
   by_cases e2:j=i*3
   ·rw [Δ ω,Δ ω,Δ ω,show j / 3=i by omega]
   ·rw [Γ (show ¬j / 3=i by omega)]
section
variable {w:World} {c ca nm mb g cap:Nat} {l:List Int} {rt dp:Nat->Nat} {raw:Nat->Cl} {A:NS} {st:Nat}
theorem CM.turn (h:CM w c ca nm mb g cap l rt dp raw A st) {w2:World} {Hz:Nat->Cl} {A':NS} (hu:aa [ca,mb] w w2) (hrow:aK w2 ca 281 (A.cs.length*3) (jT Hz)) (hm:fT w2 mb (jw A')) (hok:A'.Ok)
  (hlen:A'.cs.length=A.cs.length) (kY:A'.hs=A.hs) (hrel:∀x,x<A.cs.length->(Hz x=Cl.z/\A'.c x=Cl.z)\/(1<=(Hz x).i/\(Hz x).i<l.length/\A'.c x=⟨rt (Hz x).i.toNat,(Hz x).k,(Hz x).s⟩)) :
  CM w2 c ca nm mb g cap l rt dp Hz A' st:=by
 have s:=h.sep;refine ⟨?_,by rw [hlen];exact hrow,h.Xf.upd hu ι ι,hm,h.Qa,hok,h.ou,by rw [hlen];exact hrel,by rw [kY];exact h.hlen,by rw [kY];exact h.has,s⟩;rw [hlen];exact h.head.upd hu ι
theorem CM.Yx (h:CM w c ca nm mb g cap l rt dp raw A st) {i:Nat} (hi:bD A i=true):1<=i/\i<l.length/\rt i=i/\l.getD i 0=i:=by
 rw [←h.GA] at hi;unfold Go.Proofs.YtklibcncmbofpaaGreat.GA at hi;simp only [Τ,Ο,beq_iff_eq,π] at hi;exact ⟨ω,ω,h.Qa.top i ω ω hi.2,hi.2⟩
end
def X8 (l:List Int) (rt:Nat->Nat) (cr ca:Cl):Prop:=(cr=Cl.z/\ca=Cl.z)\/(1<=cr.i/\cr.i<l.length/\ca=⟨rt cr.i.toNat,cr.k,cr.s⟩)
theorem z8 {l:List Int} {rt:Nat->Nat} {raw:Nat->Cl} {A:NS} {x:Nat} {cr ca:Cl} (h:∀y,y<A.cs.length->X8 l rt (raw y) (A.c y)) (hx:x<A.cs.length) (hc:X8 l rt cr ca) :
  ∀y,y<A.cs.length->X8 l rt (if y=x then cr else raw y) ((iM A x ca).c y):=by
 intro y hy;rw [jQ]
 by_cases e:y=x
 ·simp only [e,hx,and_self,if_true];exact hc
 ·simp only [e,false_and,if_false];exact h y hy
theorem JB {A:NS} {x:Nat} {c:Cl} (h:Int) (hx:x<A.cs.length) (hz:(A.c x).i=0) (hc:0<c.i) (q:Int):(if q=c.i then some ((dI A c.i:Int)+1) else jw A q)=jw (iM A x c) q:=by
 have:=mW A x c q hx;rw [hz] at this;unfold jw
 by_cases e:q=c.i
 ·subst e;rw [Δ rfl];rw [Γ ω,Δ ⟨rfl,hc⟩] at this;simp only [ϔ] at this;rw [Δ ω,this];simp
 ·rw [Γ e];rw [Γ ω,Γ ω] at this;simp only [ϔ] at this;rw [this]
theorem nC {w:World} {c st:Nat} {F:List Nat} {A:NS} (h:aC w c F A st) (hh x:Nat) (k s:Int) (hk:-9223372036854775808<=k/\k<=9223372036854775807/\0<=s/\s<=18446744073709551615) (hB:nR A hh x=true) :
  Calls Tryz.prog 154 #[.pointer (some ⟨c,0,none⟩),.int .i64 (hh:Int),.int .i64 (x:Int),.agg #[.int .i64 k,.int .u64 s]] w fun e w'=>e=.returned (.bool true)/\aC w' c F (aJ A hh x k s) st/\aa F w w':=by
 have k1:=fun W hW=>jm (h.aj (w':=W) hW) hh;have k2:=fun W hW=>AP (h.aj (w':=W) hW) x;have k3:=fun W hW=>qE (h.aj (w':=W) hW) x;have hu:aa [] w (w.alloc (.cells #[.int .i64 k,.int .u64 s] 129)):=(aa.refl _ _).alloc _;have hp:=(dW _ _ _).1 hB;rw [hp.1] at k1;rw [hp.2.1] at k2;rw [hp.2.2] at k3;have hx:=(gH _ _).1 hp.2.1;have EO:=(aO _ _).1 hp.1;have hAz:(A.c x).i<=0:=by have:=hp.2.2;unfold bQ at this;rw [hp.2.1] at this;simpa using this
 have hin:(A.c x).i=0:=by have:=h.ok.nat x ω;omega
 have hlen:=Dq h.ok (hh:Int);have hA1:=h.ok.h1;have hA2:=h.ok.c1;obtain ⟨ca,nm,mb,g,cap,l,rt,dp,raw,h,rfl⟩:=h;have c1:=h.c1;have c3:=h.c3;have d0:=h.row.cell (x*3) ω;have d1:=h.row.cell (x*3+1) ω;have d2:=h.row.cell (x*3+2) ω;have f0:=h.row.free (x*3);have f1:=h.row.free (x*3+1);have f2:=h.row.free (x*3+2);have hlt:=aC.lt ⟨ca,nm,mb,g,cap,l,rt,dp,raw,h,rfl⟩;have l1:=hlt c σ;have l2:=hlt ca σ;have l3:=hlt mb σ;have hs:=h.sep;have H:=χ h;have HP:=χ hp;clear h hp hB hlt;obtain ⟨len,hle⟩:∃n,n=A.cs.length:=⟨_,rfl⟩;rw [←hle] at c1 hx;have HL:=χ hle;clear hle;have hx2:x<len:=ω
 go_enter Tryz.func154,Tryz.ntmps154
 go_wp2_with (first|(go_at_call 139;(with_reducible refine ((k1 _ hu)).mono ?_);rintro e w9 ⟨rfl,aI⟩;rw [aI];clear aI w9)|(go_at_call 160;(with_reducible refine ((k2 _ hu)).mono ?_);rintro e w9 ⟨rfl,aI⟩;rw [aI];clear aI w9)|(go_at_call 149;(with_reducible refine ((k3 _ hu)).mono ?_);rintro e w9 ⟨rfl,aI⟩;rw [aI];clear aI w9))
 go_region
 go_wp2_with (first
  | (at_lookup;refine kT rfl _ _ rfl mb (jw A) rfl (H.out.many.upd (S:=[ca]) β ι) (hh:Int) rfl ω (dI A (hh:Int):Int) (ui _ _) ?_)
  | (at_mapUpdate;refine lX rfl _ _ _ rfl mb (jw A) rfl (H.out.many.upd (S:=[ca]) β ι) (hh:Int) ((dI A (hh:Int):Int)+1) rfl rfl ω ω ?_;intro w2 hm2 hu2))
 go_ret;have hu3:aa [ca] w ((((w.setCell ⟨ca,x*3,none⟩ (.int .i64 (hh:Int))).setCell ⟨ca,x*3+1,none⟩ (.int .i64 k)).setCell ⟨ca,x*3+2,none⟩ (.int .u64 s)).alloc (.cells #[.int .i64 k,.int .u64 s] 129)).drew:=β;have hr3:=((row3 (i:=x) H.out.row ⟨(hh:Int),k,s⟩).upd ((aa.refl [] _).alloc (.cells #[.int .i64 k,.int .u64 s] 129) |>.drew) σ).upd hu2 ι;have fZ:aa [ca,mb] w w2:=(hu3.mono ι).joined hu2 (fun y hy=>Α (by simp at hy;simp [hy]));have hrt:=H.out.Yx HP.out.1;have hxl:x<A.cs.length:=by rw [←HL.out];exact hx2
 have e:aJ A (hh:Int) (x:Int) k s=iM A x ⟨(hh:Int),k,s⟩:=by unfold aJ;rw [Δ ((dW _ _ _).2 HP.out)];simp
 refine ⟨rfl,⟨ca,nm,mb,g,cap,l,rt,dp,fun y=>if y=x then ⟨(hh:Int),k,s⟩ else raw y,?_,rfl⟩,fZ.mono ι⟩;rw [e];refine H.out.turn fZ hr3 (hm2.ext (fun q=>JB (c:=⟨(hh:Int),k,s⟩) (hh:Int) hxl hin (by show 0<(hh:Int);omega) q)) (by rw [←e];exact yI H.out.ok _ _ _ _ hk) (eY _ _ _) rfl (z8 H.out.rel hxl (Β ⟨by show 1<=(hh:Int);omega,by show (hh:Int)<l.length;omega,by rw [π,hrt.2.2.1]⟩))
theorem lK {w:World} {c st:Nat} {F:List Nat} {A:NS} (h:aC w c F A st) (x:Int) (hx:bQ A x=false) :
  Calls Tryz.prog 137 #[.pointer (some ⟨c,0,none⟩),.int .i64 x] w fun e w'=>e=.returned (.tuple #[.agg #[.int .i64 0,.int .u64 0],.bool false])/\aa [] w w':=by
 have hu:aa [] w (w.alloc (.cells #[.int .i64 0,.int .u64 0] 129)):=(aa.refl _ _).alloc _;have k:=qE (h.aj hu) x;rw [hx] at k;clear h hx
 go_enter Tryz.func137,Tryz.ntmps137
 go_wp2_with ((go_at_call 149;(with_reducible refine (k).mono ?_);rintro e w9 ⟨rfl,aI⟩;rw [aI];clear aI w9))
 exact bodyPost_ret (v:=.tuple #[.agg #[.int .i64 0,.int .u64 0],.bool false]) (by simp [results,Tryz.results137,go_sem]) rfl ⟨rfl,ξ⟩
theorem jR {w:World} {c st:Nat} {F:List Nat} {A:NS} (h:aC w c F A st) (x:Nat) (hx:bQ A x=true) :
  Calls Tryz.prog 137 #[.pointer (some ⟨c,0,none⟩),.int .i64 (x:Int)] w fun e w'=>e=.returned (.tuple #[.agg #[.int .i64 (A.c x).k,.int .u64 (A.c x).s],.bool true])/\aa [] w w':=by
 have hu:aa [] w (w.alloc (.cells #[.int .i64 0,.int .u64 0] 129)):=(aa.refl _ _).alloc _;have k:=qE (h.aj hu) x;rw [hx] at k;obtain ⟨hx1,hx2⟩:=(ae _ _).1 hx;obtain ⟨ca,nm,mb,g,cap,l,rt,dp,raw,h,rfl⟩:=h;have e:A.c x=⟨rt (raw x).i.toNat,(raw x).k,(raw x).s⟩:=by
  rcases h.rel x hx1 with ⟨h1,h2⟩|⟨h1,h2,h3⟩
  ·rw [h2] at hx2;exact absurd hx2 δ
  ·exact h3
 rw [e];have c1:=h.c1;have d1:=h.row.cellAt (x*3+1) ω (yR raw x);have d2:=h.row.cellAt (x*3+2) ω (yD raw x);have hA:=h.ok.c1;have l1:=h.head.lt;have l2:=h.row.lt;clear h hx hx2 e
 go_enter Tryz.func137,Tryz.ntmps137
 go_wp2_with ((go_at_call 149;(with_reducible refine (k).mono ?_);rintro e w9 ⟨rfl,aI⟩;rw [aI];clear aI w9))
 exact bodyPost_ret (v:=.tuple #[.agg #[.int .i64 (raw x).k,.int .u64 (raw x).s],.bool true]) (by simp [results,Tryz.results137,go_sem]) rfl ⟨rfl,ξ⟩
theorem CM.Yg {w:World} {c ca nm mb g cap:Nat} {l l':List Int} {rt dp:Nat->Nat} {raw:Nat->Cl} {A:NS} {st:Nat} (h:CM w c ca nm mb g cap l rt dp raw A st) {w':World} (hN:jO w' nm g cap l') (ok:qR l' rt dp) (hl:l'.length=l.length) (hu:aa [g] w w') :
  CM w' c ca nm mb g cap l' rt dp raw A st:=by
 have s:=h.sep;refine ⟨h.head.upd hu ι,h.row.upd hu ι,hN,h.many.upd hu ι,ok,h.ok,h.ou,by rw [hl];exact h.rel,by rw [hl];exact h.hlen,fun i h1 h2=>?_,s⟩;rw [hl] at h2;rw [h.has i h1 h2,decide_eq_decide,h.Qa.PW h1 h2,ok.PW h1 (by rw [hl];exact h2)]
theorem dK {w:World} {c st:Nat} {F:List Nat} {A:NS} (h:aC w c F A st) (x:Nat) (hx:bQ A x=true) :
  Calls Tryz.prog 140 #[.pointer (some ⟨c,0,none⟩),.int .i64 (x:Int)] w fun e w'=>e=.returned (.tuple #[.int .i64 (A.c x).i,.bool true])/\aC w' c F A st/\aa F w w':=by
 have k:=qE h x;rw [hx] at k;obtain ⟨hx1,hx2⟩:=(ae _ _).1 hx;obtain ⟨ca,nm,mb,g,cap,l,rt,dp,raw,h,rfl⟩:=h;have e:1<=(raw x).i/\(raw x).i<l.length/\A.c x=⟨rt (raw x).i.toNat,(raw x).k,(raw x).s⟩:=by
  rcases h.rel x hx1 with ⟨h1,h2⟩|h3
  ·rw [h2] at hx2;exact absurd hx2 δ
  ·exact h3
 obtain ⟨r,hr⟩:∃r:Nat,(raw x).i=r:=⟨(raw x).i.toNat,ω⟩;rw [e.2.2,hr,π];have c1:=h.c1;have c2:=h.c2;have d0:=h.row.cellAt (x*3) ω (Mg raw x);rw [hr] at d0 e;have hA:=h.ok.c1;have hs:=h.sep;have H:=χ h;have hr1:1<=r:=ω;have hr2:r<l.length:=ω;clear h hx hx2 e hr
 go_enter Tryz.func140,Tryz.ntmps140
 go_wp2_with ((go_at_call 149;(with_reducible refine (k).mono ?_);rintro e w9 ⟨rfl,aI⟩;rw [aI];clear aI w9))
 have r1:∀W,aa [g] w W->W.cell? ⟨c,1,none⟩=some (.slice (some ⟨ca,0,none⟩) A.cs.length A.cs.length):=fun W hW=>by rw [hW.cell H.out.head.lt ι];exact c1
 have r2:∀W,aa [g] w W->W.cell? ⟨c,2,none⟩=some (.pointer (some ⟨nm,0,none⟩)):=fun W hW=>by rw [hW.cell H.out.head.lt ι];exact c2
 have r3:∀W,aa [g] w W->W.cell? ⟨ca,x*3,none⟩=some (.int .i64 (r:Int)):=fun W hW=>by rw [hW.cell H.out.row.lt ι];exact d0
 go_region_held3 (aa [g] w) (exact η)
  ((go_at_call 153;(with_reducible refine (NA nm g cap l rt dp r _ (H.out.Xf.upd (S:=[]) β σ σ) H.out.Qa hr1 hr2).mono ?_);rintro e w1 ⟨l',rfl,hN,hok,hlen,hu⟩;have hu':aa [g] w w1:=(by first|exact hu|exact ((aa.refl [g] w).drew.trans hu)|exact ((aa.refl [g] w).drewN _ |>.trans hu))))
 go_wp2;go_ret2;exact ⟨rfl,⟨ca,nm,mb,g,cap,l',rt,dp,raw,H.out.Yg hN hok hlen hu',rfl⟩,hu'.mono ι⟩
theorem I7 {A A':NS} (h:∀q,dI A' q=dI A q):jw A'=jw A:=by
 funext q;unfold jw;rw [h q]
theorem ig {w:World} {c st:Nat} {F:List Nat} {A:NS} (h:aC w c F A st) (i:Nat) (k s:Int) (hk:-9223372036854775808<=k/\k<=9223372036854775807/\0<=s/\s<=18446744073709551615) (hB:iT A i k s=true) :
  Calls Tryz.prog 147 #[.pointer (some ⟨c,0,none⟩),.int .i64 (i:Int),.agg #[.int .i64 k,.int .u64 s]] w fun e w'=>e=.returned (.bool true)/\aC w' c F (ak A i k s) st/\aa F w w':=by
 have hu0:aa [] w (w.alloc (.cells #[.int .i64 k,.int .u64 s] 129)):=(aa.refl _ _).alloc _;have k3:=fun W (hW:aa [] (w.alloc (.cells #[.int .i64 k,.int .u64 s] 129)) W)=>qE (h.aj (hu0.trans hW)) i;have hB0:=χ hB;unfold iT at hB;simp only [Τ,Bool.not_eq_true',π] at hB;obtain ⟨e,hl⟩:=hB;rw [e] at k3;obtain ⟨hi,hx2⟩:=(ae _ _).1 e;obtain ⟨ca,nm,mb,g,cap,l,rt,dp,raw,h,rfl⟩:=h;have ee:1<=(raw i).i/\(raw i).i<l.length/\A.c i=⟨rt (raw i).i.toNat,(raw i).k,(raw i).s⟩:=by
  rcases h.rel i hi with ⟨h1,h2⟩|h3
  ·rw [h2] at hx2;exact absurd hx2 δ
  ·exact h3
 rw [ee.2.2] at hl;have c1:=h.c1;have d1:=h.row.cellAt (i*3+1) ω (yR raw i);have d2:=h.row.cellAt (i*3+2) ω (yD raw i);have f1:=h.row.free (i*3+1);have f2:=h.row.free (i*3+2);have hA:=h.ok.c1;have kl:=fun W=>NL (raw i).k (raw i).s k s W;rw [hl] at kl;have R3:Hid (∀w2:World,aa [] (w.alloc (.cells #[.int .i64 k,.int .u64 s] 129)) w2->aC ((w2.setCell ⟨ca,i*3+1,none⟩ (.int .i64 k)).setCell ⟨ca,i*3+2,none⟩ (.int .u64 s)) c [c,ca,nm,mb,g] (ak A i k s) st/\aa [c,ca,nm,mb,g] w ((w2.setCell ⟨ca,i*3+1,none⟩ (.int .i64 k)).setCell ⟨ca,i*3+2,none⟩ (.int .u64 s))):=fun w2 hw2=>by
  have hs:=h.sep;have hm:=h.upd (hu0.trans hw2) σ;have fZ:aa [ca,mb] w2 ((w2.setCell ⟨ca,i*3+1,none⟩ (.int .i64 k)).setCell ⟨ca,i*3+2,none⟩ (.int .u64 s)):=β;have bK:aa [ca] w2 ((w2.setCell ⟨ca,i*3+1,none⟩ (.int .i64 k)).setCell ⟨ca,i*3+2,none⟩ (.int .u64 s)):=β;have e2:ak A (i:Int) k s=iM A i ⟨(A.c i).i,k,s⟩:=by unfold ak;rw [Δ hB0.out];simp
  refine ⟨⟨ca,nm,mb,g,cap,l,rt,dp,fun y=>if y=i then ⟨(raw i).i,k,s⟩ else raw y,?_,rfl⟩,((hu0.trans hw2).mono σ).trans (fZ.mono ι)⟩;rw [e2];refine hm.turn fZ (row2 hm.row k s) ?_ (by rw [←e2];exact Li h.ok _ _ _ hk) (eY _ _ _) rfl (z8 h.rel hi (Β ⟨ee.1,ee.2.1,by rw [ee.2.2]⟩));rw [I7 (A:=A) (A':=iM A i ⟨(A.c i).i,k,s⟩) (fun q=>by have:=mW A i ⟨(A.c i).i,k,s⟩ q hi;simp only at this;omega)];exact hm.many.upd bK ι
 generalize (raw i).k=k0 at *;generalize (raw i).s=s0 at *;have hlt:ca<w.heap.size:=h.row.lt;have r1:∀W,aa [] (w.alloc (.cells #[.int .i64 k,.int .u64 s] 129)) W->W.cell? ⟨c,1,none⟩=some (.slice (some ⟨ca,0,none⟩) A.cs.length A.cs.length):=fun W hW=>(hu0.trans hW).was c1;have r2:∀W,aa [] (w.alloc (.cells #[.int .i64 k,.int .u64 s] 129)) W->W.cell? ⟨ca,i*3+1,none⟩=some (.int .i64 k0):=fun W hW=>(hu0.trans hW).was d1;have r3:∀W,aa [] (w.alloc (.cells #[.int .i64 k,.int .u64 s] 129)) W->W.cell? ⟨ca,i*3+2,none⟩=some (.int .u64 s0):=fun W hW=>(hu0.trans hW).was d2
 have r4:∀W,aa [] (w.alloc (.cells #[.int .i64 k,.int .u64 s] 129)) W->W.cell? ⟨w.heap.size,0,none⟩=some (.int .i64 k):=fun W h=>h.was σ;have r5:∀W,aa [] (w.alloc (.cells #[.int .i64 k,.int .u64 s] 129)) W->W.cell? ⟨w.heap.size,1,none⟩=some (.int .u64 s):=fun W h=>h.was σ;have g1:∀W,aa [] (w.alloc (.cells #[.int .i64 k,.int .u64 s] 129)) W->W.frozen? ⟨ca,i*3+1,none⟩=false:=fun W hW=>by rw [(hu0.trans hW).frozen hlt σ];exact f1
 have g2:∀W,aa [] (w.alloc (.cells #[.int .i64 k,.int .u64 s] 129)) W->W.frozen? ⟨ca,i*3+2,none⟩=false:=fun W hW=>by rw [(hu0.trans hW).frozen hlt σ];exact f2
 clear h hl ee c1 d1 d2 f1 f2 e hx2
 go_enter Tryz.func147,Tryz.ntmps147
 go_wp2
 go_region_held3 (aa [] (w.alloc (.cells #[.int .i64 k,.int .u64 s] 129))) (exact η)
  (first
   | (go_at_call 149;(with_reducible refine (k3 _ β).mono ?_);rintro e w9 ⟨rfl,aI⟩;rw [aI];clear aI w9)
   | (go_at_call 158;(with_reducible refine (kl _).mono ?_);rintro e w1 ⟨rfl,hu1⟩;(have hu2:aa [] (w.alloc (.cells #[.int .i64 k,.int .u64 s] 129)) w1:=η)))
 have q1:=r1 _ hu2;have q2:=r2 _ hu2;have q3:=r3 _ hu2;have q4:=r4 _ hu2;have q5:=r5 _ hu2;have q6:=g1 _ hu2;have q7:=g2 _ hu2;clear r1 r2 r3 r4 r5 g1 g2 k3 kl;have HQ:=χ hu2;clear hu2 hu0 hu1;go_wp2
 go_region
 go_wp2;go_ret;exact ⟨rfl,((R3.out w1 HQ.out).1).aj ((aa.refl _ _).drew),(R3.out w1 HQ.out).2.drew⟩
def bR (st k:Nat):Nat:=min (st+k) 4611686018427387904
theorem fO {st:Nat} (h:st<=4611686018427387904):bR st 0=st:=by unfold bR;omega
theorem iN (st a b:Nat):bR (bR st a) b=bR st (a+b):=by unfold bR;omega
theorem IY (p:Addr) (s:Nat) (w:World) (h1:s<=4611686018427387904) (hc:w.cell? p=some (.int .i64 (s:Int))) (hf:w.frozen? p=false) :
  Calls Tryz.prog 182 #[.pointer (some p),.int .i64 1] w fun e w'=>e=.returned (.tuple #[])/\w'=w.setCell p (.int .i64 (bR s 1:Nat)):=by
 by_cases h:s=4611686018427387904
 ·have e:bR s 1=4611686018427387904:=by unfold bR;omega
  rw [e];have h':4611686018427387904-(s:Int)<1:=ω;clear e h
  go_enter Tryz.func182,Tryz.ntmps182
  go_wp2;go_end0;exact ⟨rfl,rfl⟩
 ·have e:((bR s 1:Nat):Int)=(s:Int)+1:=by unfold bR;omega
  rw [e];have h':¬4611686018427387904-(s:Int)<1:=ω;clear e h
  go_enter Tryz.func182,Tryz.ntmps182
  go_wp2;go_end0;exact ⟨rfl,rfl⟩
theorem CM.count {w:World} {c ca nm mb g cap:Nat} {l:List Int} {rt dp:Nat->Nat} {raw:Nat->Cl} {A:NS} {st:Nat} (h:CM w c ca nm mb g cap l rt dp raw A st) (k:Nat):CM (w.setCell ⟨c,0,none⟩ (.int .i64 (bR st k:Nat))) c ca nm mb g cap l rt dp raw A (bR st k):=by
 have hu:aa [c] w (w.setCell ⟨c,0,none⟩ (.int .i64 (bR st k:Nat))):=β;have s:=h.sep;refine ⟨(h.head.set 0 _).ext (fun j hj=>?_),h.row.upd hu ι,h.Xf.upd hu ι ι,h.many.upd hu ι,h.Qa,h.ok,by unfold bR;omega,h.rel,h.hlen,h.has,s⟩;rcases (ω:j=0\/j=1\/j=2\/j=3) with rfl|rfl|rfl|rfl<;>simp
theorem QJ (A:NS) (a b:Nat):(decide (Bo (A.c a).k (A.c a).s (A.c b).k (A.c b).s<0) || (decide (Bo (A.c a).k (A.c a).s (A.c b).k (A.c b).s=0) && decide (a<b)))=decide (bX A a b):=by
 rw [Bool.eq_iff_iff,decide_eq_true_iff];simp only [Bool.or_eq_true,Τ,Ο];unfold Bo wm bX
 by_cases h:(A.c a).k=(A.c b).k
 ·rw [Δ h]
  by_cases h1:(A.c a).s<(A.c b).s
  ·rw [Δ h1];omega
  ·rw [Γ h1];split<;>omega
 ·rw [Γ h]
  by_cases h1:(A.c a).k<(A.c b).k
  ·rw [Δ h1];omega
  ·rw [Γ h1];split<;>omega
theorem dX {w:World} {c st:Nat} {F:List Nat} {A:NS} (h:aC w c F A st) (a b:Nat) (ha:bQ A a=true) (hb:bQ A b=true) :
  Calls Tryz.prog 174 #[.pointer (some ⟨c,0,none⟩),.int .i64 (a:Int),.int .i64 (b:Int)] w fun e w'=>e=.returned (.bool (decide (bX A a b)))/\aC w' c F A (bR st 1)/\aa [c] w w':=by
 have k1:=qE h a;have k2:=qE h b;rw [ha] at k1;rw [hb] at k2;obtain ⟨ha1,ha2⟩:=(ae _ _).1 ha;obtain ⟨hb1,hb2⟩:=(ae _ _).1 hb;have hA:=h.ok.c1;obtain ⟨ca,nm,mb,g,cap,l,rt,dp,raw,h,rfl⟩:=h;have e1:A.c a=⟨rt (raw a).i.toNat,(raw a).k,(raw a).s⟩:=by
  rcases h.rel a ha1 with ⟨h1,h2⟩|h3
  ·rw [h2] at ha2;exact absurd ha2 δ
  ·exact h3.2.2
 have e2:A.c b=⟨rt (raw b).i.toNat,(raw b).k,(raw b).s⟩:=by
  rcases h.rel b hb1 with ⟨h1,h2⟩|h3
  ·rw [h2] at hb2;exact absurd hb2 δ
  ·exact h3.2.2
 have hres:=QJ A a b;rw [e1,e2] at hres;simp only at hres;have c0:=h.c0;have c1:=h.c1;have f0:=h.head.free 0;have d1:=h.row.cellAt (a*3+1) ω (yR raw a);have d2:=h.row.cellAt (a*3+2) ω (yD raw a);have d3:=h.row.cellAt (b*3+1) ω (yR raw b);have d4:=h.row.cellAt (b*3+2) ω (yD raw b);have s:=h.sep;have hst:=h.ou;have kc:=IY ⟨c,0,none⟩ st w hst c0 f0;have kk:=fun W=>xU (raw a).k (raw a).s (raw b).k (raw b).s W;generalize hz:Bo (raw a).k (raw a).s (raw b).k (raw b).s=z at *;generalize (raw a).k=ka at *;generalize (raw a).s=sa at *;generalize (raw b).k=kb at *;generalize (raw b).s=sb at *
 have VQ:=h.row.lt;have hcw:=h.head.lt;have H1:=χ (h.count 1);have HR:=χ hres;generalize hn:bR st 1=st1 at *;have u0:aa [c] w (w.setCell ⟨c,0,none⟩ (.int .i64 (st1:Int))):=β;have r1:∀W,aa [] (w.setCell ⟨c,0,none⟩ (.int .i64 (st1:Int))) W->W.cell? ⟨c,1,none⟩=some (.slice (some ⟨ca,0,none⟩) A.cs.length A.cs.length):=fun W hW=>hW.was H1.out.c1;have r2:∀W,aa [] (w.setCell ⟨c,0,none⟩ (.int .i64 (st1:Int))) W->W.cell? ⟨ca,a*3+1,none⟩=some (.int .i64 ka):=fun W hW=>hW.was ((u0.cell VQ ι).trans d1)
 have r3:∀W,aa [] (w.setCell ⟨c,0,none⟩ (.int .i64 (st1:Int))) W->W.cell? ⟨ca,a*3+2,none⟩=some (.int .u64 sa):=fun W hW=>hW.was ((u0.cell VQ ι).trans d2);have r4:∀W,aa [] (w.setCell ⟨c,0,none⟩ (.int .i64 (st1:Int))) W->W.cell? ⟨ca,b*3+1,none⟩=some (.int .i64 kb):=fun W hW=>hW.was ((u0.cell VQ ι).trans d3);have r5:∀W,aa [] (w.setCell ⟨c,0,none⟩ (.int .i64 (st1:Int))) W->W.cell? ⟨ca,b*3+2,none⟩=some (.int .u64 sb):=fun W hW=>hW.was ((u0.cell VQ ι).trans d4);clear h ha hb ha2 hb2 e1 e2 hres d1 d2 d3 d4 hz hn u0
 by_cases hz1:z<0
 ·have hd:decide (bX A a b)=true:=by rw [←HR.out,Ν hz1];rfl
  rw [hd];clear hd
  go_enter Tryz.func174,Tryz.ntmps174
  go_wp2_with (first|(go_at_call 149;(with_reducible refine (k1).mono ?_);rintro e w9 ⟨rfl,aI⟩;rw [aI];clear aI w9)|(go_at_call 149;(with_reducible refine (k2).mono ?_);rintro e w9 ⟨rfl,aI⟩;rw [aI];clear aI w9)|(go_at_call 182;(with_reducible refine (kc).mono ?_);rintro e w9 ⟨rfl,aI⟩;rw [aI];clear aI w9))
  go_region_held3 (aa [] (w.setCell ⟨c,0,none⟩ (.int .i64 (st1:Int)))) (exact η)
   ((go_at_call 164;(with_reducible refine (kk _).mono ?_);rintro e w1 ⟨rfl,hu1⟩;(have hu2:aa [] (w.setCell ⟨c,0,none⟩ (.int .i64 (st1:Int))) w1:=η)))
  go_wp2;go_ret;exact ⟨rfl,⟨ca,nm,mb,g,cap,l,rt,dp,raw,H1.out.upd hu2 σ,rfl⟩,((aa.refl [c] w).setCell (Α σ) _).then hu2⟩
 ·by_cases hz2:z=0
  ·have hd:decide (bX A a b)=decide ((a:Int)<(b:Int)):=by rw [←HR.out,Ξ hz1,Ν hz2];simp
   rw [hd];subst hz2;clear hd
   go_enter Tryz.func174,Tryz.ntmps174
   go_wp2_with (first|(go_at_call 149;(with_reducible refine (k1).mono ?_);rintro e w9 ⟨rfl,aI⟩;rw [aI];clear aI w9)|(go_at_call 149;(with_reducible refine (k2).mono ?_);rintro e w9 ⟨rfl,aI⟩;rw [aI];clear aI w9)|(go_at_call 182;(with_reducible refine (kc).mono ?_);rintro e w9 ⟨rfl,aI⟩;rw [aI];clear aI w9))
   go_region_held3 (aa [] (w.setCell ⟨c,0,none⟩ (.int .i64 (st1:Int)))) (exact η)
    ((go_at_call 164;(with_reducible refine (kk _).mono ?_);rintro e w1 ⟨rfl,hu1⟩;(have hu2:aa [] (w.setCell ⟨c,0,none⟩ (.int .i64 (st1:Int))) w1:=η)))
   go_wp2;go_ret;exact ⟨aU σ,⟨ca,nm,mb,g,cap,l,rt,dp,raw,H1.out.upd hu2 σ,rfl⟩,((aa.refl [c] w).setCell (Α σ) _).then hu2⟩
  ·have hz3:(z == 0)=false:=by simpa using hz2
   have hd:decide (bX A a b)=false:=by rw [←HR.out,Ξ hz1,Ξ hz2];rfl
   rw [hd];clear hd hz2
   go_enter Tryz.func174,Tryz.ntmps174
   go_wp2_with (first|(go_at_call 149;(with_reducible refine (k1).mono ?_);rintro e w9 ⟨rfl,aI⟩;rw [aI];clear aI w9)|(go_at_call 149;(with_reducible refine (k2).mono ?_);rintro e w9 ⟨rfl,aI⟩;rw [aI];clear aI w9)|(go_at_call 182;(with_reducible refine (kc).mono ?_);rintro e w9 ⟨rfl,aI⟩;rw [aI];clear aI w9))
   go_region_held3 (aa [] (w.setCell ⟨c,0,none⟩ (.int .i64 (st1:Int)))) (exact η)
    ((go_at_call 164;(with_reducible refine (kk _).mono ?_);rintro e w1 ⟨rfl,hu1⟩;(have hu2:aa [] (w.setCell ⟨c,0,none⟩ (.int .i64 (st1:Int))) w1:=η)))
   go_wp2;go_ret;exact ⟨aU ζ,⟨ca,nm,mb,g,cap,l,rt,dp,raw,H1.out.upd hu2 σ,rfl⟩,((aa.refl [c] w).setCell (Α σ) _).then hu2⟩
theorem qR.make {l:List Int} {rt dp:Nat->Nat} (h:qR l rt dp) (hl:l.length<=65536):qR (l++[(l.length:Int)]) (fun i=>if i=l.length then i else rt i) dp:=by
 have h1:=h.len;have g1:∀i,i<l.length->(l++[(l.length:Int)]).getD i 0=l.getD i 0:=fun i hi=>by simp [φ,Ρ hi]
 have g2:(l++[(l.length:Int)]).getD l.length 0=l.length:=by simp [φ]
 refine ⟨σ,ζ,fun i a b=>?_,fun i a b=>?_,fun i a b=>?_,fun i a b=>?_⟩
 all_goals
  simp only [υ,Ω,List.length_nil] at b ⊢;rcases (ω:i<l.length\/i=l.length) with hi|hi
 ·rw [g1 i hi];have:=h.vD i a hi;omega
 ·rw [hi,g2];omega
 ·have:=h.vD i a hi;rw [g1 i hi,Γ (show ¬ (l.getD i 0).toNat=l.length by omega),Γ ω];exact h.up i a hi
 ·rw [hi,g2];simp
 ·rw [g1 i hi,Γ (show ¬i=l.length by omega)];exact h.top i a hi
 ·intro _;rw [Δ hi]
 ·rw [g1 i hi];exact h.low i a hi
 ·rw [hi,g2];intro hn;exact absurd rfl hn
theorem iF {w:World} {c st:Nat} {F:List Nat} {A:NS} (h:aC w c F A st) :
  Calls Tryz.prog 156 #[.pointer (some ⟨c,0,none⟩)] w fun e w'=>e=.returned (.int .i64 (cu A))/\Goes F w w' (fun F'=>aC w' c F' (aN A) st):=by
 have hC:=h;obtain ⟨ca,nm,mb,g,cap,l,rt,dp,raw,h,rfl⟩:=h;have c2:=h.c2;have hlen:=h.hlen;have hl1:=h.Qa.len;have hl2:=h.Qa.PQ;have hs:=h.sep;unfold cu aN
 by_cases hfull:l.length=65537
 ·have k:=P7 nm g cap l w h.Xf hfull;rw [Δ ω,Δ ω];have HC:=χ hC;clear h hC hlen hfull
  go_enter Tryz.func156,Tryz.ntmps156
  go_wp2_with (go_at_call 163;(with_reducible refine (k).mono ?_);rintro e w1 ⟨rfl,hu⟩)
  go_ret;exact ⟨rfl,Goes.stay (HC.out.aj hu) (hu.mono σ)⟩
 ·have k:=Mw nm g cap l w h.Xf hl1 ω;rw [Γ ω,Γ ω,hlen];have H:=χ h;have HL:=χ hlen;clear h hC hlen
  go_enter Tryz.func156,Tryz.ntmps156
  go_wp2_with (go_at_call 163;(with_reducible refine (k).mono ?_);rintro e w1 ⟨g',cap',rfl,hN,hu,hg⟩)
  go_ret;have h:=H.out;have hc:=h.head.lt;have hca:=h.row.lt;have hmb:=h.many.lt;have hsep:c≠g'/\ca≠g'/\mb≠g':=by rcases hg with rfl|hg;exact ⟨ω,ω,ω⟩;exact ⟨ω,ω,ω⟩
  have hok:(NS.mk (A.hs++[true]) A.cs).Ok:=by
   have:=Hu h.ok;unfold aN at this;rwa [Γ (by have:=HL.out;omega)] at this
  refine ⟨rfl,[c,ca,nm,mb,g'],⟨ca,nm,mb,g',cap',l++[(l.length:Int)],fun i=>if i=l.length then i else rt i,dp,raw,?_,rfl⟩,hu.mono ι,fun x hx=>by simp at hx ⊢;omega⟩;refine ⟨h.head.upd hu ι,h.row.upd hu ι,hN,h.many.upd hu ι,h.Qa.make ω,hok,h.ou,fun x hx=>?_,by simp [HL.out],fun i h1 h2=>?_,ω⟩
  ·rcases h.rel x hx with h'|⟨h3,h4,h5⟩
   ·exact Α h'
   ·refine Β ⟨h3,ζ,?_⟩;rw [Γ ω];exact h5
  ·simp only [υ,Ω,List.length_nil] at h2;have hLo:=HL.out;rcases (ω:i<l.length\/i=l.length) with hi|hi
   ·have:=h.has i h1 hi;simp only [φ] at this ⊢;rw [Ρ ω,Ρ hi];exact this
   ·subst hi;simp only [φ];rw [←hLo,ϊ (Θ _),ϊ ω];simp [hLo]
theorem Jw (n j:Nat) (hj:j<n*3):(madeCells #[Value.int .i64 0,.int .i64 0,.int .u64 0] (n*3)).toList.getD j undef=if j % 3=0 then .int .i64 0 else if j % 3=1 then .int .i64 0 else .int .u64 0:=by
 rw [φ,ε (by simp [size_madeCells];omega)];simp only [Option.getD_some,madeCells,Array.getElem_toList,Array.getElem_map,Array.getElem_range];rcases (ω:j % 3=0\/j % 3=1\/j % 3=2) with e|e|e<;>simp [e]
theorem PH:(Tryz.prog.info? 281).map (fun i=>(i.zero,i.size,i.bytes))=some (some (.agg #[.int .i64 0,.int .i64 0,.int .u64 0]),3,24):=by kernel_rfl
theorem nO (n:Nat) (w:World) (h:n<=65536) :
  Calls Tryz.prog 107 #[.int .i64 (n:Int)] w fun e w'=>∃c F,e=.returned (.tuple #[.pointer (some ⟨c,0,none⟩),.int .i64 0])/\aC w' c F (NS.new n) 0/\aa [] w w'/\∀x,x∈F->w.heap.size<=x:=by
 have hmm:=@run_makeMap Tryz.prog
 go_enter Tryz.func107,Tryz.ntmps107
 go_wp2_with (first
  | ((go_at_call 114;(with_reducible refine (TL _).mono ?_));rintro e w1 ⟨nm,g,rfl,hN,hu1,hb1,hb2⟩)
  | (at_make;refine wpList_make_row rfl _ 241 rfl 281 (.agg #[.int .i64 0,.int .i64 0,.int .u64 0]) 3 24 Tryz.underlying241 PH n rfl ω μ ?_;intro w2 hr2 hu2))
 go_ret2;have hu3:aa [] w2 ((w2.alloc (.map #[] 0)).alloc (.cells #[.int .i64 0,.slice (some ⟨w1.heap.size,0,none⟩) n n,.pointer (some ⟨nm,0,none⟩),.map (some w2.heap.size)] 245)):=β;have hh:=dJ (w2.alloc (.map #[] 0)) [.int .i64 0,.slice (some ⟨w1.heap.size,0,none⟩) n n,.pointer (some ⟨nm,0,none⟩),.map (some w2.heap.size)] 245;rw [Κ] at hh;have l1:=hN.lt;have l2:=hu2.size;have l3:=hr2.lt;have l4:=hu1.size;have hcs:(NS.new n).cs.length=n:=by simp [NS.new]
 refine ⟨w2.heap.size+1,[w2.heap.size+1,w1.heap.size,nm,w2.heap.size,g],rfl,⟨w1.heap.size,nm,w2.heap.size,g,1,[0],fun i=>i,fun _=>0,fun _=>Cl.z,?_,rfl⟩,(hu1.trans hu2).trans hu3,fun x hx=>by simp at hx;omega⟩;refine ⟨?_,?_,(hN.upd hu2 σ σ).upd hu3 σ σ,((fT.made w2).upd ((aa.refl [] _).alloc _) σ).ext (fun k=>?_),?_,NS.zB n h,ω,fun x _=>Α ⟨rfl,NS.xY n x⟩,rfl,fun i h1 h2=>by simp at h2;omega,ω⟩
 ·rw [hcs];exact hh
 ·rw [hcs];refine (hr2.upd hu3 σ).ext (fun j hj=>?_);have hz:(Value.agg #[.int .i64 0,.int .i64 0,.int .u64 0]).cells=#[.int .i64 0,.int .i64 0,.int .u64 0]:=rfl;rw [hz];unfold jT Cl.z;have:=Jw n j hj;rw [this]
 ·unfold jw;have:dI (NS.new n) k=0:=by
   rcases Nat.eq_zero_or_pos (dI (NS.new n) k) with h'|h'
   ·exact h'
   ·obtain ⟨x,_,h1,h2⟩:=eH.1 h';rw [NS.xY] at h1;have:(0:Int)=k:=h1;omega
  rw [this];rfl
 ·exact ⟨σ,σ,fun i h1 h2=>by simp at h2;omega,fun i h1 h2=>by simp at h2;omega,fun i h1 h2=>by simp at h2;omega,fun i h1 h2=>by simp at h2;omega⟩
theorem kQ {A:NS} {h:Int} {m:Nat} (hm:dF A h=some m):0<h/\m<A.cs.length/\(A.c m).i=h/\bQ A m=true:=by
 by_cases hh:0<h
 ·have h1:=(iB hh).1 hm;exact ⟨hh,h1.1,h1.2.1,(ae _ _).2 ⟨h1.1,by rw [h1.2.1];exact hh⟩⟩
 ·rw [o9 hh] at hm;cases hm
theorem ic {A:NS} {h:Int}:dF A h=none↔dI A h=0:=by
 by_cases hh:0<h
 ·exact jB hh
 ·rw [o9 hh,Rs hh];simp
def lenOf:Value->Nat | .slice _ l _=>l|_=>0
def bC (l:List Nat):List Int:=l.map (fun (x:Nat)=>(x:Int))
def Enters (f:FuncId):Prop:=∀ (args:Array Value) (W:World),(callFunc f args).run Tryz.prog W=.ok (.enter f args) W
def uo (A:NS) (h:Int):NS:=match dF A h with|some m=>aZ A m|none=>A
def N9 (ty:TypeId) (p:Nat) (name:String) (w:World) (mk:Value->Array Value) (Q:World->Ending->World->Prop):Prop:=
 ∃f v,Enters f/\∀W,aa [] w W->(method 429 ty (.pointer (some ⟨p,0,none⟩)) name).run Tryz.prog W=.ok (f,v) W/\Calls Tryz.prog f (mk v) W (Q W)
theorem N9.now {ty:TypeId} {p:Nat} {name:String} {w:World} {mk:Value->Array Value} {Q:World->Ending->World->Prop} (h:N9 ty p name w mk Q) :
  ∃f v,Enters f/\(method 429 ty (.pointer (some ⟨p,0,none⟩)) name).run Tryz.prog w=.ok (f,v) w/\Calls Tryz.prog f (mk v) w (Q w):=by
 obtain ⟨f,v,he,h⟩:=h;exact ⟨f,v,he,h w (aa.refl _ _)⟩
theorem qj {A:NS} {x:Int} (hB:bQ A x=true):∃y:Nat,x=y:=⟨x.toNat,by have:=(yL _ _).1 hB;omega⟩
theorem qw {A:NS} {x k s:Int} (hB:iT A x k s=true):bQ A x=true:=by
 unfold iT at hB;simp only [Τ] at hB;exact hB.1
theorem aS {ty:TypeId} {p:Nat} {name:String} {w:World} {mk:Value->Array Value} {Q:World->Ending->World->Prop} (f:FuncId) (he:Enters f) (hm:∀W,(method 429 ty (.pointer (some ⟨p,0,none⟩)) name).run Tryz.prog W=.ok (f,.pointer (some ⟨p,0,none⟩)) W)
  (hc:∀W,aa [] w W->Calls Tryz.prog f (mk (.pointer (some ⟨p,0,none⟩))) W (Q W)):N9 ty p name w mk Q:=⟨f,_,he,fun W hW=>⟨hm W,hc W hW⟩⟩
theorem iA {ty:TypeId} {p c:Nat} {name:String} {w:World} {mk:Value->Array Value} {Q:World->Ending->World->Prop} (f:FuncId) (he:Enters f) (h0:w.cell? ⟨p,0,none⟩=some (.pointer (some ⟨c,0,none⟩)))
  (hm:∀W,W.cell? ⟨p,0,none⟩=some (.pointer (some ⟨c,0,none⟩))->(method 429 ty (.pointer (some ⟨p,0,none⟩)) name).run Tryz.prog W=.ok (f,.pointer (some ⟨c,0,none⟩)) W)
  (hc:∀W,aa [] w W->Calls Tryz.prog f (mk (.pointer (some ⟨c,0,none⟩))) W (Q W)):N9 ty p name w mk Q:=⟨f,_,he,fun W hW=>⟨hm W (hW.was h0),hc W hW⟩⟩
structure gD where
 ty:TypeId
 at_:World->Nat->List Nat->NS->Prop
 upd:∀ {w w':World} {p:Nat} {F S:List Nat} {A:NS},at_ w p F A->aa S w w'->(∀x,x∈S->x∉F)->at_ w' p F A
 lt:∀ {w:World} {p:Nat} {F:List Nat} {A:NS},at_ w p F A->∀x,x∈F->x<w.heap.size
 ok:∀ {w:World} {p:Nat} {F:List Nat} {A:NS},at_ w p F A->A.Ok
 make:∀ {w:World} {p:Nat} {F:List Nat} {A:NS},at_ w p F A->N9 ty p "Make" w (fun v=>#[v]) fun w e w'=>e=.returned (.int .i64 (cu A))/\Goes F w w' (fun F'=>at_ w' p F' (aN A))
 insert:∀ {w:World} {p:Nat} {F:List Nat} {A:NS} (h x:Nat) (k s:Int),(-9223372036854775808<=k/\k<=9223372036854775807/\0<=s/\s<=18446744073709551615)->nR A h x=true->at_ w p F A->N9 ty p "Insert" w (fun v=>#[v,.int .i64 (h:Int),.int .i64 (x:Int),.agg #[.int .i64 k,.int .u64 s]]) fun w e w'=>e=.returned (.bool true)/\Goes F w w' (fun F'=>at_ w' p F' (aJ A h x k s))
 min:∀ {w:World} {p:Nat} {F:List Nat} {A:NS} (h:Nat),bD A h=true->at_ w p F A->N9 ty p "Min" w (fun v=>#[v,.int .i64 (h:Int)]) fun w e w'=>e=.returned (.tuple #[.int .i64 (pQ (dF A h)),.bool (dF A h).isSome])/\Goes F w w' (fun F'=>at_ w' p F' A)
 extract:∀ {w:World} {p:Nat} {F:List Nat} {A:NS} (h m:Nat),dF A h=some m->at_ w p F A->N9 ty p "Extract" w (fun v=>#[v,.int .i64 (h:Int)]) fun w e w'=>e=.returned (.tuple #[.int .i64 (m:Int),.bool true])/\Goes F w w' (fun F'=>at_ w' p F' (aZ A m))
 lS:∀ {w:World} {p:Nat} {F:List Nat} {A:NS} (x:Nat) (k s:Int),(-9223372036854775808<=k/\k<=9223372036854775807/\0<=s/\s<=18446744073709551615)->iT A x k s=true->at_ w p F A->N9 ty p "Decrease" w (fun v=>#[v,.int .i64 (x:Int),.agg #[.int .i64 k,.int .u64 s]]) fun w e w'=>e=.returned (.bool true)/\Goes F w w' (fun F'=>at_ w' p F' (ak A x k s))
 has:∀ {w:World} {p:Nat} {F:List Nat} {A:NS} (x:Int),at_ w p F A->N9 ty p "Has" w (fun v=>#[v,.int .i64 x]) fun w e w'=>e=.returned (.bool (bD A x))/\w'=w
 entry:∀ {w:World} {p:Nat} {F:List Nat} {A:NS} (x:Int),at_ w p F A->N9 ty p "Entry" w (fun v=>#[v,.int .i64 x]) fun w e w'=>e=.returned (.tuple #[.agg #[.int .i64 (if bQ A x then (A.c x.toNat).k else 0),.int .u64 (if bQ A x then (A.c x.toNat).s else 0)],.bool (bQ A x)])/\aa [] w w'
end Go.Proofs.YtklibcncmbofpaaGreat
namespace Go.Proofs.YtklibcncmbofpaaGreat
open Go Go.RowKit Go.Maps
theorem abp:laidOutB Tryz.prog=true:=by kernel_rfl
theorem Eu:Keyed Tryz.prog 85:=Keyed.of_law (Go.deep_law_laid abp (m:=3) ω (ϟ (by kernel_rfl)) (by kernel_rfl) (by rw [Tryz.underlying85]))
def hV (x g:Int):Value:=.agg #[.int .i64 x,.int .u32 g]
theorem hKey {x g:Int} (hx:-9223372036854775808<=x/\x<=9223372036854775807) (hg:0<=g/\g<=4294967295):∃l,keyOf Tryz.prog 85 (hV x g)=some l:=by
 have h1:Tryz.prog.keyType 85=true:=by kernel_rfl
 have h2:(hV x g).formed Tryz.prog 85=true:=by
  unfold hV Value.formed;simp only [Tryz.underlying85];rw [show Tryz.prog.cellsOf 85=2 by kernel_rfl]
  rfl
 have c0:Tryz.prog.cellsOf 3=1:=by kernel_rfl
 have c1:Tryz.prog.cellsOf 83=1:=by kernel_rfl
 have c2:Tryz.prog.cellsOf 85=2:=by kernel_rfl
 have w0:(Lit.int .i64 x).wf=true:=WalkArith.wf_i64 hx;have w1:(Lit.int .u32 g).wf=true:=by simp [Lit.wf,IntKind.min,IntKind.max,IntKind.signed,IntKind.bits];omega
 have key:∀n,Tryz.prog.keyLits (n+1+1) 85 [.int .i64 x,.int .u32 g]=some [.int .i64 x,.int .u32 g]:=fun n=>by
  simp [Program.keyLits,Tryz.underlying85,Tryz.underlying3,Tryz.underlying83,c0,c1,c2,w0,w1]
 have hpos:0<Tryz.prog.types.size:=ϟ (by kernel_rfl);obtain ⟨n,hn⟩:∃n,Tryz.prog.types.size+1=n+1+1:=⟨Tryz.prog.types.size-1,ω⟩;refine ⟨.string (keyBytes [.int .i64 x,.int .u32 g]),?_⟩;unfold keyOf;rw [Tryz.underlying85];simp only [];rw [Δ (by rw [h1,h2];rfl),hn,show (hV x g).cells.toList=[.int .i64 x,.int .u32 g] from rfl,key]
 rfl
theorem YX {x g x' g':Int} (h:hV x g=hV x' g'):x=x'/\g=g':=by
 unfold hV at h;simp only [Value.agg.injEq] at h;have h2:=congrArg Array.toList h;simp at h2;exact h2
def nT (w:World) (b c:Nat) (f:Int->Int->Option Int):Prop:=
 ∃D:DataW Unit,w.ownsMap Tryz.prog 85 (plainElem Tryz.prog 3) b c D/\∀x g z kl,f x g=some z->keyOf Tryz.prog 85 (hV x g)=some kl->∀d,D.atKey kl d=.lit (.int .i64 z)
theorem nT.upd {w w':World} {S:List Nat} {b c:Nat} {f:Int->Int->Option Int} (h:nT w b c f) (hu:aa S w w') (hn:b∉S):nT w' b c f:=by
 obtain ⟨D,h1,h3⟩:=h;have hl:=h1.lt;obtain ⟨es,clock,h1,h2⟩:=h1;exact ⟨D,⟨es,clock,(hu.block b hl hn).trans h1,h2⟩,h3⟩
theorem nT.lt {w:World} {b c:Nat} {f:Int->Int->Option Int} (h:nT w b c f):b<w.heap.size:=by
 obtain ⟨D,h1,_⟩:=h;exact h1.lt
theorem nT.made (w:World):nT (w.alloc (.map #[] 0)) w.heap.size 0 (fun _ _=>none):=
 ⟨.map [],World.ownsMap_made w _ _ _,fun x g z kl hz=>by cases hz⟩
theorem nT.look {w:World} {b c:Nat} {f:Int->Int->Option Int} (h:nT w b c f) {x g z:Int} (hz:f x g=some z) (hx:-9223372036854775808<=x/\x<=9223372036854775807) (hg:0<=g/\g<=4294967295) :
  (Instr.lookup 82 (.map (some b)) (hV x g) false).run Tryz.prog w=.ok (.int .i64 z) w:=by
 obtain ⟨D,h1,h3⟩:=h;obtain ⟨kl,hk⟩:=hKey hx hg;obtain ⟨c',hrun,hat,_⟩:=h1.lookup_int Eu Tryz.underlying82 Tryz.underlying3 (Dk w) hk;rw [hrun];rw [h3 x g z kl hz hk] at hat;have:z=c':=by simpa using hat
 rw [this]
theorem nT.store {w:World} {b c:Nat} {f:Int->Int->Option Int} (h:nT w b c f) (hc:c<9223372036854775807) (x g z:Int) (hx:-9223372036854775808<=x/\x<=9223372036854775807) (hg:0<=g/\g<=4294967295) (hz:-9223372036854775808<=z/\z<=9223372036854775807) :
  ∃w',(Instr.mapUpdate 82 (.map (some b)) (hV x g) (.int .i64 z)).run Tryz.prog w=.ok () w'/\nT w' b (c+1) (fun y e=>if y=x/\e=g then some z else f y e)/\aa [b] w w':=by
 obtain ⟨D,h1,h3⟩:=h;obtain ⟨kl,hk⟩:=hKey hx hg;obtain ⟨w',hrun,ho,ht⟩:=h1.store Eu Tryz.underlying82 μ hk (plainElem_int Tryz.underlying3 (a:=z) (WalkArith.wf_i64 hz));have hD:=h1.isMap;refine ⟨w',hrun,⟨_,ho,fun y e u Mf hf hk2 d=>?_⟩,oF ht⟩
 replace hf:(if y=x/\e=g then some z else f y e)=some u:=hf
 by_cases e1:y=x/\e=g
 ·rw [Δ e1] at hf;obtain ⟨rfl,rfl⟩:=e1;rw [hk] at hk2;cases hk2;cases hf;exact atKey_put_same hD (Eu.key hk) _ _
 ·rw [Γ e1] at hf;have hne:Mf≠kl:=fun e2=>e1 (YX (Eu.inj (by rw [hk2,e2]) hk));rw [atKey_put_other hne];exact h3 y e u Mf hf hk2 d
end Go.Proofs.YtklibcncmbofpaaGreat
namespace Go.Proofs.YtklibcncmbofpaaGreat
theorem GK {a b:List Int} (h:a.length≠b.length):a≠b:=fun e=>h (by rw [e])
theorem VA {a b:List Int} (hl:a.length=b.length) (h:∀k,k<a.length->a.getD k 0=b.getD k 0):a=b:=by
 apply List.ext_getElem hl;intro i h1 h2;have:=h i h1;simpa [φ,h1,h2] using this
end Go.Proofs.YtklibcncmbofpaaGreat
namespace Go.Proofs.YtklibcncmbofpaaGreat
open Go Go.RowKit
theorem VD (w:World) (F1 F2:List Nat) (va vb:Value) (za zb:List Int) (ha:iC w F1 va za) (hb:iC w F2 vb zb) :
  Calls Tryz.prog 20 #[va,vb] w fun e w'=>e=.returned (.bool (decide (za=zb)))/\∃k,w'=w.drewN k:=by
 obtain ⟨a,ca,rfl,hla,hca,hpa⟩:=ha;obtain ⟨b,cb,rfl,hlb,hcb,hpb⟩:=hb;have HA:=χ hpa;have HB:=χ hpb;clear hpa hpb
 by_cases hl:za.length=zb.length
 ·have hl':((za.length:Int) != (zb.length:Int))=false:=by rw [hl];simp
  generalize hlen:za.length=len at *;have HLEN:=χ (ψ hlen hl);have hll:zb.length=len:=hl.symm;rw [hll] at *;clear hl hll hlen hl'
  go_enter Tryz.func20,Tryz.ntmps20
  go_wp2
  go_loopw [13] (fun i wr=>∃k:Nat,k<=len/\i=.int .i64 (k:Int)/\(∀j,j<k->za.getD j 0=zb.getD j 0)/\∃d,wr=w.drewN d) (fun i _=>len-(intOf i).toNat)
  case atStart=>exact ⟨0,ω,rfl,fun j hj=>ω,0,rfl⟩
  case round=>
   obtain ⟨k,hk,rfl,he,d,rfl⟩:=hrel;have HE:=χ he;clear he
   by_cases hlt:k<len
   ·obtain ⟨ga,oa,rfl,_,_,c1⟩:=HA.out k (za.getD k 0) (by simp [φ,HLEN.out.1,hlt]);obtain ⟨gb,ob,rfl,_,_,c2⟩:=HB.out k (zb.getD k 0) (by simp [φ,←HLEN.out.2,hlt]);have HP:Hid (∀j,j<k+1->za.getD k 0=zb.getD k 0->za.getD j 0=zb.getD j 0):=fun j hj e=>by
     rcases (ω:j<k\/j=k) with h|h
     ·exact HE.out j h
     ·rw [h];exact e
    have HN:Hid (za.getD k 0≠zb.getD k 0->¬za=zb):=fun e1 e2=>e1 (by rw [e2]);generalize za.getD k 0=x1 at *;generalize zb.getD k 0=x2 at *
    by_cases wu:x1=x2
    ·have b1:(x1 != x2)=false:=by simpa using wu
     have HXX:=χ wu;clear wu;go_wp2
     go_quiet (fail)
     go_wp2
     go_roundw
     case rel=>exact ⟨k+1,ω,by go_num,fun j hj=>HP.out j hj HXX.out,_,rfl⟩
     case measure=>simp [intOf];omega
    ·have b1:(x1 != x2)=true:=by simpa using wu
     have HXX:=χ (HN.out wu);clear wu;go_wp2
     go_quiet (fail)
     go_wp2;go_ret;exact ⟨aU (by simp [HXX.out]),_,by rw [World.drewN_drewN]⟩
   ·obtain rfl:k=len:=ω;have HE2:=χ (VA (by rw [HLEN.out.1,HLEN.out.2]) (fun j hj=>HE.out j (by rw [←HLEN.out.1];exact hj)));go_wp2;go_ret;exact ⟨aU (by simp [HE2.out]),_,rfl⟩
 ·have hl':((za.length:Int) != (zb.length:Int))=true:=ζ;have hne:=χ (GK hl);clear hl
  go_enter Tryz.func20,Tryz.ntmps20
  go_wp2;go_ret;exact ⟨aU (by simp [hne.out]),0,rfl⟩
theorem Tk (w:World) (F1 F2:List Nat) (va vb:Value) (z:List Int) (ha:iC w F1 va z) (hb:iC w F2 vb z) :
  Calls Tryz.prog 20 #[va,vb] w fun e w'=>e=.returned (.bool true)/\∃k,w'=w.drewN k:=
 (VD w F1 F2 va vb z z ha hb).mono fun e w' ⟨he,h⟩=>⟨by rw [he,Ν rfl],h⟩
structure RwK where
 at_:World->Nat->List Nat->List Nat->Prop
 upd:∀ {w w':World} {p:Nat} {G S L:List Nat},at_ w p G L->aa S w w'->(∀z,z∈S->z∉G)->at_ w' p G L
 lt:∀ {w:World} {p:Nat} {G L:List Nat},at_ w p G L->∀z,z∈G->z<w.heap.size
def Bi (o:Option Nat):Value:=.pointer (o.map fun b=>⟨b,0,none⟩)
def zJ (f:Nat->Option Nat) (m:Nat):List Value:=(List.range m).map fun h=>Bi (f h)
theorem MB {f:Nat->Option Nat} {m j:Nat} (h:j<m):(zJ f m)[j]?=some (Bi (f j)):=by unfold zJ;simp [h]
theorem Kz (f:Nat->Option Nat) (m:Nat) (o:Option Nat):zJ f m++[Bi o]=zJ (fun h=>if h=m then o else f h) (m+1):=by
 unfold zJ;rw [List.range_succ,List.map_append]
 congr 1
 ·apply List.map_congr_left;intro a ha;have:=List.mem_range.1 ha
  show Bi (f a)=Bi (if a=m then o else f a)
  rw [Γ ω]
 ·simp
def jG {α:Type} (f:Nat->α) (h:Nat) (x:α):Nat->α:=fun k=>if k=h then x else f k
theorem dG {α:Type} (f:Nat->α) (h:Nat) (x:α):jG f h x h=x:=by unfold jG;rw [Δ rfl]
theorem bM {α:Type} (f:Nat->α) {h k:Nat} (x:α) (e:k≠h):jG f h x k=f k:=by unfold jG;rw [Γ e]
structure uQ (K:RwK) (ety:TypeId) (w:World) (gr cr m:Nat) (has:Nat->Bool) (Z:List Nat) (ptr:Nat->Option Nat) (G L:Nat->List Nat):Prop where
 rows:w.ownsRow 0 ety 1 (.slice (some ⟨gr,0,none⟩) m cr) m (zJ ptr m)
 row:∀h,has h=true->∃rp,ptr h=some rp/\K.at_ w rp (G h) (L h)
 yu:∀h,has h=true->∀z,z∈G h->z∈Z
 V4:∀h k,has h=true->has k=true->h≠k->∀z,z∈G h->z∉G k
 J5:∀z,z∈Z->z<w.heap.size
 Ub:gr∉Z
section
variable {K:RwK} {ety:TypeId} {w w':World} {gr cr m:Nat} {has:Nat->Bool} {Z:List Nat} {ptr:Nat->Option Nat} {G L:Nat->List Nat}
theorem uQ.lt (h:uQ K ety w gr cr m has Z ptr G L):gr<w.heap.size:=(h.rows.lt gr rfl).2
theorem uQ.upd {S:List Nat} (h:uQ K ety w gr cr m has Z ptr G L) (hu:aa S w w') (hS:∀z,z∈S->z≠gr/\z∉Z):uQ K ety w' gr cr m has Z ptr G L:=
 ⟨ay h.rows hu (fun k hk hm=>by cases hk;exact (hS _ hm).1 rfl),fun g hg=>by
  obtain ⟨rp,e,hr⟩:=h.row g hg
  exact ⟨rp,e,K.upd hr hu (fun z hz hm=>(hS z hz).2 (h.yu g hg z hm))⟩,h.yu,h.V4,fun z hz=>Ψ (h.J5 z hz) hu.size,h.Ub⟩
theorem uQ.cell (h:uQ K ety w gr cr m has Z ptr G L) {g rp:Nat} (hg:g<m) (hp:ptr g=some rp):w.cell? ⟨gr,g,none⟩=some (.pointer (some ⟨rp,0,none⟩)):=by
 rw [h.rows.cellAt g ω,MB hg,hp];rfl
theorem uQ.one {S G' L':List Nat} {g rp:Nat} (h:uQ K ety w gr cr m has Z ptr G L) (hg:has g=true) (hp:ptr g=some rp) (hu:aa S w w') (hS:∀z,z∈S->z∈G g\/(z≠gr/\z∉Z)) (hr:K.at_ w' rp G' L') (hG:∀z,z∈G'->z∈G g\/w.heap.size<=z) :
  uQ K ety w' gr cr m has (Z++G') ptr (jG G g G') (jG L g L'):=by
 have hgl:=h.lt;have hgr:∀z,z∈S->z≠gr:=fun z hz e=>by
  rcases hS z hz with h1|h1
  ·exact h.Ub (by rw [←e];exact h.yu g hg z h1)
  ·exact h1.1 e
 have hoth:∀k,has k=true->k≠g->∀z,z∈S->z∉G k:=fun k hk hne z hz hm=>by
  rcases hS z hz with h1|h1
  ·exact h.V4 g k hg hk (fun e=>hne e.symm) z h1 hm
  ·exact h1.2 (h.yu k hk z hm)
 refine ⟨ay h.rows hu (fun k hk hm=>by cases hk;exact hgr _ hm rfl),fun k hk=>?_,fun k hk z hz=>?_,fun k j hk hj hne z hz=>?_,fun z hz=>?_,fun hm=>?_⟩
 ·by_cases e:k=g
  ·subst e;rw [dG,dG];exact ⟨rp,hp,hr⟩
  ·rw [bM _ _ e,bM _ _ e];obtain ⟨q,e2,hq⟩:=h.row k hk;exact ⟨q,e2,K.upd hq hu (hoth k hk e)⟩
 ·by_cases e:k=g
  ·subst e;rw [dG] at hz;exact τ.2 (Β hz)
  ·rw [bM _ _ e] at hz;exact τ.2 (Α (h.yu k hk z hz))
 ·by_cases e:k=g
  ·subst e;rw [dG] at hz;rw [bM _ _ (fun e=>hne e.symm)];rcases hG z hz with h1|h1
   ·exact h.V4 k j hk hj hne z h1
   ·exact fun hm=>by have:=h.J5 z (h.yu j hj z hm);omega
  ·rw [bM _ _ e] at hz
   by_cases e2:j=g
   ·subst e2;rw [dG];intro hm;rcases hG z hm with h1|h1
    ·exact h.V4 k j hk hj hne z hz h1
    ·have:=h.J5 z (h.yu k hk z hz);omega
   ·rw [bM _ _ e2];exact h.V4 k j hk hj hne z hz
 ·rcases τ.1 hz with h1|h1
  ·exact Ψ (h.J5 z h1) hu.size
  ·exact K.lt hr z h1
 ·rcases τ.1 hm with h1|h1
  ·exact h.Ub h1
  ·rcases hG gr h1 with h2|h2
   ·exact h.Ub (h.yu g hg gr h2)
   ·omega
theorem uQ.snoc {S G' L':List Nat} {rp ZY cr':Nat} (h:uQ K ety w gr cr m has Z ptr G L) (hm:has m=false) (hu:aa S w w') (hS:∀z,z∈S->z∉Z) (hr:K.at_ w' rp G' L') (hG:∀z,z∈G'->w.heap.size<=z) (hg1:ZY∉Z) (hg2:ZY∉G')
  (hrow:w'.ownsRow 0 ety 1 (.slice (some ⟨ZY,0,none⟩) (m+1) cr') (m+1) (zJ ptr m++[Bi (some rp)])) :
  uQ K ety w' ZY cr' (m+1) (fun h=>has h || h == m) (Z++G') (jG ptr m (some rp)) (jG G m G') (jG L m L'):=by
 have hcase:∀k,(has k || k == m)=true->k=m\/(k≠m/\has k=true):=fun k hk=>by
  by_cases e:k=m
  ·exact Α e
  ·right;simp [e] at hk;exact ⟨e,hk⟩
 refine ⟨by rw [Kz] at hrow;exact hrow,fun k hk=>?_,fun k hk z hz=>?_,fun k j hk hj hne z hz=>?_,fun z hz=>?_,fun hmm=>?_⟩
 ·rcases hcase k hk with rfl|⟨e,hk'⟩
  ·rw [dG,dG,dG];exact ⟨rp,rfl,hr⟩
  ·rw [bM _ _ e,bM _ _ e,bM _ _ e];obtain ⟨q,e2,hq⟩:=h.row k hk';exact ⟨q,e2,K.upd hq hu (fun z hz hm=>hS z hz (h.yu k hk' z hm))⟩
 ·rcases hcase k hk with rfl|⟨e,hk'⟩
  ·rw [dG] at hz;exact τ.2 (Β hz)
  ·rw [bM _ _ e] at hz;exact τ.2 (Α (h.yu k hk' z hz))
 ·rcases hcase k hk with rfl|⟨e,hk'⟩
  ·rcases hcase j hj with rfl|⟨e2,hj'⟩
   ·exact absurd rfl hne
   ·rw [dG] at hz;rw [bM _ _ e2];exact fun hm=>by have:=h.J5 z (h.yu j hj' z hm);have:=hG z hz;omega
  ·rw [bM _ _ e] at hz;rcases hcase j hj with rfl|⟨e2,hj'⟩
   ·rw [dG];exact fun hm=>by have:=h.J5 z (h.yu k hk' z hz);have:=hG z hm;omega
   ·rw [bM _ _ e2];exact h.V4 k j hk' hj' hne z hz
 ·rcases τ.1 hz with h1|h1
  ·exact Ψ (h.J5 z h1) hu.size
  ·exact K.lt hr z h1
 ·rcases τ.1 hmm with h1|h1
  ·exact hg1 h1
  ·exact hg2 h1
end
theorem J2 {A:NS} {x:Nat} (hx:x<A.cs.length) (hz:0<(A.c x).i) (q:Int) :
  (if q=(A.c x).i then (if (dI A (A.c x).i:Int)-1=0 then none else some ((dI A (A.c x).i:Int)-1)) else jw A q)=jw (iM A x Cl.z) q:=by
 have:=mW A x Cl.z q hx;have hp:0<dI A (A.c x).i:=eH.2 ⟨x,hx,rfl,hz⟩;unfold jw
 by_cases e:q=(A.c x).i
 ·subst e;rw [Δ rfl];rw [Δ ⟨rfl,hz⟩,Γ (show ¬ (Cl.z.i=(A.c x).i/\0<(A.c x).i) from fun h=>by have:(0:Int)=(A.c x).i:=h.1;omega)] at this
  by_cases h1:dI A (A.c x).i=1
  ·rw [Δ ω,Γ ω]
  ·rw [Γ ω,Δ ω]
   congr 1;omega
 ·rw [Γ e];rw [Γ (fun h=>e h.1.symm),Γ (show ¬ (Cl.z.i=q/\0<q) from fun h=>by have:(0:Int)=q:=h.1;omega)] at this;simp only [ϔ] at this;rw [this]
theorem gP {w:World} {c st:Nat} {F:List Nat} {A:NS} (h:aC w c F A st) (x:Nat) (hx:bQ A x=true) :
  Calls Tryz.prog 151 #[.pointer (some ⟨c,0,none⟩),.int .i64 (x:Int)] w fun e w'=>e=.returned (.bool true)/\aC w' c F (aZ A x) st/\aa F w w':=by
 have k:=dK h x hx;obtain ⟨hx1,hx2⟩:=(ae _ _).1 hx;have hrng:=h.ok.nat x hx1;have hA1:=h.ok.h1;have hA2:=h.ok.c1;obtain ⟨hh,hhe⟩:∃r:Nat,(A.c x).i=r:=⟨(A.c x).i.toNat,ω⟩;have hp:0<dI A (hh:Int):=eH.2 ⟨x,hx1,hhe,ω⟩;have hlen:=Dq h.ok (hh:Int);have hM:=fun q=>J2 hx1 hx2 q;have ok':=GU h.ok x;have e:aZ A (x:Int)=iM A x Cl.z:=by unfold aZ;rw [Δ hx];simp
 rw [hhe] at k hM hrng;have HE:=χ e;have HM:=χ hM;have EO:1<=hh:=ω;have HO:=χ ok';obtain ⟨len,hle⟩:∃n,n=A.cs.length:=⟨_,rfl⟩;have HL:=χ hle;clear h hx hM ok' e hle hx2 hhe;have hx1:x<len:=by have:=HL.out;omega
 obtain ⟨m,hm⟩:∃m:Int,m=(dI A (hh:Int):Int):=⟨_,rfl⟩;rw [←hm] at HM;have HZ:=χ hm;have hm1:0<m:=ω;have hm2:m<=65536:=ω;clear hm hp hlen
 go_enter Tryz.func151,Tryz.ntmps151
 go_wp2_with fail
 refine k.mono ?_;rintro e w1 ⟨rfl,hC,hu⟩;have hsz:=hu.size;have hlt:=hC.lt;obtain ⟨ca,nm,mb,g,cap,l,rt,dp,raw,h,rfl⟩:=hC;have c1:=h.c1;have c3:=h.c3;rw [←HL.out] at c1;have d0:=h.row.cell (x*3) (by rw [←HL.out];omega);have d1:=h.row.cell (x*3+1) (by rw [←HL.out];omega);have d2:=h.row.cell (x*3+2) (by rw [←HL.out];omega);have f0:=h.row.free (x*3);have f1:=h.row.free (x*3+1);have f2:=h.row.free (x*3+2);have l1:=hlt c σ;have l2:=hlt ca σ;have l3:=hlt mb σ;have hs:=h.sep;have H:=χ h;have HU:=χ hu;clear h hlt k hu
 have fin:∀ (w2:World),fT w2 mb (jw (iM A x Cl.z))->aa [mb] (((w1.setCell ⟨ca,x*3,none⟩ (.int .i64 0)).setCell ⟨ca,x*3+1,none⟩ (.int .i64 0)).setCell ⟨ca,x*3+2,none⟩ (.int .u64 0)) w2->
   aC w2 c [c,ca,nm,mb,g] (aZ A x) st/\aa [c,ca,nm,mb,g] w w2:=fun w2 hm2 hu2=>by
  have hu3:aa [ca] w1 (((w1.setCell ⟨ca,x*3,none⟩ (.int .i64 0)).setCell ⟨ca,x*3+1,none⟩ (.int .i64 0)).setCell ⟨ca,x*3+2,none⟩ (.int .u64 0)):=β;have hr3:=(row3 (i:=x) H.out.row Cl.z).upd hu2 ι;have fZ:aa [ca,mb] w1 w2:=(hu3.mono ι).joined hu2 (fun y hy=>Α (by simp at hy;simp [hy]));refine ⟨⟨ca,nm,mb,g,cap,l,rt,dp,fun y=>if y=x then Cl.z else raw y,?_,rfl⟩,HU.out.trans (fZ.mono ι)⟩;have ok':=HO.out;rw [HE.out] at ok' ⊢;exact H.out.turn fZ hr3 hm2 ok' (eY _ _ _) rfl (z8 H.out.rel (by rw [←HL.out];exact hx1) (Α ⟨rfl,rfl⟩))
 have FIN:=χ fin;clear fin
 by_cases h1:m=1
 ·have hb:(m-1 == 0)=true:=ζ;have H1:=χ h1;clear h1
  go_wp2_with (first
   | (at_lookup;refine kT (o:=⟨some 27,_,_,_,_,_⟩) (by rfl) _ _ (by rfl) mb (jw A) (by rfl) (H.out.many.upd (S:=[ca]) β ι) (hh:Int) (by rfl) ω m ((ui _ _).trans HZ.out.symm) ?_)
   | (at_lookup;refine kT (o:=⟨some 34,_,_,_,_,_⟩) (by rfl) _ _ (by rfl) mb _ (by rfl) hm2 (hh:Int) (by rfl) ω (m-1) σ ?_)
   | (at_mapUpdate;refine lX rfl _ _ _ rfl mb (jw A) rfl (H.out.many.upd (S:=[ca]) β ι) (hh:Int) (m-1) rfl rfl ω ω ?_;intro w2 hm2 hu2;(have q1:=hu2.cell (p:=⟨c,3,none⟩) (by simp;exact l1) ι))
   | (at_delete;refine nZ rfl _ _ rfl mb _ rfl hm2 (hh:Int) rfl ω ?_;intro w3 TV hu3))
  go_ret
  have hm4:fT w3 mb (jw (iM A x Cl.z)):=fT.ext TV (fun q=>by
   rw [←HM.out q]
   by_cases e:q=(hh:Int)
   ·rw [Δ e,Δ e,Δ (by have:=H1.out;omega)]
   ·rw [Γ e,Γ e,Γ e])
  exact ⟨rfl,FIN.out w3 hm4 (hu2.trans hu3)⟩
 ·have hb:(m-1 == 0)=false:=ζ;have H1:=χ h1;clear h1
  go_wp2_with (first
   | (at_lookup;refine kT (o:=⟨some 27,_,_,_,_,_⟩) (by rfl) _ _ (by rfl) mb (jw A) (by rfl) (H.out.many.upd (S:=[ca]) β ι) (hh:Int) (by rfl) ω m ((ui _ _).trans HZ.out.symm) ?_)
   | (at_lookup;refine kT (o:=⟨some 34,_,_,_,_,_⟩) (by rfl) _ _ (by rfl) mb _ (by rfl) hm2 (hh:Int) (by rfl) ω (m-1) σ ?_)
   | (at_mapUpdate;refine lX rfl _ _ _ rfl mb (jw A) rfl (H.out.many.upd (S:=[ca]) β ι) (hh:Int) (m-1) rfl rfl ω ω ?_;intro w2 hm2 hu2;(have q1:=hu2.cell (p:=⟨c,3,none⟩) (by simp;exact l1) ι)))
  go_ret
  have hm4:fT w2 mb (jw (iM A x Cl.z)):=fT.ext hm2 (fun q=>by
   rw [←HM.out q]
   by_cases e:q=(hh:Int)
   ·rw [Δ e,Δ e,Γ (by have:=H1.out;omega)]
   ·rw [Γ e,Γ e])
  exact ⟨rfl,FIN.out w2 hm4 hu2⟩
end Go.Proofs.YtklibcncmbofpaaGreat
