/-
  Lemmas for RankMerges: Base, Own, SyP, Enters, Sy, Row, Append, PlO, Ns, Ints, Ent, Names, Map, Cells, Cells2, Cells4, Cells5, Ord, Mth, NestB, Qn, MapH, SameW, SameSl, MapP, Sy2, Sy3, Sy4. Conditions: those of each lemma.
-/
import Derived.WalkKit
import Derived.WalkSpells
import Derived.WalkLawsBesides
import Derived.BigQuiet
import Derived.Deep.RegionHeld3
import Derived.ProofKit
import Derived.OpenShut
import Derived.Lib.Hide
import Derived.Test.YtklibcncmbofpaaGreatProg
import Derived.BigRegion
import Derived.IntWalk
import Derived.StillTailTactics
import Derived.Deep.DeepCutAuto
import Derived.Maps.AppendAt
import Derived.Deep.AppendLies
import Derived.Maps.OwnSet
import Derived.Maps.OwnOps
import Derived.Maps.RangeWalk
import Derived.DeepKeys4
set_option linter.all false
set_option maxHeartbeats 8000000
set_option maxRecDepth 10000
namespace Go.Proofs.YtklibcncmbofpaaGreat
open Go.RowKit
theorem jY {k:IntKind} {a b:Int} (h:a=b):Ending.returned (.int k a)=.returned (.int k b):=by rw [h]
theorem bg {a b:Bool} (h:a=b):Ending.returned (.bool a)=.returned (.bool b):=by rw [h]
structure aa (S:List Nat) (w w':World):Prop where
 os:w'.os=w.os
 tape:w'.tape=w.tape
 output:w'.output=w.output
 size:w.heap.size<=w'.heap.size
 block:∀k,k<w.heap.size->k∉S->w'.heap[k]?=w.heap[k]?
theorem aa.refl (S:List Nat) (w:World):aa S w w:=⟨rfl,rfl,rfl,Nat.le_refl _,fun _ _ _=>rfl⟩
theorem aa.joined {S T:List Nat} {a b c:World} (h:aa S a b) (k:aa T b c) (hT:∀x,x∈T->x∈S\/a.heap.size<=x):aa S a c:=
  ⟨k.os.trans h.os,k.tape.trans h.tape,k.output.trans h.output,Nat.le_trans h.size k.size,
   fun i hi hs=>(k.block i (Nat.lt_of_lt_of_le hi h.size) (fun hm=>by rcases hT i hm with h1|h1;exact hs h1;omega)).trans (h.block i hi hs)⟩
theorem aa.trans {S:List Nat} {a b c:World} (h:aa S a b) (k:aa S b c):aa S a c:=h.joined k (fun _ hx=>Or.inl hx)
theorem aa.then {S:List Nat} {a b c:World} (h:aa S a b) (k:aa [] b c):aa S a c:=h.joined k (fun _ hx=>by cases hx)
theorem aa.mono {S T:List Nat} {a b:World} (h:aa S a b) (hs:∀x,x∈S->x∈T):aa T a b:=
 ⟨h.os,h.tape,h.output,h.size,fun k hk hn=>h.block k hk (fun hm=>hn (hs k hm))⟩
theorem aa.drew {S:List Nat} {a w:World} (h:aa S a w):aa S a w.drew:=⟨h.os,h.tape,h.output,h.size,h.block⟩
theorem aa.drewN {S:List Nat} {a w:World} (h:aa S a w) (n:Nat):aa S a (w.drewN n):=⟨h.os,h.tape,h.output,h.size,h.block⟩
theorem aa.alloc {S:List Nat} {a w:World} (h:aa S a w) (o:Obj):aa S a (w.alloc o):=
 h.joined (T:=[]) ⟨rfl,rfl,rfl,by simp,fun k hk _=>Below.heap_alloc _ _ _ hk⟩ (fun _ hx=>by cases hx)
theorem aa.setCell {S:List Nat} {a w:World} (h:aa S a w) {p:Addr} (hp:p.block∈S\/a.heap.size<=p.block) (u:Value):aa S a (w.setCell p u):=
 h.joined (T:=[p.block]) ⟨rfl,rfl,rfl,by simp [World.setCell],fun k hk hn=>Below.heap_setCell _ _ _ _ (by simpa using hn)⟩ (fun x hx=>by simp at hx;rw [hx];exact hp)
theorem aa.grown {S:List Nat} {a w w':World} {row:Option Nat} (h:aa S a w) (hg:w.grownBy w' row) (hr:∀k,row=some k->k∈S\/a.heap.size<=k):aa S a w':=
 h.joined (T:=row.toList) ⟨hg.os,hg.tape,hg.output,hg.size,fun k hk hn=>hg.block k hk (fun e=>hn (by rw [←e];simp))⟩ (fun x hx=>hr x (by simpa using hx))
theorem aa.cell {S:List Nat} {w w':World} (h:aa S w w') {p:Addr} (hp:p.block<w.heap.size) (hn:p.block∉S):w'.cell? p=w.cell? p:=World.cell?_of_block (w:=w) (h.block p.block hp hn)
theorem aa.frozen {S:List Nat} {w w':World} (h:aa S w w') {p:Addr} (hp:p.block<w.heap.size) (hn:p.block∉S):w'.frozen? p=w.frozen? p:=World.frozen?_of_block (w:=w) (h.block p.block hp hn)
theorem aa.below {w w':World} (h:aa [] w w'):Below w.heap.size w w':=⟨h.os,h.tape,h.output,h.size,fun k hk=>h.block k hk (by simp)⟩
theorem aa.was {w w':World} (h:aa [] w w') {p:Addr} {v:Value} (hv:w.cell? p=some v):w'.cell? p=some v:=by
 rw [h.cell (World.block_lt_of_cell? w p hv) (by simp)];exact hv
theorem aa.kept {S:List Nat} {w w':World} (h:aa S w w') {p:Addr} {v:Value} (hv:w.cell? p=some v) (hn:p.block∉S):w'.cell? p=some v:=by
 rw [h.cell (World.block_lt_of_cell? w p hv) hn];exact hv
theorem aa.aP {S:List Nat} {w w':World} (h:aa S w w') {p:Addr} {v:Value} (hv:w.cell? p=some v) (hn:p.block∉S) (hf:w.frozen? p=false):w'.frozen? p=false:=by
 rw [h.frozen (World.block_lt_of_cell? w p hv) hn];exact hf
theorem Ue {W w1:World} (hb:aa [] W w1):(∀a,(W.cell? a).isSome=true->w1.cell? a=W.cell? a)/\(∀a,(W.cell? a).isSome=true->w1.frozen? a=W.frozen? a):=
  ⟨fun a h=>by obtain ⟨u,hu⟩:=Option.isSome_iff_exists.1 h;exact hb.cell (World.block_lt_of_cell? W a hu) (by simp),
   fun a h=>by obtain ⟨u,hu⟩:=Option.isSome_iff_exists.1 h;exact hb.frozen (World.block_lt_of_cell? W a hu) (by simp)⟩
theorem β {P:Prop} (h:P:=by (repeat (first|assumption|exact aa.refl _ _|refine aa.alloc ?_ _|refine aa.drew ?_|refine aa.drewN ?_ _|refine aa.setCell ?_ ?_ _|focus (left;simp;done)|focus (right;simp;done)|focus (right;simp;omega)))):P:=h
theorem κ {P:Prop} (h:P:=by (repeat (first|assumption|exact aa.refl _ _|refine aa.drew ?_|refine aa.alloc ?_ _|refine aa.setCell ?_ ?_ _|focus (left;simp;done)|focus (right;simp;done)|focus (right;simp;omega)|(apply aa.trans;rotate_left;assumption;assumption)))):P:=h
theorem ν {P:Prop} (h:P:=by (repeat (first|assumption|exact aa.refl _ _|refine aa.drew ?_|refine aa.alloc ?_ _|refine aa.setCell ?_ ?_ _|focus (left;simp;done)|focus (right;simp;done)|focus (right;simp;omega)|(apply aa.trans;rotate_left;assumption)))):P:=h
theorem η {P:Prop} (h:P:=by (repeat (first|assumption|exact aa.refl _ _|refine aa.drew ?_|refine aa.alloc ?_ _|(apply aa.trans;rotate_left;assumption)))):P:=h
theorem ξ {P:Prop} (h:P:=by (repeat (first|assumption|exact aa.refl _ _|refine aa.alloc ?_ _|refine aa.drew ?_|refine aa.drewN ?_ _|refine aa.setCell ?_ (Or.inr (by first|(simp;done)|(simp;omega))) _|(apply aa.trans;rotate_left;assumption)))):P:=h
theorem ω {P:Prop} (h:P:=by omega):P:=h
theorem σ {P:Prop} (h:P:=by simp):P:=h
theorem ζ {P:Prop} (h:P:=by simp;omega):P:=h
theorem ι {P:Prop} (h:P:=by first|(simp;done)|(simp;omega)):P:=h
theorem μ {P:Prop} (h:P:=by unfold maxLen;omega):P:=h
theorem γ {P:Prop} (h:P:=by go_simp):P:=h
theorem δ {P:Prop} (h:P:=by decide):P:=h
theorem ψ {a b:Prop} (x:a) (y:b):a/\b:=⟨x,y⟩
theorem χ {p:Prop} (h:p):Hid p:=h
theorem φ {α:Type} {l:List α} {i:Nat} {a:α}:l.getD i a=l[i]?.getD a:=List.getD_eq_getElem?_getD
theorem π (n:Nat):(n:Int).toNat=n:=Int.toNat_natCast n
theorem ρ {α:Type _} {a b:α} {l:List α}:a∈b::l↔a=b\/a∈l:=List.mem_cons
theorem τ {α:Type _} {a:α} {s t:List α}:a∈s++t↔a∈s\/a∈t:=List.mem_append
theorem ε {α:Type _} {l:List α} {i:Nat} (h:i<l.length):l[i]?=some l[i]:=List.getElem?_eq_getElem h
theorem υ {α:Type _} {s t:List α}:(s++t).length=s.length+t.length:=List.length_append
theorem θ {α:Type _} {s t:List α}:(s++t).Nodup↔s.Nodup/\t.Nodup/\∀a∈s,∀b∈t,a≠b:=List.nodup_append
theorem ς {α:Type _} {a:α}:¬a∈([]:List α):=List.not_mem_nil
def Α:=@Or.inl
def Β:=@Or.inr
def Γ:=@if_neg
def Δ:=@if_pos
def Ε:=@World.block_lt_of_cell?
def Ζ:=@List.nodup_cons
def Η:=@List.mem_of_getElem?
def Θ:=@Nat.le_refl
def Ι:=@List.length_set
def Κ:=@World.size_alloc
def Λ:=@List.mem_cons_of_mem
def Μ:=@IntWalk.i64_in
def Ν:=@decide_eq_true
def Ξ:=@decide_eq_false
def Ο:=@decide_eq_true_eq
def Ρ:=@List.getElem?_append_left
def Τ:=@Bool.and_eq_true
def Υ:=@List.append_nil
def Φ:=@List.perm_append_comm
def Χ:=@Nat.le_trans
def Ψ:=@Nat.lt_of_lt_of_le
def Ω:=@List.length_cons
def ϊ:=@List.getElem?_append_right
def ϋ:=@List.append_assoc
def ό:=@List.Perm.refl
def ύ:=@List.getElem?_set
def ώ:=@List.getElem?_set_self
def Ϗ:=@List.getElem?_set_ne
def ϐ:=@List.take_add_one
def ϑ:=@List.length_take
def ϒ:=@List.length_map
def ϓ:=@List.getElem?_map
def ϔ:=@List.mem_singleton
def ϕ:=@Nat.zero_add
def ϖ:=@Nat.add_zero
def ϗ:=@Nat.lt_or_ge
def Ϙ:=@Option.some.injEq
def ϙ:=@List.perm_append_singleton
def Ϛ:=@List.pairwise_cons
def ϛ:=@List.getElem_mem
def Ϝ:=@Classical.byContradiction
def ϝ:=@List.take_append_drop
def Ϟ:=@List.eq_nil_of_length_eq_zero
def ϟ:=@List.nil_append
def Ϡ:=@Option.map_some
def ϡ:=@List.drop_eq_getElem_cons
def Ϣ:=@List.Perm.trans
def ϣ:=@List.perm_middle
def Ϥ:=@Bool.false_eq_true
def ϥ:=@of_decide_eq_true
def Ϧ:=@of_decide_eq_false
def ϧ:=@List.nodup_nil
def Ϩ:=@World.cell?_setCell_other
end Go.Proofs.YtklibcncmbofpaaGreat
namespace Go.Proofs.YtklibcncmbofpaaGreat
open Go Go.RowKit
theorem iJ {w:World} {base base' size n:Nat} {e:TypeId} {v:Value} {xs:List Value} (h:w.ownsRow base e size v n xs) (hb:base'<=base):w.ownsRow base' e size v n xs:=by
 refine ⟨h.1,?_⟩;rcases h.2 with hn|⟨g,cap,cur,rfl,hb',hg,rest⟩
 ·exact Α hn
 ·exact Β ⟨g,cap,cur,rfl,Χ hb hb',hg,rest⟩
theorem Jm (W:World) (us:List Value) (e:TypeId) (j:Nat) (u:Value) (hj:us[j]?=some u):(W.alloc (.cells us.toArray e)).cell? ((⟨W.heap.size,0,none⟩:Addr).add j)=some u:=by
 have e1:((⟨W.heap.size,0,none⟩:Addr).add j)=⟨W.heap.size,j,none⟩:=by
  unfold Addr.add;split
  ·subst_vars;rfl
  ·simp
 rw [e1];have e2:(W.alloc (.cells us.toArray e)).heap[W.heap.size]?=some (.cells us.toArray e):=by
  show (W.heap.push _)[W.heap.size]?=_
  simp
 unfold World.cell?;simp only [e2];simpa using hj
theorem ak {P:Program} {ops:Array Oper} {rest:List Oper} {o:Oper} {a:Act} {Q:Exit->Act->World->Prop} {W:World} (hgd:o.guard=none) (s x:Operand) (t:TypeId)
  (ho:o.op=.call { callee:=.builtin .append,args:=#[s,x],argTypes:=#[t,t] })
  (base:Nat) (e:TypeId) (z:Value) (size bytes:Nat) (ht:P.underlying t=some (.slice e)) (hinfo:(P.info? e).map (fun i=>(i.zero,i.size,i.bytes))=some (some z,size,bytes))
  (hzs:z.cells.size=size) (hsz:0<size) (v:Value) (n:Nat) (xs:List Value) (hs:a.eval s=v) (hown:W.ownsRow base e size v n xs)
  (us:List Value) (hus:us.length=size) (h1:∀u∈us,u.oneCell'=true) (hx:a.eval x=.slice (some ⟨W.heap.size,0,none⟩) 1 1)
  (hn:n+1<=maxLen) (hbytes:(n+1)*bytes<=140737488355328) (hbase:base<=W.heap.size)
  (h:∀v' w',w'.ownsRow base e size v' (n+1) (xs++us)->aa v.ownBlock.toList W w'->(v'.ownBlock=v.ownBlock\/∀k,v'.ownBlock=some k->W.heap.size<k)->wpList P ops Q rest (a.put o.dst v') w') :
  wpList P ops Q (o::rest) a (W.alloc (.cells us.toArray e)):=by
 obtain ⟨i,hi,hz0,hz1,hz2⟩:=info_parts hinfo;have hcell:=fun j u hj=>Jm W us e j u hj;rcases hown.2 with ⟨rfl,rfl⟩|⟨g,cap,cur,rfl,hbg,hg,hnc,hcm,hcs,htk⟩
 ·have hxs:xs=[]:=Ϟ (by rw [hown.1,Nat.zero_mul]);subst hxs;refine wpList_append_grows _ hgd s x t ho e i z size bytes ht hi hz0 hz1 hz2 hzs hsz none 0 0 [] hs (fun _=>⟨rfl,rfl⟩) σ (fun b hb=>by cases hb) ⟨W.heap.size,0,none⟩ 1 1 us hx ω hcell h1 ω hn hbytes ?_;intro v' w' ho' hgr;refine h v' w' (iJ ho' ζ) (((aa.refl _ _).alloc _).grown hgr (fun k hk=>by cases hk)) (Β fun k hk=>?_);have:=(ho'.lt k hk).1;simp at this;omega
 ·have hown':=hown.alloc (.cells us.toArray e)
  by_cases hfit:n+1<=cap
  ·refine wpList_append_fits _ hgd s x t ho base e i size ht hi hz1 g n cap xs hs hown' ⟨W.heap.size,0,none⟩ 1 1 us hx ω hcell h1 hfit ?_;intro w' ho' hgr;exact h _ w' ho' (((aa.refl _ _).alloc _).grown hgr (fun k hk=>Α (by cases hk;simp [Value.ownBlock]))) (Α rfl)
  ·refine wpList_append_grows _ hgd s x t ho e i z size bytes ht hi hz0 hz1 hz2 hzs hsz (some ⟨g,0,none⟩) n cap xs hs (fun hb=>by cases hb) hown.1 (fun b hb j u hj=>?_) ⟨W.heap.size,0,none⟩ 1 1 us hx ω hcell h1 ω hn hbytes ?_
   ·cases hb;exact hown'.cells rfl j u hj
   ·intro v' w' ho' hgr;refine h v' w' (iJ ho' ζ) (((aa.refl _ _).alloc _).grown hgr (fun k hk=>by cases hk)) (Β fun k hk=>?_);have:=(ho'.lt k hk).1;simp at this;omega
theorem aA {w w':World} {S:List Nat} {base size n:Nat} {e:TypeId} {v:Value} {xs:List Value} (h:w.ownsRow base e size v n xs) (hu:aa S w w') (hne:∀k,v.ownBlock=some k->k∉S):w'.ownsRow base e size v n xs:=by
 refine ⟨h.1,?_⟩;rcases h.2 with hn|⟨g,cap,cur,rfl,hb,hg,rest⟩
 ·exact Α hn
 ·have hlt:=h.lt g rfl;exact Β ⟨g,cap,cur,rfl,hb,by rw [hu.block g hlt.2 (hne g rfl)];exact hg,rest⟩
theorem aa.own {w0 w w':World} {S:List Nat} {base size n:Nat} {e:TypeId} {v:Value} {xs:List Value} (h:aa S w0 w) (ho:w.ownsRow base e size v n xs) (hb:w0.heap.size<=base) (hu:aa v.ownBlock.toList w w'):aa S w0 w':=
 h.joined hu (fun x hx=>Β (Χ hb (ho.lt x (by simpa using hx)).1))
theorem dM {w:World} {base size n:Nat} {e:TypeId} {v:Value} {xs:List Value} (h:w.ownsRow base e size v n xs) (hn:0<n) :
  ∃g cap,v=.slice (some ⟨g,0,none⟩) n cap/\base<=g/\g<w.heap.size/\n<=cap/\cap<=9223372036854775807/\(∀j u,xs[j]?=some u->w.cell? ⟨g,j,none⟩=some u)/\∀j,w.frozen? ⟨g,j,none⟩=false:=by
 rcases h.2 with ⟨_,h0⟩|⟨g,cap,cur,rfl,hb,hg,hnc,hcm,_⟩
 ·omega
 ·refine ⟨g,cap,rfl,hb,(h.lt g rfl).2,hnc,by unfold maxLen at hcm;exact hcm,fun j u hj=>?_,fun j=>h.frozenAt j⟩;have hlt:j<xs.length:=by
   rcases ϗ j xs.length with h'|h'
   ·exact h'
   ·rw [List.getElem?_eq_none h'] at hj;cases hj
  rw [h.cellAt j (by rw [←h.1];exact hlt)];exact hj
theorem iR (W:World) (xs:List Value) (e:TypeId) (base size n:Nat) (hl:xs.length=n*size) (hb:base<=W.heap.size) (hn:n<=maxLen) :
  (W.alloc (.cells xs.toArray e)).ownsRow base e size (.slice (some ⟨W.heap.size,0,none⟩) n n) n xs:=by
 refine ⟨hl,Β ⟨W.heap.size,n,xs.toArray,rfl,hb,?_,Θ _,hn,by simpa using hl,?_⟩⟩
 ·show (W.heap.push _)[W.heap.size]?=_;simp
 ·rw [←hl];simp
theorem GX (W:World) (g:Nat) (hg:g=W.heap.size) (xs:List Value) (e:TypeId) (base size n:Nat) (hl:xs.length=n*size) (hb:base<=W.heap.size) (hn:n<=maxLen) :
  (W.alloc (.cells xs.toArray e)).ownsRow base e size (.slice (some ⟨g,0,none⟩) n n) n xs:=by
 subst hg;exact iR W xs e base size n hl hb hn
theorem aR {w:World} {base size n:Nat} {e:TypeId} {v:Value} {xs:List Value} (h:w.ownsRow base e size v n xs):∃a cap,v=.slice a n cap/\cap<=9223372036854775807:=by
 rcases h.2 with ⟨rfl,rfl⟩|⟨g,cap,cur,rfl,_,_,_,hc,_⟩
 ·exact ⟨none,0,rfl,ω⟩
 ·exact ⟨_,cap,rfl,by unfold maxLen at hc;exact hc⟩
abbrev Pl:=Nat×Nat
def DR (p q:Pl):Prop:=p.1<q.1\/(p.1=q.1/\p.2<q.2)
def mo (p q:Pl):Prop:=p.1<q.1\/(p.1=q.1/\p.2<=q.2)
theorem mo.Ck {p q:Pl} (h:¬DR q p):mo p q:=by unfold DR at h;unfold mo;omega
theorem mo.of_lt {p q:Pl} (h:DR p q):mo p q:=by unfold DR at h;unfold mo;omega
theorem mo.trans {p q r:Pl} (h:mo p q) (k:mo q r):mo p r:=by unfold mo at *;omega
theorem mo.refl (p:Pl):mo p p:=by unfold mo;omega
def Ff (p q:Pl):Int:=if p.1≠q.1 then (p.1:Int)-q.1 else (p.2:Int)-q.2
theorem mV (p q:Pl):decide (Ff p q<0)=true↔DR p q:=by
 unfold Ff DR;rw [Ο]
 split<;>omega
def eY (l:List Pl):Prop:=l.Pairwise mo
theorem eY.at {l:List Pl} (h:eY l) {i j:Nat} {p q:Pl} (hi:l[i]?=some p) (hj:l[j]?=some q) (hij:i<=j):mo p q:=by
 obtain ⟨h1,rfl⟩:=List.getElem?_eq_some_iff.1 hi;obtain ⟨h2,rfl⟩:=List.getElem?_eq_some_iff.1 hj;rcases (ω:i=j\/i<j) with rfl|h3
 ·exact mo.refl _
 ·exact List.pairwise_iff_getElem.1 h i j h1 h2 h3
theorem Bg {a b:List Pl} (ha:eY a) (hb:eY b) (h:∀x,x∈a->∀y,y∈b->mo x y):eY (a++b):=List.pairwise_append.2 ⟨ha,hb,h⟩
theorem Du {α:Type} (P M S:List α) (x y:α):((P++x::(M++y::S)).set P.length y).set (P.length+(M.length+1)) x=P++y::(M++x::S):=by
 simp [List.set_append]
theorem vK {A B:List Pl} (hA:eY A) (hB:eY B) {i j:Nat} (hi:i<=A.length) (hj:j<=B.length)
  (h1:i=0\/j=B.length\/∃p q,A[i-1]?=some p/\B[j]?=some q/\mo p q)
  (h2:j=0\/i=A.length\/∃p q,B[j-1]?=some p/\A[i]?=some q/\mo p q) :
  ∀x,x∈A.take i++B.take j->∀y,y∈A.drop i++B.drop j->mo x y:=by
 have key:∀ {C D:List Pl},eY C->eY D->∀ {i j:Nat},i<=C.length->(i=0\/j=D.length\/∃p q,C[i-1]?=some p/\D[j]?=some q/\mo p q)->∀x,x∈C.take i->∀y,y∈D.drop j->mo x y:=by
  intro C D hC hD i j hi h x hx y hy;obtain ⟨m,hm,rfl⟩:=List.mem_iff_getElem.1 hx;obtain ⟨k,hk,rfl⟩:=List.mem_iff_getElem.1 hy;rw [ϑ] at hm;rw [List.length_drop] at hk;rcases h with h|h|⟨p,q,hp,hq,hpq⟩
  ·omega
  ·omega
  ·have e1:C[m]?=some ((C.take i)[m]):=by rw [List.getElem_take];exact ε _
   have e2:D[j+k]?=some ((D.drop j)[k]):=by rw [List.getElem_drop];exact ε _
   exact (hC.at e1 hp ω).trans (hpq.trans (hD.at hq e2 ω))
 intro x hx y hy;rcases τ.1 hx with hx|hx<;>rcases τ.1 hy with hy|hy
 ·obtain ⟨m,hm,rfl⟩:=List.mem_iff_getElem.1 hx;obtain ⟨k,hk,rfl⟩:=List.mem_iff_getElem.1 hy;rw [ϑ] at hm;rw [List.length_drop] at hk;have e1:A[m]?=some ((A.take i)[m]):=by rw [List.getElem_take];exact ε _
  have e2:A[i+k]?=some ((A.drop i)[k]):=by rw [List.getElem_drop];exact ε _
  exact hA.at e1 e2 ω
 ·exact key hA hB hi h1 x hx y hy
 ·exact key hB hA hj h2 x hx y hy
 ·obtain ⟨m,hm,rfl⟩:=List.mem_iff_getElem.1 hx;obtain ⟨k,hk,rfl⟩:=List.mem_iff_getElem.1 hy;rw [ϑ] at hm;rw [List.length_drop] at hk;have e1:B[m]?=some ((B.take j)[m]):=by rw [List.getElem_take];exact ε _
  have e2:B[j+k]?=some ((B.drop j)[k]):=by rw [List.getElem_drop];exact ε _
  exact hB.at e1 e2 ω
theorem JM {B:List Pl} {x:Pl} {i:Nat} (hB:eY B) (hi:i<=B.length) (h1:i=0\/∃p,B[i-1]?=some p/\mo p x) (h2:i=B.length\/∃q,B[i]?=some q/\mo x q):eY (B.take i++x::B.drop i):=by
 have hx:eY [x]:=List.pairwise_singleton _ _
 have h:=vK (A:=[x]) (B:=B) (i:=0) (j:=i) hx hB σ hi (Α rfl) (by
  rcases h1 with h|⟨p,hp,hq⟩
  ·exact Α h
  ·exact Β (Β ⟨p,x,hp,σ,hq⟩))
 have h':∀y,y∈B.drop i->mo x y:=by
  have h3:=vK (A:=[x]) (B:=B) (i:=1) (j:=i) hx hB σ hi (by
   rcases h2 with h|⟨q,hq,hl⟩
   ·exact Β (Α h)
   ·exact Β (Β ⟨x,q,σ,hq,hl⟩)) (Β (Α σ))
  intro y hy;exact h3 x σ y (by simp [hy])
 refine Bg (List.Pairwise.sublist (List.take_sublist _ _) hB) (List.pairwise_cons.2 ⟨h',List.Pairwise.sublist (List.drop_sublist _ _) hB⟩) ?_;intro a ha b hb;exact h a (by simpa using ha) b (by simpa using hb)
theorem De {α:Type} (B:List α) (x:α) (i:Nat):(B.take i++x::B.drop i).Perm (x::B):=by
 have h:=@List.perm_middle _ x (B.take i) (B.drop i);rwa [ϝ] at h
theorem QK {C D:List Pl} {x:Pl} (h:eY (C++D)) (h1:∀y,y∈C->mo y x) (h2:∀y,y∈D->mo x y):eY (C++x::D):=by
 obtain ⟨a,b,c⟩:=List.pairwise_append.1 h;refine Bg a (List.pairwise_cons.2 ⟨h2,b⟩) ?_;intro y hy z hz;rcases ρ.1 hz with rfl|hz
 ·exact h1 y hy
 ·exact c y hy z hz
inductive CL (k:Nat):List Pl->Prop
 | last (l:List Pl):l.length<=k->eY l->CL k l
 | cons (C R:List Pl):C.length=k->eY C->CL k R->CL k (C++R)
theorem CL.small {k:Nat} {R:List Pl} (h:CL k R) (hl:R.length<=k):eY R:=by
 cases h with
 | last _ _ h=>exact h
 | cons C R hC hs h=>
  rw [υ] at hl;obtain rfl:R=[]:=Ϟ ω;simpa using hs
theorem CL.one {k:Nat} {R:List Pl} (h:CL k R) (hl:k<R.length):∃C R',R=C++R'/\C.length=k/\eY C/\CL k R':=by
 cases h with
 | last _ h _=>omega
 | cons C R hC hs h=>exact ⟨C,R,rfl,hC,hs,h⟩
theorem CL.two {k:Nat} {R:List Pl} (hk:0<k) (h:CL k R) (hl:2*k<=R.length):∃C D R',R=C++(D++R')/\C.length=k/\D.length=k/\eY C/\eY D/\CL k R':=by
 obtain ⟨C,R1,rfl,hC,sC,h1⟩:=h.one ω;rw [υ] at hl;cases h1 with
 | last _ h1 h2=>exact ⟨C,R1,[],σ,hC,ω,sC,h2,.last [] σ List.Pairwise.nil⟩
 | cons D R2 hD sD h2=>exact ⟨C,D,R2,rfl,hC,hD,sC,sD,h2⟩
def Enters (f:FuncId):Prop:=∀ (args:Array Value) (W:World),(callFunc f args).run Tryz.prog W=.ok (.enter f args) W
structure PR (w:World) (g:Nat) (l:List Pl):Prop where
 lt:g<w.heap.size
 a:∀j p,l[j]?=some p->w.cell? ⟨g,j*2,none⟩=some (.int .i64 (p.1:Int))
 b:∀j p,l[j]?=some p->w.cell? ⟨g,j*2+1,none⟩=some (.int .i64 (p.2:Int))
 f:∀k,w.frozen? ⟨g,k,none⟩=false
 s:∀p,p∈l->p.1<1000000/\p.2<1000000
theorem PR.upd {w w':World} {g:Nat} {l:List Pl} {S:List Nat} (h:PR w g l) (hu:aa S w w') (hn:g∉S):PR w' g l:=
 ⟨Ψ h.lt hu.size,fun j p hj=>hu.kept (h.a j p hj) hn,fun j p hj=>hu.kept (h.b j p hj) hn,fun k=>by rw [hu.frozen (p:=⟨g,k,none⟩) h.lt hn];exact h.f k,h.s⟩
theorem rq (p q:Pl) (hp:p.1<1000000/\p.2<1000000) (hq:q.1<1000000/\q.2<1000000) (w:World) :
  Calls Tryz.prog 73 #[.agg #[.int .i64 (p.1:Int),.int .i64 (p.2:Int)],.agg #[.int .i64 (q.1:Int),.int .i64 (q.2:Int)]] w fun e w'=>e=.returned (.int .i64 (Ff p q))/\aa [] w w':=by
 obtain ⟨a,b⟩:=p;obtain ⟨c,d⟩:=q;have h1:IntKind.i64.wrap ((a:Int)-(c:Int))=(a:Int)-c:=Μ _ ω;have h2:IntKind.i64.wrap ((b:Int)-(d:Int))=(b:Int)-d:=Μ _ ω;unfold Ff;dsimp only
 by_cases hac:a=c
 ·rw [Γ (by simpa using hac)];have e:((a:Int) != (c:Int))=false:=by simp [hac]
  clear hp hq
  go_enter Tryz.func73,Tryz.ntmps73
  go_wp2;go_ret;exact ⟨rfl,β⟩
 ·rw [Δ hac];have e:((a:Int) != (c:Int))=true:=ζ;clear hp hq
  go_enter Tryz.func73,Tryz.ntmps73
  go_wp2;go_ret;exact ⟨rfl,β⟩
theorem PR.mid {w:World} {g:Nat} {P M S:List Pl} {x y:Pl} {i j:Nat} (h:PR w g (P++x::(M++y::S))) (hi:i=P.length) (hj:j=P.length+(M.length+1)) :
  (w.cell? ⟨g,i*2,none⟩=some (.int .i64 (x.1:Int))/\w.cell? ⟨g,i*2+1,none⟩=some (.int .i64 (x.2:Int)))/\(w.cell? ⟨g,j*2,none⟩=some (.int .i64 (y.1:Int))/\w.cell? ⟨g,j*2+1,none⟩=some (.int .i64 (y.2:Int))):=by
 subst hi;subst hj;have e1:(P++x::(M++y::S))[P.length]?=some x:=σ;have e2:(P++x::(M++y::S))[P.length+(M.length+1)]?=some y:=by
  rw [ϊ ω,show P.length+(M.length+1)-P.length=M.length+1 by omega];simp
 exact ⟨⟨h.a _ _ e1,h.b _ _ e1⟩,⟨h.a _ _ e2,h.b _ _ e2⟩⟩
theorem PR.EI {w:World} {g:Nat} {l:List Pl} (h:PR w g l) {i:Nat} (hi:i<l.length) (p:Pl) (hp:p.1<1000000/\p.2<1000000):PR ((w.setCell ⟨g,i*2,none⟩ (.int .i64 (p.1:Int))).setCell ⟨g,i*2+1,none⟩ (.int .i64 (p.2:Int))) g (l.set i p):=by
 have h0:=h.a i _ (ε hi);have h1:=h.b i _ (ε hi);have e1:((w.setCell ⟨g,i*2,none⟩ (.int .i64 (p.1:Int))).cell? ⟨g,i*2+1,none⟩)=some (.int .i64 ((l[i]).2:Int)):=by
  rw [Ϩ _ _ _ _ σ];exact h1
 refine ⟨by simpa using h.lt,fun j q hj=>?_,fun j q hj=>?_,fun k=>by simp [h.f],fun q hq=>?_⟩
 ·by_cases e:i=j
  ·subst e;rw [ώ hi] at hj;cases hj;rw [Ϩ _ _ _ _ σ,World.cell?_setCell_same _ _ _ h0]
  ·rw [Ϗ e] at hj;rw [Ϩ _ _ _ _ ι,Ϩ _ _ _ _ ι];exact h.a j q hj
 ·by_cases e:i=j
  ·subst e;rw [ώ hi] at hj;cases hj;rw [World.cell?_setCell_same _ _ _ e1]
  ·rw [Ϗ e] at hj;rw [Ϩ _ _ _ _ ι,Ϩ _ _ _ _ ι];exact h.b j q hj
 ·rcases List.mem_or_eq_of_mem_set hq with h'|rfl
  ·exact h.s q h'
  ·exact hp
theorem PR.swap {w:World} {g:Nat} {P M S:List Pl} {x y:Pl} {i j:Nat} (h:PR w g (P++x::(M++y::S))) (hi:i=P.length) (hj:j=P.length+(M.length+1)) :
  (∀W,W=((((w.setCell ⟨g,i*2,none⟩ (.int .i64 (y.1:Int))).setCell ⟨g,i*2+1,none⟩ (.int .i64 (y.2:Int))).setCell ⟨g,j*2,none⟩ (.int .i64 (x.1:Int))).setCell ⟨g,j*2+1,none⟩ (.int .i64 (x.2:Int)))->PR W g (P++y::(M++x::S)))/\
  (∀W,W=((((w.setCell ⟨g,j*2,none⟩ (.int .i64 (x.1:Int))).setCell ⟨g,j*2+1,none⟩ (.int .i64 (x.2:Int))).setCell ⟨g,i*2,none⟩ (.int .i64 (y.1:Int))).setCell ⟨g,i*2+1,none⟩ (.int .i64 (y.2:Int)))->PR W g (P++y::(M++x::S))):=by
 have hx:=h.s x σ;have hy:=h.s y σ;have h1:=(h.EI (i:=i) ζ y hy).EI (i:=j) ζ x hx;have h2:=(h.EI (i:=j) ζ x hx).EI (i:=i) ζ y hy;subst hi;subst hj;rw [Du] at h1;rw [List.set_comm _ _ ω,Du] at h2;exact ⟨fun W e=>e▸h1,fun W e=>e▸h2⟩
theorem PR.drew {w:World} {g:Nat} {l:List Pl} (h:PR w g l):PR w.drew g l:=h.upd ((aa.refl [] w).drew) σ
theorem o5 {g:Nat} {l:List Pl} {w1 w2 W:World} (h:(∀W,W=w1->PR W g l)/\(∀W,W=w2->PR W g l)) (e:W=w1\/W=w2):PR W g l:=e.elim (h.1 W) (h.2 W)
theorem PR.len {w:World} {g:Nat} {l l':List Pl} (h:PR w g l) (e:l=l'):PR w g l':=e▸h
theorem BI (w:World) (g n cap a b m:Nat) (P X M Y S:List Pl) (vf:Value) (h:PR w g (P++(X++(M++(Y++S))))) (hn:(P++(X++(M++(Y++S)))).length=n) (hc:n<=1000000) (hXY:X.length=Y.length) (ha:a=P.length) (hb:b=a+X.length+M.length) (hm:m=X.length) :
  Calls Tryz.prog 116 #[.slice (some ⟨g,0,none⟩) n cap,.int .i64 (a:Int),.int .i64 (b:Int),.int .i64 (m:Int),vf] w fun e w'=>e=.returned (.tuple #[])/\PR w' g (P++(Y++(M++(X++S))))/\aa [g] w w':=by
 simp only [υ] at hn;have HL:=χ (ψ ha (ψ hb (ψ hm (ψ hXY hn))));have hbn:b+m<=n:=ω;have ham:a+m<=b:=ω;clear ha hb hn;have H0:=χ h;clear h
 go_enter Tryz.func116,Tryz.ntmps116
 go_wp2
 go_loopw [10] (fun iv wr=>∃k:Nat,k<=m/\iv=.int .i64 (k:Int)/\PR wr g (P++((Y.take k++X.drop k)++(M++((X.take k++Y.drop k)++S))))/\aa [g] w wr) (fun iv _=>m-(intOf iv).toNat)
 case atStart=>exact ⟨0,ω,rfl,by simpa using H0.out,aa.refl _ _⟩
 case round=>
  obtain ⟨k,hk,rfl,hP,hu⟩:=hrel;rename World=>wr
  by_cases QB:k<m
  ·have Da:(k:Int)<(m:Int):=ω;have hX:k<X.length:=by have:=HL.out;omega
   have hY:k<Y.length:=by have:=HL.out;omega
   obtain ⟨x,hx⟩:∃x,X.drop k=x::X.drop (k+1):=⟨X[k],ϡ hX⟩;obtain ⟨y,hy⟩:∃y,Y.drop k=y::Y.drop (k+1):=⟨Y[k],ϡ hY⟩;have hP':PR wr g ((P++Y.take k)++x::((X.drop (k+1)++(M++X.take k))++y::(Y.drop (k+1)++S))):=hP.len (by rw [hx,hy];simp);have i1:a+k=(P++Y.take k).length:=by have:=HL.out;simp;omega
   have i2:b+k=(P++Y.take k).length+((X.drop (k+1)++(M++X.take k)).length+1):=by have:=HL.out;simp;omega
   obtain ⟨⟨c0,c1⟩,c2,c3⟩:=hP'.mid i1 i2;have f0:=hP'.f ((a+k)*2);have f1:=hP'.f ((a+k)*2+1);have f2:=hP'.f ((b+k)*2);have f3:=hP'.f ((b+k)*2+1);have hgl:=hP'.lt;have g1:((a+k:Nat):Int)<(n:Int):=ω;have g2:((b+k:Nat):Int)<(n:Int):=ω;have w1:IntKind.i64.wrap ((a:Int)+(k:Int))=((a+k:Nat):Int):=by rw [Μ _ ω];omega
   have w2:IntKind.i64.wrap ((b:Int)+(k:Int))=((b+k:Nat):Int):=by rw [Μ _ ω];omega
   have hne:¬a+k=b+k:=ω;have HP:=χ hP';have HS:=χ (hP'.swap i1 i2);have HE:=χ (ψ hx hy);clear hP hP' hx hy i1 i2;generalize a+k=i at *;generalize b+k=j at *;go_wp2
   go_region
   all_goals
    go_wp2;refine ⟨⟨k+1,ω,by go_num,?_,β⟩,by simp [intOf];omega⟩;refine PR.len (o5 HS.out ?_).drew ?_
    ·first|exact Α rfl|exact Β rfl
    ·have hx:=HE.out.1;have hy:=HE.out.2;have e1:X.take (k+1)=X.take k++[x]:=by rw [ϐ];congr 1;have:=congrArg (fun l=>l[0]?) hx;simp at this;rw [this];rfl
     have e2:Y.take (k+1)=Y.take k++[y]:=by rw [ϐ];congr 1;have:=congrArg (fun l=>l[0]?) hy;simp at this;rw [this];rfl
     rw [e1,e2];simp
  ·have Da:¬ (k:Int)<(m:Int):=ω;have hkm':k=m:=ω
   have hf:PR wr g (P++(Y++(M++(X++S)))):=hP.len (by
    have h3:=HL.out;rw [List.take_of_length_le ω,List.drop_eq_nil_of_le ω,List.take_of_length_le ω,List.drop_eq_nil_of_le ω]
    simp)
   have HF:=χ hf;clear hf hP;go_wp2;go_end0;exact ⟨rfl,HF.out,hu⟩
def aF (w:World) (b:Nat) (e:TypeId) (m:Nat) (f:Nat->Value):Prop:=
 ∃arr:Array Value,w.heap[b]?=some (.cells arr e (0,0))/\arr.size=m/\∀j,j<m->arr[j]?=some (f j)
theorem aF.lt {w:World} {b m:Nat} {e:TypeId} {f:Nat->Value} (h:aF w b e m f):b<w.heap.size:=by
 obtain ⟨arr,h1,_⟩:=h;rcases ϗ b w.heap.size with h'|h'
 ·exact h'
 ·rw [Array.getElem?_eq_none h'] at h1;cases h1
theorem aF.cell {w:World} {b m:Nat} {e:TypeId} {f:Nat->Value} (h:aF w b e m f) (j:Nat) (hj:j<m):w.cell? ⟨b,j,none⟩=some (f j):=by
 obtain ⟨arr,h1,h2,h3⟩:=h;unfold World.cell?;simp only [h1];simpa using h3 j hj
theorem aF.cellAt {w:World} {b m:Nat} {e:TypeId} {f:Nat->Value} {v:Value} (h:aF w b e m f) (j:Nat) (hj:j<m) (hv:f j=v):w.cell? ⟨b,j,none⟩=some v:=by rw [←hv];exact h.cell j hj
theorem aF.free {w:World} {b m:Nat} {e:TypeId} {f:Nat->Value} (h:aF w b e m f) (j:Nat):w.frozen? ⟨b,j,none⟩=false:=by
 obtain ⟨arr,h1,h2,h3⟩:=h;simp [World.frozen?,h1]
theorem aF.same {w w':World} {b m:Nat} {e:TypeId} {f:Nat->Value} (h:aF w b e m f) (hb:w'.heap[b]?=w.heap[b]?):aF w' b e m f:=by
 obtain ⟨arr,h1,h2,h3⟩:=h;exact ⟨arr,hb.trans h1,h2,h3⟩
theorem aF.upd {w w':World} {S:List Nat} {b m:Nat} {e:TypeId} {f:Nat->Value} (h:aF w b e m f) (hu:aa S w w') (hn:b∉S):aF w' b e m f:=h.same (hu.block b h.lt hn)
theorem aF.ext {w:World} {b m:Nat} {e:TypeId} {f g:Nat->Value} (h:aF w b e m f) (hg:∀j,j<m->f j=g j):aF w b e m g:=by
 obtain ⟨arr,h1,h2,h3⟩:=h;exact ⟨arr,h1,h2,fun j hj=>by rw [h3 j hj,hg j hj]⟩
theorem aF.set {w:World} {b m:Nat} {e:TypeId} {f:Nat->Value} (h:aF w b e m f) (j:Nat) (v:Value) :
  aF (w.setCell ⟨b,j,none⟩ v) b e m (fun i=>if i=j then v else f i):=by
 obtain ⟨arr,h1,h2,h3⟩:=h;refine ⟨arr.setIfInBounds j v,?_,by simp [h2],fun i hi=>?_⟩
 ·simp [World.setCell,Array.getElem?_modify,h1]
 ·rw [Array.getElem?_setIfInBounds]
  by_cases hij:j=i
  ·subst hij;simp [h2,hi]
  ·rw [Γ hij];show _=some (if i=j then v else f i);rw [Γ (fun e=>hij e.symm)];exact h3 i hi
theorem aF.far {w:World} {b m:Nat} {e:TypeId} {f:Nat->Value} (h:aF w b e m f) (a:Addr) (v:Value) (hn:b≠a.block):aF (w.setCell a v) b e m f:=
 h.same (Below.heap_setCell _ _ _ _ hn)
theorem aF.drew {w:World} {b m:Nat} {e:TypeId} {f:Nat->Value} (h:aF w b e m f):aF w.drew b e m f:=h
theorem aF.alloc {w:World} {b m:Nat} {e:TypeId} {f:Nat->Value} (h:aF w b e m f) (o:Obj):aF (w.alloc o) b e m f:=h.same (Below.heap_alloc _ _ _ h.lt)
theorem dC (w:World) (l:List Value) (e:TypeId):aF (w.alloc (.cells l.toArray e)) w.heap.size e l.length (fun j=>l.getD j undef):=by
 refine ⟨l.toArray,?_,σ,fun j hj=>?_⟩
 ·show (w.heap.push _)[w.heap.size]?=_;simp
 ·simp [hj,φ]
theorem GI {w:World} {base size n cap g:Nat} {e:TypeId} {xs:List Value} (h:w.ownsRow base e size (.slice (some ⟨g,0,none⟩) n cap) n xs) (hcap:cap=n) (hn:n=0->xs=[]) :
  aF w g e (n*size) (fun j=>xs.getD j undef):=by
 subst hcap;rcases h.2 with ⟨h1,h0⟩|⟨g',cap',cur,h1,_,hg,_,_,hs,ht⟩
 ·cases h1
 ·simp only [Value.slice.injEq,Ϙ,Addr.mk.injEq,and_true,true_and] at h1;obtain ⟨rfl,rfl⟩:=h1;refine ⟨cur,hg,hs,fun j hj=>?_⟩;have e1:cur.toList=xs:=by rw [←ht,List.take_of_length_le (by simp [hs])]
  rw [←e1];have hj':j<cur.toList.length:=by simp [hs];exact hj
  simp [φ];rw [Array.getElem?_eq_getElem (by simpa using hj')];rfl
theorem wpList_make_row {P:Program} {w:World} {ops:Array Oper} {rest:List Oper} {o:Oper} {a:Act} {Q:Exit->Act->World->Prop}
  (hg:o.guard=none) (l:Operand) (t:TypeId) (hop:o.op=Op.makeSlice t l l) (e:TypeId) (z:Value) (size bytes:Nat) (h1:P.underlying t=some (.slice e))
  (hinfo:(P.info? e).map (fun i=>(i.zero,i.size,i.bytes))=some (some z,size,bytes)) (n:Nat) (hl:a.eval l=.int .i64 (n:Int)) (b2:bytes*n<=281474976710656) (b3:n<=maxLen)
  (hK:∀w',aF w' w.heap.size e (n*size) (fun j=>(madeCells z.cells (n*size)).toList.getD j undef)->aa [] w w'->wpList P ops Q rest (a.put o.dst (.slice (some ⟨w.heap.size,0,none⟩) n n)) w') :
  wpList P ops Q (o::rest) a w:=by
 obtain ⟨i,hi,hz0,hz1,hz2⟩:=info_parts hinfo
 exact wpList_make_full w hg l l t hop w.heap.size e i z size h1 hi hz0 hz1 .i64 .i64 n n n hl hl rfl rfl (by rw [hz2];exact b2) b3 (Θ _) (fun w' ho hgr=>
  hK w' (GI ho rfl (fun h0=>Ϟ (by rw [ho.1,h0,Nat.zero_mul]))) ((aa.refl [] w).grown hgr (fun k hk=>by cases hk)))
def jI (w:World) (lo:Nat) (v:Value) (n:Nat) (xs:List Value):Prop:=
 (v=.slice none 0 0/\n=0/\xs=[])\/
 ∃g cap,v=.slice (some ⟨g,0,none⟩) n cap/\n<=cap/\cap<=9223372036854775807/\lo<=g/\g<w.heap.size/\∀j u,xs[j]?=some u->w.cell? ⟨g,j,none⟩=some u
theorem jI.open {w:World} {lo n:Nat} {v:Value} {xs:List Value} (h:jI w lo v n xs) :
  ∃a cap,v=.slice a n cap/\cap<=9223372036854775807/\n<=cap/\(0<n->∃g,a=some ⟨g,0,none⟩/\lo<=g/\g<w.heap.size/\∀j u,xs[j]?=some u->w.cell? ⟨g,j,none⟩=some u):=by
 rcases h with ⟨rfl,rfl,rfl⟩|⟨g,cap,rfl,h1,h2,h3⟩
 ·exact ⟨none,0,rfl,ω,ω,fun h=>ω⟩
 ·exact ⟨_,cap,rfl,h2,h1,fun _=>⟨g,rfl,h3⟩⟩
theorem jI.IU {w:World} {base size n:Nat} {e:TypeId} {v:Value} {xs:List Value} (h:w.ownsRow base e size v n xs):jI w base v n xs:=by
 rcases h.2 with ⟨rfl,rfl⟩|⟨g,cap,cur,rfl,hb,hg,hn,hc,_⟩
 ·exact Α ⟨rfl,rfl,Ϟ (by rw [h.1,Nat.zero_mul])⟩
 ·refine Β ⟨g,cap,rfl,hn,by unfold maxLen at hc;exact hc,hb,(h.lt g rfl).2,fun j u hj=>?_⟩;have hlt:j<xs.length:=by
   rcases ϗ j xs.length with h'|h'
   ·exact h'
   ·rw [List.getElem?_eq_none h'] at hj;cases hj
  rw [h.cellAt j (by rw [←h.1];exact hlt)];exact hj
theorem jI.upd {w w':World} {S:List Nat} {lo n:Nat} {v:Value} {xs:List Value} (h:jI w lo v n xs) (hu:aa S w w') (hS:∀k,k∈S->k<lo\/w.heap.size<=k):jI w' lo v n xs:=by
 rcases h with h|⟨g,cap,rfl,h1,h2,h3,h4,h5⟩
 ·exact Α h
 ·exact Β ⟨g,cap,rfl,h1,h2,h3,Ψ h4 hu.size,fun j u hj=>by rw [hu.cell h4 (fun hm=>by rcases hS _ hm with h'|h'<;>simp at *<;>omega)];exact h5 j u hj⟩
theorem jI.mono {w:World} {lo lo' n:Nat} {v:Value} {xs:List Value} (h:jI w lo v n xs) (hl:lo'<=lo):jI w lo' v n xs:=by
 rcases h with h|⟨g,cap,rfl,h1,h2,h3,h4⟩
 ·exact Α h
 ·exact Β ⟨g,cap,rfl,h1,h2,Χ hl h3,h4⟩
theorem zD {P:Program} {o:Oper} {a:Act} {w:World} {K:Act->World->Prop} {Q:Exit->Act->World->Prop} (s x:Operand) (t:TypeId)
  (ho:o.op=.call { callee:=.builtin .append,args:=#[s,x],argTypes:=#[t,t] })
  (base:Nat) (e:TypeId) (z:Value) (size bytes:Nat) (ht:P.underlying t=some (.slice e)) (hinfo:(P.info? e).map (fun i=>(i.zero,i.size,i.bytes))=some (some z,size,bytes))
  (hzs:z.cells.size=size) (hsz:0<size) (v:Value) (n:Nat) (xs:List Value) (hs:a.eval s=v) (hown:w.ownsRow base e size v n xs)
  (lo m:Nat) (news:List Value) (v2:Value) (hx:a.eval x=v2) (hl:jI w lo v2 m news) (hlen:news.length=m*size) (h1:∀u∈news,u.oneCell'=true)
  (hn:n+m<=maxLen) (hbytes:(n+m)*bytes<=140737488355328) (hbase:base<=w.heap.size)
  (h:∀v' w',w'.ownsRow base e size v' (n+m) (xs++news)->aa v.ownBlock.toList w w'->K (a.put o.dst v') w'):o.wp P a w K Q:=by
 obtain ⟨i,hi,hz0,hz1,hz2⟩:=info_parts hinfo;rcases hl with ⟨rfl,rfl,rfl⟩|⟨g,cap,rfl,h2,h3,h4,h5,h6⟩
 ·have hrun:=run_append_owned_none (P:=P) (w:=w) base t o.type e i size ht hi v n xs hown;unfold Oper.wp;simp [execOp,ho,resolve,invoke,builtin,hs,hx,hrun,Result.andThen];exact h v w (by simpa using hown) (aa.refl _ _)
 ·refine wp_append_own w s x t ho base e i z size bytes ht hi hz0 hz1 hz2 hzs hsz v n xs hs hown ⟨g,0,none⟩ m cap news hx hlen (fun j u hj=>?_) h1 hn hbytes hbase (fun v' w' h1 h2 _=>h v' w' h1 ((aa.refl _ _).grown h2 (fun k hk=>Α (by simp [hk]))));have e1:((⟨g,0,none⟩:Addr).add j)=⟨g,j,none⟩:=by
   unfold Addr.add;split
   ·subst_vars;rfl
   ·simp
  rw [e1];exact h6 j u hj
theorem uR {P:Program} {ops:Array Oper} {rest:List Oper} {o:Oper} {a:Act} {w:World} {Q:Exit->Act->World->Prop} (hgd:o.guard=none) (s x:Operand) (t:TypeId)
  (ho:o.op=.call { callee:=.builtin .append,args:=#[s,x],argTypes:=#[t,t] })
  (base:Nat) (e:TypeId) (z:Value) (size bytes:Nat) (ht:P.underlying t=some (.slice e)) (hinfo:(P.info? e).map (fun i=>(i.zero,i.size,i.bytes))=some (some z,size,bytes))
  (hzs:z.cells.size=size) (hsz:0<size) (v:Value) (n:Nat) (xs:List Value) (hs:a.eval s=v) (hown:w.ownsRow base e size v n xs)
  (lo m:Nat) (news:List Value) (v2:Value) (hx:a.eval x=v2) (hl:jI w lo v2 m news) (hlen:news.length=m*size) (h1:∀u∈news,u.oneCell'=true)
  (hn:n+m<=maxLen) (hbytes:(n+m)*bytes<=140737488355328) (hbase:base<=w.heap.size)
  (h:∀v' w',w'.ownsRow base e size v' (n+m) (xs++news)->aa v.ownBlock.toList w w'->wpList P ops Q rest (a.put o.dst v') w'):wpList P ops Q (o::rest) a w:=
 wpList_plain hgd fun _ hK=>zD s x t ho base e z size bytes ht hinfo hzs hsz v n xs hs hown lo m news v2 hx hl hlen h1 hn hbytes hbase fun v' w' h2 h3=>hK _ _ (h v' w' h2 h3)
def cv (w:World) (a:Addr):Value:=(w.cell? a).getD undef
theorem vR (g j:Nat):((⟨g,0,none⟩:Addr).add j)=⟨g,j,none⟩:=by
 unfold Addr.add;split
 ·subst_vars;rfl
 ·simp
theorem lM (W:World) (us:List Value) (e:TypeId) (j:Nat) (u:Value) (hj:us[j]?=some u):(W.alloc (.cells us.toArray e)).cell? ⟨W.heap.size,j,none⟩=some u:=by
 rw [←vR];exact Jm W us e j u hj
theorem zA {P:Program} {o:Oper} {a:Act} {w:World} {K:Act->World->Prop} {Q:Exit->Act->World->Prop} (s x:Operand) (t:TypeId)
  (ho:o.op=.call { callee:=.builtin .append,args:=#[s,x],argTypes:=#[t,t] })
  (base:Nat) (e:TypeId) (z:Value) (size bytes:Nat) (ht:P.underlying t=some (.slice e)) (hinfo:(P.info? e).map (fun i=>(i.zero,i.size,i.bytes))=some (some z,size,bytes))
  (hzs:z.cells.size=size) (hsz:0<size) (v:Value) (n:Nat) (xs:List Value) (hs:a.eval s=v) (hown:w.ownsRow base e size v n xs)
  (g:Nat) (news:List Value) (hx:a.eval x=.slice (some ⟨g,0,none⟩) 1 1) (hl:news.length=size) (hnews:∀j u,news[j]?=some u->w.cell? ⟨g,j,none⟩=some u) (h1:∀u∈news,u.oneCell'=true)
  (hn:n+1<=maxLen) (hbytes:(n+1)*bytes<=140737488355328) (hbase:base<=w.heap.size)
  (h:∀v' w',w'.ownsRow base e size v' (n+1) (xs++news)->aa v.ownBlock.toList w w'->(v'.ownBlock=v.ownBlock\/v'.ownBlock=some w.heap.size)->K (a.put o.dst v') w'):Oper.wp P o a w K Q:=by
 obtain ⟨i,hi,hz0,hz1,hz2⟩:=info_parts hinfo;obtain ⟨v',w',hr,h2,h3,_,h5⟩:=run_append_own_at (P:=P) w base t o.type e i z size bytes ht hi hz0 hz1 hz2 hzs hsz v n xs hown ⟨g,0,none⟩ 1 1 news (by rw [hl,Nat.one_mul]) (fun j u hj=>by rw [vR];exact hnews j u hj) h1 hn hbytes hbase;unfold Oper.wp execOp;simp only [ho,resolve,invoke,builtin,Sem.run_bind,Sem.run_pure,Result.andThen_ok,List.map_toArray,List.map_cons,List.map_nil,hs,hx,hr];exact h _ _ h2 ((aa.refl _ _).grown h3 (fun k hk=>Α (by simp [hk]))) h5
theorem lg {P:Program} {ops:Array Oper} {o:Oper} {a:Act} {w:World} {K:Act->World->Prop} {Q:Exit->Act->World->Prop} {E:Prop} (hgd:o.guard=none) (s x:Operand) (t:TypeId)
  (ho:o.op=.call { callee:=.builtin .append,args:=#[s,x],argTypes:=#[t,t] })
  (base:Nat) (e:TypeId) (z:Value) (size bytes:Nat) (ht:P.underlying t=some (.slice e)) (hinfo:(P.info? e).map (fun i=>(i.zero,i.size,i.bytes))=some (some z,size,bytes))
  (hzs:z.cells.size=size) (hsz:0<size) (v:Value) (n:Nat) (xs:List Value) (hs:a.eval s=v) (hown:w.ownsRow base e size v n xs)
  (g:Nat) (news:List Value) (hx:a.eval x=.slice (some ⟨g,0,none⟩) 1 1) (hl:news.length=size) (hnews:∀j u,news[j]?=some u->w.cell? ⟨g,j,none⟩=some u) (h1:∀u∈news,u.oneCell'=true)
  (hn:n+1<=maxLen) (hbytes:(n+1)*bytes<=140737488355328) (hbase:base<=w.heap.size)
  (h:∀v' w',w'.ownsRow base e size v' (n+1) (xs++news)->aa v.ownBlock.toList w w'->(v'.ownBlock=v.ownBlock\/v'.ownBlock=some w.heap.size)->K (a.put o.dst v') w') :
  if Region.wanted o (yielded ops a.tmps)=true then Oper.wp P o a w K Q else E:=by
 have hw:Region.wanted o (yielded ops a.tmps)=true:=by simp [Region.wanted,hgd]
 rw [Δ hw];exact zA s x t ho base e z size bytes ht hinfo hzs hsz v n xs hs hown g news hx hl hnews h1 hn hbytes hbase h
theorem OL:(Tryz.prog.info? 53).map (fun i=>(i.zero,i.size,i.bytes))=some (some (.agg #[.int .i64 0,.int .i64 0]),2,16):=by kernel_rfl
def rD:List Pl->List Value
 | []=>[]
 | p::l=>.int .i64 (p.1:Int)::.int .i64 (p.2:Int)::rD l
theorem qI:∀l:List Pl,(rD l).length=l.length*2
 | []=>rfl
 | p::l=>by simp [rD,qI l];omega
theorem tZ:∀ (l m:List Pl),rD (l++m)=rD l++rD m
 | [],_=>rfl
 | p::l,m=>by simp [rD,tZ l m]
theorem Ir:∀ (l:List Pl) (u:Value),u∈rD l->u.oneCell'=true
 | [],u,h=>by cases h
 | p::l,u,h=>by
  simp only [rD,ρ] at h;rcases h with rfl|rfl|h
  ·rfl
  ·rfl
  ·exact Ir l u h
theorem uO:∀ (l:List Pl) (j:Nat) (p:Pl),l[j]?=some p->(rD l)[j*2]?=some (.int .i64 (p.1:Int))/\(rD l)[j*2+1]?=some (.int .i64 (p.2:Int))
 | [],j,e,h=>by simp at h
 | x::l,0,e,h=>by
  simp at h;subst h;exact ⟨rfl,rfl⟩
 | x::l,j+1,e,h=>by
  have h':=uO l j e (by simpa using h);rw [show (j+1)*2=j*2+1+1 by omega];exact h'
theorem Dv {w:World} {g:Nat}:∀ (l:List Pl) (off:Nat),(∀j p,l[j]?=some p->w.cell? ⟨g,off+j*2,none⟩=some (.int .i64 (p.1:Int))/\w.cell? ⟨g,off+j*2+1,none⟩=some (.int .i64 (p.2:Int)))->
  ∀j u,(rD l)[j]?=some u->w.cell? ⟨g,off+j,none⟩=some u
 | [],off,_,j,u,h=>by simp [rD] at h
 | p::l,off,hc,j,u,h=>by
  have h0:=hc 0 p rfl;simp only [Nat.zero_mul,ϖ] at h0
  match j,h with
  | 0,h=>simp [rD] at h;subst h;exact h0.1
  | 1,h=>simp [rD] at h;subst h;exact h0.2
  | j+2,h=>
   have h':(rD l)[j]?=some u:=by simpa [rD] using h
   have:=Dv l (off+2) (fun k x hk=>by
    have:=hc (k+1) x (by simpa using hk);rw [show off+2+k*2=off+(k+1)*2 by omega]
    exact this) j u h'
   rw [show off+(j+2)=off+2+j by omega];exact this
theorem PR.fE {w:World} {base n:Nat} {v:Value} {l:List Pl} (h:w.ownsRow base 53 2 v n (rD l)) (hs:∀p,p∈l->p.1<1000000/\p.2<1000000) (hn:0<n):∃g cap,v=.slice (some ⟨g,0,none⟩) n cap/\base<=g/\l.length=n/\n<=cap/\cap<=9223372036854775807/\PR w g l:=by
 have hl:l.length=n:=by have:=h.1;rw [qI] at this;omega
 rcases h.2 with ⟨rfl,h0⟩|⟨g,cap,cur,rfl,hb,hg,hnc,hc,_⟩
 ·omega
 ·have hlt:=(h.lt g rfl).2;unfold maxLen at hc;have hfz:∀k,w.frozen? ⟨g,k,none⟩=false:=fun k=>by
   unfold World.frozen?;simp only [hg];simp
  refine ⟨g,cap,rfl,hb,hl,hnc,ω,hlt,fun j p hj=>?_,fun j p hj=>?_,hfz,hs⟩
  ·have hjl:=(List.getElem?_eq_some_iff.1 hj).1;rw [h.cellAt (j*2) ω];exact (uO l j p hj).1
  ·have hjl:=(List.getElem?_eq_some_iff.1 hj).1;rw [h.cellAt (j*2+1) ω];exact (uO l j p hj).2
theorem PR.news {w:World} {g:Nat} {l:List Pl} (h:PR w g l):∀j u,(rD l)[j]?=some u->w.cell? ((⟨g,0,none⟩:Addr).add j)=some u:=fun j u hj=>by
 have:=Dv (w:=w) (g:=g) l 0 (fun k p hk=>by rw [ϕ];exact ⟨h.a k p hk,h.b k p hk⟩) j u hj;rw [Addr.add_lit];exact this
theorem vv {ops:Array Oper} {rest:List Oper} {o:Oper} {a:Act} {w:World} {Q:Exit->Act->World->Prop} (hgd:o.guard=none) (s x:Operand)
  (ho:o.op=.call { callee:=.builtin .append,args:=#[s,x],argTypes:=#[42,42] })
  (base:Nat) (v:Value) (n:Nat) (l:List Pl) (hs:a.eval s=v) (hown:w.ownsRow base 53 2 v n (rD l))
  (g m c:Nat) (C:List Pl) (hx:a.eval x=.slice (some ⟨g,0,none⟩) m c) (hC:C.length=m) (hP:PR w g C) (hm:0<m) (hn:n+m<=1000000) (hbase:base<=w.heap.size)
  (h:∀g' cap w',w'.ownsRow base 53 2 (.slice (some ⟨g',0,none⟩) (n+m) cap) (n+m) (rD (l++C))->aa v.ownBlock.toList w w'->(v.ownBlock=some g'\/g'=w.heap.size)->wpList Tryz.prog ops Q rest (a.put o.dst (.slice (some ⟨g',0,none⟩) (n+m) cap)) w') :
  wpList Tryz.prog ops Q (o::rest) a w:=by
 obtain ⟨i,hi,hz0,hz1,hz2⟩:=info_parts OL;refine wpList_append_lies w hgd s x 42 ho base 53 i _ 2 16 Tryz.underlying42 hi hz0 hz1 hz2 rfl δ v n (rD l) hs hown ⟨g,0,none⟩ m c (rD C) hx (by rw [qI,hC]) hP.news (Ir C) hm μ ω hbase w.heap.size rfl ?_;intro g' cap w' h1 h2 h3 _;exact h g' cap w' (by rw [tZ];exact h1) ((aa.refl _ _).grown h2 (fun k hk=>Α (by simp [hk]))) h3
end Go.Proofs.YtklibcncmbofpaaGreat
namespace Go.Proofs.YtklibcncmbofpaaGreat
structure Cl where
 i:Int
 k:Int
 s:Int
instance:Inhabited Cl:=⟨⟨0,0,0⟩⟩
def Cl.z:Cl:=⟨0,0,0⟩
structure NS where
 hs:List Bool
 cs:List Cl
def NS.c (A:NS) (x:Nat):Cl:=A.cs.getD x Cl.z
def NS.new (n:Nat):NS:=⟨[false],List.replicate n Cl.z⟩
def bf (A:NS) (h:Int):Bool:=decide (1<=h) && decide (h<A.hs.length) && A.hs.getD h.toNat false
def uG (A:NS) (x:Int):Bool:=decide (0<=x) && decide (x<A.cs.length)
def bP (A:NS) (x:Int):Bool:=uG A x && decide (0<(A.c x.toNat).i)
def gT (A:NS) (x:Nat) (c:Cl):NS:=⟨A.hs,A.cs.set x c⟩
def Ju (k1 s1 k2 s2:Int):Bool:=if k1=k2 then decide (s1<s2) else decide (k1<k2)
def bR (A:NS):Int:=if 65536<A.hs.length then 0 else A.hs.length
def aD (A:NS):NS:=if 65536<A.hs.length then A else ⟨A.hs++[true],A.cs⟩
def iX (A:NS) (h x:Int):Bool:=bf A h && uG A x && !bP A x
def au (A:NS) (h x k s:Int):NS:=if iX A h x then gT A x.toNat ⟨h,k,s⟩ else A
def aL (A:NS) (x:Int):NS:=if bP A x then gT A x.toNat Cl.z else A
def CR (A:NS) (x k s:Int):Bool:=bP A x && !Ju (A.c x.toNat).k (A.c x.toNat).s k s
def jo (A:NS) (x k s:Int):NS:=if CR A x k s then gT A x.toNat ⟨(A.c x.toNat).i,k,s⟩ else A
def Hl (cs:List Cl) (h:Int):Nat:=(cs.filter fun c=>decide (c.i=h) && decide (0<h)).length
def dA (A:NS) (h:Int):Nat:=Hl A.cs h
def eB (A:NS) (a b:Nat):Prop:=(A.c a).k<(A.c b).k\/(A.c a).k=(A.c b).k/\((A.c a).s<(A.c b).s\/(A.c a).s=(A.c b).s/\a<b)
instance (A:NS) (a b:Nat):Decidable (eB A a b):=by unfold eB;infer_instance
def bI (A:NS) (a b:Int):Bool:=bP A a && bP A b && decide (eB A a.toNat b.toNat)
def GG (A:NS) (h:Int) (b:Option Nat) (x:Nat):Option Nat:=if decide (0<h) && decide ((A.c x).i=h) && (match b with|none=>true|some y=>bI A x y) then some x else b
def bu (A:NS) (h:Int):Option Nat:=(List.range A.cs.length).foldl (GG A h) none
def nL (o:Option Nat):Int:=match o with|some x=>(x:Int)|none=>0
structure NS.Ok (A:NS):Prop where
 h0:1<=A.hs.length
 h1:A.hs.length<=65537
 h2:A.hs.getD 0 false=false
 c1:A.cs.length<=65536
 cell:∀x,x<A.cs.length->((A.c x).i=0/\(A.c x).k=0/\(A.c x).s=0)\/bf A (A.c x).i=true
 key:∀x, -9223372036854775808<=(A.c x).k/\(A.c x).k<=9223372036854775807/\0<=(A.c x).s/\(A.c x).s<=18446744073709551615
theorem aK (A:NS) (h:Int):bf A h=true↔1<=h/\h<A.hs.length/\A.hs.getD h.toNat false=true:=by
 unfold bf;simp [and_assoc]
theorem dB (A:NS) (x:Int):uG A x=true↔0<=x/\x<A.cs.length:=by unfold uG;simp
theorem wP (A:NS) (x:Int):bP A x=true↔0<=x/\x<A.cs.length/\0<(A.c x.toNat).i:=by unfold bP uG;simp [and_assoc]
theorem aj (A:NS) (x:Nat):bP A (x:Int)=true↔x<A.cs.length/\0<(A.c x).i:=by rw [wP];simp
theorem NS.Ok.nat {A:NS} (h:A.Ok) (x:Nat) (hx:x<A.cs.length):0<=(A.c x).i/\(A.c x).i<A.hs.length:=by
 rcases h.cell x hx with h'|h'
 ·have:=h.h0;omega
 ·have:=(aK _ _).1 h';omega
theorem iy (A:NS) (x:Nat) (c:Cl) (y:Nat):(gT A x c).c y=if y=x/\x<A.cs.length then c else A.c y:=by
 unfold gT NS.c;simp only [φ,ύ]
 by_cases h:x=y
 ·subst h
  by_cases hx:x<A.cs.length
  ·simp [hx]
  ·simp [hx,List.getElem?_eq_none (Nat.le_of_not_lt hx)]
 ·rw [Γ h,Γ (fun e=>h e.1.symm)]
theorem dK (A:NS) (x:Nat) (c:Cl):(gT A x c).cs.length=A.cs.length:=by unfold gT;simp
theorem Ol (A:NS) (x:Nat) (c:Cl) (h:Int):bf (gT A x c) h=bf A h:=rfl
theorem NS.Ok.with {A:NS} (h:A.Ok) (x:Nat) (c:Cl) (hc:(c.i=0/\c.k=0/\c.s=0)\/bf A c.i=true) (hk:-9223372036854775808<=c.k/\c.k<=9223372036854775807/\0<=c.s/\c.s<=18446744073709551615):(gT A x c).Ok:=by
 refine ⟨h.h0,h.h1,h.h2,by rw [dK];exact h.c1,fun y hy=>?_,fun y=>?_⟩
 ·rw [dK] at hy;rw [iy,Ol]
  split
  ·exact hc
  ·exact h.cell y hy
 ·rw [iy];split
  ·exact hk
  ·exact h.key y
theorem NS.vX (n x:Nat):(NS.new n).c x=Cl.z:=by
 unfold NS.new NS.c;rw [φ,List.getElem?_replicate];split<;>rfl
theorem NS.mg (n:Nat) (hn:n<=65536):(NS.new n).Ok:=by
 refine ⟨by simp [NS.new],by simp [NS.new],rfl,by simp [NS.new];exact hn,fun x _=>Α ?_,fun x=>?_⟩
 ·rw [NS.vX];exact ⟨rfl,rfl,rfl⟩
 ·rw [NS.vX];exact ⟨δ,δ,δ,δ⟩
theorem p9 {A:NS} (h:A.Ok):(aD A).Ok:=by
 unfold aD;split
 ·exact h
 ·rename_i hl
  have h0:=h.h0;refine ⟨σ,ζ,?_,h.c1,fun x hx=>?_,h.key⟩
  ·have:=h.h2;simp only [φ] at this ⊢;rw [Ρ ω];exact this
  ·rcases h.cell x hx with h'|h'
   ·exact Α h'
   ·refine Β ?_;have h2:=(aK _ _).1 h';refine (aK _ _).2 ⟨h2.1,by show (A.c x).i<((A.hs++[true]).length:Int);rw [υ];have:=h2.2.1;omega,?_⟩;have h3:=h2.2.2;simp only [φ] at h3 ⊢;rw [Ρ (by show (A.c x).i.toNat<A.hs.length;omega)];exact h3
theorem bV (A:NS) (h x:Int):iX A h x=true↔bf A h=true/\uG A x=true/\bP A x=false:=by unfold iX;simp [and_assoc]
theorem qR {A:NS} (h:A.Ok) (g x k s:Int) (hk:-9223372036854775808<=k/\k<=9223372036854775807/\0<=s/\s<=18446744073709551615):(au A g x k s).Ok:=by
 unfold au;split
 ·rename_i hp
  exact h.with _ _ (Β ((bV _ _ _).1 hp).1) hk
 ·exact h
theorem tV {A:NS} (h:A.Ok) (x:Int):(aL A x).Ok:=by
 unfold aL;split
 ·exact h.with _ _ (Α ⟨rfl,rfl,rfl⟩) ⟨δ,δ,δ,δ⟩
 ·exact h
theorem iH {A:NS} (h:A.Ok) {x:Int} (hx:bP A x=true):bf A (A.c x.toNat).i=true:=by
 have h1:=(wP _ _).1 hx;rcases h.cell x.toNat ω with h'|h'
 ·omega
 ·exact h'
theorem Tm {A:NS} (h:A.Ok) (x k s:Int) (hk:-9223372036854775808<=k/\k<=9223372036854775807/\0<=s/\s<=18446744073709551615):(jo A x k s).Ok:=by
 unfold jo;split
 ·rename_i hp
  unfold CR at hp;simp only [Τ] at hp;exact h.with _ _ (Β (iH h hp.1)) hk
 ·exact h
/-! ### how many are in a heap -/
theorem RX (cs:List Cl) (h:Int):Hl cs h<=cs.length:=List.length_filter_le _ _
theorem M7 (cs:List Cl) (x:Nat) (c:Cl) (h:Int) (hx:x<cs.length) :
  Hl (cs.set x c) h+(if (cs.getD x Cl.z).i=h/\0<h then 1 else 0)=Hl cs h+(if c.i=h/\0<h then 1 else 0):=by
 unfold Hl
 induction cs generalizing x with
 | nil=>simp at hx
 | cons d r ih=>
  cases x with
  | zero=>
   simp only [List.set_cons_zero,List.filter_cons,List.getD_cons_zero];have e1:∀c:Cl,(decide (c.i=h) && decide (0<h))=decide (c.i=h/\0<h):=fun c=>by by_cases a:c.i=h<;>by_cases b:0<h<;>simp [a,b]
   have e2:∀ (p:Prop) [Decidable p] (d:Cl) (l:List Cl),(if decide p=true then d::l else l).length=l.length+(if p then 1 else 0):=fun p _ d l=>by by_cases hp:p<;>simp [hp]
   simp only [e1,e2];omega
  | succ x=>
   have:=ih x (by simpa using hx);simp only [List.set_cons_succ,List.filter_cons,List.getD_cons_succ]
   split<;>simp at this ⊢<;>omega
theorem nS (A:NS) (x:Nat) (c:Cl) (h:Int) (hx:x<A.cs.length) :
  dA (gT A x c) h+(if (A.c x).i=h/\0<h then 1 else 0)=dA A h+(if c.i=h/\0<h then 1 else 0):=M7 A.cs x c h hx
theorem NI {cs:List Cl} {h:Int}:0<Hl cs h↔∃x,x<cs.length/\(cs.getD x Cl.z).i=h/\0<h:=by
 unfold Hl;rw [List.length_pos_iff_exists_mem];constructor
 ·rintro ⟨c,hc⟩;obtain ⟨hm,hp⟩:=List.mem_filter.1 hc;obtain ⟨x,hx,rfl⟩:=List.mem_iff_getElem.1 hm;simp only [Τ,Ο] at hp;exact ⟨x,hx,by simpa [φ,hx] using hp.1,hp.2⟩
 ·rintro ⟨x,hx,h1,h2⟩;refine ⟨cs[x],List.mem_filter.2 ⟨ϛ hx,?_⟩⟩;simp only [φ,ε hx,Option.getD_some] at h1;simp [h1,h2]
theorem dL {A:NS} {h:Int}:0<dA A h↔∃x,x<A.cs.length/\(A.c x).i=h/\0<h:=NI
theorem Cf {A:NS} (hA:A.Ok) (h:Int):dA A h<=65536:=Χ (RX _ _) hA.c1
theorem KI {A:NS} (hA:A.Ok) {h:Int} (hh:bf A h=false):dA A h=0:=by
 rcases Nat.eq_zero_or_pos (dA A h) with h'|h'
 ·exact h'
 ·obtain ⟨x,hx,h1,h2⟩:=dL.1 h';rcases hA.cell x hx with h3|h3
  ·omega
  ·rw [h1,hh] at h3;cases h3
theorem Kc {A:NS} (h:Int):dA (aD A) h=dA A h:=by unfold aD;split<;>rfl
/-! ### the order of slots -/
theorem dE {A:NS} {a b c:Nat} (h:eB A a b) (h':eB A b c):eB A a c:=by unfold eB at *;omega
theorem JI {A:NS} {a:Nat}:¬eB A a a:=by unfold eB;omega
theorem jM {A:NS} {a b:Nat} (h:a≠b):eB A a b\/eB A b a:=by unfold eB;omega
theorem pQ {A:NS} {a b:Nat} (h:eB A a b):¬eB A b a:=fun h'=>JI (dE h h')
theorem jO (A:NS) (a b:Nat):bI A (a:Int) (b:Int)=(bP A a && bP A b && decide (eB A a b)):=by unfold bI;simp
def NB (A:NS) (h:Int) (l:List Nat) (m:Nat):Prop:=m∈l/\(A.c m).i=h/\∀y,y∈l->(A.c y).i=h->y=m\/eB A m y
theorem vM (A:NS) (h:Int) (hh:0<h):∀ (l:List Nat),(∀x∈l,x<A.cs.length)->∀ (pre:List Nat),(∀x∈pre,x<A.cs.length)->∀o:Option Nat,
  (match o with|some m=>NB A h pre m|none=>∀y∈pre,(A.c y).i≠h)->
  (match l.foldl (GG A h) o with|some m=>NB A h (pre++l) m|none=>∀y∈pre++l,(A.c y).i≠h)
 | [],_,pre,_,o,ho=>by simpa using ho
 | x::l,hl,pre,hp,o,ho=>by
  have hx:=hl x σ;have step:(match GG A h o x with|some m=>NB A h (pre++[x]) m|none=>∀y∈pre++[x],(A.c y).i≠h):=by
   unfold GG
   by_cases hi:(A.c x).i=h
   ·cases o with
    | none=>
     simp only at ho;simp only [hi,hh,decide_true,Bool.and_self,if_true];refine ⟨σ,hi,fun y hy he=>?_⟩;rcases τ.1 hy with hy|hy
     ·exact absurd he (ho y hy)
     ·exact Α (by simpa using hy)
    | some m=>
     simp only at ho;obtain ⟨h1,h2,h3⟩:=ho;have hm:=hp m h1;have hin:bP A (x:Int)=true:=(aj A x).2 ⟨hx,ω⟩;have him:bP A (m:Int)=true:=(aj A m).2 ⟨hm,ω⟩;simp only [hi,hh,decide_true,Bool.and_self,Bool.true_and,jO,hin,him,Ο]
     by_cases hlt:eB A x m
     ·rw [Δ hlt];refine ⟨σ,hi,fun y hy he=>?_⟩;rcases τ.1 hy with hy|hy
      ·rcases h3 y hy he with rfl|h4
       ·exact Β hlt
       ·exact Β (dE hlt h4)
      ·exact Α (by simpa using hy)
     ·rw [Γ hlt];refine ⟨by simp [h1],h2,fun y hy he=>?_⟩;rcases τ.1 hy with hy|hy
      ·exact h3 y hy he
      ·simp at hy;subst hy
       by_cases e:y=m
       ·exact Α e
       ·rcases jM (A:=A) e with h4|h4
        ·exact absurd h4 hlt
        ·exact Β h4
   ·simp only [hi,decide_false,Bool.and_false,Bool.false_and,Ϥ,if_false];cases o with
    | none=>
     simp only at ho ⊢;intro y hy;rcases τ.1 hy with hy|hy
     ·exact ho y hy
     ·simp at hy;subst hy;exact hi
    | some m=>
     simp only at ho ⊢;obtain ⟨h1,h2,h3⟩:=ho;refine ⟨by simp [h1],h2,fun y hy he=>?_⟩;rcases τ.1 hy with hy|hy
     ·exact h3 y hy he
     ·simp at hy;subst hy;exact absurd he hi
  have:=vM A h hh l (fun y hy=>hl y (by simp [hy])) (pre++[x]) (fun y hy=>by rcases τ.1 hy with hy|hy;exact hp y hy;simp at hy;subst hy;exact hx) _ step;simpa using this
def QS (A:NS) (h:Int) (m:Nat):Prop:=m<A.cs.length/\(A.c m).i=h/\∀y,y<A.cs.length->(A.c y).i=h->y=m\/eB A m y
theorem dD {A:NS} {h:Int} (hh:0<h) {m:Nat}:bu A h=some m↔QS A h m:=by
 have:=vM A h hh (List.range A.cs.length) (fun x hx=>by simpa using hx) [] σ none σ;simp only [ϟ] at this
 change (match bu A h with|some m=>_|none=>_) at this
 constructor
 ·intro e;rw [e] at this;obtain ⟨h1,h2,h3⟩:=this;exact ⟨by simpa using h1,h2,fun y hy he=>h3 y (by simpa using hy) he⟩
 ·rintro ⟨h1,h2,h3⟩;cases e:bu A h with
  | none=>rw [e] at this;exact absurd h2 (this m (by simpa using h1))
  | some m'=>
   rw [e] at this;obtain ⟨k1,k2,k3⟩:=this;rcases h3 m' (by simpa using k1) k2 with rfl|h4
   ·rfl
   ·rcases k3 m (by simpa using h1) h2 with rfl|h5
    ·rfl
    ·exact absurd h4 (pQ h5)
theorem iI {A:NS} {h:Int} (hh:0<h):bu A h=none↔dA A h=0:=by
 have:=vM A h hh (List.range A.cs.length) (fun x hx=>by simpa using hx) [] σ none σ;simp only [ϟ] at this
 change (match bu A h with|some m=>_|none=>_) at this
 cases e:bu A h with
 | none=>
  rw [e] at this;refine ⟨fun _=>?_,fun _=>rfl⟩;rcases Nat.eq_zero_or_pos (dA A h) with h'|h'
  ·exact h'
  ·obtain ⟨x,hx,h1,_⟩:=dL.1 h';exact absurd h1 (this x (by simpa using hx))
 | some m=>
  rw [e] at this;obtain ⟨k1,k2,_⟩:=this;refine ⟨fun h=>by (cases h),fun h0=>?_⟩;have:0<dA A h:=dL.2 ⟨m,by simpa using k1,k2,hh⟩;omega
theorem nI {A:NS} {h:Int} (hh:¬0<h):bu A h=none:=by
 unfold bu;generalize List.range A.cs.length=l;have:∀l:List Nat,l.foldl (GG A h) none=none:=fun l=>by
  induction l with
  | nil=>rfl
  | cons x l ih=>rw [List.foldl_cons,show GG A h none x=none by unfold GG;simp [hh]];exact ih
 exact this l
theorem Qi {A:NS} {h:Int} (hh:¬0<h):dA A h=0:=by
 rcases Nat.eq_zero_or_pos (dA A h) with h'|h'
 ·exact h'
 ·obtain ⟨x,_,_,h2⟩:=dL.1 h';exact absurd h2 hh
theorem Xa {A:NS} {x:Nat} {k s:Int} (hB:CR A x k s=true) (hx:x<A.cs.length) (y:Nat):(jo A x k s).c y=if y=x then ⟨(A.c x).i,k,s⟩ else A.c y:=by
 unfold jo;rw [Δ hB,π,iy]
 by_cases e:y=x
 ·rw [Δ ⟨e,hx⟩,Δ e]
 ·rw [Γ (fun h=>e h.1),Γ e]
theorem OO {A:NS} {x:Nat} {k s:Int} (hB:CR A x k s=true) (hx:x<A.cs.length) (y:Nat):((jo A x k s).c y).i=(A.c y).i:=by
 rw [Xa hB hx];split
 ·rename_i e;rw [e]
 ·rfl
theorem II (A:NS) (x k s:Int):(jo A x k s).cs.length=A.cs.length:=by unfold jo;split;exact dK _ _ _;rfl
theorem VH (A:NS) (x k s:Int):(jo A x k s).hs=A.hs:=by unfold jo;split<;>rfl
theorem pO {A:NS} {x:Nat} (hB:bP A x=true) (y:Nat):(aL A x).c y=if y=x then Cl.z else A.c y:=by
 have hx:=((aj A x).1 hB).1;unfold aL;rw [Δ hB,π,iy]
 by_cases e:y=x
 ·rw [Δ ⟨e,hx⟩,Δ e]
 ·rw [Γ (fun h=>e h.1),Γ e]
theorem cK (A:NS) (x:Int):(aL A x).cs.length=A.cs.length:=by unfold aL;split;exact dK _ _ _;rfl
theorem fJ (A:NS) (x:Int):(aL A x).hs=A.hs:=by unfold aL;split<;>rfl
theorem fV {A A':NS} {a b:Nat} (ha:A'.c a=A.c a) (hb:A'.c b=A.c b):eB A' a b↔eB A a b:=by unfold eB;rw [ha,hb]
end Go.Proofs.YtklibcncmbofpaaGreat
namespace Go.Proofs.YtklibcncmbofpaaGreat
open Go Go.RowKit
theorem cO:(Tryz.prog.info? 3).map (fun i=>(i.zero,i.size,i.bytes))=some (some (.int .i64 0),1,8):=by kernel_rfl
def aM (l:List Int):List Value:=l.map (fun x=>Value.int .i64 x)
theorem aT (a b:List Int):aM (a++b)=aM a++aM b:=by unfold aM;rw [List.map_append]
theorem fB (a:List Int):(aM a).length=a.length:=by unfold aM;simp
theorem LM (l:List Int):∀u∈aM l,u.oneCell'=true:=by
 intro u hu;unfold aM at hu;simp only [List.mem_map] at hu;obtain ⟨x,_,rfl⟩:=hu;rfl
theorem lL {l:List Int} {j:Nat} (hj:j<l.length):(aM l)[j]?=some (.int .i64 (l.getD j 0)):=by unfold aM;simp [φ,hj]
theorem Po {X:World} {us:List Value} {e:TypeId} {g:Nat} (hg:g=X.heap.size) (j:Nat) {u:Value} (hj:us[j]?=some u):(X.alloc (.cells us.toArray e)).cell? ⟨g,j,none⟩=some u:=by
 subst hg;exact lM X us e j u hj
theorem AZ {X:World} {us:List Value} {e:TypeId} {g:Nat} (hg:g=X.heap.size) (j:Nat) {u:Value} (hj:us[j]?=some u):((X.alloc (.cells us.toArray e)).drew).cell? ⟨g,j,none⟩=some u:=Po hg j hj
structure IZ (w:World) (g cap:Nat) (l:List Int):Prop where
 own:w.ownsRow 0 3 1 (.slice (some ⟨g,0,none⟩) l.length cap) l.length (aM l)
theorem IZ.lt {w:World} {g cap:Nat} {l:List Int} (h:IZ w g cap l):g<w.heap.size:=(h.own.lt g rfl).2
theorem IZ.cap {w:World} {g cap:Nat} {l:List Int} (h:IZ w g cap l):l.length<=cap/\cap<=9223372036854775807:=by
 rcases h.own.2 with ⟨h1,_⟩|⟨g',cap',cur,h1,_,_,h2,h3,_⟩
 ·cases h1
 ·cases h1;unfold maxLen at h3;exact ⟨h2,h3⟩
theorem IZ.cell {w:World} {g cap:Nat} {l:List Int} (h:IZ w g cap l) (j:Nat) (hj:j<l.length):w.cell? ⟨g,j,none⟩=some (.int .i64 (l.getD j 0)):=by
 rw [h.own.cellAt j ω];exact lL hj
theorem IZ.free {w:World} {g cap:Nat} {l:List Int} (h:IZ w g cap l) (j:Nat):w.frozen? ⟨g,j,none⟩=false:=h.own.frozenAt j
theorem IZ.upd {w w':World} {S:List Nat} {g cap:Nat} {l:List Int} (h:IZ w g cap l) (hu:aa S w w') (hn:g∉S):IZ w' g cap l:=
 ⟨aA h.own hu (fun k hk=>by cases hk;exact hn)⟩
theorem IZ.drewN {w:World} {g cap:Nat} {l:List Int} (h:IZ w g cap l) (n:Nat):IZ (w.drewN n) g cap l:=h.upd ((aa.refl [] w).drewN n) σ
theorem IZ.set {w:World} {g cap:Nat} {l:List Int} (h:IZ w g cap l) (j:Nat) (x:Int):IZ (w.setCell ⟨g,j,none⟩ (.int .i64 x)) g cap (l.set j x):=by
 rcases h.own.2 with ⟨h1,_⟩|⟨g',cap',cur,h1,hb,hg,hn,hc,hs,ht⟩
 ·cases h1
 ·cases h1;refine ⟨⟨by rw [fB];omega,Β ⟨g,cap,cur.setIfInBounds j (.int .i64 x),by rw [Ι],ω,?_,by rw [Ι];exact hn,hc,ζ,?_⟩⟩⟩
  ·simp [World.setCell,Array.getElem?_modify,hg]
  ·rw [Ι,Array.toList_setIfInBounds]
   by_cases hj:j<l.length
   ·rw [List.take_set,ht];unfold aM;rw [List.map_set]
   ·rw [List.take_set_of_le ω,ht,List.set_eq_of_length_le ω]
theorem IZ.lit (w:World) (l:List Int) (hl:l.length<=1000000):IZ (w.alloc (.cells (aM l).toArray 3)) w.heap.size l.length l:=
 ⟨iR w (aM l) 3 0 1 l.length (by rw [fB];omega) ω μ⟩
theorem IZ.fE {w:World} {base:Nat} {v:Value} {l:List Int} (h:w.ownsRow base 3 1 v l.length (aM l)) (hl:0<l.length):∃g cap,v=.slice (some ⟨g,0,none⟩) l.length cap/\IZ w g cap l/\base<=g:=by
 obtain ⟨g,cap,rfl,hb,_⟩:=dM h hl;exact ⟨g,cap,rfl,⟨iJ h ω⟩,hb⟩
def fM (w:World) (F:List Nat) (v:Value) (xs:List Int):Prop:=
 ∃a cap,v=.slice a xs.length cap/\xs.length<=cap/\cap<=9223372036854775807/\∀j u,xs[j]?=some u->∃g off,a=some ⟨g,off,none⟩/\g<w.heap.size/\g∉F/\w.cell? ⟨g,off+j,none⟩=some (.int .i64 u)
theorem fM.fresh {w w':World} {F F':List Nat} {v:Value} {xs:List Int} (h:fM w F v xs) (hu:aa F w w') (hF:∀g,g∈F'->g∈F\/w.heap.size<=g):fM w' F' v xs:=by
 obtain ⟨a,cap,rfl,h1,h2,h3⟩:=h;refine ⟨a,cap,rfl,h1,h2,fun j u hj=>?_⟩;obtain ⟨g,off,rfl,hg,hn,hc⟩:=h3 j u hj;exact ⟨g,off,rfl,Ψ hg hu.size,fun hm=>by rcases hF g hm with h'|h';exact hn h';omega,by rw [hu.cell hg hn];exact hc⟩
theorem fM.fE {w:World} {base:Nat} {v:Value} {xs:List Int} {F:List Nat} (h:w.ownsRow base 3 1 v xs.length (aM xs)) (hF:∀g,g∈F->g<base):fM w F v xs:=by
 rcases h.2 with ⟨rfl,h0⟩|⟨g,cap,cur,rfl,hb,hg,hn,hc,_⟩
 ·have:xs=[]:=Ϟ h0;subst this;exact ⟨none,0,rfl,σ,ω,fun j u hj=>by simp at hj⟩
 ·refine ⟨_,cap,rfl,hn,by unfold maxLen at hc;exact hc,fun j u hj=>⟨g,0,rfl,(h.lt g rfl).2,fun hm=>by have:=hF g hm;omega,?_⟩⟩;have hjl:=(List.getElem?_eq_some_iff.1 hj).1;rw [ϕ,h.cellAt j ω,lL hjl];simp [φ,hj]
def uj (a b:Int):Int:=if a<b then -1 else if b<a then 1 else 0
def zB (k1 s1 k2 s2:Int):Int:=if k1=k2 then uj s1 s2 else uj k1 k2
theorem LG (k1 s1 k2 s2:Int):decide (zB k1 s1 k2 s2<0)=Ju k1 s1 k2 s2:=by
 unfold zB Ju uj
 split
 ·rw [decide_eq_decide];split;omega;split<;>omega
 ·rw [decide_eq_decide];split;omega;split<;>omega
theorem Nt (x:Int) (w:World):Calls Tryz.prog 85 #[.int .i64 x] w fun e w'=>e=.returned (.bool false)/\w'=w:=by
 have h:(x != x)=false:=σ
 go_enter Tryz.func85,Tryz.ntmps85
 go_wp2;go_ret;exact ⟨rfl,rfl⟩
theorem PT (x:Int) (w:World):Calls Tryz.prog 173 #[.int .u64 x] w fun e w'=>e=.returned (.bool false)/\w'=w:=by
 have h:(x != x)=false:=σ
 go_enter Tryz.func173,Tryz.ntmps173
 go_wp2;go_ret;exact ⟨rfl,rfl⟩
theorem PU (a b:Int) (w:World):Calls Tryz.prog 170 #[.int .i64 a,.int .i64 b] w fun e w'=>e=.returned (.int .i64 (uj a b))/\w'=w:=by
 have k:=fun x=>Nt x w;unfold uj
 by_cases h1:a<b
 ·go_enter Tryz.func170,Tryz.ntmps170
  go_wp2_with ((go_at_call 85;(with_reducible refine ((k _)).mono ?_);rintro e w9 ⟨rfl,aO⟩;rw [aO];clear aO w9))
  go_ret;exact ⟨by first|rfl|(refine jY ?_;simp;try omega),rfl⟩
 ·by_cases h2:b<a
  ·go_enter Tryz.func170,Tryz.ntmps170
   go_wp2_with ((go_at_call 85;(with_reducible refine ((k _)).mono ?_);rintro e w9 ⟨rfl,aO⟩;rw [aO];clear aO w9))
   go_ret;exact ⟨by first|rfl|(refine jY ?_;simp;try omega),rfl⟩
  ·have e:a=b:=ω;subst e;clear h1 h2
   go_enter Tryz.func170,Tryz.ntmps170
   go_wp2_with ((go_at_call 85;(with_reducible refine ((k _)).mono ?_);rintro e w9 ⟨rfl,aO⟩;rw [aO];clear aO w9))
   go_ret;exact ⟨by first|rfl|(refine jY ?_;simp;try omega),rfl⟩
theorem Qe (a b:Int) (w:World):Calls Tryz.prog 171 #[.int .u64 a,.int .u64 b] w fun e w'=>e=.returned (.int .i64 (uj a b))/\w'=w:=by
 have k:=fun x=>PT x w;unfold uj
 by_cases h1:a<b
 ·go_enter Tryz.func171,Tryz.ntmps171
  go_wp2_with ((go_at_call 173;(with_reducible refine ((k _)).mono ?_);rintro e w9 ⟨rfl,aO⟩;rw [aO];clear aO w9))
  go_ret;exact ⟨by first|rfl|(refine jY ?_;simp;try omega),rfl⟩
 ·by_cases h2:b<a
  ·go_enter Tryz.func171,Tryz.ntmps171
   go_wp2_with ((go_at_call 173;(with_reducible refine ((k _)).mono ?_);rintro e w9 ⟨rfl,aO⟩;rw [aO];clear aO w9))
   go_ret;exact ⟨by first|rfl|(refine jY ?_;simp;try omega),rfl⟩
  ·have e:a=b:=ω;subst e;clear h1 h2
   go_enter Tryz.func171,Tryz.ntmps171
   go_wp2_with ((go_at_call 173;(with_reducible refine ((k _)).mono ?_);rintro e w9 ⟨rfl,aO⟩;rw [aO];clear aO w9))
   go_ret;exact ⟨by first|rfl|(refine jY ?_;simp;try omega),rfl⟩
def orZ (a b:Int):Int:=if a=0 then b else a
theorem Vd (g:Nat) (a b:Int) (w:World) (c0:w.cell? ⟨g,0,none⟩=some (.int .i64 a)) (c1:w.cell? ⟨g,1,none⟩=some (.int .i64 b)) :
  Calls Tryz.prog 169 #[.slice (some ⟨g,0,none⟩) 2 2] w fun e w'=>e=.returned (.int .i64 (orZ a b))/\w'=w:=by
 unfold orZ
 by_cases ha:a=0
 ·subst ha
  by_cases hb:b=0
  ·subst hb
   go_enter Tryz.func169,Tryz.ntmps169
   go_wp2;refine wp_loop_rounds 3 ?_;rw [rounds_succ];go_wp2
   all_goals try (rw [rounds_succ];go_wp2)
   all_goals try (rw [rounds_succ];go_wp2)
   go_ret;exact ⟨σ,rfl⟩
  ·have hb':(b != 0)=true:=by simpa using hb
   go_enter Tryz.func169,Tryz.ntmps169
   go_wp2;refine wp_loop_rounds 3 ?_;rw [rounds_succ];go_wp2
   all_goals try (rw [rounds_succ];go_wp2)
   all_goals try (rw [rounds_succ];go_wp2)
   go_ret;exact ⟨σ,rfl⟩
 ·have ha':(a != 0)=true:=by simpa using ha
  have HA:=χ ha;clear ha
  go_enter Tryz.func169,Tryz.ntmps169
  go_wp2;refine wp_loop_rounds 3 ?_;rw [rounds_succ];go_wp2
  all_goals try (rw [rounds_succ];go_wp2)
  all_goals try (rw [rounds_succ];go_wp2)
  go_ret;exact ⟨by first|rfl|rw [Γ HA.out],rfl⟩
theorem Rq (k1 s1 k2 s2:Int):orZ (uj k1 k2) (uj s1 s2)=zB k1 s1 k2 s2:=by
 unfold orZ zB
 by_cases h:k1=k2
 ·subst h;simp [uj]
 ·rw [Γ h,Γ];unfold uj;split;omega;split<;>omega
theorem wC (k1 s1 k2 s2:Int) (w:World):Calls Tryz.prog 164 #[.agg #[.int .i64 k1,.int .u64 s1],.agg #[.int .i64 k2,.int .u64 s2]] w fun e w'=>e=.returned (.int .i64 (zB k1 s1 k2 s2))/\aa [] w w':=by
 rw [←Rq];have ka:=fun W=>PU k1 k2 W;have kb:=fun W=>Qe s1 s2 W;generalize uj k1 k2=za at *;generalize uj s1 s2=zb at *;have r0:∀W,aa [] ((w.alloc (.cells #[.int .i64 k1,.int .u64 s1] 129)).alloc (.cells #[.int .i64 k2,.int .u64 s2] 129)) W->W.cell? ⟨w.heap.size,0,none⟩=some (.int .i64 k1):=fun W h=>h.was σ;have r1:∀W,aa [] ((w.alloc (.cells #[.int .i64 k1,.int .u64 s1] 129)).alloc (.cells #[.int .i64 k2,.int .u64 s2] 129)) W->W.cell? ⟨w.heap.size,1,none⟩=some (.int .u64 s1):=fun W h=>h.was σ
 have r2:∀W,aa [] ((w.alloc (.cells #[.int .i64 k1,.int .u64 s1] 129)).alloc (.cells #[.int .i64 k2,.int .u64 s2] 129)) W->W.cell? ⟨w.heap.size+1,0,none⟩=some (.int .i64 k2):=fun W h=>h.was σ;have r3:∀W,aa [] ((w.alloc (.cells #[.int .i64 k1,.int .u64 s1] 129)).alloc (.cells #[.int .i64 k2,.int .u64 s2] 129)) W->W.cell? ⟨w.heap.size+1,1,none⟩=some (.int .u64 s2):=fun W h=>h.was σ
 go_enter Tryz.func164,Tryz.ntmps164
 go_wp2
 go_region_held3 (aa [] ((w.alloc (.cells #[.int .i64 k1,.int .u64 s1] 129)).alloc (.cells #[.int .i64 k2,.int .u64 s2] 129))) (exact η)
  (first
   | (go_at_call 170;(with_reducible refine (ka _).mono ?_);rintro e w9 ⟨rfl,aO⟩;rw [aO];clear aO w9)
   | (go_at_call 171;(with_reducible refine (kb _).mono ?_);rintro e w9 ⟨rfl,aO⟩;rw [aO];clear aO w9)
   | (go_at_call 169;(with_reducible refine (Vd _ za zb _ (AZ σ 0 rfl) (AZ σ 1 rfl)).mono ?_);rintro e w9 ⟨rfl,aO⟩;rw [aO];clear aO w9))
 go_wp2;go_ret;exact ⟨rfl,ξ⟩
theorem L9 (k1 s1 k2 s2:Int) (w:World):Calls Tryz.prog 158 #[.agg #[.int .i64 k1,.int .u64 s1],.agg #[.int .i64 k2,.int .u64 s2]] w fun e w'=>e=.returned (.bool (Ju k1 s1 k2 s2))/\aa [] w w':=by
 rw [←LG];have k:=fun W=>wC k1 s1 k2 s2 W;generalize zB k1 s1 k2 s2=z at *
 go_enter Tryz.func158,Tryz.ntmps158
 go_wp2_with (go_at_call 164;(with_reducible refine (k _).mono ?_);rintro e w' ⟨rfl,hu⟩)
 all_goals
  go_ret;exact ⟨bg (by first|rfl|simp|(simp;omega)),((aa.refl _ _).alloc _ |>.alloc _).trans hu⟩
structure pI (l:List Int) (rt dp:Nat->Nat):Prop where
 len:1<=l.length
 NL:l.length<=65537
 wI:∀i,1<=i->i<l.length->1<=l.getD i 0/\l.getD i 0<l.length
 up:∀i,1<=i->i<l.length->rt (l.getD i 0).toNat=rt i
 top:∀i,1<=i->i<l.length->l.getD i 0=i->rt i=i
 low:∀i,1<=i->i<l.length->l.getD i 0≠i->dp (l.getD i 0).toNat<dp i
theorem pI.root {l:List Int} {rt dp:Nat->Nat} (h:pI l rt dp):∀ (d i:Nat),dp i<=d->1<=i->i<l.length->1<=rt i/\rt i<l.length/\l.getD (rt i) 0=rt i
 | d,i,hd,h1,h2=>by
  by_cases e:l.getD i 0=i
  ·rw [h.top i h1 h2 e];exact ⟨h1,h2,e⟩
  ·have hl:=h.low i h1 h2 e;have hr:=h.wI i h1 h2
   match d,hd with
   | 0,hd=>omega
   | d+1,hd=>
    have:=pI.root h d (l.getD i 0).toNat ω ω ω;rwa [h.up i h1 h2] at this
theorem pI.TR {l:List Int} {rt dp:Nat->Nat} (h:pI l rt dp) {i:Nat} (h1:1<=i) (h2:i<l.length):1<=rt i/\rt i<l.length/\l.getD (rt i) 0=rt i:=h.root (dp i) i (Θ _) h1 h2
theorem pI.OH {l:List Int} {rt dp:Nat->Nat} (h:pI l rt dp) {i:Nat} (h1:1<=i) (h2:i<l.length):l.getD i 0=i↔rt i=i:=
 ⟨h.top i h1 h2,fun e=>by have:=h.TR h1 h2;rw [e] at this;exact this.2.2⟩
theorem NK (l:List Int) (i:Nat) (x:Int) (j:Nat):(l.set i x).getD j 0=if j=i/\i<l.length then x else l.getD j 0:=by
 simp only [φ,ύ]
 by_cases h:i=j
 ·subst h
  by_cases hx:i<l.length
  ·simp [hx]
  ·simp [hx,List.getElem?_eq_none (Nat.le_of_not_lt hx)]
 ·rw [Γ h,Γ (fun e=>h e.1.symm)]
theorem pI.short {l:List Int} {rt dp:Nat->Nat} (h:pI l rt dp) {k:Nat} (h1:1<=k) (h2:k<l.length) (hk:l.getD k 0≠k):pI (l.set k (l.getD (l.getD k 0).toNat 0)) rt dp:=by
 have r1:=h.wI k h1 h2;obtain ⟨j,hj⟩:∃j:Nat,l.getD k 0=j:=⟨(l.getD k 0).toNat,ω⟩;have u1:=h.up k h1 h2;have d1:=h.low k h1 h2 hk;rw [hj] at r1 u1 d1 hk ⊢;simp only [π] at u1 d1 ⊢;have hjk:j≠k:=fun e=>hk (by rw [e]);have r2:=h.wI j ω ω;obtain ⟨q,hq⟩:∃q:Nat,l.getD j 0=q:=⟨(l.getD j 0).toNat,ω⟩;have u2:=h.up j ω ω;have d2:=h.low j ω ω;rw [hq] at r2 u2 d2 ⊢;simp only [π] at u2 d2;have d3:q≠j->dp q<dp j:=fun e=>d2 ω;clear d2;refine ⟨by simp;exact h.len,by simp;exact h.NL,fun i a b=>?_,fun i a b=>?_,fun i a b=>?_,fun i a b=>?_⟩
 all_goals
  rw [Ι] at b;rw [NK]
 ·rw [Ι];split
  ·exact r2
  ·exact h.wI i a b
 ·split
  ·rename_i e;simp only [π];rw [u2,u1,e.1]
  ·exact h.up i a b
 ·split
  ·rename_i e
   intro he;have hqi:q=k:=by have:=e.1;omega
   by_cases e2:q=j
   ·exfalso;omega
   ·have:=d3 e2;rw [hqi] at this;omega
  ·exact h.top i a b
 ·split
  ·rename_i e
   intro he;simp only [π];rw [e.1]
   by_cases e2:q=j
   ·rw [e2];exact d1
   ·have:=d3 e2;omega
  ·exact h.low i a b
structure iZ (w:World) (nm g cap:Nat) (l:List Int):Prop where
 head:∃c:Int,aF w nm 262 3 (fun j=>[Value.slice (some ⟨g,0,none⟩) l.length cap,.int .i64 65536,.int .i64 c].getD j undef)
 row:IZ w g cap l
 ne:nm≠g
theorem iZ.upd {w w':World} {S:List Nat} {nm g cap:Nat} {l:List Int} (h:iZ w nm g cap l) (hu:aa S w w') (h1:nm∉S) (h2:g∉S):iZ w' nm g cap l:=by
 obtain ⟨c,h3⟩:=h.head;exact ⟨⟨c,h3.upd hu h1⟩,h.row.upd hu h2,h.ne⟩
theorem iZ.c0 {w:World} {nm g cap:Nat} {l:List Int} (h:iZ w nm g cap l):w.cell? ⟨nm,0,none⟩=some (.slice (some ⟨g,0,none⟩) l.length cap):=by obtain ⟨c,h⟩:=h.head;exact h.cellAt 0 ω rfl
theorem iZ.c1 {w:World} {nm g cap:Nat} {l:List Int} (h:iZ w nm g cap l):w.cell? ⟨nm,1,none⟩=some (.int .i64 65536):=by obtain ⟨c,h⟩:=h.head;exact h.cellAt 1 ω rfl
theorem iZ.lt {w:World} {nm g cap:Nat} {l:List Int} (h:iZ w nm g cap l):nm<w.heap.size/\g<w.heap.size:=by obtain ⟨c,h1⟩:=h.head;exact ⟨h1.lt,h.row.lt⟩
theorem iZ.set {w:World} {nm g cap:Nat} {l:List Int} (h:iZ w nm g cap l) (j:Nat) (x:Int):iZ (w.setCell ⟨g,j,none⟩ (.int .i64 x)) nm g cap (l.set j x):=by
 obtain ⟨c,h1⟩:=h.head;exact ⟨⟨c,by rw [Ι];exact h1.far _ _ h.ne⟩,h.row.set j x,h.ne⟩
theorem iZ.U1 {w:World} {nm g cap:Nat} {l:List Int} (h:iZ w nm g cap l) (x:Int):iZ (w.setCell ⟨nm,2,none⟩ (.int .i64 x)) nm g cap l:=by
 obtain ⟨c,h1⟩:=h.head;refine ⟨⟨x,(h1.set 2 (.int .i64 x)).ext (fun j hj=>?_)⟩,h.row.upd ((aa.refl [nm] w).setCell (Α σ) _) (by simp;exact fun e=>h.ne e.symm),h.ne⟩;rcases (ω:j=0\/j=1\/j=2) with rfl|rfl|rfl<;>simp
theorem iZ.setRow {w:World} {nm g cap:Nat} {l:List Int} (h:iZ w nm g cap l) {W:World} {g' cap':Nat} {l':List Int} (hu:aa [g] w W) (hr:IZ W g' cap' l') (hne:nm≠g'):iZ (W.setCell ⟨nm,0,none⟩ (.slice (some ⟨g',0,none⟩) l'.length cap')) nm g' cap' l':=by
 obtain ⟨c,h1⟩:=h.head;refine ⟨⟨c,((h1.upd hu (by simp;exact h.ne)).set 0 _).ext (fun j hj=>?_)⟩,hr.upd ((aa.refl [nm] W).setCell (Α σ) _) (by simp;exact fun e=>hne e.symm),hne⟩;rcases (ω:j=0\/j=1\/j=2) with rfl|rfl|rfl<;>simp
theorem Ez (nm g cap:Nat) (l:List Int) (x:Int) (w:World) (h:iZ w nm g cap l) (hl:l.length<=65537) :
  Calls Tryz.prog 162 #[.pointer (some ⟨nm,0,none⟩),.int .i64 x] w fun e w'=>e=.returned (.bool (decide (0<x) && decide (x<l.length)))/\w'=w:=by
 have c0:=h.c0;have hc:=h.row.cap;clear h
 by_cases h0:0<x
 ·go_enter Tryz.func162,Tryz.ntmps162
  go_wp2;go_ret;exact ⟨bg (by simp [h0]),rfl⟩
 ·go_enter Tryz.func162,Tryz.ntmps162
  go_wp2;go_ret;exact ⟨bg ζ,rfl⟩
def Ej (l:List Int) (x:Int):Bool:=decide (0<x) && decide (x<l.length) && (l.getD x.toNat 0 == x)
theorem PN (nm g cap:Nat) (l:List Int) (x:Int) (w:World) (h:iZ w nm g cap l) (hl:l.length<=65537) :
  Calls Tryz.prog 152 #[.pointer (some ⟨nm,0,none⟩),.int .i64 x] w fun e w'=>e=.returned (.bool (Ej l x))/\w'=w:=by
 have k:=Ez nm g cap l x w h hl;unfold Ej;have c0:=h.c0;have hc:=h.row.cap
 by_cases h0:0<x/\x<l.length
 ·obtain ⟨i,rfl⟩:∃i:Nat,x=i:=⟨x.toNat,ω⟩;rw [show (decide (0<(i:Int)) && decide ((i:Int)<l.length))=true by simp;omega] at *;have hi:i<l.length:=ω;have c1:=h.row.cell i hi;simp only [π];generalize l.getD i 0=y at *;clear h
  go_enter Tryz.func152,Tryz.ntmps152
  go_wp2_with ((go_at_call 162;(with_reducible refine (k).mono ?_);rintro e w9 ⟨rfl,aO⟩;rw [aO];clear aO w9))
  go_ret;exact ⟨bg σ,rfl⟩
 ·rw [show (decide (0<x) && decide (x<l.length))=false by simp;omega] at *;clear h
  go_enter Tryz.func152,Tryz.ntmps152
  go_wp2_with ((go_at_call 162;(with_reducible refine (k).mono ?_);rintro e w9 ⟨rfl,aO⟩;rw [aO];clear aO w9))
  go_ret;exact ⟨bg σ,rfl⟩
theorem Fu (nm g cap:Nat) (l:List Int) (w:World) (h:iZ w nm g cap l) (hl:l.length<=65537) :
  Calls Tryz.prog 168 #[.pointer (some ⟨nm,0,none⟩)] w fun e w'=>e=.returned (.int .i64 ((l.length:Int)-1))/\w'=w:=by
 have c0:=h.c0;have hc:=h.row.cap;clear h
 go_enter Tryz.func168,Tryz.ntmps168
 go_wp2;go_ret;exact ⟨rfl,rfl⟩
theorem LW (nm g cap:Nat) (l:List Int) (rt dp:Nat->Nat) (x:Nat) (w:World) (h:iZ w nm g cap l) (ok:pI l rt dp) (hx:1<=x) (hx2:x<l.length) :
  Calls Tryz.prog 153 #[.pointer (some ⟨nm,0,none⟩),.int .i64 (x:Int)] w fun e w'=>∃l',e=.returned (.tuple #[.int .i64 (rt x:Int),.bool true])/\iZ w' nm g cap l'/\pI l' rt dp/\l'.length=l.length/\aa [g] w w':=by
 have k:=Ez nm g cap l x w h ok.NL;rw [show (decide (0<(x:Int)) && decide ((x:Int)<l.length))=true by simp;omega] at k;generalize hr:rt x=r at *;have HR:=χ hr;clear hr
 go_enter Tryz.func153,Tryz.ntmps153
 go_wp2_with ((go_at_call 162;(with_reducible refine (k).mono ?_);rintro e w9 ⟨rfl,aO⟩;rw [aO];clear aO w9))
 clear k
 go_loopw [1] (fun id wr=>∃ (k:Nat) (l':List Int),id=.int .i64 (k:Int)/\1<=k/\k<l'.length/\rt k=r/\iZ wr nm g cap l'/\pI l' rt dp/\l'.length=l.length/\aa [g] w wr) (fun id _=>dp (intOf id).toNat)
 case atStart=>exact ⟨x,l,rfl,hx,hx2,HR.out,h,ok,rfl,aa.refl _ _⟩
 case round=>
  obtain ⟨k,l',rfl,hk1,hk2,hrt,hN,hok,hlen,hu⟩:=hrel;have c0:=hN.c0;have hc:=hN.row.cap;have c1:=hN.row.cell k hk2;have c2:=hN.row.free k;have hrg:=hok.wI k hk1 hk2;have hl2:=hok.NL;have HA:=χ (ψ h ok);have HB:=χ (ψ hN (ψ hok (ψ hlen hrt)));clear h ok hN hok hlen hrt
  by_cases hkk:l'.getD k 0=k
  ·rw [hkk] at c1;have HK:=χ hkk;clear hkk hrg;go_wp2;go_ret2;obtain ⟨h1,h2,h3,h4⟩:=HB.out;exact ⟨l',by rw [←h4,h2.top k hk1 hk2 HK.out];rfl,h1,h2,h3,hu⟩
  ·obtain ⟨j,hj⟩:∃j:Nat,l'.getD k 0=j:=⟨(l'.getD k 0).toNat,ω⟩;have hjr:1<=j/\j<l'.length:=ω;have c3:=HB.out.1.row.cell j hjr.2;have hrg2:=HB.out.2.1.wI j hjr.1 hjr.2;obtain ⟨q,hq⟩:∃q:Nat,l'.getD j 0=q:=⟨(l'.getD j 0).toNat,ω⟩;rw [hj] at c1 hrg hkk;rw [hq] at c3 hrg2;have hne:((j:Int) != (k:Int))=true:=by simpa using hkk
   have HJ:=χ (ψ hj (ψ hq hkk));clear hj hq hkk;go_wp2
   go_region
   go_wp2
   go_roundw
   case rel=>
    obtain ⟨h1,h2,h3,h4⟩:=HB.out;obtain ⟨e1,e2,e3⟩:=HJ.out;have hs:=h2.short hk1 hk2 (by rw [e1];exact e3);rw [e1] at hs;simp only [π] at hs;rw [e2] at hs;have u1:=h2.up k hk1 hk2;have u2:=h2.up j ω ω;rw [e1] at u1;rw [e2] at u2;simp only [π] at u1 u2;exact ⟨q,_,rfl,ω,by rw [Ι];omega,by rw [u2,u1,h4],(h1.set k q).upd ((aa.refl [] _).drew) σ σ,hs,by rw [Ι];exact h3,((hu.setCell (Α σ) _)).drew⟩
   case measure=>
    obtain ⟨h1,h2,h3,h4⟩:=HB.out;obtain ⟨e1,e2,e3⟩:=HJ.out;have d1:=h2.low k hk1 hk2 (by rw [e1];exact e3);have d2:=h2.low j ω ω;rw [e1] at d1;rw [e2] at d2;simp only [π] at d1 d2;simp [intOf]
    by_cases e:q=j
    ·rw [e];exact d1
    ·have:=d2 ω;omega
theorem OU (nm g cap:Nat) (l:List Int) (w:World) (h:iZ w nm g cap l) (hl:l.length=65537) :
  Calls Tryz.prog 163 #[.pointer (some ⟨nm,0,none⟩)] w fun e w'=>e=.returned (.tuple #[.int .i64 0,.bool false])/\aa [] w w':=by
 have k:=Fu nm g cap l;have k1:=fun W hW=>k W hW ω;rw [hl] at k1;have c1:∀d,(w.drewN d).cell? ⟨nm,1,none⟩=some (.int .i64 65536):=fun d=>h.c1;have H:=fun d=>(h.upd ((aa.refl [] w).drewN d) σ σ)
 clear h k
 go_enter Tryz.func163,Tryz.ntmps163
 go_wp2
 go_quiet ((go_at_call 168;exact Calls.quiet_of_same (k1 _ (H _))))
 go_wp2;go_ret2;exact ⟨rfl,(aa.refl _ _).drewN _⟩
theorem KF (nm g cap:Nat) (l:List Int) (w:World) (h:iZ w nm g cap l) (hl:1<=l.length) (hl2:l.length<=65536) :
  Calls Tryz.prog 163 #[.pointer (some ⟨nm,0,none⟩)] w fun e w'=>∃g' cap',e=.returned (.tuple #[.int .i64 (l.length:Int),.bool true])/\iZ w' nm g' cap' (l++[(l.length:Int)])/\aa [nm,g] w w'/\(g'=g\/w.heap.size<=g'):=by
 have k1:=fun W hW=>Fu nm g cap l W hW ω;have c1:∀d,(w.drewN d).cell? ⟨nm,1,none⟩=some (.int .i64 65536):=fun d=>h.c1;have c0:∀d,(w.drewN d).cell? ⟨nm,0,none⟩=some (.slice (some ⟨g,0,none⟩) l.length cap):=fun d=>h.c0;obtain ⟨cn,hh⟩:=h.head;have c2:w.cell? ⟨nm,2,none⟩=some (.int .i64 cn):=hh.cellAt 2 ω rfl;have f0:=hh.free 0;have f2:=hh.free 2;have HO:Hid (∀d,(w.drewN d).ownsRow 0 3 1 (.slice (some ⟨g,0,none⟩) l.length cap) l.length (aM l)):=fun d=>(h.row.drewN d).own;have H:Hid (∀d,iZ (w.drewN d) nm g cap l):=fun d=>(h.upd ((aa.refl [] w).drewN d) σ σ)
 have hcap:=h.row.cap;have hlt:=h.lt;have hne:=h.ne;have hb1:((l.length:Int)-1 == 65536)=false:=ζ;clear h hh;generalize hlen:l.length=len at *;have HL:=χ hlen;clear hlen
 go_enter Tryz.func163,Tryz.ntmps163
 go_wp2
 go_quiet ((go_at_call 168;exact Calls.quiet_of_same (k1 _ (H.out _))))
 go_wp2_with (((at_builtin;refine ak rfl _ _ 26 rfl 0 3 (.int .i64 0) 1 8 Tryz.underlying26 cO rfl δ _ _ _ rfl ((HO.out _)) [.int .i64 (len:Int)] rfl (by simp [Value.oneCell']) (by first|rfl|(rw [Κ];rfl)) μ ω (σ) ?_;intro v1 w1 ho1 hu1 Uh));obtain ⟨g1,Yg,rfl,_,hg1,hc1,hc2,_⟩:=dM ho1 ω;(have hu2:aa [g] (w.drewN nq) w1:=hu1);(have hs2:g1=g\/w.heap.size<g1:=by (rcases Uh with h'|h';(exact Α (Option.some.inj h'));(exact Β (h' g1 rfl))));clear hu1 Uh;(have q1:w1.cell? ⟨nm,0,none⟩=some (.slice (some ⟨g,0,none⟩) len cap):=(hu2.cell (p:=⟨nm,0,none⟩) hlt.1 (by simp;exact hne)).trans (c0 _));(have q2:w1.cell? ⟨nm,2,none⟩=some (.int .i64 cn):=(hu2.cell (p:=⟨nm,2,none⟩) hlt.1 (by simp;exact hne)).trans c2);(have q3:w1.frozen? ⟨nm,0,none⟩=false:=(hu2.frozen (p:=⟨nm,0,none⟩) hlt.1 (by simp;exact hne)).trans f0);(have q4:w1.frozen? ⟨nm,2,none⟩=false:=(hu2.frozen (p:=⟨nm,2,none⟩) hlt.1 (by simp;exact hne)).trans f2))
 go_ret2;have hn1:nm≠g1:=ω;have hz:IZ w1 g1 Yg (l++[(len:Int)]):=⟨by rw [υ,HL.out,aT];exact ho1⟩;have hN:=(H.out nq).setRow hu2 hz hn1;rw [υ,HL.out] at hN;refine ⟨g1,Yg,rfl,?_,?_,ω⟩
 ·exact hN.U1 _
 ·exact ((((aa.refl [nm,g] w).drewN nq).joined hu2 (fun x hx=>Α (by simp at hx;simp [hx]))).setCell (Α σ) _).setCell (Α σ) _
theorem Ow (w:World):Calls Tryz.prog 114 #[.int .i64 65536] w fun e w'=>∃nm g,e=.returned (.tuple #[.pointer (some ⟨nm,0,none⟩),.int .i64 0])/\iZ w' nm g 1 [0]/\aa [] w w'/\w.heap.size<=nm/\w.heap.size<=g:=by
 go_enter Tryz.func114,Tryz.ntmps114
 go_wp2;go_ret2;have hr:=dC (w.alloc (.cells #[.int .i64 0] 3)) [Value.slice (some ⟨w.heap.size,0,none⟩) 1 1,.int .i64 65536,.int .i64 0] 262;rw [Κ] at hr;exact ⟨_,_,rfl,⟨⟨0,hr⟩,(IZ.lit w [0] σ).upd ((aa.refl [] _).alloc _) σ,ω⟩,((aa.refl _ _).alloc _).alloc _,σ,Θ _⟩
end Go.Proofs.YtklibcncmbofpaaGreat
namespace Go.Proofs.YtklibcncmbofpaaGreat
open Go Go.RowKit Go.Maps
theorem nodup_range:∀ (n:Nat) (l:List Int),l.Nodup->(∀x,x∈l->0<=x/\x<n)->l.length<=n
 | 0,l,_,h=>by
  cases l with
  | nil=>simp
  | cons x r=>have:=h x σ;omega
 | n+1,l,hn,h=>by
  have h1:=nodup_range n (l.filter (fun x=>x != (n:Int))) (hn.filter _) (fun x hx=>by
   simp only [List.mem_filter] at hx;have:=h x hx.1;have h2:x≠n:=by simpa using hx.2
   omega)
  have h2:l.length<=(l.filter (fun x=>x != (n:Int))).length+1:=by
   clear h1 h
   induction l with
   | nil=>simp
   | cons y r ih=>
    rw [Ζ] at hn
    by_cases hy:y=n
    ·subst hy;have e:r.filter (fun x=>x != (n:Int))=r:=by
      rw [List.filter_eq_self];intro a ha;simp;intro e;subst e;exact hn.1 ha
     rw [List.filter_cons_of_neg σ,e];simp
    ·rw [List.filter_cons_of_pos (by simpa using hy)];have:=ih hn.2;simp only [Ω];omega
  omega
def eO (w:World) (b:Nat) (f:Int->Option Int):Prop:=
 ∃D:DataW Unit,w.ownsMap Tryz.prog 3 (plainElem Tryz.prog 3) b (Maps.size D) D/\
  (∀kl,Maps.has D kl=true->∃k:Int,kl=.int .i64 k/\0<=k/\k<=65536/\(f k).isSome=true)/\
  (∀k z,f k=some z->Maps.has D (.int .i64 k)=true/\∀d,D.atKey (.int .i64 k) d=.lit (.int .i64 z))
theorem uT {w:World} {k:TypeId} {R:Value->Option (DataW Unit×List MemPlace)} {b n:Nat} {D:DataW Unit} (h:w.ownsMap Tryz.prog k R b n D):w.ownsMap Tryz.prog k R b (Maps.size D) D:=by
 obtain ⟨es,clock,hb,F,hs,rfl⟩:=h;exact ⟨es,clock,hb,F,by simp [Maps.size,length_sorted],rfl⟩
theorem nN:Keyed Tryz.prog 3:=int_keyed Tryz.underlying3
theorem Cw (w:World):(zeroValue 3).run Tryz.prog w=.ok (.int .i64 0) w:=by kernel_rfl
theorem eO.same {w w':World} {b:Nat} {f:Int->Option Int} (h:eO w b f) (hb:w'.heap[b]?=w.heap[b]?):eO w' b f:=by
 obtain ⟨D,⟨es,clock,h1,h2⟩,h3⟩:=h;exact ⟨D,⟨es,clock,hb.trans h1,h2⟩,h3⟩
theorem eO.lt {w:World} {b:Nat} {f:Int->Option Int} (h:eO w b f):b<w.heap.size:=by
 obtain ⟨D,h1,_⟩:=h;exact h1.lt
theorem eO.upd {w w':World} {S:List Nat} {b:Nat} {f:Int->Option Int} (h:eO w b f) (hu:aa S w w') (hn:b∉S):eO w' b f:=h.same (hu.block b h.lt hn)
theorem eO.ext {w:World} {b:Nat} {f g:Int->Option Int} (h:eO w b f) (hg:∀k,f k=g k):eO w b g:=by
 rwa [show f=g from funext hg] at h
theorem BN {P:Program} {k:TypeId} {R:Value->Option (DataW Unit×List MemPlace)} {es':Array MapEntry} {clock:Nat} (K:Keyed P k) (F:Go.WideElems.Fit P k R es' clock) {p:Lit×DataW Unit}
  (hp:p∈(es'.toList.map (Go.WideElems.rg P k R)).foldr DataW.insert []):WideAt.IsKeyLit p.1:=by
 have hp2:=(Go.WideShapes.sorted_perm _).mem_iff.1 hp;obtain ⟨x,hx,rfl⟩:=List.mem_map.1 hp2;obtain ⟨y,hy⟩:=F.reads x hx;rw [Go.WideElems.rg_of hy];exact K.key (Go.WideElems.rd_key hy)
theorem eO.small {w:World} {b:Nat} {f:Int->Option Int} {D:DataW Unit} (h1:w.ownsMap Tryz.prog 3 (plainElem Tryz.prog 3) b (Maps.size D) D)
  (h2:∀kl,Maps.has D kl=true->∃k:Int,kl=.int .i64 k/\0<=k/\k<=65536/\(f k).isSome=true):Maps.size D<=65537:=by
 obtain ⟨es,rfl,hp⟩:=h1.tidy nN
 let num:Lit->Int:=fun l=>match l with | .int _ k=>k|_=>0
 have hk:∀p∈es,∃k:Int,p.1=.int .i64 k/\0<=k/\k<=65536:=fun p hp=>by
  have hh:Maps.has (DataW.map es) p.1=true:=by
   rw [has_eq];refine List.any_eq_true.2 ⟨p,hp,WideAt.sameKey_self ?_⟩;obtain ⟨es',clock,_,F,_,he⟩:=h1;have hes:es=(es'.toList.map (Go.WideElems.rg Tryz.prog 3 (plainElem Tryz.prog 3))).foldr DataW.insert []:=by simpa using he
   rw [hes] at hp;exact BN nN F hp
  obtain ⟨k,hk,h3,h4,_⟩:=h2 _ hh;exact ⟨k,hk,h3,h4⟩
 have:=nodup_range 65537 (es.map fun p=>num p.1) (by
  unfold List.Nodup;rw [List.pairwise_map];refine (List.Pairwise.imp_of_mem ?_ hp);intro a b ha hb hab e;obtain ⟨k1,e1,_⟩:=hk a ha;obtain ⟨k2,e2,_⟩:=hk b hb;rw [e1,e2] at e hab;exact hab (by rw [show k1=k2 from e])) (fun x hx=>by
  obtain ⟨p,hp,rfl⟩:=List.mem_map.1 hx;obtain ⟨k,e,h3,h4⟩:=hk p hp
  rw [e];show 0<=k/\k<((65537:Nat):Int);omega)
 simpa [size_eq] using this
theorem uJ {k:Int} (h:-9223372036854775808<=k/\k<=9223372036854775807):keyOf Tryz.prog 3 (.int .i64 k)=some (.int .i64 k):=keyOf_int_mk Tryz.underlying3 (WalkArith.wf_i64 h)
theorem eO.look {w:World} {b:Nat} {f:Int->Option Int} (h:eO w b f) (k:Int) (hk:-9223372036854775808<=k/\k<=9223372036854775807) :
  (Instr.lookup 232 (.map (some b)) (.int .i64 k) false).run Tryz.prog w=.ok (.int .i64 ((f k).getD 0)) w:=by
 obtain ⟨D,h1,h2,h3⟩:=h;obtain ⟨c,hrun,hat,_⟩:=h1.lookup_int nN Tryz.underlying232 Tryz.underlying3 (Cw w) (uJ hk);rw [hrun];cases hf:f k with
 | some z=>
  rw [(h3 k z hf).2] at hat;have:z=c:=by simpa using hat
  rw [this];rfl
 | none=>
  have:Maps.has D (.int .i64 k)=false:=by
   cases hh:Maps.has D (.int .i64 k)
   ·rfl
   ·obtain ⟨k',e,_,_,h4⟩:=h2 _ hh;cases e;rw [hf] at h4;cases h4
  rw [atKey_of_not_has this] at hat;have:(0:Int)=c:=by simpa using hat
  rw [←this];rfl
theorem eO.look_ok {w:World} {b:Nat} {f:Int->Option Int} (h:eO w b f) (k:Int) (hk:-9223372036854775808<=k/\k<=9223372036854775807) :
  (Instr.lookup 232 (.map (some b)) (.int .i64 k) true).run Tryz.prog w=.ok (.tuple #[.int .i64 ((f k).getD 0),.bool (f k).isSome]) w:=by
 obtain ⟨D,h1,h2,h3⟩:=h;obtain ⟨v,ps,hrun,hv⟩:=h1.look_ok nN Tryz.underlying232 (Cw w) (plainElem_int Tryz.underlying3 (a:=0) δ) (uJ hk);obtain ⟨c,rfl,hc,_⟩:=plainElem_int_inv Tryz.underlying3 hv;simp only [Prod.mk.injEq] at hc;have hat:=hc.1;rw [hrun];cases hf:f k with
 | some z=>
  rw [(h3 k z hf).2] at hat;rw [(h3 k z hf).1];have:z=c:=by simpa using hat
  rw [this];rfl
 | none=>
  have:Maps.has D (.int .i64 k)=false:=by
   cases hh:Maps.has D (.int .i64 k)
   ·rfl
   ·obtain ⟨k',e,_,_,h4⟩:=h2 _ hh;cases e;rw [hf] at h4;cases h4
  rw [atKey_of_not_has this] at hat;rw [this];have:(0:Int)=c:=by simpa using hat
  rw [←this];rfl
theorem nA {w w':World} {b:Nat} (h:w.mapTurned w' b):aa [b] w w':=(aa.refl [b] w).grown h.grown (fun k hk=>Α (by cases hk;simp))
theorem eO.store {w:World} {b:Nat} {f:Int->Option Int} (h:eO w b f) (k z:Int) (hk:0<=k/\k<=65536) (hz:-9223372036854775808<=z/\z<=9223372036854775807) :
  ∃w',(Instr.mapUpdate 232 (.map (some b)) (.int .i64 k) (.int .i64 z)).run Tryz.prog w=.ok () w'/\eO w' b (fun q=>if q=k then some z else f q)/\aa [b] w w':=by
 obtain ⟨D,h1,h2,h3⟩:=h;have hs:=eO.small h1 h2;obtain ⟨w',hrun,ho,ht⟩:=h1.store nN Tryz.underlying232 μ (uJ (k:=k) ω) (plainElem_int Tryz.underlying3 (a:=z) (WalkArith.wf_i64 hz));have hD:=h1.isMap;refine ⟨w',hrun,⟨_,uT ho,fun kl hkl=>?_,fun q y hq=>?_⟩,nA ht⟩
 ·by_cases e:kl=.int .i64 k
  ·exact ⟨k,e,hk.1,hk.2,σ⟩
  ·rw [has_put_other e] at hkl;obtain ⟨q,rfl,a,b,c⟩:=h2 kl hkl;refine ⟨q,rfl,a,b,?_⟩
   show (if q=k then some z else f q).isSome=true
   split
   ·rfl
   ·exact c
 ·by_cases e:q=k
  ·subst e;simp only [if_true,Ϙ] at hq;subst hq;exact ⟨has_put_same hD (show WideAt.IsKeyLit (.int .i64 q) from True.intro) _,fun d=>atKey_put_same hD (show WideAt.IsKeyLit (.int .i64 q) from True.intro) _ _⟩
  ·simp only [Γ e] at hq;have hne:(Lit.int .i64 q)≠.int .i64 k:=fun h=>e (by cases h;rfl);rw [has_put_other hne];exact ⟨(h3 q y hq).1,fun d=>by rw [atKey_put_other hne];exact (h3 q y hq).2 d⟩
theorem eO.drop {w:World} {b:Nat} {f:Int->Option Int} (h:eO w b f) (k:Int) (hk:-9223372036854775808<=k/\k<=9223372036854775807) (ty:TypeId) :
  ∃w',(Builtin.delete_ #[232,3] ty #[.map (some b),.int .i64 k]).run Tryz.prog w=.ok (.tuple #[]) w'/\eO w' b (fun q=>if q=k then none else f q)/\aa [b] w w':=by
 obtain ⟨D,h1,h2,h3⟩:=h;obtain ⟨w',hrun,ho,ht⟩:=h1.drop nN Tryz.underlying232 (uJ hk) ty;refine ⟨w',hrun,⟨_,uT ho,fun kl hkl=>?_,fun q y hq=>?_⟩,nA ht⟩
 ·by_cases e:kl=.int .i64 k
  ·subst e;rw [has_del_same] at hkl;cases hkl
  ·rw [has_del_other e] at hkl;obtain ⟨q,rfl,a,b,c⟩:=h2 kl hkl;exact ⟨q,rfl,a,b,by show (if q=k then none else f q).isSome=true;rw [Γ (fun h=>e (by rw [h]))];exact c⟩
 ·by_cases e:q=k
  ·subst e;simp at hq
  ·simp only [Γ e] at hq;have hne:(Lit.int .i64 q)≠.int .i64 k:=fun h=>e (by cases h;rfl);rw [has_del_other hne];exact ⟨(h3 q y hq).1,fun d=>by rw [atKey_del_other hne];exact (h3 q y hq).2 d⟩
theorem eO.made (w:World):eO (w.alloc (.map #[] 0)) w.heap.size (fun _=>none):=
 ⟨.map [],World.ownsMap_made w _ _ _,fun kl hkl=>by simp [has_eq] at hkl,fun k z hz=>by cases hz⟩
theorem kG {w:World} {ops:Array Oper} {rest:List Oper} {o:Oper} {a:Act} {Q:Exit->Act->World->Prop} (hg:o.guard=none) (m x v:Operand) (hop:o.op=Op.mapUpdate 232 m x v)
  (b:Nat) (f:Int->Option Int) (hm:a.eval m=.map (some b)) (h:eO w b f) (k z:Int) (hx:a.eval x=.int .i64 k) (hv:a.eval v=.int .i64 z) (hk:0<=k/\k<=65536) (hz:-9223372036854775808<=z/\z<=9223372036854775807)
  (hK:∀w',eO w' b (fun q=>if q=k then some z else f q)->aa [b] w w'->wpList Tryz.prog ops Q rest (a.put o.dst undef) w'):wpList Tryz.prog ops Q (o::rest) a w:=by
 refine wpList_plain hg fun K' hK'=>?_;obtain ⟨w',hrun,r1,r2⟩:=h.store k z hk hz;unfold Oper.wp;simp [execOp,hop,hm,hx,hv,hrun,Result.andThen];exact hK' _ _ (hK w' r1 r2)
theorem mO {w:World} {ops:Array Oper} {rest:List Oper} {o:Oper} {a:Act} {Q:Exit->Act->World->Prop} (hg:o.guard=none) (m x:Operand) (hop:o.op=Op.call { callee:=Callee.builtin Builtin.delete,args:=#[m,x],argTypes:=#[232,3] })
  (b:Nat) (f:Int->Option Int) (hm:a.eval m=.map (some b)) (h:eO w b f) (k:Int) (hx:a.eval x=.int .i64 k) (hk:-9223372036854775808<=k/\k<=9223372036854775807)
  (hK:∀w',eO w' b (fun q=>if q=k then none else f q)->aa [b] w w'->wpList Tryz.prog ops Q rest (a.put o.dst (.tuple #[])) w'):wpList Tryz.prog ops Q (o::rest) a w:=by
 refine wpList_plain hg fun K' hK'=>?_;obtain ⟨w',hrun,r1,r2⟩:=h.drop k hk o.type;unfold Oper.wp;simp [execOp,hop,resolve,invoke,builtin,hm,hx,hrun,Result.andThen];exact hK' _ _ (hK w' r1 r2)
theorem jD {w:World} {ops:Array Oper} {rest:List Oper} {o:Oper} {a:Act} {Q:Exit->Act->World->Prop} (hg:o.guard=none) (m x:Operand) (hop:o.op=Op.lookup 232 m x false)
  (b:Nat) (f:Int->Option Int) (hm:a.eval m=.map (some b)) (h:eO w b f) (k:Int) (hx:a.eval x=.int .i64 k) (hk:-9223372036854775808<=k/\k<=9223372036854775807) (z:Int) (hz:(f k).getD 0=z)
  (hK:wpList Tryz.prog ops Q rest (a.put o.dst (.int .i64 z)) w):wpList Tryz.prog ops Q (o::rest) a w:=by
 refine wpList_plain hg fun K' hK'=>?_;have hrun:=h.look k hk;rw [hz] at hrun;unfold Oper.wp;simp [execOp,hop,hm,hx,hrun,Result.andThen];exact hK' _ _ hK
theorem kL {w:World} {ops:Array Oper} {rest:List Oper} {o:Oper} {a:Act} {Q:Exit->Act->World->Prop} (hg:o.guard=none) (m x:Operand) (hop:o.op=Op.lookup 232 m x true)
  (b:Nat) (f:Int->Option Int) (hm:a.eval m=.map (some b)) (h:eO w b f) (k:Int) (hx:a.eval x=.int .i64 k) (hk:-9223372036854775808<=k/\k<=9223372036854775807)
  (hK:wpList Tryz.prog ops Q rest (a.put o.dst (.tuple #[.int .i64 ((f k).getD 0),.bool (f k).isSome])) w):wpList Tryz.prog ops Q (o::rest) a w:=by
 refine wpList_plain hg fun K' hK'=>?_;have hrun:=h.look_ok k hk;unfold Oper.wp;simp [execOp,hop,hm,hx,hrun,Result.andThen];exact hK' _ _ hK
end Go.Proofs.YtklibcncmbofpaaGreat
namespace Go.Proofs.YtklibcncmbofpaaGreat
open Go Go.RowKit
def iY (raw:Nat->Cl) (j:Nat):Value:=if j % 3=0 then .int .i64 (raw (j / 3)).i else if j % 3=1 then .int .i64 (raw (j / 3)).k else .int .u64 (raw (j / 3)).s
theorem IJ (raw:Nat->Cl) (x:Nat):iY raw (x*3)=.int .i64 (raw x).i:=by unfold iY;rw [Δ ω,show x*3 / 3=x by omega]
theorem wV (raw:Nat->Cl) (x:Nat):iY raw (x*3+1)=.int .i64 (raw x).k:=by unfold iY;rw [Γ ω,Δ ω,show (x*3+1) / 3=x by omega]
theorem wW (raw:Nat->Cl) (x:Nat):iY raw (x*3+2)=.int .u64 (raw x).s:=by unfold iY;rw [Γ ω,Γ ω,show (x*3+2) / 3=x by omega]
def ic (A:NS) (h:Int):Option Int:=if 0<dA A h then some (dA A h:Int) else none
theorem qG (A:NS) (h:Int):(ic A h).getD 0=dA A h:=by unfold ic;split;rfl;simp;omega
structure CM (w:World) (c ca nm mb g cap:Nat) (l:List Int) (rt dp:Nat->Nat) (raw:Nat->Cl) (A:NS) (st:Nat):Prop where
 head:aF w c 245 4 (fun j=>[Value.int .i64 (st:Int),.slice (some ⟨ca,0,none⟩) A.cs.length A.cs.length,.pointer (some ⟨nm,0,none⟩),.map (some mb)].getD j undef)
 row:aF w ca 281 (A.cs.length*3) (iY raw)
 TN:iZ w nm g cap l
 many:eO w mb (ic A)
 NM:pI l rt dp
 ok:A.Ok
 qd:st<=4611686018427387904
 rel:∀x,x<A.cs.length->(raw x=Cl.z/\A.c x=Cl.z)\/(1<=(raw x).i/\(raw x).i<l.length/\A.c x=⟨rt (raw x).i.toNat,(raw x).k,(raw x).s⟩)
 hlen:A.hs.length=l.length
 has:∀i,1<=i->i<l.length->A.hs.getD i false=decide (l.getD i 0=i)
 sep:(c≠ca/\c≠nm/\c≠mb/\c≠g)/\(ca≠nm/\ca≠mb/\ca≠g)/\(nm≠mb/\mb≠g)
theorem CM.upd {w w':World} {S:List Nat} {c ca nm mb g cap:Nat} {l:List Int} {rt dp:Nat->Nat} {raw:Nat->Cl} {A:NS} {st:Nat} (h:CM w c ca nm mb g cap l rt dp raw A st) (hu:aa S w w') (hS:∀x,x∈S->x∉[c,ca,nm,mb,g]):CM w' c ca nm mb g cap l rt dp raw A st:=
 ⟨h.head.upd hu (fun m=>hS _ m σ),h.row.upd hu (fun m=>hS _ m σ),h.TN.upd hu (fun m=>hS _ m σ) (fun m=>hS _ m σ),h.many.upd hu (fun m=>hS _ m σ),h.NM,h.ok,h.qd,h.rel,h.hlen,h.has,h.sep⟩
def aB (w:World) (c:Nat) (F:List Nat) (A:NS) (st:Nat):Prop:=∃ca nm mb g cap l rt dp raw,CM w c ca nm mb g cap l rt dp raw A st/\F=[c,ca,nm,mb,g]
theorem aB.upd {w w':World} {S F:List Nat} {c:Nat} {A:NS} {st:Nat} (h:aB w c F A st) (hu:aa S w w') (hS:∀x,x∈S->x∉F):aB w' c F A st:=by
 obtain ⟨ca,nm,mb,g,cap,l,rt,dp,raw,h,rfl⟩:=h;exact ⟨ca,nm,mb,g,cap,l,rt,dp,raw,h.upd hu hS,rfl⟩
theorem aB.ae {w w':World} {F:List Nat} {c:Nat} {A:NS} {st:Nat} (h:aB w c F A st) (hu:aa [] w w'):aB w' c F A st:=h.upd hu σ
theorem aB.ok {w:World} {F:List Nat} {c:Nat} {A:NS} {st:Nat} (h:aB w c F A st):A.Ok:=by
 obtain ⟨ca,nm,mb,g,cap,l,rt,dp,raw,h,rfl⟩:=h;exact h.ok
theorem aB.qd {w:World} {F:List Nat} {c:Nat} {A:NS} {st:Nat} (h:aB w c F A st):st<=4611686018427387904:=by
 obtain ⟨ca,nm,mb,g,cap,l,rt,dp,raw,h,rfl⟩:=h;exact h.qd
theorem aB.lt {w:World} {F:List Nat} {c:Nat} {A:NS} {st:Nat} (h:aB w c F A st):∀x,x∈F->x<w.heap.size:=by
 obtain ⟨ca,nm,mb,g,cap,l,rt,dp,raw,h,rfl⟩:=h;intro x hx;have:=h.head.lt;have:=h.row.lt;have:=h.TN.lt;have:=h.many.lt;simp at hx;omega
theorem aB.mem {w:World} {F:List Nat} {c:Nat} {A:NS} {st:Nat} (h:aB w c F A st):c∈F:=by
 obtain ⟨ca,nm,mb,g,cap,l,rt,dp,raw,h,rfl⟩:=h;simp
def Goes (F:List Nat) (w w':World) (P:List Nat->Prop):Prop:=∃F',P F'/\aa F w w'/\∀x,x∈F'->x∈F\/w.heap.size<=x
theorem Goes.stay {F:List Nat} {w w':World} {P:List Nat->Prop} (h:P F) (hu:aa F w w'):Goes F w w' P:=⟨F,h,hu,fun x hx=>Α hx⟩
section
variable {w:World} {c ca nm mb g cap:Nat} {l:List Int} {rt dp:Nat->Nat} {raw:Nat->Cl} {A:NS} {st:Nat}
theorem CM.c0 (h:CM w c ca nm mb g cap l rt dp raw A st):w.cell? ⟨c,0,none⟩=some (.int .i64 (st:Int)):=h.head.cellAt 0 ω rfl
theorem CM.c1 (h:CM w c ca nm mb g cap l rt dp raw A st):w.cell? ⟨c,1,none⟩=some (.slice (some ⟨ca,0,none⟩) A.cs.length A.cs.length):=h.head.cellAt 1 ω rfl
theorem CM.c2 (h:CM w c ca nm mb g cap l rt dp raw A st):w.cell? ⟨c,2,none⟩=some (.pointer (some ⟨nm,0,none⟩)):=h.head.cellAt 2 ω rfl
theorem CM.c3 (h:CM w c ca nm mb g cap l rt dp raw A st):w.cell? ⟨c,3,none⟩=some (.map (some mb)):=h.head.cellAt 3 ω rfl
theorem CM.VZ (h:CM w c ca nm mb g cap l rt dp raw A st) {x:Nat} (hx:x<A.cs.length):decide (0<(A.c x).i)=decide (0<(raw x).i):=by
 rcases h.rel x hx with ⟨h1,h2⟩|⟨h1,h2,h3⟩
 ·rw [h1,h2]
 ·have:=h.NM.TR (i:=(raw x).i.toNat) ω ω;rw [h3,decide_eq_decide];simp only;omega
theorem CM.Ej (h:CM w c ca nm mb g cap l rt dp raw A st) (x:Int):Ej l x=bf A x:=by
 unfold Go.Proofs.YtklibcncmbofpaaGreat.Ej bf;rw [h.hlen]
 by_cases hx:0<x/\x<l.length
 ·rw [h.has x.toNat ω ω,Bool.eq_iff_iff];simp only [Τ,Ο,beq_iff_eq];constructor
  ·rintro ⟨_,h2⟩;exact ⟨⟨ω,ω⟩,ω⟩
  ·rintro ⟨_,h2⟩;exact ⟨⟨ω,ω⟩,ω⟩
 ·have e1:(decide (0<x) && decide (x<(l.length:Int)))=false:=ζ;have e2:(decide (1<=x) && decide (x<(l.length:Int)))=false:=ζ;rw [e1,e2];rfl
end
theorem iE {w:World} {c st:Nat} {F:List Nat} {A:NS} (h:aB w c F A st) (x:Int) :
  Calls Tryz.prog 139 #[.pointer (some ⟨c,0,none⟩),.int .i64 x] w fun e w'=>e=.returned (.bool (bf A x))/\w'=w:=by
 obtain ⟨ca,nm,mb,g,cap,l,rt,dp,raw,h,rfl⟩:=h;have c2:=h.c2;have k:=PN nm g cap l x w h.TN h.NM.NL;rw [h.Ej] at k;clear h
 go_enter Tryz.func139,Tryz.ntmps139
 go_wp2_with ((go_at_call 152;(with_reducible refine (k).mono ?_);rintro e w9 ⟨rfl,aO⟩;rw [aO];clear aO w9))
 go_ret;exact ⟨rfl,rfl⟩
theorem nE {w:World} {c st:Nat} {F:List Nat} {A:NS} (h:aB w c F A st) (x:Int) (hx:-9223372036854775808<=x/\x<=9223372036854775807) :
  Calls Tryz.prog 142 #[.pointer (some ⟨c,0,none⟩),.int .i64 x] w fun e w'=>e=.returned (.int .i64 (dA A x:Int))/\w'=w:=by
 obtain ⟨ca,nm,mb,g,cap,l,rt,dp,raw,h,rfl⟩:=h;have c3:=h.c3;have hl:=h.many.look x hx;rw [qG] at hl;clear h
 go_enter Tryz.func142,Tryz.ntmps142
 go_wp2;go_ret;exact ⟨rfl,rfl⟩
theorem zf {w:World} {c st:Nat} {F:List Nat} {A:NS} (h:aB w c F A st) (x:Int) :
  Calls Tryz.prog 160 #[.pointer (some ⟨c,0,none⟩),.int .i64 x] w fun e w'=>e=.returned (.bool (uG A x))/\w'=w:=by
 obtain ⟨ca,nm,mb,g,cap,l,rt,dp,raw,h,rfl⟩:=h;have c1:=h.c1;have h1:=h.ok.c1;clear h;unfold uG
 by_cases h0:0<=x
 ·go_enter Tryz.func160,Tryz.ntmps160
  go_wp2;go_ret;exact ⟨bg (by simp [h0]),rfl⟩
 ·go_enter Tryz.func160,Tryz.ntmps160
  go_wp2;go_ret;exact ⟨bg ζ,rfl⟩
theorem oG {w:World} {c st:Nat} {F:List Nat} {A:NS} (h:aB w c F A st) (x:Int) :
  Calls Tryz.prog 149 #[.pointer (some ⟨c,0,none⟩),.int .i64 x] w fun e w'=>e=.returned (.bool (bP A x))/\w'=w:=by
 have k:=zf h x;obtain ⟨ca,nm,mb,g,cap,l,rt,dp,raw,h,rfl⟩:=h;have c1:=h.c1;have h1:=h.ok.c1;unfold bP;cases hs:uG A x
 ·rw [hs] at k;clear h
  go_enter Tryz.func149,Tryz.ntmps149
  go_wp2_with ((go_at_call 160;(with_reducible refine (k).mono ?_);rintro e w9 ⟨rfl,aO⟩;rw [aO];clear aO w9))
  go_ret;exact ⟨rfl,rfl⟩
 ·rw [hs] at k;have hx:=(dB _ _).1 hs;obtain ⟨i,rfl⟩:∃i:Nat,x=i:=⟨x.toNat,ω⟩;have hi:i<A.cs.length:=ω;have d0:=h.row.cellAt (i*3) ω (IJ raw i);simp only [π];rw [h.VZ hi];clear h hs
  go_enter Tryz.func149,Tryz.ntmps149
  go_wp2_with ((go_at_call 160;(with_reducible refine (k).mono ?_);rintro e w9 ⟨rfl,aO⟩;rw [aO];clear aO w9))
  go_ret;exact ⟨bg σ,rfl⟩
theorem XO {w:World} {ca m i:Nat} {e:TypeId} {raw:Nat->Cl} (h:aF w ca e m (iY raw)) (cl:Cl) :
  aF (((w.setCell ⟨ca,i*3,none⟩ (.int .i64 cl.i)).setCell ⟨ca,i*3+1,none⟩ (.int .i64 cl.k)).setCell ⟨ca,i*3+2,none⟩ (.int .u64 cl.s)) ca e m (iY (fun y=>if y=i then cl else raw y)):=by
 refine (((h.set _ _).set _ _).set _ _).ext (fun j hj=>?_);simp only [iY]
 by_cases e0:j=i*3+2
 ·rw [Δ e0,Γ ω,Γ ω,Δ ω]
 ·rw [Γ e0]
  by_cases e1:j=i*3+1
  ·rw [Δ e1,Γ ω,Δ ω,Δ ω]
  ·rw [Γ e1]
   by_cases e2:j=i*3
   ·rw [Δ e2,Δ ω,Δ ω]
   ·rw [Γ e2,Γ (show ¬j / 3=i by omega)]
theorem row2 {w:World} {ca m i:Nat} {e:TypeId} {raw:Nat->Cl} (h:aF w ca e m (iY raw)) (k s:Int) :
  aF ((w.setCell ⟨ca,i*3+1,none⟩ (.int .i64 k)).setCell ⟨ca,i*3+2,none⟩ (.int .u64 s)) ca e m (iY (fun y=>if y=i then ⟨(raw i).i,k,s⟩ else raw y)):=by
 refine ((h.set _ _).set _ _).ext (fun j hj=>?_);simp only [iY]
 by_cases e0:j=i*3+2
 ·rw [Δ e0,Γ ω,Γ ω,Δ ω]
 ·rw [Γ e0]
  by_cases e1:j=i*3+1
  ·rw [Δ e1,Γ ω,Δ ω,Δ ω]
  ·rw [Γ e1]
   by_cases e2:j=i*3
   ·rw [Δ ω,Δ ω,Δ ω,show j / 3=i by omega]
   ·rw [Γ (show ¬j / 3=i by omega)]
section
variable {w:World} {c ca nm mb g cap:Nat} {l:List Int} {rt dp:Nat->Nat} {raw:Nat->Cl} {A:NS} {st:Nat}
theorem CM.turn (h:CM w c ca nm mb g cap l rt dp raw A st) {w2:World} {Ei:Nat->Cl} {A':NS} (hu:aa [ca,mb] w w2) (hrow:aF w2 ca 281 (A.cs.length*3) (iY Ei)) (hm:eO w2 mb (ic A')) (hok:A'.Ok)
  (hlen:A'.cs.length=A.cs.length) (nC:A'.hs=A.hs) (hrel:∀x,x<A.cs.length->(Ei x=Cl.z/\A'.c x=Cl.z)\/(1<=(Ei x).i/\(Ei x).i<l.length/\A'.c x=⟨rt (Ei x).i.toNat,(Ei x).k,(Ei x).s⟩)) :
  CM w2 c ca nm mb g cap l rt dp Ei A' st:=by
 have s:=h.sep;refine ⟨?_,by rw [hlen];exact hrow,h.TN.upd hu ι ι,hm,h.NM,hok,h.qd,by rw [hlen];exact hrel,by rw [nC];exact h.hlen,by rw [nC];exact h.has,s⟩;rw [hlen];exact h.head.upd hu ι
theorem CM.VD (h:CM w c ca nm mb g cap l rt dp raw A st) {i:Nat} (hi:bf A i=true):1<=i/\i<l.length/\rt i=i/\l.getD i 0=i:=by
 rw [←h.Ej] at hi;unfold Go.Proofs.YtklibcncmbofpaaGreat.Ej at hi;simp only [Τ,Ο,beq_iff_eq,π] at hi;exact ⟨ω,ω,h.NM.top i ω ω hi.2,hi.2⟩
end
def Va (l:List Int) (rt:Nat->Nat) (cr ca:Cl):Prop:=(cr=Cl.z/\ca=Cl.z)\/(1<=cr.i/\cr.i<l.length/\ca=⟨rt cr.i.toNat,cr.k,cr.s⟩)
theorem yw {l:List Int} {rt:Nat->Nat} {raw:Nat->Cl} {A:NS} {x:Nat} {cr ca:Cl} (h:∀y,y<A.cs.length->Va l rt (raw y) (A.c y)) (hx:x<A.cs.length) (hc:Va l rt cr ca) :
  ∀y,y<A.cs.length->Va l rt (if y=x then cr else raw y) ((gT A x ca).c y):=by
 intro y hy;rw [iy]
 by_cases e:y=x
 ·simp only [e,hx,and_self,if_true];exact hc
 ·simp only [e,false_and,if_false];exact h y hy
theorem GN {A:NS} {x:Nat} {c:Cl} (h:Int) (hx:x<A.cs.length) (hz:(A.c x).i=0) (hc:0<c.i) (q:Int):(if q=c.i then some ((dA A c.i:Int)+1) else ic A q)=ic (gT A x c) q:=by
 have:=nS A x c q hx;rw [hz] at this;unfold ic
 by_cases e:q=c.i
 ·subst e;rw [Δ rfl];rw [Γ ω,Δ ⟨rfl,hc⟩] at this;simp only [ϖ] at this;rw [Δ ω,this];simp
 ·rw [Γ e];rw [Γ ω,Γ ω] at this;simp only [ϖ] at this;rw [this]
theorem lX {w:World} {c st:Nat} {F:List Nat} {A:NS} (h:aB w c F A st) (hh x:Nat) (k s:Int) (hk:-9223372036854775808<=k/\k<=9223372036854775807/\0<=s/\s<=18446744073709551615) (hB:iX A hh x=true) :
  Calls Tryz.prog 154 #[.pointer (some ⟨c,0,none⟩),.int .i64 (hh:Int),.int .i64 (x:Int),.agg #[.int .i64 k,.int .u64 s]] w fun e w'=>e=.returned (.bool true)/\aB w' c F (au A hh x k s) st/\aa F w w':=by
 have k1:=fun W hW=>iE (h.ae (w':=W) hW) hh;have k2:=fun W hW=>zf (h.ae (w':=W) hW) x;have k3:=fun W hW=>oG (h.ae (w':=W) hW) x;have hu:aa [] w (w.alloc (.cells #[.int .i64 k,.int .u64 s] 129)):=(aa.refl _ _).alloc _;have hp:=(bV _ _ _).1 hB;rw [hp.1] at k1;rw [hp.2.1] at k2;rw [hp.2.2] at k3;have hx:=(dB _ _).1 hp.2.1;have zh:=(aK _ _).1 hp.1;have hAz:(A.c x).i<=0:=by have:=hp.2.2;unfold bP at this;rw [hp.2.1] at this;simpa using this
 have hin:(A.c x).i=0:=by have:=h.ok.nat x ω;omega
 have hlen:=Cf h.ok (hh:Int);have hA1:=h.ok.h1;have hA2:=h.ok.c1;obtain ⟨ca,nm,mb,g,cap,l,rt,dp,raw,h,rfl⟩:=h;have c1:=h.c1;have c3:=h.c3;have d0:=h.row.cell (x*3) ω;have d1:=h.row.cell (x*3+1) ω;have d2:=h.row.cell (x*3+2) ω;have f0:=h.row.free (x*3);have f1:=h.row.free (x*3+1);have f2:=h.row.free (x*3+2);have hlt:=aB.lt ⟨ca,nm,mb,g,cap,l,rt,dp,raw,h,rfl⟩;have l1:=hlt c σ;have l2:=hlt ca σ;have l3:=hlt mb σ;have hs:=h.sep;have H:=χ h;have HP:=χ hp;clear h hp hB hlt;obtain ⟨len,hle⟩:∃n,n=A.cs.length:=⟨_,rfl⟩;rw [←hle] at c1 hx;have HL:=χ hle;clear hle;have hx2:x<len:=ω
 go_enter Tryz.func154,Tryz.ntmps154
 go_wp2_with (first|(go_at_call 139;(with_reducible refine ((k1 _ hu)).mono ?_);rintro e w9 ⟨rfl,aO⟩;rw [aO];clear aO w9)|(go_at_call 160;(with_reducible refine ((k2 _ hu)).mono ?_);rintro e w9 ⟨rfl,aO⟩;rw [aO];clear aO w9)|(go_at_call 149;(with_reducible refine ((k3 _ hu)).mono ?_);rintro e w9 ⟨rfl,aO⟩;rw [aO];clear aO w9))
 go_region
 go_wp2_with (first
  | (at_lookup;refine jD rfl _ _ rfl mb (ic A) rfl (H.out.many.upd (S:=[ca]) β ι) (hh:Int) rfl ω (dA A (hh:Int):Int) (qG _ _) ?_)
  | (at_mapUpdate;refine kG rfl _ _ _ rfl mb (ic A) rfl (H.out.many.upd (S:=[ca]) β ι) (hh:Int) ((dA A (hh:Int):Int)+1) rfl rfl ω ω ?_;intro w2 hm2 hu2))
 go_ret;have hu3:aa [ca] w ((((w.setCell ⟨ca,x*3,none⟩ (.int .i64 (hh:Int))).setCell ⟨ca,x*3+1,none⟩ (.int .i64 k)).setCell ⟨ca,x*3+2,none⟩ (.int .u64 s)).alloc (.cells #[.int .i64 k,.int .u64 s] 129)).drew:=β;have hr3:=((XO (i:=x) H.out.row ⟨(hh:Int),k,s⟩).upd ((aa.refl [] _).alloc (.cells #[.int .i64 k,.int .u64 s] 129) |>.drew) σ).upd hu2 ι;have jN:aa [ca,mb] w w2:=(hu3.mono ι).joined hu2 (fun y hy=>Α (by simp at hy;simp [hy]));have hrt:=H.out.VD HP.out.1;have hxl:x<A.cs.length:=by rw [←HL.out];exact hx2
 have e:au A (hh:Int) (x:Int) k s=gT A x ⟨(hh:Int),k,s⟩:=by unfold au;rw [Δ ((bV _ _ _).2 HP.out)];simp
 refine ⟨rfl,⟨ca,nm,mb,g,cap,l,rt,dp,fun y=>if y=x then ⟨(hh:Int),k,s⟩ else raw y,?_,rfl⟩,jN.mono ι⟩;rw [e];refine H.out.turn jN hr3 (hm2.ext (fun q=>GN (c:=⟨(hh:Int),k,s⟩) (hh:Int) hxl hin (by show 0<(hh:Int);omega) q)) (by rw [←e];exact qR H.out.ok _ _ _ _ hk) (dK _ _ _) rfl (yw H.out.rel hxl (Β ⟨by show 1<=(hh:Int);omega,by show (hh:Int)<l.length;omega,by rw [π,hrt.2.2.1]⟩))
theorem jK {w:World} {c st:Nat} {F:List Nat} {A:NS} (h:aB w c F A st) (x:Int) (hx:bP A x=false) :
  Calls Tryz.prog 137 #[.pointer (some ⟨c,0,none⟩),.int .i64 x] w fun e w'=>e=.returned (.tuple #[.agg #[.int .i64 0,.int .u64 0],.bool false])/\aa [] w w':=by
 have hu:aa [] w (w.alloc (.cells #[.int .i64 0,.int .u64 0] 129)):=(aa.refl _ _).alloc _;have k:=oG (h.ae hu) x;rw [hx] at k;clear h hx
 go_enter Tryz.func137,Tryz.ntmps137
 go_wp2_with ((go_at_call 149;(with_reducible refine (k).mono ?_);rintro e w9 ⟨rfl,aO⟩;rw [aO];clear aO w9))
 exact bodyPost_ret (v:=.tuple #[.agg #[.int .i64 0,.int .u64 0],.bool false]) (by simp [results,Tryz.results137,go_sem]) rfl ⟨rfl,ξ⟩
theorem iV {w:World} {c st:Nat} {F:List Nat} {A:NS} (h:aB w c F A st) (x:Nat) (hx:bP A x=true) :
  Calls Tryz.prog 137 #[.pointer (some ⟨c,0,none⟩),.int .i64 (x:Int)] w fun e w'=>e=.returned (.tuple #[.agg #[.int .i64 (A.c x).k,.int .u64 (A.c x).s],.bool true])/\aa [] w w':=by
 have hu:aa [] w (w.alloc (.cells #[.int .i64 0,.int .u64 0] 129)):=(aa.refl _ _).alloc _;have k:=oG (h.ae hu) x;rw [hx] at k;obtain ⟨hx1,hx2⟩:=(aj _ _).1 hx;obtain ⟨ca,nm,mb,g,cap,l,rt,dp,raw,h,rfl⟩:=h;have e:A.c x=⟨rt (raw x).i.toNat,(raw x).k,(raw x).s⟩:=by
  rcases h.rel x hx1 with ⟨h1,h2⟩|⟨h1,h2,h3⟩
  ·rw [h2] at hx2;exact absurd hx2 δ
  ·exact h3
 rw [e];have c1:=h.c1;have d1:=h.row.cellAt (x*3+1) ω (wV raw x);have d2:=h.row.cellAt (x*3+2) ω (wW raw x);have hA:=h.ok.c1;have l1:=h.head.lt;have l2:=h.row.lt;clear h hx hx2 e
 go_enter Tryz.func137,Tryz.ntmps137
 go_wp2_with ((go_at_call 149;(with_reducible refine (k).mono ?_);rintro e w9 ⟨rfl,aO⟩;rw [aO];clear aO w9))
 exact bodyPost_ret (v:=.tuple #[.agg #[.int .i64 (raw x).k,.int .u64 (raw x).s],.bool true]) (by simp [results,Tryz.results137,go_sem]) rfl ⟨rfl,ξ⟩
theorem CM.V3 {w:World} {c ca nm mb g cap:Nat} {l l':List Int} {rt dp:Nat->Nat} {raw:Nat->Cl} {A:NS} {st:Nat} (h:CM w c ca nm mb g cap l rt dp raw A st) {w':World} (hN:iZ w' nm g cap l') (ok:pI l' rt dp) (hl:l'.length=l.length) (hu:aa [g] w w') :
  CM w' c ca nm mb g cap l' rt dp raw A st:=by
 have s:=h.sep;refine ⟨h.head.upd hu ι,h.row.upd hu ι,hN,h.many.upd hu ι,ok,h.ok,h.qd,by rw [hl];exact h.rel,by rw [hl];exact h.hlen,fun i h1 h2=>?_,s⟩;rw [hl] at h2;rw [h.has i h1 h2,decide_eq_decide,h.NM.OH h1 h2,ok.OH h1 (by rw [hl];exact h2)]
theorem iK {w:World} {c st:Nat} {F:List Nat} {A:NS} (h:aB w c F A st) (x:Nat) (hx:bP A x=true) :
  Calls Tryz.prog 140 #[.pointer (some ⟨c,0,none⟩),.int .i64 (x:Int)] w fun e w'=>e=.returned (.tuple #[.int .i64 (A.c x).i,.bool true])/\aB w' c F A st/\aa F w w':=by
 have k:=oG h x;rw [hx] at k;obtain ⟨hx1,hx2⟩:=(aj _ _).1 hx;obtain ⟨ca,nm,mb,g,cap,l,rt,dp,raw,h,rfl⟩:=h;have e:1<=(raw x).i/\(raw x).i<l.length/\A.c x=⟨rt (raw x).i.toNat,(raw x).k,(raw x).s⟩:=by
  rcases h.rel x hx1 with ⟨h1,h2⟩|h3
  ·rw [h2] at hx2;exact absurd hx2 δ
  ·exact h3
 obtain ⟨r,hr⟩:∃r:Nat,(raw x).i=r:=⟨(raw x).i.toNat,ω⟩;rw [e.2.2,hr,π];have c1:=h.c1;have c2:=h.c2;have d0:=h.row.cellAt (x*3) ω (IJ raw x);rw [hr] at d0 e;have hA:=h.ok.c1;have hs:=h.sep;have H:=χ h;have hr1:1<=r:=ω;have hr2:r<l.length:=ω;clear h hx hx2 e hr
 go_enter Tryz.func140,Tryz.ntmps140
 go_wp2_with ((go_at_call 149;(with_reducible refine (k).mono ?_);rintro e w9 ⟨rfl,aO⟩;rw [aO];clear aO w9))
 have r1:∀W,aa [g] w W->W.cell? ⟨c,1,none⟩=some (.slice (some ⟨ca,0,none⟩) A.cs.length A.cs.length):=fun W hW=>by rw [hW.cell H.out.head.lt ι];exact c1
 have r2:∀W,aa [g] w W->W.cell? ⟨c,2,none⟩=some (.pointer (some ⟨nm,0,none⟩)):=fun W hW=>by rw [hW.cell H.out.head.lt ι];exact c2
 have r3:∀W,aa [g] w W->W.cell? ⟨ca,x*3,none⟩=some (.int .i64 (r:Int)):=fun W hW=>by rw [hW.cell H.out.row.lt ι];exact d0
 go_region_held3 (aa [g] w) (exact η)
  ((go_at_call 153;(with_reducible refine (LW nm g cap l rt dp r _ (H.out.TN.upd (S:=[]) β σ σ) H.out.NM hr1 hr2).mono ?_);rintro e w1 ⟨l',rfl,hN,hok,hlen,hu⟩;have hu':aa [g] w w1:=(by first|exact hu|exact ((aa.refl [g] w).drew.trans hu)|exact ((aa.refl [g] w).drewN _ |>.trans hu))))
 go_wp2;go_ret2;exact ⟨rfl,⟨ca,nm,mb,g,cap,l',rt,dp,raw,H.out.V3 hN hok hlen hu',rfl⟩,hu'.mono ι⟩
theorem Hy {A A':NS} (h:∀q,dA A' q=dA A q):ic A'=ic A:=by
 funext q;unfold ic;rw [h q]
theorem Gb {w:World} {c st:Nat} {F:List Nat} {A:NS} (h:aB w c F A st) (i:Nat) (k s:Int) (hk:-9223372036854775808<=k/\k<=9223372036854775807/\0<=s/\s<=18446744073709551615) (hB:CR A i k s=true) :
  Calls Tryz.prog 147 #[.pointer (some ⟨c,0,none⟩),.int .i64 (i:Int),.agg #[.int .i64 k,.int .u64 s]] w fun e w'=>e=.returned (.bool true)/\aB w' c F (jo A i k s) st/\aa F w w':=by
 have hu0:aa [] w (w.alloc (.cells #[.int .i64 k,.int .u64 s] 129)):=(aa.refl _ _).alloc _;have k3:=fun W (hW:aa [] (w.alloc (.cells #[.int .i64 k,.int .u64 s] 129)) W)=>oG (h.ae (hu0.trans hW)) i;have hB0:=χ hB;unfold CR at hB;simp only [Τ,Bool.not_eq_true',π] at hB;obtain ⟨e,hl⟩:=hB;rw [e] at k3;obtain ⟨hi,hx2⟩:=(aj _ _).1 e;obtain ⟨ca,nm,mb,g,cap,l,rt,dp,raw,h,rfl⟩:=h;have ee:1<=(raw i).i/\(raw i).i<l.length/\A.c i=⟨rt (raw i).i.toNat,(raw i).k,(raw i).s⟩:=by
  rcases h.rel i hi with ⟨h1,h2⟩|h3
  ·rw [h2] at hx2;exact absurd hx2 δ
  ·exact h3
 rw [ee.2.2] at hl;have c1:=h.c1;have d1:=h.row.cellAt (i*3+1) ω (wV raw i);have d2:=h.row.cellAt (i*3+2) ω (wW raw i);have f1:=h.row.free (i*3+1);have f2:=h.row.free (i*3+2);have hA:=h.ok.c1;have kl:=fun W=>L9 (raw i).k (raw i).s k s W;rw [hl] at kl;have R3:Hid (∀w2:World,aa [] (w.alloc (.cells #[.int .i64 k,.int .u64 s] 129)) w2->aB ((w2.setCell ⟨ca,i*3+1,none⟩ (.int .i64 k)).setCell ⟨ca,i*3+2,none⟩ (.int .u64 s)) c [c,ca,nm,mb,g] (jo A i k s) st/\aa [c,ca,nm,mb,g] w ((w2.setCell ⟨ca,i*3+1,none⟩ (.int .i64 k)).setCell ⟨ca,i*3+2,none⟩ (.int .u64 s))):=fun w2 hw2=>by
  have hs:=h.sep;have hm:=h.upd (hu0.trans hw2) σ;have jN:aa [ca,mb] w2 ((w2.setCell ⟨ca,i*3+1,none⟩ (.int .i64 k)).setCell ⟨ca,i*3+2,none⟩ (.int .u64 s)):=β;have dF:aa [ca] w2 ((w2.setCell ⟨ca,i*3+1,none⟩ (.int .i64 k)).setCell ⟨ca,i*3+2,none⟩ (.int .u64 s)):=β;have e2:jo A (i:Int) k s=gT A i ⟨(A.c i).i,k,s⟩:=by unfold jo;rw [Δ hB0.out];simp
  refine ⟨⟨ca,nm,mb,g,cap,l,rt,dp,fun y=>if y=i then ⟨(raw i).i,k,s⟩ else raw y,?_,rfl⟩,((hu0.trans hw2).mono σ).trans (jN.mono ι)⟩;rw [e2];refine hm.turn jN (row2 hm.row k s) ?_ (by rw [←e2];exact Tm h.ok _ _ _ hk) (dK _ _ _) rfl (yw h.rel hi (Β ⟨ee.1,ee.2.1,by rw [ee.2.2]⟩));rw [Hy (A:=A) (A':=gT A i ⟨(A.c i).i,k,s⟩) (fun q=>by have:=nS A i ⟨(A.c i).i,k,s⟩ q hi;simp only at this;omega)];exact hm.many.upd dF ι
 generalize (raw i).k=k0 at *;generalize (raw i).s=s0 at *;have hlt:ca<w.heap.size:=h.row.lt;have r1:∀W,aa [] (w.alloc (.cells #[.int .i64 k,.int .u64 s] 129)) W->W.cell? ⟨c,1,none⟩=some (.slice (some ⟨ca,0,none⟩) A.cs.length A.cs.length):=fun W hW=>(hu0.trans hW).was c1;have r2:∀W,aa [] (w.alloc (.cells #[.int .i64 k,.int .u64 s] 129)) W->W.cell? ⟨ca,i*3+1,none⟩=some (.int .i64 k0):=fun W hW=>(hu0.trans hW).was d1;have r3:∀W,aa [] (w.alloc (.cells #[.int .i64 k,.int .u64 s] 129)) W->W.cell? ⟨ca,i*3+2,none⟩=some (.int .u64 s0):=fun W hW=>(hu0.trans hW).was d2
 have r4:∀W,aa [] (w.alloc (.cells #[.int .i64 k,.int .u64 s] 129)) W->W.cell? ⟨w.heap.size,0,none⟩=some (.int .i64 k):=fun W h=>h.was σ;have r5:∀W,aa [] (w.alloc (.cells #[.int .i64 k,.int .u64 s] 129)) W->W.cell? ⟨w.heap.size,1,none⟩=some (.int .u64 s):=fun W h=>h.was σ;have g1:∀W,aa [] (w.alloc (.cells #[.int .i64 k,.int .u64 s] 129)) W->W.frozen? ⟨ca,i*3+1,none⟩=false:=fun W hW=>by rw [(hu0.trans hW).frozen hlt σ];exact f1
 have g2:∀W,aa [] (w.alloc (.cells #[.int .i64 k,.int .u64 s] 129)) W->W.frozen? ⟨ca,i*3+2,none⟩=false:=fun W hW=>by rw [(hu0.trans hW).frozen hlt σ];exact f2
 clear h hl ee c1 d1 d2 f1 f2 e hx2
 go_enter Tryz.func147,Tryz.ntmps147
 go_wp2
 go_region_held3 (aa [] (w.alloc (.cells #[.int .i64 k,.int .u64 s] 129))) (exact η)
  (first
   | (go_at_call 149;(with_reducible refine (k3 _ β).mono ?_);rintro e w9 ⟨rfl,aO⟩;rw [aO];clear aO w9)
   | (go_at_call 158;(with_reducible refine (kl _).mono ?_);rintro e w1 ⟨rfl,hu1⟩;(have hu2:aa [] (w.alloc (.cells #[.int .i64 k,.int .u64 s] 129)) w1:=η)))
 have q1:=r1 _ hu2;have q2:=r2 _ hu2;have q3:=r3 _ hu2;have q4:=r4 _ hu2;have q5:=r5 _ hu2;have q6:=g1 _ hu2;have q7:=g2 _ hu2;clear r1 r2 r3 r4 r5 g1 g2 k3 kl;have HQ:=χ hu2;clear hu2 hu0 hu1;go_wp2
 go_region
 go_wp2;go_ret;exact ⟨rfl,((R3.out w1 HQ.out).1).ae ((aa.refl _ _).drew),(R3.out w1 HQ.out).2.drew⟩
def dG (st k:Nat):Nat:=min (st+k) 4611686018427387904
theorem gV {st:Nat} (h:st<=4611686018427387904):dG st 0=st:=by unfold dG;omega
theorem kg (st a b:Nat):dG (dG st a) b=dG st (a+b):=by unfold dG;omega
theorem FQ (p:Addr) (s:Nat) (w:World) (h1:s<=4611686018427387904) (hc:w.cell? p=some (.int .i64 (s:Int))) (hf:w.frozen? p=false) :
  Calls Tryz.prog 182 #[.pointer (some p),.int .i64 1] w fun e w'=>e=.returned (.tuple #[])/\w'=w.setCell p (.int .i64 (dG s 1:Nat)):=by
 by_cases h:s=4611686018427387904
 ·have e:dG s 1=4611686018427387904:=by unfold dG;omega
  rw [e];have h':4611686018427387904-(s:Int)<1:=ω;clear e h
  go_enter Tryz.func182,Tryz.ntmps182
  go_wp2;go_end0;exact ⟨rfl,rfl⟩
 ·have e:((dG s 1:Nat):Int)=(s:Int)+1:=by unfold dG;omega
  rw [e];have h':¬4611686018427387904-(s:Int)<1:=ω;clear e h
  go_enter Tryz.func182,Tryz.ntmps182
  go_wp2;go_end0;exact ⟨rfl,rfl⟩
theorem CM.count {w:World} {c ca nm mb g cap:Nat} {l:List Int} {rt dp:Nat->Nat} {raw:Nat->Cl} {A:NS} {st:Nat} (h:CM w c ca nm mb g cap l rt dp raw A st) (k:Nat):CM (w.setCell ⟨c,0,none⟩ (.int .i64 (dG st k:Nat))) c ca nm mb g cap l rt dp raw A (dG st k):=by
 have hu:aa [c] w (w.setCell ⟨c,0,none⟩ (.int .i64 (dG st k:Nat))):=β;have s:=h.sep;refine ⟨(h.head.set 0 _).ext (fun j hj=>?_),h.row.upd hu ι,h.TN.upd hu ι ι,h.many.upd hu ι,h.NM,h.ok,by unfold dG;omega,h.rel,h.hlen,h.has,s⟩;rcases (ω:j=0\/j=1\/j=2\/j=3) with rfl|rfl|rfl|rfl<;>simp
theorem Oy (A:NS) (a b:Nat):(decide (zB (A.c a).k (A.c a).s (A.c b).k (A.c b).s<0) || (decide (zB (A.c a).k (A.c a).s (A.c b).k (A.c b).s=0) && decide (a<b)))=decide (eB A a b):=by
 rw [Bool.eq_iff_iff,decide_eq_true_iff];simp only [Bool.or_eq_true,Τ,Ο];unfold zB uj eB
 by_cases h:(A.c a).k=(A.c b).k
 ·rw [Δ h]
  by_cases h1:(A.c a).s<(A.c b).s
  ·rw [Δ h1];omega
  ·rw [Γ h1];split<;>omega
 ·rw [Γ h]
  by_cases h1:(A.c a).k<(A.c b).k
  ·rw [Δ h1];omega
  ·rw [Γ h1];split<;>omega
theorem gP {w:World} {c st:Nat} {F:List Nat} {A:NS} (h:aB w c F A st) (a b:Nat) (ha:bP A a=true) (hb:bP A b=true) :
  Calls Tryz.prog 174 #[.pointer (some ⟨c,0,none⟩),.int .i64 (a:Int),.int .i64 (b:Int)] w fun e w'=>e=.returned (.bool (decide (eB A a b)))/\aB w' c F A (dG st 1)/\aa [c] w w':=by
 have k1:=oG h a;have k2:=oG h b;rw [ha] at k1;rw [hb] at k2;obtain ⟨ha1,ha2⟩:=(aj _ _).1 ha;obtain ⟨hb1,hb2⟩:=(aj _ _).1 hb;have hA:=h.ok.c1;obtain ⟨ca,nm,mb,g,cap,l,rt,dp,raw,h,rfl⟩:=h;have e1:A.c a=⟨rt (raw a).i.toNat,(raw a).k,(raw a).s⟩:=by
  rcases h.rel a ha1 with ⟨h1,h2⟩|h3
  ·rw [h2] at ha2;exact absurd ha2 δ
  ·exact h3.2.2
 have e2:A.c b=⟨rt (raw b).i.toNat,(raw b).k,(raw b).s⟩:=by
  rcases h.rel b hb1 with ⟨h1,h2⟩|h3
  ·rw [h2] at hb2;exact absurd hb2 δ
  ·exact h3.2.2
 have hres:=Oy A a b;rw [e1,e2] at hres;simp only at hres;have c0:=h.c0;have c1:=h.c1;have f0:=h.head.free 0;have d1:=h.row.cellAt (a*3+1) ω (wV raw a);have d2:=h.row.cellAt (a*3+2) ω (wW raw a);have d3:=h.row.cellAt (b*3+1) ω (wV raw b);have d4:=h.row.cellAt (b*3+2) ω (wW raw b);have s:=h.sep;have hst:=h.qd;have kc:=FQ ⟨c,0,none⟩ st w hst c0 f0;have kk:=fun W=>wC (raw a).k (raw a).s (raw b).k (raw b).s W;generalize hz:zB (raw a).k (raw a).s (raw b).k (raw b).s=z at *;generalize (raw a).k=ka at *;generalize (raw a).s=sa at *;generalize (raw b).k=kb at *;generalize (raw b).s=sb at *
 have QO:=h.row.lt;have hcw:=h.head.lt;have H1:=χ (h.count 1);have HR:=χ hres;generalize hn:dG st 1=st1 at *;have u0:aa [c] w (w.setCell ⟨c,0,none⟩ (.int .i64 (st1:Int))):=β;have r1:∀W,aa [] (w.setCell ⟨c,0,none⟩ (.int .i64 (st1:Int))) W->W.cell? ⟨c,1,none⟩=some (.slice (some ⟨ca,0,none⟩) A.cs.length A.cs.length):=fun W hW=>hW.was H1.out.c1;have r2:∀W,aa [] (w.setCell ⟨c,0,none⟩ (.int .i64 (st1:Int))) W->W.cell? ⟨ca,a*3+1,none⟩=some (.int .i64 ka):=fun W hW=>hW.was ((u0.cell QO ι).trans d1)
 have r3:∀W,aa [] (w.setCell ⟨c,0,none⟩ (.int .i64 (st1:Int))) W->W.cell? ⟨ca,a*3+2,none⟩=some (.int .u64 sa):=fun W hW=>hW.was ((u0.cell QO ι).trans d2);have r4:∀W,aa [] (w.setCell ⟨c,0,none⟩ (.int .i64 (st1:Int))) W->W.cell? ⟨ca,b*3+1,none⟩=some (.int .i64 kb):=fun W hW=>hW.was ((u0.cell QO ι).trans d3);have r5:∀W,aa [] (w.setCell ⟨c,0,none⟩ (.int .i64 (st1:Int))) W->W.cell? ⟨ca,b*3+2,none⟩=some (.int .u64 sb):=fun W hW=>hW.was ((u0.cell QO ι).trans d4);clear h ha hb ha2 hb2 e1 e2 hres d1 d2 d3 d4 hz hn u0
 by_cases hz1:z<0
 ·have hd:decide (eB A a b)=true:=by rw [←HR.out,Ν hz1];rfl
  rw [hd];clear hd
  go_enter Tryz.func174,Tryz.ntmps174
  go_wp2_with (first|(go_at_call 149;(with_reducible refine (k1).mono ?_);rintro e w9 ⟨rfl,aO⟩;rw [aO];clear aO w9)|(go_at_call 149;(with_reducible refine (k2).mono ?_);rintro e w9 ⟨rfl,aO⟩;rw [aO];clear aO w9)|(go_at_call 182;(with_reducible refine (kc).mono ?_);rintro e w9 ⟨rfl,aO⟩;rw [aO];clear aO w9))
  go_region_held3 (aa [] (w.setCell ⟨c,0,none⟩ (.int .i64 (st1:Int)))) (exact η)
   ((go_at_call 164;(with_reducible refine (kk _).mono ?_);rintro e w1 ⟨rfl,hu1⟩;(have hu2:aa [] (w.setCell ⟨c,0,none⟩ (.int .i64 (st1:Int))) w1:=η)))
  go_wp2;go_ret;exact ⟨rfl,⟨ca,nm,mb,g,cap,l,rt,dp,raw,H1.out.upd hu2 σ,rfl⟩,((aa.refl [c] w).setCell (Α σ) _).then hu2⟩
 ·by_cases hz2:z=0
  ·have hd:decide (eB A a b)=decide ((a:Int)<(b:Int)):=by rw [←HR.out,Ξ hz1,Ν hz2];simp
   rw [hd];subst hz2;clear hd
   go_enter Tryz.func174,Tryz.ntmps174
   go_wp2_with (first|(go_at_call 149;(with_reducible refine (k1).mono ?_);rintro e w9 ⟨rfl,aO⟩;rw [aO];clear aO w9)|(go_at_call 149;(with_reducible refine (k2).mono ?_);rintro e w9 ⟨rfl,aO⟩;rw [aO];clear aO w9)|(go_at_call 182;(with_reducible refine (kc).mono ?_);rintro e w9 ⟨rfl,aO⟩;rw [aO];clear aO w9))
   go_region_held3 (aa [] (w.setCell ⟨c,0,none⟩ (.int .i64 (st1:Int)))) (exact η)
    ((go_at_call 164;(with_reducible refine (kk _).mono ?_);rintro e w1 ⟨rfl,hu1⟩;(have hu2:aa [] (w.setCell ⟨c,0,none⟩ (.int .i64 (st1:Int))) w1:=η)))
   go_wp2;go_ret;exact ⟨bg σ,⟨ca,nm,mb,g,cap,l,rt,dp,raw,H1.out.upd hu2 σ,rfl⟩,((aa.refl [c] w).setCell (Α σ) _).then hu2⟩
  ·have hz3:(z == 0)=false:=by simpa using hz2
   have hd:decide (eB A a b)=false:=by rw [←HR.out,Ξ hz1,Ξ hz2];rfl
   rw [hd];clear hd hz2
   go_enter Tryz.func174,Tryz.ntmps174
   go_wp2_with (first|(go_at_call 149;(with_reducible refine (k1).mono ?_);rintro e w9 ⟨rfl,aO⟩;rw [aO];clear aO w9)|(go_at_call 149;(with_reducible refine (k2).mono ?_);rintro e w9 ⟨rfl,aO⟩;rw [aO];clear aO w9)|(go_at_call 182;(with_reducible refine (kc).mono ?_);rintro e w9 ⟨rfl,aO⟩;rw [aO];clear aO w9))
   go_region_held3 (aa [] (w.setCell ⟨c,0,none⟩ (.int .i64 (st1:Int)))) (exact η)
    ((go_at_call 164;(with_reducible refine (kk _).mono ?_);rintro e w1 ⟨rfl,hu1⟩;(have hu2:aa [] (w.setCell ⟨c,0,none⟩ (.int .i64 (st1:Int))) w1:=η)))
   go_wp2;go_ret;exact ⟨bg ζ,⟨ca,nm,mb,g,cap,l,rt,dp,raw,H1.out.upd hu2 σ,rfl⟩,((aa.refl [c] w).setCell (Α σ) _).then hu2⟩
theorem pI.make {l:List Int} {rt dp:Nat->Nat} (h:pI l rt dp) (hl:l.length<=65536):pI (l++[(l.length:Int)]) (fun i=>if i=l.length then i else rt i) dp:=by
 have h1:=h.len;have g1:∀i,i<l.length->(l++[(l.length:Int)]).getD i 0=l.getD i 0:=fun i hi=>by simp [φ,Ρ hi]
 have g2:(l++[(l.length:Int)]).getD l.length 0=l.length:=by simp [φ]
 refine ⟨σ,ζ,fun i a b=>?_,fun i a b=>?_,fun i a b=>?_,fun i a b=>?_⟩
 all_goals
  simp only [υ,Ω,List.length_nil] at b ⊢;rcases (ω:i<l.length\/i=l.length) with hi|hi
 ·rw [g1 i hi];have:=h.wI i a hi;omega
 ·rw [hi,g2];omega
 ·have:=h.wI i a hi;rw [g1 i hi,Γ (show ¬ (l.getD i 0).toNat=l.length by omega),Γ ω];exact h.up i a hi
 ·rw [hi,g2];simp
 ·rw [g1 i hi,Γ (show ¬i=l.length by omega)];exact h.top i a hi
 ·intro _;rw [Δ hi]
 ·rw [g1 i hi];exact h.low i a hi
 ·rw [hi,g2];intro hn;exact absurd rfl hn
theorem gL {w:World} {c st:Nat} {F:List Nat} {A:NS} (h:aB w c F A st) :
  Calls Tryz.prog 156 #[.pointer (some ⟨c,0,none⟩)] w fun e w'=>e=.returned (.int .i64 (bR A))/\Goes F w w' (fun F'=>aB w' c F' (aD A) st):=by
 have hC:=h;obtain ⟨ca,nm,mb,g,cap,l,rt,dp,raw,h,rfl⟩:=h;have c2:=h.c2;have hlen:=h.hlen;have hl1:=h.NM.len;have hl2:=h.NM.NL;have hs:=h.sep;unfold bR aD
 by_cases hfull:l.length=65537
 ·have k:=OU nm g cap l w h.TN hfull;rw [Δ ω,Δ ω];have HC:=χ hC;clear h hC hlen hfull
  go_enter Tryz.func156,Tryz.ntmps156
  go_wp2_with (go_at_call 163;(with_reducible refine (k).mono ?_);rintro e w1 ⟨rfl,hu⟩)
  go_ret;exact ⟨rfl,Goes.stay (HC.out.ae hu) (hu.mono σ)⟩
 ·have k:=KF nm g cap l w h.TN hl1 ω;rw [Γ ω,Γ ω,hlen];have H:=χ h;have HL:=χ hlen;clear h hC hlen
  go_enter Tryz.func156,Tryz.ntmps156
  go_wp2_with (go_at_call 163;(with_reducible refine (k).mono ?_);rintro e w1 ⟨g',cap',rfl,hN,hu,hg⟩)
  go_ret;have h:=H.out;have hc:=h.head.lt;have hca:=h.row.lt;have hmb:=h.many.lt;have hsep:c≠g'/\ca≠g'/\mb≠g':=by rcases hg with rfl|hg;exact ⟨ω,ω,ω⟩;exact ⟨ω,ω,ω⟩
  have hok:(NS.mk (A.hs++[true]) A.cs).Ok:=by
   have:=p9 h.ok;unfold aD at this;rwa [Γ (by have:=HL.out;omega)] at this
  refine ⟨rfl,[c,ca,nm,mb,g'],⟨ca,nm,mb,g',cap',l++[(l.length:Int)],fun i=>if i=l.length then i else rt i,dp,raw,?_,rfl⟩,hu.mono ι,fun x hx=>by simp at hx ⊢;omega⟩;refine ⟨h.head.upd hu ι,h.row.upd hu ι,hN,h.many.upd hu ι,h.NM.make ω,hok,h.qd,fun x hx=>?_,by simp [HL.out],fun i h1 h2=>?_,ω⟩
  ·rcases h.rel x hx with h'|⟨h3,h4,h5⟩
   ·exact Α h'
   ·refine Β ⟨h3,ζ,?_⟩;rw [Γ ω];exact h5
  ·simp only [υ,Ω,List.length_nil] at h2;have hLo:=HL.out;rcases (ω:i<l.length\/i=l.length) with hi|hi
   ·have:=h.has i h1 hi;simp only [φ] at this ⊢;rw [Ρ ω,Ρ hi];exact this
   ·subst hi;simp only [φ];rw [←hLo,ϊ (Θ _),ϊ ω];simp [hLo]
theorem F8 (n j:Nat) (hj:j<n*3):(madeCells #[Value.int .i64 0,.int .i64 0,.int .u64 0] (n*3)).toList.getD j undef=if j % 3=0 then .int .i64 0 else if j % 3=1 then .int .i64 0 else .int .u64 0:=by
 rw [φ,ε (by simp [size_madeCells];omega)];simp only [Option.getD_some,madeCells,Array.getElem_toList,Array.getElem_map,Array.getElem_range];rcases (ω:j % 3=0\/j % 3=1\/j % 3=2) with e|e|e<;>simp [e]
theorem OW:(Tryz.prog.info? 281).map (fun i=>(i.zero,i.size,i.bytes))=some (some (.agg #[.int .i64 0,.int .i64 0,.int .u64 0]),3,24):=by kernel_rfl
theorem mi (n:Nat) (w:World) (h:n<=65536) :
  Calls Tryz.prog 107 #[.int .i64 (n:Int)] w fun e w'=>∃c F,e=.returned (.tuple #[.pointer (some ⟨c,0,none⟩),.int .i64 0])/\aB w' c F (NS.new n) 0/\aa [] w w'/\∀x,x∈F->w.heap.size<=x:=by
 have hmm:=@run_makeMap Tryz.prog
 go_enter Tryz.func107,Tryz.ntmps107
 go_wp2_with (first
  | ((go_at_call 114;(with_reducible refine (Ow _).mono ?_));rintro e w1 ⟨nm,g,rfl,hN,hu1,hb1,hb2⟩)
  | (at_make;refine wpList_make_row rfl _ 241 rfl 281 (.agg #[.int .i64 0,.int .i64 0,.int .u64 0]) 3 24 Tryz.underlying241 OW n rfl ω μ ?_;intro w2 hr2 hu2))
 go_ret2;have hu3:aa [] w2 ((w2.alloc (.map #[] 0)).alloc (.cells #[.int .i64 0,.slice (some ⟨w1.heap.size,0,none⟩) n n,.pointer (some ⟨nm,0,none⟩),.map (some w2.heap.size)] 245)):=β;have hh:=dC (w2.alloc (.map #[] 0)) [.int .i64 0,.slice (some ⟨w1.heap.size,0,none⟩) n n,.pointer (some ⟨nm,0,none⟩),.map (some w2.heap.size)] 245;rw [Κ] at hh;have l1:=hN.lt;have l2:=hu2.size;have l3:=hr2.lt;have l4:=hu1.size;have hcs:(NS.new n).cs.length=n:=by simp [NS.new]
 refine ⟨w2.heap.size+1,[w2.heap.size+1,w1.heap.size,nm,w2.heap.size,g],rfl,⟨w1.heap.size,nm,w2.heap.size,g,1,[0],fun i=>i,fun _=>0,fun _=>Cl.z,?_,rfl⟩,(hu1.trans hu2).trans hu3,fun x hx=>by simp at hx;omega⟩;refine ⟨?_,?_,(hN.upd hu2 σ σ).upd hu3 σ σ,((eO.made w2).upd ((aa.refl [] _).alloc _) σ).ext (fun k=>?_),?_,NS.mg n h,ω,fun x _=>Α ⟨rfl,NS.vX n x⟩,rfl,fun i h1 h2=>by simp at h2;omega,ω⟩
 ·rw [hcs];exact hh
 ·rw [hcs];refine (hr2.upd hu3 σ).ext (fun j hj=>?_);have hz:(Value.agg #[.int .i64 0,.int .i64 0,.int .u64 0]).cells=#[.int .i64 0,.int .i64 0,.int .u64 0]:=rfl;rw [hz];unfold iY Cl.z;have:=F8 n j hj;rw [this]
 ·unfold ic;have:dA (NS.new n) k=0:=by
   rcases Nat.eq_zero_or_pos (dA (NS.new n) k) with h'|h'
   ·exact h'
   ·obtain ⟨x,_,h1,h2⟩:=dL.1 h';rw [NS.vX] at h1;have:(0:Int)=k:=h1;omega
  rw [this];rfl
 ·exact ⟨σ,σ,fun i h1 h2=>by simp at h2;omega,fun i h1 h2=>by simp at h2;omega,fun i h1 h2=>by simp at h2;omega,fun i h1 h2=>by simp at h2;omega⟩
theorem jW {A:NS} {h:Int} {m:Nat} (hm:bu A h=some m):0<h/\m<A.cs.length/\(A.c m).i=h/\bP A m=true:=by
 by_cases hh:0<h
 ·have h1:=(dD hh).1 hm;exact ⟨hh,h1.1,h1.2.1,(aj _ _).2 ⟨h1.1,by rw [h1.2.1];exact hh⟩⟩
 ·rw [nI hh] at hm;cases hm
theorem gD {A:NS} {h:Int}:bu A h=none↔dA A h=0:=by
 by_cases hh:0<h
 ·exact iI hh
 ·rw [nI hh,Qi hh];simp
def lenOf:Value->Nat | .slice _ l _=>l|_=>0
def bC (l:List Nat):List Int:=l.map (fun (x:Nat)=>(x:Int))
def rG (A:NS) (h:Int):NS:=match bu A h with|some m=>aL A m|none=>A
def MB (ty:TypeId) (p:Nat) (name:String) (w:World) (mk:Value->Array Value) (Q:World->Ending->World->Prop):Prop:=
 ∃f v,Enters f/\∀W,aa [] w W->(method 429 ty (.pointer (some ⟨p,0,none⟩)) name).run Tryz.prog W=.ok (f,v) W/\Calls Tryz.prog f (mk v) W (Q W)
theorem MB.now {ty:TypeId} {p:Nat} {name:String} {w:World} {mk:Value->Array Value} {Q:World->Ending->World->Prop} (h:MB ty p name w mk Q) :
  ∃f v,Enters f/\(method 429 ty (.pointer (some ⟨p,0,none⟩)) name).run Tryz.prog w=.ok (f,v) w/\Calls Tryz.prog f (mk v) w (Q w):=by
 obtain ⟨f,v,he,h⟩:=h;exact ⟨f,v,he,h w (aa.refl _ _)⟩
theorem oF {A:NS} {x:Int} (hB:bP A x=true):∃y:Nat,x=y:=⟨x.toNat,by have:=(wP _ _).1 hB;omega⟩
theorem UG {A:NS} {x k s:Int} (hB:CR A x k s=true):bP A x=true:=by
 unfold CR at hB;simp only [Τ] at hB;exact hB.1
theorem aV {ty:TypeId} {p:Nat} {name:String} {w:World} {mk:Value->Array Value} {Q:World->Ending->World->Prop} (f:FuncId) (he:Enters f) (hm:∀W,(method 429 ty (.pointer (some ⟨p,0,none⟩)) name).run Tryz.prog W=.ok (f,.pointer (some ⟨p,0,none⟩)) W)
  (hc:∀W,aa [] w W->Calls Tryz.prog f (mk (.pointer (some ⟨p,0,none⟩))) W (Q W)):MB ty p name w mk Q:=⟨f,_,he,fun W hW=>⟨hm W,hc W hW⟩⟩
theorem gJ {ty:TypeId} {p c:Nat} {name:String} {w:World} {mk:Value->Array Value} {Q:World->Ending->World->Prop} (f:FuncId) (he:Enters f) (h0:w.cell? ⟨p,0,none⟩=some (.pointer (some ⟨c,0,none⟩)))
  (hm:∀W,W.cell? ⟨p,0,none⟩=some (.pointer (some ⟨c,0,none⟩))->(method 429 ty (.pointer (some ⟨p,0,none⟩)) name).run Tryz.prog W=.ok (f,.pointer (some ⟨c,0,none⟩)) W)
  (hc:∀W,aa [] w W->Calls Tryz.prog f (mk (.pointer (some ⟨c,0,none⟩))) W (Q W)):MB ty p name w mk Q:=⟨f,_,he,fun W hW=>⟨hm W (hW.was h0),hc W hW⟩⟩
structure dI where
 ty:TypeId
 at_:World->Nat->List Nat->NS->Prop
 upd:∀ {w w':World} {p:Nat} {F S:List Nat} {A:NS},at_ w p F A->aa S w w'->(∀x,x∈S->x∉F)->at_ w' p F A
 lt:∀ {w:World} {p:Nat} {F:List Nat} {A:NS},at_ w p F A->∀x,x∈F->x<w.heap.size
 ok:∀ {w:World} {p:Nat} {F:List Nat} {A:NS},at_ w p F A->A.Ok
 make:∀ {w:World} {p:Nat} {F:List Nat} {A:NS},at_ w p F A->MB ty p "Make" w (fun v=>#[v]) fun w e w'=>e=.returned (.int .i64 (bR A))/\Goes F w w' (fun F'=>at_ w' p F' (aD A))
 insert:∀ {w:World} {p:Nat} {F:List Nat} {A:NS} (h x:Nat) (k s:Int),(-9223372036854775808<=k/\k<=9223372036854775807/\0<=s/\s<=18446744073709551615)->iX A h x=true->at_ w p F A->MB ty p "Insert" w (fun v=>#[v,.int .i64 (h:Int),.int .i64 (x:Int),.agg #[.int .i64 k,.int .u64 s]]) fun w e w'=>e=.returned (.bool true)/\Goes F w w' (fun F'=>at_ w' p F' (au A h x k s))
 min:∀ {w:World} {p:Nat} {F:List Nat} {A:NS} (h:Nat),bf A h=true->at_ w p F A->MB ty p "Min" w (fun v=>#[v,.int .i64 (h:Int)]) fun w e w'=>e=.returned (.tuple #[.int .i64 (nL (bu A h)),.bool (bu A h).isSome])/\Goes F w w' (fun F'=>at_ w' p F' A)
 extract:∀ {w:World} {p:Nat} {F:List Nat} {A:NS} (h m:Nat),bu A h=some m->at_ w p F A->MB ty p "Extract" w (fun v=>#[v,.int .i64 (h:Int)]) fun w e w'=>e=.returned (.tuple #[.int .i64 (m:Int),.bool true])/\Goes F w w' (fun F'=>at_ w' p F' (aL A m))
 has:∀ {w:World} {p:Nat} {F:List Nat} {A:NS} (x:Int),at_ w p F A->MB ty p "Has" w (fun v=>#[v,.int .i64 x]) fun w e w'=>e=.returned (.bool (bf A x))/\w'=w
 entry:∀ {w:World} {p:Nat} {F:List Nat} {A:NS} (x:Int),at_ w p F A->MB ty p "Entry" w (fun v=>#[v,.int .i64 x]) fun w e w'=>e=.returned (.tuple #[.agg #[.int .i64 (if bP A x then (A.c x.toNat).k else 0),.int .u64 (if bP A x then (A.c x.toNat).s else 0)],.bool (bP A x)])/\aa [] w w'
end Go.Proofs.YtklibcncmbofpaaGreat
namespace Go.Proofs.YtklibcncmbofpaaGreat
open Go Go.RowKit Go.Maps
theorem XL:laidOutB Tryz.prog=true:=by kernel_rfl
theorem qo:Keyed Tryz.prog 85:=Keyed.of_law (Go.deep_law_laid XL (m:=3) ω (ϥ (by kernel_rfl)) (by kernel_rfl) (by rw [Tryz.underlying85]))
def hV (x g:Int):Value:=.agg #[.int .i64 x,.int .u32 g]
theorem Tn {x g:Int} (hx:-9223372036854775808<=x/\x<=9223372036854775807) (hg:0<=g/\g<=4294967295):∃l,keyOf Tryz.prog 85 (hV x g)=some l:=by
 have h1:Tryz.prog.keyType 85=true:=by kernel_rfl
 have h2:(hV x g).formed Tryz.prog 85=true:=by
  unfold hV Value.formed;simp only [Tryz.underlying85];rw [show Tryz.prog.cellsOf 85=2 by kernel_rfl]
  rfl
 have c0:Tryz.prog.cellsOf 3=1:=by kernel_rfl
 have c1:Tryz.prog.cellsOf 83=1:=by kernel_rfl
 have c2:Tryz.prog.cellsOf 85=2:=by kernel_rfl
 have w0:(Lit.int .i64 x).wf=true:=WalkArith.wf_i64 hx;have w1:(Lit.int .u32 g).wf=true:=by simp [Lit.wf,IntKind.min,IntKind.max,IntKind.signed,IntKind.bits];omega
 have key:∀n,Tryz.prog.keyLits (n+1+1) 85 [.int .i64 x,.int .u32 g]=some [.int .i64 x,.int .u32 g]:=fun n=>by
  simp [Program.keyLits,Tryz.underlying85,Tryz.underlying3,Tryz.underlying83,c0,c1,c2,w0,w1]
 have hpos:0<Tryz.prog.types.size:=ϥ (by kernel_rfl);obtain ⟨n,hn⟩:∃n,Tryz.prog.types.size+1=n+1+1:=⟨Tryz.prog.types.size-1,ω⟩;refine ⟨.string (keyBytes [.int .i64 x,.int .u32 g]),?_⟩;unfold keyOf;rw [Tryz.underlying85];simp only [];rw [Δ (by rw [h1,h2];rfl),hn,show (hV x g).cells.toList=[.int .i64 x,.int .u32 g] from rfl,key]
 rfl
theorem NF {x g x' g':Int} (h:hV x g=hV x' g'):x=x'/\g=g':=by
 unfold hV at h;simp only [Value.agg.injEq] at h;have h2:=congrArg Array.toList h;simp at h2;exact h2
def lT (w:World) (b c:Nat) (f:Int->Int->Option Int):Prop:=
 ∃D:DataW Unit,w.ownsMap Tryz.prog 85 (plainElem Tryz.prog 3) b c D/\∀x g z kl,f x g=some z->keyOf Tryz.prog 85 (hV x g)=some kl->∀d,D.atKey kl d=.lit (.int .i64 z)
theorem lT.upd {w w':World} {S:List Nat} {b c:Nat} {f:Int->Int->Option Int} (h:lT w b c f) (hu:aa S w w') (hn:b∉S):lT w' b c f:=by
 obtain ⟨D,h1,h3⟩:=h;have hl:=h1.lt;obtain ⟨es,clock,h1,h2⟩:=h1;exact ⟨D,⟨es,clock,(hu.block b hl hn).trans h1,h2⟩,h3⟩
theorem lT.lt {w:World} {b c:Nat} {f:Int->Int->Option Int} (h:lT w b c f):b<w.heap.size:=by
 obtain ⟨D,h1,_⟩:=h;exact h1.lt
theorem lT.made (w:World):lT (w.alloc (.map #[] 0)) w.heap.size 0 (fun _ _=>none):=
 ⟨.map [],World.ownsMap_made w _ _ _,fun x g z kl hz=>by cases hz⟩
theorem lT.look {w:World} {b c:Nat} {f:Int->Int->Option Int} (h:lT w b c f) {x g z:Int} (hz:f x g=some z) (hx:-9223372036854775808<=x/\x<=9223372036854775807) (hg:0<=g/\g<=4294967295) :
  (Instr.lookup 82 (.map (some b)) (hV x g) false).run Tryz.prog w=.ok (.int .i64 z) w:=by
 obtain ⟨D,h1,h3⟩:=h;obtain ⟨kl,hk⟩:=Tn hx hg;obtain ⟨c',hrun,hat,_⟩:=h1.lookup_int qo Tryz.underlying82 Tryz.underlying3 (Cw w) hk;rw [hrun];rw [h3 x g z kl hz hk] at hat;have:z=c':=by simpa using hat
 rw [this]
theorem lT.store {w:World} {b c:Nat} {f:Int->Int->Option Int} (h:lT w b c f) (hc:c<9223372036854775807) (x g z:Int) (hx:-9223372036854775808<=x/\x<=9223372036854775807) (hg:0<=g/\g<=4294967295) (hz:-9223372036854775808<=z/\z<=9223372036854775807) :
  ∃w',(Instr.mapUpdate 82 (.map (some b)) (hV x g) (.int .i64 z)).run Tryz.prog w=.ok () w'/\lT w' b (c+1) (fun y e=>if y=x/\e=g then some z else f y e)/\aa [b] w w':=by
 obtain ⟨D,h1,h3⟩:=h;obtain ⟨kl,hk⟩:=Tn hx hg;obtain ⟨w',hrun,ho,ht⟩:=h1.store qo Tryz.underlying82 μ hk (plainElem_int Tryz.underlying3 (a:=z) (WalkArith.wf_i64 hz));have hD:=h1.isMap;refine ⟨w',hrun,⟨_,ho,fun y e u Dm hf hk2 d=>?_⟩,nA ht⟩
 replace hf:(if y=x/\e=g then some z else f y e)=some u:=hf
 by_cases e1:y=x/\e=g
 ·rw [Δ e1] at hf;obtain ⟨rfl,rfl⟩:=e1;rw [hk] at hk2;cases hk2;cases hf;exact atKey_put_same hD (qo.key hk) _ _
 ·rw [Γ e1] at hf;have hne:Dm≠kl:=fun e2=>e1 (NF (qo.inj (by rw [hk2,e2]) hk));rw [atKey_put_other hne];exact h3 y e u Dm hf hk2 d
theorem Tu {w:World} {o:Oper} {a:Act} {K:Act->World->Prop} {Q:Exit->Act->World->Prop} (m x v:Operand) (hop:o.op=Op.mapUpdate 82 m x v)
  (b c:Nat) (f:Int->Int->Option Int) (hm:a.eval m=.map (some b)) (h:lT w b c f) (hc:c<9223372036854775807) (k g z:Int) (hx:a.eval x=hV k g) (hv:a.eval v=.int .i64 z) (hk:-9223372036854775808<=k/\k<=9223372036854775807) (hg:0<=g/\g<=4294967295) (hz:-9223372036854775808<=z/\z<=9223372036854775807)
  (hK:∀w',lT w' b (c+1) (fun y e=>if y=k/\e=g then some z else f y e)->aa [b] w w'->K (a.put o.dst undef) w'):Oper.wp Tryz.prog o a w K Q:=by
 obtain ⟨w',hrun,r1,r2⟩:=h.store hc k g z hk hg hz;unfold Oper.wp;simp [execOp,hop,hm,hx,hv,hrun,Result.andThen];exact hK w' r1 r2
end Go.Proofs.YtklibcncmbofpaaGreat
namespace Go.Proofs.YtklibcncmbofpaaGreat
theorem Dp {a b:List Int} (h:a.length≠b.length):a≠b:=fun e=>h (by rw [e])
theorem Q7 {a b:List Int} (hl:a.length=b.length) (h:∀k,k<a.length->a.getD k 0=b.getD k 0):a=b:=by
 apply List.ext_getElem hl;intro i h1 h2;have:=h i h1;simpa [φ,h1,h2] using this
end Go.Proofs.YtklibcncmbofpaaGreat
namespace Go.Proofs.YtklibcncmbofpaaGreat
open Go Go.RowKit
theorem Ro (w:World) (F1 F2:List Nat) (va vb:Value) (za zb:List Int) (ha:fM w F1 va za) (hb:fM w F2 vb zb) :
  Calls Tryz.prog 20 #[va,vb] w fun e w'=>e=.returned (.bool (decide (za=zb)))/\∃k,w'=w.drewN k:=by
 obtain ⟨a,ca,rfl,hla,hca,Pt⟩:=ha;obtain ⟨b,cb,rfl,hlb,hcb,hpb⟩:=hb;have HA:=χ Pt;have HB:=χ hpb;clear Pt hpb
 by_cases hl:za.length=zb.length
 ·have hl':((za.length:Int) != (zb.length:Int))=false:=by rw [hl];simp
  generalize hlen:za.length=len at *;have HLEN:=χ (ψ hlen hl);have hll:zb.length=len:=hl.symm;rw [hll] at *;clear hl hll hlen hl'
  go_enter Tryz.func20,Tryz.ntmps20
  go_wp2
  go_loopw [13] (fun i wr=>∃k:Nat,k<=len/\i=.int .i64 (k:Int)/\(∀j,j<k->za.getD j 0=zb.getD j 0)/\∃d,wr=w.drewN d) (fun i _=>len-(intOf i).toNat)
  case atStart=>exact ⟨0,ω,rfl,fun j hj=>ω,0,rfl⟩
  case round=>
   obtain ⟨k,hk,rfl,he,d,rfl⟩:=hrel;have HE:=χ he;clear he
   by_cases hlt:k<len
   ·obtain ⟨ga,oa,rfl,_,_,c1⟩:=HA.out k (za.getD k 0) (by simp [φ,HLEN.out.1,hlt]);obtain ⟨gb,ob,rfl,_,_,c2⟩:=HB.out k (zb.getD k 0) (by simp [φ,←HLEN.out.2,hlt]);have HP:Hid (∀j,j<k+1->za.getD k 0=zb.getD k 0->za.getD j 0=zb.getD j 0):=fun j hj e=>by
     rcases (ω:j<k\/j=k) with h|h
     ·exact HE.out j h
     ·rw [h];exact e
    have HN:Hid (za.getD k 0≠zb.getD k 0->¬za=zb):=fun e1 e2=>e1 (by rw [e2]);generalize za.getD k 0=x1 at *;generalize zb.getD k 0=x2 at *
    by_cases Oe:x1=x2
    ·have b1:(x1 != x2)=false:=by simpa using Oe
     have HXX:=χ Oe;clear Oe;go_wp2
     go_quiet (fail)
     go_wp2
     go_roundw
     case rel=>exact ⟨k+1,ω,by go_num,fun j hj=>HP.out j hj HXX.out,_,rfl⟩
     case measure=>simp [intOf];omega
    ·have b1:(x1 != x2)=true:=by simpa using Oe
     have HXX:=χ (HN.out Oe);clear Oe;go_wp2
     go_quiet (fail)
     go_wp2;go_ret;exact ⟨bg (by simp [HXX.out]),_,by rw [World.drewN_drewN]⟩
   ·obtain rfl:k=len:=ω;have HE2:=χ (Q7 (by rw [HLEN.out.1,HLEN.out.2]) (fun j hj=>HE.out j (by rw [←HLEN.out.1];exact hj)));go_wp2;go_ret;exact ⟨bg (by simp [HE2.out]),_,rfl⟩
 ·have hl':((za.length:Int) != (zb.length:Int))=true:=ζ;have hne:=χ (Dp hl);clear hl
  go_enter Tryz.func20,Tryz.ntmps20
  go_wp2;go_ret;exact ⟨bg (by simp [hne.out]),0,rfl⟩
theorem PM (w:World) (F1 F2:List Nat) (va vb:Value) (z:List Int) (ha:fM w F1 va z) (hb:fM w F2 vb z) :
  Calls Tryz.prog 20 #[va,vb] w fun e w'=>e=.returned (.bool true)/\∃k,w'=w.drewN k:=
 (Ro w F1 F2 va vb z z ha hb).mono fun e w' ⟨he,h⟩=>⟨by rw [he,Ν rfl],h⟩
end Go.Proofs.YtklibcncmbofpaaGreat
namespace Go.Proofs.YtklibcncmbofpaaGreat
open Go Go.RowKit Go.Maps
def R8 (p:Pl):Value:=.agg #[.int .i64 (p.1:Int),.int .i64 (p.2:Int)]
def plR (v:Value):Option (DataW Unit×List MemPlace):=
 match v with
 | .agg ⟨[.int .i64 a,.int .i64 b]⟩=>some (.map [(.int .i64 a,.lit (.int .i64 b))],[])
 | _=>none
theorem JN (p:Pl):plR (R8 p)=some (.map [(.int .i64 (p.1:Int),.lit (.int .i64 (p.2:Int)))],[]):=rfl
theorem Rk {v:Value} {p:Pl} {ps:List MemPlace} (h:plR v=some (.map [(.int .i64 (p.1:Int),.lit (.int .i64 (p.2:Int)))],ps)):v=R8 p:=by
 unfold plR at h
 split at h
 ·rename_i a b
  simp only [Ϙ,Prod.mk.injEq,DataW.map.injEq,List.cons.injEq,Lit.int.injEq,DataW.lit.injEq,true_and,and_true] at h;unfold R8;rw [h.1.1,h.1.2]
 ·cases h
def qB (w:World) (b c:Nat) (f:Int->Int->Option Pl):Prop:=
 ∃D:DataW Unit,w.ownsMap Tryz.prog 85 plR b c D/\∀x g p kl,f x g=some p->keyOf Tryz.prog 85 (hV x g)=some kl->∀d,D.atKey kl d=.map [(.int .i64 (p.1:Int),.lit (.int .i64 (p.2:Int)))]
theorem qB.upd {w w':World} {S:List Nat} {b c:Nat} {f:Int->Int->Option Pl} (h:qB w b c f) (hu:aa S w w') (hn:b∉S):qB w' b c f:=by
 obtain ⟨D,h1,h3⟩:=h;have hl:=h1.lt;obtain ⟨es,clock,h1,h2⟩:=h1;exact ⟨D,⟨es,clock,(hu.block b hl hn).trans h1,h2⟩,h3⟩
theorem qB.lt {w:World} {b c:Nat} {f:Int->Int->Option Pl} (h:qB w b c f):b<w.heap.size:=by
 obtain ⟨D,h1,_⟩:=h;exact h1.lt
theorem qB.made (w:World):qB (w.alloc (.map #[] 0)) w.heap.size 0 (fun _ _=>none):=
 ⟨.map [],World.ownsMap_made w _ _ _,fun x g z kl hz=>by cases hz⟩
theorem Um (w:World):(zeroValue 53).run Tryz.prog w=.ok (R8 (0,0)) w:=by kernel_rfl
theorem qB.look {w:World} {b c:Nat} {f:Int->Int->Option Pl} (h:qB w b c f) {x g:Int} {p:Pl} (hz:f x g=some p) (hx:-9223372036854775808<=x/\x<=9223372036854775807) (hg:0<=g/\g<=4294967295) :
  (Instr.lookup 94 (.map (some b)) (hV x g) false).run Tryz.prog w=.ok (R8 p) w:=by
 obtain ⟨D,h1,h3⟩:=h;obtain ⟨kl,hk⟩:=Tn hx hg;obtain ⟨v,ps,hrun,hat⟩:=h1.lookup qo Tryz.underlying94 (Um w) (JN (0,0)) hk;rw [h3 x g p kl hz hk] at hat;rw [hrun,Rk hat]
theorem qB.store {w:World} {b c:Nat} {f:Int->Int->Option Pl} (h:qB w b c f) (hc:c<9223372036854775807) (x g:Int) (p:Pl) (hx:-9223372036854775808<=x/\x<=9223372036854775807) (hg:0<=g/\g<=4294967295) :
  ∃w',(Instr.mapUpdate 94 (.map (some b)) (hV x g) (R8 p)).run Tryz.prog w=.ok () w'/\qB w' b (c+1) (fun y e=>if y=x/\e=g then some p else f y e)/\aa [b] w w':=by
 obtain ⟨D,h1,h3⟩:=h;obtain ⟨kl,hk⟩:=Tn hx hg;have hD:=h1.isMap;obtain ⟨w',hrun,ho,ht⟩:=h1.update qo Tryz.underlying94 μ hk (JN p);refine ⟨w',hrun,⟨_,ho,fun y e u Dm hf hk2 d=>?_⟩,(aa.refl _ _).grown ht (fun k hk=>Α (by simp at hk;simp [hk]))⟩
 replace hf:(if y=x/\e=g then some p else f y e)=some u:=hf
 by_cases e1:y=x/\e=g
 ·rw [Δ e1] at hf;obtain ⟨rfl,rfl⟩:=e1;rw [hk] at hk2;cases hk2;cases hf;exact atKey_put_same hD (qo.key hk) _ _
 ·rw [Γ e1] at hf;have hne:Dm≠kl:=fun e2=>e1 (NF (qo.inj (by rw [hk2,e2]) hk));rw [atKey_put_other hne];exact h3 y e u Dm hf hk2 d
end Go.Proofs.YtklibcncmbofpaaGreat
namespace Go.Proofs.YtklibcncmbofpaaGreat
open Go Go.RowKit
theorem Tk (w:World) (g n cap a m b:Nat) (P X Y S:List Pl) (vf:Value) (h:PR w g (P++(X++(Y++S)))) (hn:(P++(X++(Y++S))).length=n) (hc:n<=1000000) (ha:a=P.length) (hm:m=a+X.length) (hb:b=m+Y.length) (hX:0<X.length) (hY:0<Y.length) :
  Calls Tryz.prog 113 #[.slice (some ⟨g,0,none⟩) n cap,.int .i64 (a:Int),.int .i64 (m:Int),.int .i64 (b:Int),vf] w fun e w'=>e=.returned (.tuple #[])/\PR w' g (P++(Y++(X++S)))/\aa [g] w w':=by
 simp only [υ] at hn;have Cu:m<=n:=ω;have hbn:b<=n:=ω;have w1:IntKind.i64.wrap ((m:Int)-(a:Int))=((X.length:Nat):Int):=by rw [Μ _ ω];omega
 have w2:IntKind.i64.wrap ((b:Int)-(m:Int))=((Y.length:Nat):Int):=by rw [Μ _ ω];omega
 have H0:=χ (ψ h (ψ hX (ψ hY (ψ ha (ψ hm (ψ hb hn))))));clear h hX hY ha hm hb hn;generalize hxl:X.length=xl at *;generalize hyl:Y.length=yl at *;have HX:=χ (ψ hxl hyl);clear hxl hyl
 go_enter Tryz.func113,Tryz.ntmps113
 go_wp2
 go_loopw [10,11] (fun iv jv wr=>∃ (i j:Nat) (P' X' Y' S':List Pl),iv=.int .i64 (i:Int)/\jv=.int .i64 (j:Int)/\i=X'.length/\j=Y'.length/\0<i/\0<j/\P'.length+i=m/\m+j<=n/\PR wr g (P'++(X'++(Y'++S')))/\P'++(Y'++(X'++S'))=P++(Y++(X++S))/\aa [g] w wr) (fun iv jv _=>(intOf iv).toNat + (intOf jv).toNat)
 case atStart=>
  obtain ⟨h1,h2,h3,h4,h5,h6,h7⟩:=H0.out;obtain ⟨h8,h9⟩:=HX.out;exact ⟨xl,yl,P,X,Y,S,rfl,rfl,h8.symm,h9.symm,h2,h3,ω,ω,h1,rfl,aa.refl _ _⟩
 case round=>
  obtain ⟨i,j,P',X',Y',S',rfl,rfl,hi,hj,hi0,hj0,hPm,hmj,hP,hg,hu⟩:=hrel;rename World=>wr;have hln:(P'++(X'++(Y'++S'))).length=n:=by
   have h1:=congrArg List.length hg;obtain ⟨h2,h3,h4,h5,h6,h7,h8⟩:=H0.out;obtain ⟨h9,h10⟩:=HX.out;simp only [υ] at h1 ⊢;omega
  have w3:IntKind.i64.wrap ((m:Int)-(i:Int))=((m-i:Nat):Int):=by rw [Μ _ ω];omega
  rcases Nat.lt_trichotomy i j with hij|hij|hij
  ·have e1:((i:Int) != (j:Int))=true:=ζ;have e2:¬ (i:Int) > (j:Int):=ω;have e2b:decide (j<i)=false:=ζ;obtain ⟨q,hq⟩:∃q:Nat,m+j-i=q:=⟨_,rfl⟩;have w4:IntKind.i64.wrap ((m:Int)+(j:Int))=(m:Int)+(j:Int):=Μ _ ω;have w5:IntKind.i64.wrap ((m:Int)+(j:Int)-(i:Int))=(q:Int):=by rw [Μ _ ω];omega
   have w6:IntKind.i64.wrap ((j:Int)-(i:Int))=((j-i:Nat):Int):=by rw [Μ _ ω];omega
   have hY:Y'=Y'.take (j-i)++Y'.drop (j-i):=(ϝ _ _).symm;have kc:=BI wr g n cap (m-i) q i P' X' (Y'.take (j-i)) (Y'.drop (j-i)) S' vf (hP.len (by rw [←ϋ (Y'.take (j-i))];rw [←hY])) (by rw [←ϋ (Y'.take (j-i)),←hY];exact hln) hc ζ ω ζ hi;have HG:=χ (ψ hg (ψ hY (ψ hi (ψ hj hij))));clear hi hj hP hg hY hln hij e2 hq
   go_wp2_with (first|((go_at_call 116;(with_reducible refine (kc).mono ?_));rintro e w9 ⟨rfl,VA,jR⟩)|fail)
   go_roundw
   case rel=>
    obtain ⟨g1,g2,g3,g4,g5⟩:=HG.out;refine ⟨i,j-i,P',Y'.drop (j-i),Y'.take (j-i),X'++S',rfl,rfl,ζ,ζ,hi0,ω,hPm,ω,VA,?_,hu.trans jR⟩;rw [←g1];rw [←ϋ (Y'.take (j-i)),←g2]
   case measure=>simp [intOf];omega
  ·subst hij;have e1:((i:Int) != (i:Int))=false:=σ;have kc:=BI wr g n cap (m-i) m i P' X' [] Y' S' vf hP hln hc ω ω ζ hi;have HG:=χ hg;clear hi hj hP hg hln
   go_wp2_with (first|((go_at_call 116;(with_reducible refine (kc).mono ?_));rintro e w9 ⟨rfl,VA,jR⟩)|fail)
   go_end0;exact ⟨rfl,VA.len HG.out,hu.trans jR⟩
  ·have e1:((i:Int) != (j:Int))=true:=ζ;have e2b:decide (j<i)=true:=by simpa using hij
   have e2:(i:Int) > (j:Int):=ω;have w6:IntKind.i64.wrap ((i:Int)-(j:Int))=((i-j:Nat):Int):=by rw [Μ _ ω];omega
   have hX:X'=X'.take j++X'.drop j:=(ϝ _ _).symm;have kc:=BI wr g n cap (m-i) m j P' (X'.take j) (X'.drop j) Y' S' vf (hP.len (by rw [←ϋ (X'.take j)];rw [←hX])) (by rw [←ϋ (X'.take j),←hX];exact hln) hc ζ ω ζ ζ;have HG:=χ (ψ hg (ψ hX (ψ hi (ψ hj hij))));clear hi hj hP hg hX hln hij
   go_wp2_with (first|((go_at_call 116;(with_reducible refine (kc).mono ?_));rintro e w9 ⟨rfl,VA,jR⟩)|fail)
   go_roundw
   case rel=>
    obtain ⟨g1,g2,g3,g4,g5⟩:=HG.out;refine ⟨i-j,j,P'++Y',X'.drop j,X'.take j,S',rfl,rfl,ζ,ζ,ω,hj0,ζ,ω,VA.len σ,?_,hu.trans jR⟩;rw [←g1,ϋ];rw [←ϋ (X'.take j),←g2]
   case measure=>simp [intOf];omega
theorem PR.at {w:World} {g:Nat} {l:List Pl} (h:PR w g l) {j:Nat} {p:Pl} (hj:l[j]?=some p):w.cell? ⟨g,j*2,none⟩=some (.int .i64 (p.1:Int))/\w.cell? ⟨g,j*2+1,none⟩=some (.int .i64 (p.2:Int))/\(p.1<1000000/\p.2<1000000):=
 ⟨h.a j p hj,h.b j p hj,h.s p (Η hj)⟩
theorem JB {P A R:List Pl} {k:Nat} {p:Pl} (h:A[k]?=some p):(P++(A++R))[P.length+k]?=some p:=by
 obtain ⟨h1,_⟩:=List.getElem?_eq_some_iff.1 h;rw [ϊ ω,show P.length+k-P.length=k by omega,Ρ h1,h]
theorem Qj {P A B R:List Pl} {k:Nat} {p:Pl} (h:B[k]?=some p):(P++(A++(B++R)))[P.length+A.length+k]?=some p:=by
 have:=JB (P:=P++A) (A:=B) (R:=R) h;rwa [υ,ϋ] at this
def jZ (w:World) (g:Nat) (P A B S:List Pl) (e:Ending) (w':World):Prop:=e=.returned (.tuple #[])/\∃C,C.Perm (A++B)/\eY C/\PR w' g (P++(C++S))/\aa [g] w w'
theorem Sl (w:World) (g n cap a m b:Nat) (P A B S:List Pl) (hP:PR w g (P++(A++(B++S)))) (hn:(P++(A++(B++S))).length=n) (hc:n<=1000000) (ha:a=P.length) (hm:m=a+A.length) (hb:b=m+B.length) (hA:0<A.length) (hB:0<B.length) (sA:eY A) (sB:eY B) (c1:A.length=1) :
  Calls Tryz.prog 106 #[.slice (some ⟨g,0,none⟩) n cap,.int .i64 (a:Int),.int .i64 (m:Int),.int .i64 (b:Int),.func (.func 73) #[] #[]] w (jZ w g P A B S):=by
 have hnl:=hn;simp only [υ] at hnl;have hbn:b<=n:=ω;have w1:IntKind.i64.wrap ((m:Int)-(a:Int))=((m-a:Nat):Int):=by rw [Μ _ ω];omega
 have w2:IntKind.i64.wrap ((b:Int)-(m:Int))=((b-m:Nat):Int):=by rw [Μ _ ω];omega
 obtain ⟨x,rfl⟩:=List.length_eq_one_iff.1 c1;have e1:m-a=1:=ω;rw [e1] at w1;obtain ⟨x0,x1,xb⟩:=hP.at (JB (P:=P) (A:=[x]) (k:=0) (p:=x) rfl);rw [ϖ,←ha] at x0 x1;have hm1:m=a+1:=ω;have HB:=χ (ψ hP (ψ hn (ψ ha (ψ hm1 (ψ hb (ψ sB hnl))))));have ham:a<n:=ω;have hgl:=hP.lt;clear hP hn ha hm hb sA sB e1 hnl c1 hm1;unfold jZ
 go_enter Tryz.func106,Tryz.ntmps106
 go_wp2
 go_loopw [10,11,12] (fun iv jv _ wr=>∃i j:Nat,iv=.int .i64 (i:Int)/\jv=.int .i64 (j:Int)/\m<=i/\i<=j/\j<=b/\(i=m\/∃p,B[i-1-m]?=some p/\mo p x)/\(j=b\/∃q,B[j-m]?=some q/\mo x q)/\aa [] w wr) (fun iv jv _ _=>(intOf jv).toNat-(intOf iv).toNat)
 case atStart=>exact ⟨m,b,rfl,rfl,Θ _,by have:=HB.out;omega,Θ _,Α rfl,Α rfl,aa.refl _ _⟩
 case round=>
  obtain ⟨i,j,rfl,rfl,hi,hij,hj,hl,hr,hu⟩:=hrel;rename World=>wr
  by_cases hlt:i<j
  ·have yZ:(i:Int)<(j:Int):=ω;obtain ⟨h,hh⟩:∃h:Nat,(i+j) / 2=h:=⟨_,rfl⟩;have hhI:((i:Int)+(j:Int)) / 2=(h:Int):=ω;have hmh:m<=h:=ω;have hhj:h<j:=ω;have hih:i<=h:=ω;have hhn:h<n:=ω;have w5:IntKind.i64.wrap ((h:Int)+1)=(h:Int)+1:=Μ _ ω;obtain ⟨p,hp⟩:∃p,B[h-m]?=some p:=⟨_,ε (by have:=HB.out;omega)⟩;have oh:=HB.out.1.upd hu σ;have hh':P.length+[x].length+(h-m)=h:=by have:=HB.out;simp only [List.length_singleton];omega
   obtain ⟨p0,p1,pb⟩:=oh.at (Qj (P:=P) (A:=[x]) (B:=B) (R:=S) (k:=h-m) hp);rw [hh'] at p0 p1;have y0:∀W,aa [] wr W->W.cell? ⟨g,a*2,none⟩=some (.int .i64 (x.1:Int)):=fun W h=>h.was (hu.was x0);have y1:∀W,aa [] wr W->W.cell? ⟨g,a*2+1,none⟩=some (.int .i64 (x.2:Int)):=fun W h=>h.was (hu.was x1);have q0:∀W,aa [] wr W->W.cell? ⟨g,h*2,none⟩=some (.int .i64 (p.1:Int)):=fun W h=>h.was p0;have q1:∀W,aa [] wr W->W.cell? ⟨g,h*2+1,none⟩=some (.int .i64 (p.2:Int)):=fun W h=>h.was p1;have hgr:=oh.lt;have kc:=fun W=>rq p x pb xb W;have Dc:=χ (ψ hp (ψ hl hr));clear hp hl hr oh hh' hh p0 p1
   cases hcmp:decide (Ff p x<0) with
   | true=>
    have HC:=χ ((mV _ _).1 hcmp);go_wp2
    go_region_held3 (aa [] wr) (first|assumption|(refine aa.drew ?_;first|assumption|exact aa.refl _ _)|(apply aa.trans;rotate_left;assumption;assumption))
     (first|((go_at_call 73;(with_reducible refine (kc _).mono ?_));rintro e w6 ⟨rfl,fq⟩;(have FJ:aa [] wr w6:=aa.trans (by (first|assumption|(refine aa.drew ?_;first|assumption|exact aa.refl _ _)|(apply aa.trans;rotate_left;assumption;assumption))) fq)))
    go_wp2
    go_roundw
    case rel=>exact ⟨h+1,j,rfl,rfl,ω,ω,hj,Β ⟨p,by rw [show h+1-1-m=h-m by omega];exact Dc.out.1,mo.of_lt HC.out⟩,Dc.out.2.2,hu.trans ν⟩
    case measure=>simp [intOf];omega
   | false=>
    have HC:=χ (show ¬DR p x from fun hl=>by have:=(mV p x).2 hl;rw [hcmp] at this;cases this);go_wp2
    go_region_held3 (aa [] wr) (first|assumption|(refine aa.drew ?_;first|assumption|exact aa.refl _ _)|(apply aa.trans;rotate_left;assumption;assumption))
     (first|((go_at_call 73;(with_reducible refine (kc _).mono ?_));rintro e w6 ⟨rfl,fq⟩;(have FJ:aa [] wr w6:=aa.trans (by (first|assumption|(refine aa.drew ?_;first|assumption|exact aa.refl _ _)|(apply aa.trans;rotate_left;assumption;assumption))) fq)))
    go_wp2
    go_roundw
    case rel=>exact ⟨i,h,rfl,rfl,hi,hih,ω,Dc.out.2.1,Β ⟨p,Dc.out.1,mo.Ck HC.out⟩,hu.trans ν⟩
    case measure=>simp [intOf];omega
  ·have yZ:¬ (i:Int)<(j:Int):=ω;obtain rfl:i=j:=ω;obtain ⟨q,hq⟩:∃q:Nat,i=q+1:=⟨i-1,by have:=HB.out;omega⟩;have w6:IntKind.i64.wrap ((i:Int)-1)=(q:Int):=by rw [Μ _ ω];omega
   have HQ:=χ (ψ hq (ψ hl (ψ hr hu)));have hqn:q<n:=ω;have haq:a<=q:=by have:=HB.out;omega
   clear hl hr hu hq;go_wp2
   go_loopw [13] (fun kv wr=>∃k:Nat,kv=.int .i64 (k:Int)/\a<=k/\k<=q/\PR wr g (P++(B.take (k-a)++x::(B.drop (k-a)++S)))/\aa [g] w wr) (fun kv _=>q-(intOf kv).toNat)
   case atStart=>exact ⟨a,rfl,Θ _,haq,by simpa using HB.out.1.upd HQ.out.2.2.2 σ,HQ.out.2.2.2.mono σ⟩
   case round=>
    obtain ⟨k,rfl,hka,hkq,QJ,Yx⟩:=hrel;rename World=>wr
    by_cases hk:k<q
    ·have Da:(k:Int)<(q:Int):=ω;obtain ⟨k1,hk1⟩:∃k1:Nat,k+1=k1:=⟨_,rfl⟩;have w7:IntKind.i64.wrap ((k:Int)+1)=(k1:Int):=by rw [Μ _ ω];omega
     have hkB:k-a<B.length:=by have:=HB.out;have:=HQ.out.1;omega
     obtain ⟨y,hy⟩:∃y,B.drop (k-a)=y::B.drop (k-a+1):=⟨B[k-a],ϡ hkB⟩;have hP':PR wr g ((P++B.take (k-a))++x::([]++y::(B.drop (k-a+1)++S))):=QJ.len (by rw [hy];simp);have i1:k=(P++B.take (k-a)).length:=by have:=HB.out;simp;omega
     have i2:k1=(P++B.take (k-a)).length+(([]:List Pl).length+1):=by have:=HB.out;simp;omega
     obtain ⟨⟨c0,c1⟩,c2,c3⟩:=hP'.mid i1 i2;have f0:=hP'.f (k*2);have f1:=hP'.f (k*2+1);have f2:=hP'.f (k1*2);have f3:=hP'.f (k1*2+1);have hgl2:=hP'.lt;have g1:(k:Int)<(n:Int):=ω;have g2:(k1:Int)<(n:Int):=ω;have hne:¬k=k1:=ω;have HS:=χ (hP'.swap i1 i2);have HE:=χ (ψ hy (ψ hk1 hkB));clear QJ hP' hy i1 i2 hk1;go_wp2
     go_region
     all_goals
      go_wp2;refine ⟨⟨k1,rfl,by have:=HE.out.2.1;omega,by have:=HE.out.2.1;omega,?_,β⟩,by have:=HE.out.2.1;simp [intOf];omega⟩;refine PR.len (o5 HS.out ?_).drew ?_
      ·first|exact Α rfl|exact Β rfl
      ·obtain ⟨hy,hk1,hkB⟩:=HE.out;have e2:k1-a=(k-a)+1:=ω;have e3:B.take (k-a+1)=B.take (k-a)++[y]:=by rw [ϐ];congr 1;have:=congrArg (fun l=>l[0]?) hy;simp at this;rw [this];rfl
       rw [e2,e3];simp
    ·have Da:¬ (k:Int)<(q:Int):=ω
     have hF:PR wr g (P++((B.take (i-m)++x::B.drop (i-m))++S)):=QJ.len (by
      have h1:=HB.out;have h2:=HQ.out.1
      rw [show k-a=i-m by omega];simp)
     have HF:=χ (ψ hF Yx);clear hF QJ Yx;go_wp2;refine bodyPost_ret (v:=.tuple #[]) (by simp [results,Tryz.results106,go_sem]) rfl ⟨rfl,_,?_,?_,HF.out.1,HF.out.2⟩
     ·simpa using De B x (i-m)
     ·obtain ⟨h1,h2,h3,h4⟩:=HQ.out;have h5:=HB.out;refine JM h5.2.2.2.2.2.1 ω ?_ ?_
      ·rcases h2 with h|⟨p,hp,hl⟩
       ·exact Α ω
       ·exact Β ⟨p,by rw [show i-m-1=i-1-m by omega];exact hp,hl⟩
      ·rcases h3 with h|⟨p,hp,hl⟩
       ·exact Α ω
       ·exact Β ⟨p,hp,hl⟩
theorem Q8 (w:World) (g n cap a m b:Nat) (P A B S:List Pl) (hP:PR w g (P++(A++(B++S)))) (hn:(P++(A++(B++S))).length=n) (hc:n<=1000000) (ha:a=P.length) (hm:m=a+A.length) (hb:b=m+B.length) (hA:0<A.length) (hB:0<B.length) (sA:eY A) (sB:eY B) (c1:¬A.length=1) (c2:B.length=1) :
  Calls Tryz.prog 106 #[.slice (some ⟨g,0,none⟩) n cap,.int .i64 (a:Int),.int .i64 (m:Int),.int .i64 (b:Int),.func (.func 73) #[] #[]] w (jZ w g P A B S):=by
 have hnl:=hn;simp only [υ] at hnl;have hbn:b<=n:=ω;have w1:IntKind.i64.wrap ((m:Int)-(a:Int))=((m-a:Nat):Int):=by rw [Μ _ ω];omega
 have w2:IntKind.i64.wrap ((b:Int)-(m:Int))=((b-m:Nat):Int):=by rw [Μ _ ω];omega
 obtain ⟨y,rfl⟩:=List.length_eq_one_iff.1 c2;have e1:b-m=1:=ω;rw [e1] at w2;have e0:(((m-a:Nat):Int) == 1)=false:=ζ;have ZM:(m-a == 1)=false:=ζ;obtain ⟨y0,y1,yb⟩:=hP.at (Qj (P:=P) (A:=A) (B:=[y]) (R:=S) (k:=0) (p:=y) rfl);rw [ϖ,←ha,←hm] at y0 y1;obtain ⟨ma,XF⟩:∃ma,m-a=ma:=⟨_,rfl⟩;rw [XF] at w1 e0 ZM;have Cu:m<n:=ω;have HB:=χ (ψ hP (ψ hn (ψ ha (ψ hm (ψ hb (ψ sA hnl))))));have hgl:=hP.lt;clear hP hn ha hm hb sA sB e1 hnl c1 c2 XF;unfold jZ
 go_enter Tryz.func106,Tryz.ntmps106
 go_wp2
 go_loopw [14,15,16] (fun iv jv _ wr=>∃i j:Nat,iv=.int .i64 (i:Int)/\jv=.int .i64 (j:Int)/\a<=i/\i<=j/\j<=m/\(i=a\/∃p,A[i-1-a]?=some p/\mo p y)/\(j=m\/∃q,A[j-a]?=some q/\mo y q)/\aa [] w wr) (fun iv jv _ _=>(intOf jv).toNat-(intOf iv).toNat)
 case atStart=>exact ⟨a,m,rfl,rfl,Θ _,by have:=HB.out;omega,Θ _,Α rfl,Α rfl,aa.refl _ _⟩
 case round=>
  obtain ⟨i,j,rfl,rfl,hi,hij,hj,hl,hr,hu⟩:=hrel;rename World=>wr
  by_cases hlt:i<j
  ·have yZ:(i:Int)<(j:Int):=ω;obtain ⟨h,hh⟩:∃h:Nat,(i+j) / 2=h:=⟨_,rfl⟩;have hhI:((i:Int)+(j:Int)) / 2=(h:Int):=ω;have hmh:a<=h:=ω;have hhj:h<j:=ω;have hih:i<=h:=ω;have hhn:h<n:=ω;have w5:IntKind.i64.wrap ((h:Int)+1)=(h:Int)+1:=Μ _ ω;obtain ⟨p,hp⟩:∃p,A[h-a]?=some p:=⟨_,ε (by have:=HB.out;omega)⟩;have oh:=HB.out.1.upd hu σ;have hh':P.length+(h-a)=h:=by have:=HB.out;omega
   obtain ⟨p0,p1,pb⟩:=oh.at (JB (P:=P) (A:=A) (R:=[y]++S) (k:=h-a) hp);rw [hh'] at p0 p1;have z0:∀W,aa [] wr W->W.cell? ⟨g,m*2,none⟩=some (.int .i64 (y.1:Int)):=fun W h=>h.was (hu.was y0);have z1:∀W,aa [] wr W->W.cell? ⟨g,m*2+1,none⟩=some (.int .i64 (y.2:Int)):=fun W h=>h.was (hu.was y1);have q0:∀W,aa [] wr W->W.cell? ⟨g,h*2,none⟩=some (.int .i64 (p.1:Int)):=fun W h=>h.was p0;have q1:∀W,aa [] wr W->W.cell? ⟨g,h*2+1,none⟩=some (.int .i64 (p.2:Int)):=fun W h=>h.was p1;have hgr:=oh.lt;have kc:=fun W=>rq y p yb pb W;have Dc:=χ (ψ hp (ψ hl hr));clear hp hl hr oh hh' hh p0 p1
   cases hcmp:decide (Ff y p<0) with
   | true=>
    have HC:=χ ((mV _ _).1 hcmp);go_wp2
    go_region_held3 (aa [] wr) (first|assumption|(refine aa.drew ?_;first|assumption|exact aa.refl _ _)|(apply aa.trans;rotate_left;assumption;assumption))
     (first|((go_at_call 73;(with_reducible refine (kc _).mono ?_));rintro e w6 ⟨rfl,fq⟩;(have FJ:aa [] wr w6:=aa.trans (by (first|assumption|(refine aa.drew ?_;first|assumption|exact aa.refl _ _)|(apply aa.trans;rotate_left;assumption;assumption))) fq)))
    go_wp2
    go_roundw
    case rel=>exact ⟨i,h,rfl,rfl,hi,hih,ω,Dc.out.2.1,Β ⟨p,Dc.out.1,mo.of_lt HC.out⟩,hu.trans ν⟩
    case measure=>simp [intOf];omega
   | false=>
    have HC:=χ (show ¬DR y p from fun hl=>by have:=(mV y p).2 hl;rw [hcmp] at this;cases this);go_wp2
    go_region_held3 (aa [] wr) (first|assumption|(refine aa.drew ?_;first|assumption|exact aa.refl _ _)|(apply aa.trans;rotate_left;assumption;assumption))
     (first|((go_at_call 73;(with_reducible refine (kc _).mono ?_));rintro e w6 ⟨rfl,fq⟩;(have FJ:aa [] wr w6:=aa.trans (by (first|assumption|(refine aa.drew ?_;first|assumption|exact aa.refl _ _)|(apply aa.trans;rotate_left;assumption;assumption))) fq)))
    go_wp2
    go_roundw
    case rel=>exact ⟨h+1,j,rfl,rfl,ω,ω,hj,Β ⟨p,by rw [show h+1-1-a=h-a by omega];exact Dc.out.1,mo.Ck HC.out⟩,Dc.out.2.2,hu.trans ν⟩
    case measure=>simp [intOf];omega
  ·have yZ:¬ (i:Int)<(j:Int):=ω;obtain rfl:i=j:=ω;have HQ:=χ (ψ hl (ψ hr hu));clear hl hr hu;go_wp2
   go_loopw [17] (fun kv wr=>∃k:Nat,kv=.int .i64 (k:Int)/\i<=k/\k<=m/\PR wr g (P++(A.take (k-a)++y::(A.drop (k-a)++S)))/\aa [g] w wr) (fun kv _=>(intOf kv).toNat)
   case atStart=>exact ⟨m,rfl,hj,Θ _,(HB.out.1.upd HQ.out.2.2 σ).len (by have:=HB.out;rw [List.take_of_length_le ω,List.drop_eq_nil_of_le ω];simp),HQ.out.2.2.mono σ⟩
   case round=>
    obtain ⟨k1,rfl,hka,hkq,QJ,Yx⟩:=hrel;rename World=>wr
    by_cases hk:i<k1
    ·have Da:(i:Int)<(k1:Int):=ω;have hkb:decide (i<k1)=true:=by simpa using hk
     obtain ⟨k,hk1⟩:∃k:Nat,k+1=k1:=⟨k1-1,ω⟩;have w7:IntKind.i64.wrap ((k1:Int)-1)=(k:Int):=by rw [Μ _ ω];omega
     have hkB:k-a<A.length:=by have:=HB.out;omega
     obtain ⟨x,hx⟩:∃x,A.drop (k-a)=x::A.drop (k-a+1):=⟨A[k-a],ϡ hkB⟩;have e2:k1-a=(k-a)+1:=ω;have e3:A.take (k-a+1)=A.take (k-a)++[x]:=by rw [ϐ];congr 1;have:=congrArg (fun l=>l[0]?) hx;simp at this;rw [this];rfl
     have hP':PR wr g ((P++A.take (k-a))++x::([]++y::(A.drop (k-a+1)++S))):=QJ.len (by rw [e2,e3];simp);have i1:k=(P++A.take (k-a)).length:=by have:=HB.out;simp;omega
     have i2:k1=(P++A.take (k-a)).length+(([]:List Pl).length+1):=by have:=HB.out;simp;omega
     obtain ⟨⟨c0,c1⟩,c2,c3⟩:=hP'.mid i1 i2;have f0:=hP'.f (k*2);have f1:=hP'.f (k*2+1);have f2:=hP'.f (k1*2);have f3:=hP'.f (k1*2+1);have hgl2:=hP'.lt;have g1:(k:Int)<(n:Int):=ω;have g2:(k1:Int)<(n:Int):=ω;have hne:¬k=k1:=ω;have HS:=χ (hP'.swap i1 i2);have HE:=χ (ψ hx hk1);clear QJ hP' hx i1 i2 hk1 e2 e3;go_wp2
     go_region
     all_goals
      go_wp2;refine ⟨⟨k,rfl,by have:=HE.out.2;omega,by have:=HE.out.2;omega,?_,β⟩,by have:=HE.out.2;simp [intOf];omega⟩;refine PR.len (o5 HS.out ?_).drew ?_
      ·first|exact Α rfl|exact Β rfl
      ·rw [HE.out.1];simp
    ·have Da:¬ (i:Int)<(k1:Int):=ω;have hkb:decide (i<k1)=false:=by simpa using hk
     have hF:PR wr g (P++((A.take (i-a)++y::A.drop (i-a))++S)):=QJ.len (by
      rw [show k1-a=i-a by omega];simp)
     have HF:=χ (ψ hF Yx);clear hF QJ Yx;go_wp2;refine bodyPost_ret (v:=.tuple #[]) (by simp [results,Tryz.results106,go_sem]) rfl ⟨rfl,_,?_,?_,HF.out.1,HF.out.2⟩
     ·exact (De A y (i-a)).trans (ϙ y A).symm
     ·obtain ⟨h2,h3,h4⟩:=HQ.out;have h5:=HB.out;refine JM h5.2.2.2.2.2.1 ω ?_ ?_
      ·rcases h2 with h|⟨p,hp,hl⟩
       ·exact Α ω
       ·exact Β ⟨p,by rw [show i-a-1=i-1-a by omega];exact hp,hl⟩
      ·rcases h3 with h|⟨p,hp,hl⟩
       ·exact Α ω
       ·exact Β ⟨p,hp,hl⟩
def Ph0 (w:World) (g:Nat) (P A1 A2 B1 B2 S:List Pl) (W:World):Prop:=PR W g (P++(A1++(A2++(B1++(B2++S)))))/\aa [g] w W
def Wu (w:World) (g:Nat) (P A1 A2 B1 B2 S:List Pl) (W:World):Prop:=PR W g (P++(A1++(B1++(A2++(B2++S)))))/\aa [g] w W
def WR (w:World) (g:Nat) (P A1 A2 B1 B2 S:List Pl) (W:World):Prop:=∃C,C.Perm (A1++B1)/\eY C/\PR W g (P++(C++(A2++(B2++S))))/\aa [g] w W
def Ph3 (w:World) (g:Nat) (P A1 A2 B1 B2 S:List Pl) (W:World):Prop:=∃C D,C.Perm (A1++B1)/\eY C/\D.Perm (A2++B2)/\eY D/\PR W g (P++(C++(D++S)))/\aa [g] w W
theorem ph01 {w W:World} {g:Nat} {P A1 A2 B1 B2 S:List Pl} (h:Ph0 w g P A1 A2 B1 B2 S W) (he:A2=[]\/B1=[]):Wu w g P A1 A2 B1 B2 S W:=by
 refine ⟨h.1.len ?_,h.2⟩;rcases he with rfl|rfl<;>simp
theorem ph12 {w W:World} {g:Nat} {P A1 A2 B1 B2 S:List Pl} (h:Wu w g P A1 A2 B1 B2 S W) (sA:eY A1) (sB:eY B1) (he:A1=[]\/B1=[]):WR w g P A1 A2 B1 B2 S W:=
 ⟨A1++B1,ό _,by rcases he with rfl|rfl<;>simpa,h.1.len σ,h.2⟩
theorem ph23 {w W:World} {g:Nat} {P A1 A2 B1 B2 S:List Pl} (h:WR w g P A1 A2 B1 B2 S W) (sA:eY A2) (sB:eY B2) (he:A2=[]\/B2=[]):Ph3 w g P A1 A2 B1 B2 S W:=by
 obtain ⟨C,h1,h2,h3,h4⟩:=h;exact ⟨C,A2++B2,h1,h2,ό _,by rcases he with rfl|rfl<;>simpa,h3.len σ,h4⟩
theorem UK {w W:World} {g:Nat} {P A B S:List Pl} {i j:Nat} (h:Ph3 w g P (A.take i) (A.drop i) (B.take j) (B.drop j) S W) (hs:∀x,x∈A.take i++B.take j->∀y,y∈A.drop i++B.drop j->mo x y) :
  ∃C,C.Perm (A++B)/\eY C/\PR W g (P++(C++S))/\aa [g] w W:=by
 obtain ⟨C,D,h1,h2,h3,h4,h5,h6⟩:=h;refine ⟨C++D,?_,Bg h2 h4 (fun x hx y hy=>hs x (h1.mem_iff.1 hx) y (h3.mem_iff.1 hy)),h5.len σ,h6⟩;have e:=(h1.append h3);refine e.trans ?_;have e2:(A.take i++B.take j++(A.drop i++B.drop j)).Perm (A.take i++A.drop i++(B.take j++B.drop j)):=by
  rw [ϋ,ϋ];refine List.Perm.append_left _ ?_;rw [←ϋ,←ϋ];exact List.Perm.append_right _ Φ
 rwa [ϝ,ϝ] at e2
def Ub (A B:List Pl) (a d s:Nat):Prop:=s=a\/d-s=B.length\/∃p q,A[s-1-a]?=some p/\B[d-s]?=some q/\mo p q
def Ty (A B:List Pl) (a m d r:Nat):Prop:=d=r\/r=m\/∃p q,B[d-1-r]?=some p/\A[r-a]?=some q/\mo p q
theorem KX {A B:List Pl} {a m b d s en:Nat} (hm:m=a+A.length) (hb:b=m+B.length) (h1:a<=s) (h2:s<=m) (h3:s<=d) (h4:d-s<=B.length) (he:d+m-s=en) :
  (A.take (s-a)).length=s-a/\(A.drop (s-a)).length=m-s/\(B.take (d-s)).length=d-s/\(B.drop (d-s)).length=b-en/\en=m+(d-s)/\d=s+(d-s)/\en=d+(m-s)/\b=en+(b-en):=by
 simp only [ϑ,List.length_drop];omega
theorem MW (w:World) (g n cap a m b:Nat) (P A B S:List Pl) (hP:PR w g (P++(A++(B++S)))) (hn:(P++(A++(B++S))).length=n) (hc:n<=1000000) (ha:a=P.length) (hm:m=a+A.length) (hb:b=m+B.length) (hA:0<A.length) (hB:0<B.length) (sA:eY A) (sB:eY B) (c1:¬A.length=1) (c2:¬B.length=1)
    (ih:∀ (w:World) (a m b:Nat) (P A' B' S:List Pl),A'.length+B'.length<A.length+B.length->PR w g (P++(A'++(B'++S)))->(P++(A'++(B'++S))).length=n->a=P.length->m=a+A'.length->b=m+B'.length->0<A'.length->0<B'.length->eY A'->eY B'->Calls Tryz.prog 106 #[.slice (some ⟨g,0,none⟩) n cap,.int .i64 (a:Int),.int .i64 (m:Int),.int .i64 (b:Int),.func (.func 73) #[] #[]] w (jZ w g P A' B' S)) :
    Calls Tryz.prog 106 #[.slice (some ⟨g,0,none⟩) n cap,.int .i64 (a:Int),.int .i64 (m:Int),.int .i64 (b:Int),.func (.func 73) #[] #[]] w (jZ w g P A B S):=by
  have hnl:=hn;simp only [υ] at hnl;have hbn:b<=n:=ω;have w1:IntKind.i64.wrap ((m:Int)-(a:Int))=((m-a:Nat):Int):=by rw [Μ _ ω];omega
  have w2:IntKind.i64.wrap ((b:Int)-(m:Int))=((b-m:Nat):Int):=by rw [Μ _ ω];omega
  obtain ⟨d,hd⟩:∃d:Nat,(a+b) / 2=d:=⟨_,rfl⟩;have wS:((a:Int)+(b:Int)) / 2=(d:Int):=ω;have e0:(((m-a:Nat):Int) == 1)=false:=ζ;have ZM:(m-a == 1)=false:=ζ;have e1:(((b-m:Nat):Int) == 1)=false:=ζ;have e11:(b-m == 1)=false:=ζ;obtain ⟨ma,XF⟩:∃ma,m-a=ma:=⟨_,rfl⟩;obtain ⟨mb,hmb⟩:∃mb,b-m=mb:=⟨_,rfl⟩;rw [XF] at w1 e0 ZM;rw [hmb] at w2 e1 e11;have w3:IntKind.i64.wrap ((d:Int)+(m:Int))=(d:Int)+(m:Int):=Μ _ ω;have w4:IntKind.i64.wrap ((d:Int)+(m:Int)-1)=(d:Int)+(m:Int)-1:=Μ _ ω
  obtain ⟨s0,r0,VF⟩:∃s0 r0:Nat,((decide (d<m)=true/\IntKind.i64.wrap ((d:Int)+(m:Int)-(b:Int))=(s0:Int)/\r0=d)\/(decide (d<m)=false/\s0=a/\r0=m))/\a<=s0/\s0<=r0/\r0<=m/\r0<=d/\d-s0<=B.length/\Ub A B a d s0/\Ty A B a m d r0:=by
    by_cases h:d<m
    · refine ⟨d+m-b,d,Α ⟨by simpa using h,by rw [Μ _ ω];omega,rfl⟩,ω,ω,ω,ω,ω,Β (Α ω),Α rfl⟩
    · exact ⟨a,m,Β ⟨by simpa using h,rfl,rfl⟩,ω,ω,ω,ω,ω,Α rfl,Β (Α rfl)⟩
  have HB:=χ (ψ hP (ψ hn (ψ ha (ψ hm (ψ hb (ψ VF.2 (ψ hA (ψ hB (ψ hd hnl)))))))));have HS:=χ (ψ sA sB);have HI:=χ ih;have Cu:m<=n:=ω;have hdn:d<=n:=ω;have hgl:=hP.lt;clear hP hn ih ha hm hb sA sB hnl c1 c2 XF hmb hd hA hB;unfold jZ;obtain ⟨VF, -⟩:=VF;rcases VF with ⟨Ve,w5,hr0⟩|⟨Ve,hs0,hr0⟩
  all_goals
    go_enter Tryz.func106,Tryz.ntmps106
    go_wp2
    go_loopw [20,21,23] (fun sv rv _ wr=>∃s r:Nat,sv=.int .i64 (s:Int)/\rv=.int .i64 (r:Int)/\s0<=s/\s<=r/\r<=r0/\Ub A B a d s/\Ty A B a m d r/\aa [] w wr) (fun sv rv _ _=>(intOf rv).toNat-(intOf sv).toNat)
    case atStart=>
      obtain ⟨h1,h2,h3,h4,h5,⟨h6,h7,h8,h9,h10,h11,h12⟩,h13⟩:=HB.out;exact ⟨s0,r0,by first|rfl|rw [hs0],by rw [hr0],Θ _,h7,Θ _,h11,h12,aa.refl _ _⟩
    case round=>
      obtain ⟨s,r,rfl,rfl,hs,hsr2,hr,hL,hR,hu⟩:=hrel;rename World=>wr
      by_cases hlt:s<r
      · have yZ:(s:Int)<(r:Int):=ω
        obtain ⟨h,hh⟩:∃h:Nat,(s+r) / 2=h:=⟨_,rfl⟩;have hhI:((s:Int)+(r:Int)) / 2=(h:Int):=ω;have hsh:s<=h:=ω;have hhr:h<r:=ω;obtain ⟨k,hk⟩:∃k,d-1-h=k:=⟨_,rfl⟩;obtain ⟨q,hq⟩:∃q,m+k=q:=⟨_,rfl⟩;have hfin:h<n/\q<n/\k<B.length/\h-a<A.length/\a<=h/\d=h+1+k:=by have:=HB.out;omega
        have hhn:h<n:=hfin.1;have hqn:q<n:=hfin.2.1;have w6:IntKind.i64.wrap ((h:Int)+1)=(h:Int)+1:=Μ _ ω;have w7:IntKind.i64.wrap ((d:Int)+(m:Int)-1-(h:Int))=(q:Int):=by rw [Μ _ ω];omega
        obtain ⟨pb,hpb⟩:∃p,B[k]?=some p:=⟨_,ε hfin.2.2.1⟩;obtain ⟨pa,Pt⟩:∃p,A[h-a]?=some p:=⟨_,ε hfin.2.2.2.1⟩;have oh:=HB.out.1.upd hu σ;have e3:P.length+A.length+k=q:=by have:=HB.out;omega
        have e4:P.length+(h-a)=h:=by have:=HB.out;omega
        obtain ⟨b0,b1,bb⟩:=oh.at (Qj (P:=P) (A:=A) (B:=B) (R:=S) (k:=k) hpb);obtain ⟨a0,a1,ab⟩:=oh.at (JB (P:=P) (A:=A) (R:=B++S) (k:=h-a) Pt);rw [e3] at b0 b1;rw [e4] at a0 a1;have y0:∀W,aa [] wr W->W.cell? ⟨g,q*2,none⟩=some (.int .i64 (pb.1:Int)):=fun W h=>h.was b0;have y1:∀W,aa [] wr W->W.cell? ⟨g,q*2+1,none⟩=some (.int .i64 (pb.2:Int)):=fun W h=>h.was b1;have q0:∀W,aa [] wr W->W.cell? ⟨g,h*2,none⟩=some (.int .i64 (pa.1:Int)):=fun W h=>h.was a0;have q1:∀W,aa [] wr W->W.cell? ⟨g,h*2+1,none⟩=some (.int .i64 (pa.2:Int)):=fun W h=>h.was a1;have hgr:=oh.lt
        have kc:=fun W=>rq pb pa bb ab W;have Dc:=χ (ψ hpb (ψ Pt (ψ hL (ψ hR (ψ hfin hk)))));clear hpb Pt hL hR oh e3 e4 hh hfin hk hq a0 a1 b0 b1;cases hcmp:decide (Ff pb pa<0) with
        | true=>
          have HC:=χ ((mV _ _).1 hcmp);go_wp2
          go_region_held3 (aa [] wr) (first|assumption|(refine aa.drew ?_;first|assumption|exact aa.refl _ _)|(apply aa.trans;rotate_left;assumption;assumption))
            (first|((go_at_call 73;(with_reducible refine (kc _).mono ?_));rintro e w6 ⟨rfl,fq⟩;(have FJ:aa [] wr w6:=aa.trans (by (first|assumption|(refine aa.drew ?_;first|assumption|exact aa.refl _ _)|(apply aa.trans;rotate_left;assumption;assumption))) fq)))
          go_wp2
          go_roundw
          case rel=>exact ⟨s,h,rfl,rfl,hs,hsh,ω,Dc.out.2.2.1,Β (Β ⟨pb,pa,by rw [Dc.out.2.2.2.2.2];exact Dc.out.1,Dc.out.2.1,mo.of_lt HC.out⟩),hu.trans ν⟩
          case measure=>simp [intOf];omega
        | false=>
          have HC:=χ (show ¬DR pb pa from fun hl=>by have:=(mV pb pa).2 hl;rw [hcmp] at this;cases this);go_wp2
          go_region_held3 (aa [] wr) (first|assumption|(refine aa.drew ?_;first|assumption|exact aa.refl _ _)|(apply aa.trans;rotate_left;assumption;assumption))
            (first|((go_at_call 73;(with_reducible refine (kc _).mono ?_));rintro e w6 ⟨rfl,fq⟩;(have FJ:aa [] wr w6:=aa.trans (by (first|assumption|(refine aa.drew ?_;first|assumption|exact aa.refl _ _)|(apply aa.trans;rotate_left;assumption;assumption))) fq)))
          go_wp2
          go_roundw
          case rel=>exact ⟨h+1,r,rfl,rfl,ω,ω,hr,Β (Β ⟨pa,pb,by rw [show h+1-1-a=h-a by omega];exact Dc.out.2.1,by rw [show d-(h+1)=d-1-h by omega,Dc.out.2.2.2.2.2];exact Dc.out.1,mo.Ck HC.out⟩),Dc.out.2.2.2.1,hu.trans ν⟩
          case measure=>simp [intOf];omega
      · have yZ:¬ (s:Int)<(r:Int):=ω
        obtain rfl:s=r:=ω;obtain ⟨en,hen⟩:∃en:Nat,d+m-s=en:=⟨_,rfl⟩;have hF:=KX (a:=a) (m:=m) (b:=b) (d:=d) (s:=s) (en:=en) HB.out.2.2.2.1 HB.out.2.2.2.2.1 (by have:=HB.out;omega) (by have:=HB.out;omega) (by have:=HB.out;omega) (by have:=HB.out;omega) hen;have w8:IntKind.i64.wrap ((d:Int)+(m:Int)-(s:Int))=(en:Int):=by rw [Μ _ (by have:=HB.out;omega)];omega
        obtain ⟨l1,l2,l3,l4,f1,f2,f3,f4⟩:=hF
        have hsp:=vK (A:=A) (B:=B) (i:=s-a) (j:=d-s) HS.out.1 HS.out.2 (by have:=HB.out;omega) (by have:=HB.out;omega) (by
          rcases hL with h|h|⟨p,q,h1,h2,h3⟩
          · exact Α ω
          · exact Β (Α h)
          · exact Β (Β ⟨p,q,by rw [show s-a-1=s-1-a by omega];exact h1,h2,h3⟩)) (by
          rcases hR with h|h|⟨p,q,h1,h2,h3⟩
          · exact Α ω
          · exact Β (Α (by have:=HB.out;omega))
          · exact Β (Β ⟨p,q,by rw [show d-s-1=d-1-s by omega];exact h1,h2,h3⟩))
        have hT:=χ (fun W h=>UK (w:=w) (W:=W) (g:=g) (P:=P) (S:=S) h hsp);have sA1:eY (A.take (s-a)):=List.Pairwise.sublist (List.take_sublist _ _) HS.out.1;have sA2:eY (A.drop (s-a)):=List.Pairwise.sublist (List.drop_sublist _ _) HS.out.1;have sB1:eY (B.take (d-s)):=List.Pairwise.sublist (List.take_sublist _ _) HS.out.2;have sB2:eY (B.drop (d-s)):=List.Pairwise.sublist (List.drop_sublist _ _) HS.out.2;have h0:Ph0 w g P (A.take (s-a)) (A.drop (s-a)) (B.take (d-s)) (B.drop (d-s)) S wr:=by
          refine ⟨(HB.out.1.upd hu σ).len ?_,hu.mono σ⟩;rw [←ϋ (A.take (s-a)),←ϋ (B.take (d-s)),ϝ,ϝ]
        have ZN:=HB.out.2.2.2.1;have hBl:=HB.out.2.2.2.2.1;have yB:=HB.out.2.2.1;have hnl:=HB.out.2.2.2.2.2.2.2.2.2;have hih:=HI.out;have has:a<=s:=by have:=HB.out;omega
        have hds:d-s<=B.length:=by have:=HB.out;omega
        have hsm:s<=m:=by have:=HB.out;omega
        clear hL hR hsp hu;generalize A.take (s-a)=A1 at *;generalize A.drop (s-a)=A2 at *;generalize B.take (d-s)=B1 at *;generalize B.drop (d-s)=B2 at *;have kR:decide (s<m)=true->decide (m<en)=true->∀W,Ph0 w g P A1 A2 B1 B2 S W->Calls Tryz.prog 113 #[.slice (some ⟨g,0,none⟩) n cap,.int .i64 (s:Int),.int .i64 (m:Int),.int .i64 (en:Int),.func (.func 73) #[] #[]] W fun e w'=>e=.returned (.tuple #[])/\Wu w g P A1 A2 B1 B2 S w':=fun h1 h2 W hW=>by
          have h1:=ϥ h1;have h2:=ϥ h2;refine (Tk W g n cap s m en (P++A1) A2 B1 (B2++S) _ (hW.1.len σ) (by simp only [υ];omega) hc (by rw [υ];omega) ω ω ω ω).mono ?_;rintro e w' ⟨rfl,hp,hu⟩;exact ⟨rfl,hp.len σ,hW.2.trans hu⟩
        have k1:decide (a<s)=true->decide (s<d)=true->∀W,Wu w g P A1 A2 B1 B2 S W->Calls Tryz.prog 106 #[.slice (some ⟨g,0,none⟩) n cap,.int .i64 (a:Int),.int .i64 (s:Int),.int .i64 (d:Int),.func (.func 73) #[] #[]] W fun e w'=>e=.returned (.tuple #[])/\WR w g P A1 A2 B1 B2 S w':=fun h1 h2 W hW=>by
          have h1:=ϥ h1;have h2:=ϥ h2;refine (hih W a s d P A1 B1 (A2++(B2++S)) (by have:=HB.out;omega) hW.1 (by simp only [υ];omega) yB ω ω ω ω sA1 sB1).mono ?_;rintro e w' ⟨rfl,C,q1,q2,q3,q4⟩;exact ⟨rfl,C,q1,q2,q3,hW.2.trans q4⟩
        have k2:decide (d<en)=true->decide (en<b)=true->∀W,WR w g P A1 A2 B1 B2 S W->Calls Tryz.prog 106 #[.slice (some ⟨g,0,none⟩) n cap,.int .i64 (d:Int),.int .i64 (en:Int),.int .i64 (b:Int),.func (.func 73) #[] #[]] W fun e w'=>e=.returned (.tuple #[])/\Ph3 w g P A1 A2 B1 B2 S w':=fun h1 h2 W hW=>by
          have h1:=ϥ h1;have h2:=ϥ h2;obtain ⟨C,p1,p2,p3,p4⟩:=hW;have IY:=p1.length_eq;rw [υ] at IY;refine (hih W d en b (P++C) A2 B2 S (by have:=HB.out;omega) (p3.len σ) (by simp only [υ];omega) (by rw [υ];omega) ω ω ω ω sA2 sB2).mono ?_;rintro e w' ⟨rfl,D,q1,q2,q3,q4⟩;exact ⟨rfl,C,D,p1,p2,q1,q2,q3.len σ,p4.trans q4⟩
        have t01:(decide (s<m)=false\/decide (m<en)=false)->∀W,Ph0 w g P A1 A2 B1 B2 S W->Wu w g P A1 A2 B1 B2 S W:=fun h W hW=>ph01 hW (by
          rcases h with h|h
          · exact Α (Ϟ (by have:=Ϧ h;omega))
          · exact Β (Ϟ (by have:=Ϧ h;omega)))
        have t12:(decide (a<s)=false\/decide (m<en)=false)->∀W,Wu w g P A1 A2 B1 B2 S W->WR w g P A1 A2 B1 B2 S W:=fun h W hW=>ph12 hW sA1 sB1 (by
          rcases h with h|h
          · exact Α (Ϟ (by have:=Ϧ h;omega))
          · exact Β (Ϟ (by have:=Ϧ h;omega)))
        have t23:(decide (s<m)=false\/decide (en<b)=false)->∀W,WR w g P A1 A2 B1 B2 S W->Ph3 w g P A1 A2 B1 B2 S W:=fun h W hW=>ph23 hW sA2 sB2 (by
          rcases h with h|h
          · exact Α (Ϟ (by have:=Ϧ h;omega))
          · exact Β (Ϟ (by have:=Ϧ h;omega)))
        have hb2:decide (s<d)=decide (m<en):=decide_eq_decide.2 ω;have hb1:decide (d<en)=decide (s<m):=decide_eq_decide.2 ω;have T01:=χ t01;have T12:=χ t12;have T23:=χ t23;clear t01 t12 t23 hih sA1 sA2 sB1 sB2 l1 l2 l3 l4 f1 f2 f3 f4 hen ZN hBl yB hnl;cases b1:decide (s<m)<;>cases b2:decide (m<en)<;>cases b3:decide (a<s)<;>cases b4:decide (en<b) <;>
          (rw [b2] at hb2
           rw [b1] at hb1;simp only [b1,b2,b3,b4,hb1,hb2,true_imp_iff,reduceCtorEq,false_imp_iff] at kR k1 k2
           go_wp2_with (first
             | ((go_at_call 113;(with_reducible refine (kR _ h0).mono ?_));rintro e w1 ⟨rfl,h1⟩)
             | ((go_at_call 106;(with_reducible refine (k1 _ (by first|assumption|exact T01.out (by first|exact Α b1|exact Β b2) _ (by assumption))).mono ?_));rintro e w2 ⟨rfl,h2⟩)
             | ((go_at_call 106;(with_reducible refine (k2 _ (by first|assumption|exact T12.out (by first|exact Α b3|exact Β b2) _ (by first|assumption|exact T01.out (by first|exact Α b1|exact Β b2) _ (by assumption)))).mono ?_));rintro e w3 ⟨rfl,h3⟩)
             | fail)
           go_end0
           exact ⟨rfl,hT.out _ (by first|assumption|exact T23.out (by first|exact Α b1|exact Β b4) _ (by first|assumption|exact T12.out (by first|exact Α b3|exact Β b2) _ (by first|assumption|exact T01.out (by first|exact Α b1|exact Β b2) _ (by assumption))))⟩)
theorem Jw (g n cap:Nat) (hc:n<=1000000):∀ (f:Nat) (w:World) (a m b:Nat) (P A B S:List Pl),A.length+B.length<=f->PR w g (P++(A++(B++S)))->(P++(A++(B++S))).length=n->a=P.length->m=a+A.length->b=m+B.length->0<A.length->0<B.length->eY A->eY B->
  Calls Tryz.prog 106 #[.slice (some ⟨g,0,none⟩) n cap,.int .i64 (a:Int),.int .i64 (m:Int),.int .i64 (b:Int),.func (.func 73) #[] #[]] w (jZ w g P A B S):=by
 intro f
 induction f with
 | zero=>intro w a m b P A B S hf _ _ _ _ _ h1 _ _ _;omega
 | succ f ih=>
  intro w a m b P A B S hf hP hn ha hm hb hA hB sA sB
  by_cases c1:A.length=1
  ·exact Sl w g n cap a m b P A B S hP hn hc ha hm hb hA hB sA sB c1
  ·by_cases c2:B.length=1
   ·exact Q8 w g n cap a m b P A B S hP hn hc ha hm hb hA hB sA sB c1 c2
   ·exact MW w g n cap a m b P A B S hP hn hc ha hm hb hA hB sA sB c1 c2 (fun w a m b P A' B' S h=>ih w a m b P A' B' S ω)
end Go.Proofs.YtklibcncmbofpaaGreat
