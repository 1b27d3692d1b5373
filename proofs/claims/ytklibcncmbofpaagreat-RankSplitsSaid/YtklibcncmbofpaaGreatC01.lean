/-
  Lemmas for RankSplits: Base, Own, Row, Append, Ints, SameW, SameSl, Enters, Ns, Ord, Ent, Names, Map, Cells, Cells2, Cells4, Cells5, Mth, NestB, Qn, MapH, SyP, MapP, Sy, Sy2, Sy3, Sy4, Sy5. Conditions: those of each lemma.
-/
import Derived.WalkKit
import Derived.WalkSpells
import Derived.WalkLawsBesides
import Derived.BigQuiet
import Derived.Deep.RegionHeld3
import Derived.ProofKit
import Derived.OpenShut
import Derived.Lib.Hide
import Derived.Maps.AppendAt
import Derived.Test.YtklibcncmbofpaaGreatProg
import Derived.StillTailTactics
import Derived.Maps.OwnSet
import Derived.Maps.OwnOps
import Derived.Maps.RangeWalk
import Derived.DeepKeys4
import Derived.BigRegion
import Derived.IntWalk
import Derived.Deep.DeepCutAuto
set_option linter.all false
set_option maxHeartbeats 8000000
set_option maxRecDepth 10000
namespace Go.Proofs.YtklibcncmbofpaaGreat
open Go.RowKit
theorem j4 {k:IntKind} {a b:Int} (h:a=b):Ending.returned (.int k a)=.returned (.int k b):=by rw [h]
theorem bA {a b:Bool} (h:a=b):Ending.returned (.bool a)=.returned (.bool b):=by rw [h]
structure aa (S:List Nat) (w w':World):Prop where
 os:w'.os=w.os
 tape:w'.tape=w.tape
 output:w'.output=w.output
 size:w.heap.size<=w'.heap.size
 block:∀k,k<w.heap.size->k∉S->w'.heap[k]?=w.heap[k]?
theorem aa.refl (S:List Nat) (w:World):aa S w w:=⟨rfl,rfl,rfl,Nat.le_refl _,fun _ _ _=>rfl⟩
theorem aa.joined {S T:List Nat} {a b c:World} (h:aa S a b) (k:aa T b c) (hT:∀x,x∈T->x∈S\/a.heap.size<=x):aa S a c:=
  ⟨k.os.trans h.os,k.tape.trans h.tape,k.output.trans h.output,Nat.le_trans h.size k.size,
   fun i hi hs=>(k.block i (Nat.lt_of_lt_of_le hi h.size) (fun hm=>by rcases hT i hm with h1|h1;exact hs h1;omega)).trans (h.block i hi hs)⟩
theorem aa.trans {S:List Nat} {a b c:World} (h:aa S a b) (k:aa S b c):aa S a c:=h.joined k (fun _ hx=>Or.inl hx)
theorem aa.then {S:List Nat} {a b c:World} (h:aa S a b) (k:aa [] b c):aa S a c:=h.joined k (fun _ hx=>by cases hx)
theorem aa.mono {S T:List Nat} {a b:World} (h:aa S a b) (hs:∀x,x∈S->x∈T):aa T a b:=
 ⟨h.os,h.tape,h.output,h.size,fun k hk hn=>h.block k hk (fun hm=>hn (hs k hm))⟩
theorem aa.drew {S:List Nat} {a w:World} (h:aa S a w):aa S a w.drew:=⟨h.os,h.tape,h.output,h.size,h.block⟩
theorem aa.drewN {S:List Nat} {a w:World} (h:aa S a w) (n:Nat):aa S a (w.drewN n):=⟨h.os,h.tape,h.output,h.size,h.block⟩
theorem aa.alloc {S:List Nat} {a w:World} (h:aa S a w) (o:Obj):aa S a (w.alloc o):=
 h.joined (T:=[]) ⟨rfl,rfl,rfl,by simp,fun k hk _=>Below.heap_alloc _ _ _ hk⟩ (fun _ hx=>by cases hx)
theorem aa.setCell {S:List Nat} {a w:World} (h:aa S a w) {p:Addr} (hp:p.block∈S\/a.heap.size<=p.block) (u:Value):aa S a (w.setCell p u):=
 h.joined (T:=[p.block]) ⟨rfl,rfl,rfl,by simp [World.setCell],fun k hk hn=>Below.heap_setCell _ _ _ _ (by simpa using hn)⟩ (fun x hx=>by simp at hx;rw [hx];exact hp)
theorem aa.grown {S:List Nat} {a w w':World} {row:Option Nat} (h:aa S a w) (hg:w.grownBy w' row) (hr:∀k,row=some k->k∈S\/a.heap.size<=k):aa S a w':=
 h.joined (T:=row.toList) ⟨hg.os,hg.tape,hg.output,hg.size,fun k hk hn=>hg.block k hk (fun e=>hn (by rw [←e];simp))⟩ (fun x hx=>hr x (by simpa using hx))
theorem aa.cell {S:List Nat} {w w':World} (h:aa S w w') {p:Addr} (hp:p.block<w.heap.size) (hn:p.block∉S):w'.cell? p=w.cell? p:=World.cell?_of_block (w:=w) (h.block p.block hp hn)
theorem aa.frozen {S:List Nat} {w w':World} (h:aa S w w') {p:Addr} (hp:p.block<w.heap.size) (hn:p.block∉S):w'.frozen? p=w.frozen? p:=World.frozen?_of_block (w:=w) (h.block p.block hp hn)
theorem aa.below {w w':World} (h:aa [] w w'):Below w.heap.size w w':=⟨h.os,h.tape,h.output,h.size,fun k hk=>h.block k hk (by simp)⟩
theorem aa.was {w w':World} (h:aa [] w w') {p:Addr} {v:Value} (hv:w.cell? p=some v):w'.cell? p=some v:=by
 rw [h.cell (World.block_lt_of_cell? w p hv) (by simp)];exact hv
theorem aa.kept {S:List Nat} {w w':World} (h:aa S w w') {p:Addr} {v:Value} (hv:w.cell? p=some v) (hn:p.block∉S):w'.cell? p=some v:=by
 rw [h.cell (World.block_lt_of_cell? w p hv) hn];exact hv
theorem aa.aP {S:List Nat} {w w':World} (h:aa S w w') {p:Addr} {v:Value} (hv:w.cell? p=some v) (hn:p.block∉S) (hf:w.frozen? p=false):w'.frozen? p=false:=by
 rw [h.frozen (World.block_lt_of_cell? w p hv) hn];exact hf
theorem Ug {W w1:World} (hb:aa [] W w1):(∀a,(W.cell? a).isSome=true->w1.cell? a=W.cell? a)/\(∀a,(W.cell? a).isSome=true->w1.frozen? a=W.frozen? a):=
  ⟨fun a h=>by obtain ⟨u,hu⟩:=Option.isSome_iff_exists.1 h;exact hb.cell (World.block_lt_of_cell? W a hu) (by simp),
   fun a h=>by obtain ⟨u,hu⟩:=Option.isSome_iff_exists.1 h;exact hb.frozen (World.block_lt_of_cell? W a hu) (by simp)⟩
theorem β {P:Prop} (h:P:=by (repeat (first|assumption|exact aa.refl _ _|refine aa.alloc ?_ _|refine aa.drew ?_|refine aa.drewN ?_ _|refine aa.setCell ?_ ?_ _|focus (left;simp;done)|focus (right;simp;done)|focus (right;simp;omega)))):P:=h
theorem κ {P:Prop} (h:P:=by (repeat (first|assumption|exact aa.refl _ _|refine aa.drew ?_|refine aa.alloc ?_ _|refine aa.setCell ?_ ?_ _|focus (left;simp;done)|focus (right;simp;done)|focus (right;simp;omega)|(apply aa.trans;rotate_left;assumption;assumption)))):P:=h
theorem ν {P:Prop} (h:P:=by (repeat (first|assumption|exact aa.refl _ _|refine aa.drew ?_|refine aa.alloc ?_ _|refine aa.setCell ?_ ?_ _|focus (left;simp;done)|focus (right;simp;done)|focus (right;simp;omega)|(apply aa.trans;rotate_left;assumption)))):P:=h
theorem η {P:Prop} (h:P:=by (repeat (first|assumption|exact aa.refl _ _|refine aa.drew ?_|refine aa.alloc ?_ _|(apply aa.trans;rotate_left;assumption)))):P:=h
theorem ξ {P:Prop} (h:P:=by (repeat (first|assumption|exact aa.refl _ _|refine aa.alloc ?_ _|refine aa.drew ?_|refine aa.drewN ?_ _|refine aa.setCell ?_ (Or.inr (by first|(simp;done)|(simp;omega))) _|(apply aa.trans;rotate_left;assumption)))):P:=h
theorem ω {P:Prop} (h:P:=by omega):P:=h
theorem σ {P:Prop} (h:P:=by simp):P:=h
theorem ζ {P:Prop} (h:P:=by simp;omega):P:=h
theorem ι {P:Prop} (h:P:=by first|(simp;done)|(simp;omega)):P:=h
theorem μ {P:Prop} (h:P:=by unfold maxLen;omega):P:=h
theorem γ {P:Prop} (h:P:=by go_simp):P:=h
theorem δ {P:Prop} (h:P:=by decide):P:=h
theorem ψ {a b:Prop} (x:a) (y:b):a/\b:=⟨x,y⟩
theorem χ {p:Prop} (h:p):Hid p:=h
theorem φ {α:Type} {l:List α} {i:Nat} {a:α}:l.getD i a=l[i]?.getD a:=List.getD_eq_getElem?_getD
theorem π (n:Nat):(n:Int).toNat=n:=Int.toNat_natCast n
theorem ρ {α:Type _} {a b:α} {l:List α}:a∈b::l↔a=b\/a∈l:=List.mem_cons
theorem τ {α:Type _} {a:α} {s t:List α}:a∈s++t↔a∈s\/a∈t:=List.mem_append
theorem ε {α:Type _} {l:List α} {i:Nat} (h:i<l.length):l[i]?=some l[i]:=List.getElem?_eq_getElem h
theorem υ {α:Type _} {s t:List α}:(s++t).length=s.length+t.length:=List.length_append
theorem θ {α:Type _} {s t:List α}:(s++t).Nodup↔s.Nodup/\t.Nodup/\∀a∈s,∀b∈t,a≠b:=List.nodup_append
theorem ς {α:Type _} {a:α}:¬a∈([]:List α):=List.not_mem_nil
def Α:=@Or.inl
def Β:=@Or.inr
def Γ:=@if_neg
def Δ:=@if_pos
def Ε:=@World.block_lt_of_cell?
def Ζ:=@List.nodup_cons
def Η:=@List.mem_of_getElem?
def Θ:=@Nat.le_refl
def Ι:=@List.length_set
def Κ:=@World.size_alloc
def Λ:=@List.mem_cons_of_mem
def Μ:=@IntWalk.i64_in
def Ν:=@decide_eq_true
def Ξ:=@decide_eq_false
def Ο:=@decide_eq_true_eq
def Ρ:=@List.getElem?_append_left
def Τ:=@Bool.and_eq_true
def Υ:=@List.append_nil
def Φ:=@List.perm_append_comm
def Χ:=@Nat.le_trans
def Ψ:=@Nat.lt_of_lt_of_le
def Ω:=@List.length_cons
def ϊ:=@List.getElem?_append_right
def ϋ:=@List.append_assoc
def ό:=@List.Perm.refl
def ύ:=@List.getElem?_set
def ώ:=@List.getElem?_set_self
def Ϗ:=@List.getElem?_set_ne
def ϐ:=@List.take_add_one
def ϑ:=@List.length_take
def ϒ:=@List.length_drop
def ϓ:=@List.length_map
def ϔ:=@List.getElem?_map
def ϕ:=@List.mem_singleton
def ϖ:=@Nat.zero_add
def ϗ:=@Nat.add_zero
def Ϙ:=@Nat.lt_or_ge
def ϙ:=@Option.some.injEq
def Ϛ:=@List.perm_append_singleton
def ϛ:=@List.pairwise_cons
def Ϝ:=@List.getElem_mem
def ϝ:=@Classical.byContradiction
def Ϟ:=@List.take_append_drop
def ϟ:=@List.eq_nil_of_length_eq_zero
def Ϡ:=@List.nil_append
def ϡ:=@Option.map_some
def Ϣ:=@List.drop_eq_getElem_cons
def ϣ:=@List.Perm.trans
def Ϥ:=@List.perm_middle
def ϥ:=@Bool.false_eq_true
def Ϧ:=@of_decide_eq_true
def ϧ:=@of_decide_eq_false
def Ϩ:=@List.nodup_nil
def ϩ:=@World.cell?_setCell_other
end Go.Proofs.YtklibcncmbofpaaGreat
namespace Go.Proofs.YtklibcncmbofpaaGreat
open Go Go.RowKit
theorem jT {w:World} {base base' size n:Nat} {e:TypeId} {v:Value} {xs:List Value} (h:w.ownsRow base e size v n xs) (hb:base'<=base):w.ownsRow base' e size v n xs:=by
 refine ⟨h.1,?_⟩;rcases h.2 with hn|⟨g,cap,cur,rfl,hb',hg,rest⟩
 ·exact Α hn
 ·exact Β ⟨g,cap,cur,rfl,Χ hb hb',hg,rest⟩
theorem Ji (W:World) (us:List Value) (e:TypeId) (j:Nat) (u:Value) (hj:us[j]?=some u):(W.alloc (.cells us.toArray e)).cell? ((⟨W.heap.size,0,none⟩:Addr).add j)=some u:=by
 have e1:((⟨W.heap.size,0,none⟩:Addr).add j)=⟨W.heap.size,j,none⟩:=by
  unfold Addr.add;split
  ·subst_vars;rfl
  ·simp
 rw [e1];have e2:(W.alloc (.cells us.toArray e)).heap[W.heap.size]?=some (.cells us.toArray e):=by
  show (W.heap.push _)[W.heap.size]?=_
  simp
 unfold World.cell?;simp only [e2];simpa using hj
theorem aI {P:Program} {ops:Array Oper} {rest:List Oper} {o:Oper} {a:Act} {Q:Exit->Act->World->Prop} {W:World} (hgd:o.guard=none) (s x:Operand) (t:TypeId)
  (ho:o.op=.call { callee:=.builtin .append,args:=#[s,x],argTypes:=#[t,t] })
  (base:Nat) (e:TypeId) (z:Value) (size bytes:Nat) (ht:P.underlying t=some (.slice e)) (hinfo:(P.info? e).map (fun i=>(i.zero,i.size,i.bytes))=some (some z,size,bytes))
  (hzs:z.cells.size=size) (hsz:0<size) (v:Value) (n:Nat) (xs:List Value) (hs:a.eval s=v) (hown:W.ownsRow base e size v n xs)
  (us:List Value) (hus:us.length=size) (h1:∀u∈us,u.oneCell'=true) (hx:a.eval x=.slice (some ⟨W.heap.size,0,none⟩) 1 1)
  (hn:n+1<=maxLen) (hbytes:(n+1)*bytes<=140737488355328) (hbase:base<=W.heap.size)
  (h:∀v' w',w'.ownsRow base e size v' (n+1) (xs++us)->aa v.ownBlock.toList W w'->(v'.ownBlock=v.ownBlock\/∀k,v'.ownBlock=some k->W.heap.size<k)->wpList P ops Q rest (a.put o.dst v') w') :
  wpList P ops Q (o::rest) a (W.alloc (.cells us.toArray e)):=by
 obtain ⟨i,hi,hz0,hz1,hz2⟩:=info_parts hinfo;have hcell:=fun j u hj=>Ji W us e j u hj;rcases hown.2 with ⟨rfl,rfl⟩|⟨g,cap,cur,rfl,hbg,hg,hnc,hcm,hcs,htk⟩
 ·have hxs:xs=[]:=ϟ (by rw [hown.1,Nat.zero_mul]);subst hxs;refine wpList_append_grows _ hgd s x t ho e i z size bytes ht hi hz0 hz1 hz2 hzs hsz none 0 0 [] hs (fun _=>⟨rfl,rfl⟩) σ (fun b hb=>by cases hb) ⟨W.heap.size,0,none⟩ 1 1 us hx ω hcell h1 ω hn hbytes ?_;intro v' w' ho' hgr;refine h v' w' (jT ho' ζ) (((aa.refl _ _).alloc _).grown hgr (fun k hk=>by cases hk)) (Β fun k hk=>?_);have:=(ho'.lt k hk).1;simp at this;omega
 ·have hown':=hown.alloc (.cells us.toArray e)
  by_cases hfit:n+1<=cap
  ·refine wpList_append_fits _ hgd s x t ho base e i size ht hi hz1 g n cap xs hs hown' ⟨W.heap.size,0,none⟩ 1 1 us hx ω hcell h1 hfit ?_;intro w' ho' hgr;exact h _ w' ho' (((aa.refl _ _).alloc _).grown hgr (fun k hk=>Α (by cases hk;simp [Value.ownBlock]))) (Α rfl)
  ·refine wpList_append_grows _ hgd s x t ho e i z size bytes ht hi hz0 hz1 hz2 hzs hsz (some ⟨g,0,none⟩) n cap xs hs (fun hb=>by cases hb) hown.1 (fun b hb j u hj=>?_) ⟨W.heap.size,0,none⟩ 1 1 us hx ω hcell h1 ω hn hbytes ?_
   ·cases hb;exact hown'.cells rfl j u hj
   ·intro v' w' ho' hgr;refine h v' w' (jT ho' ζ) (((aa.refl _ _).alloc _).grown hgr (fun k hk=>by cases hk)) (Β fun k hk=>?_);have:=(ho'.lt k hk).1;simp at this;omega
theorem ay {w w':World} {S:List Nat} {base size n:Nat} {e:TypeId} {v:Value} {xs:List Value} (h:w.ownsRow base e size v n xs) (hu:aa S w w') (hne:∀k,v.ownBlock=some k->k∉S):w'.ownsRow base e size v n xs:=by
 refine ⟨h.1,?_⟩;rcases h.2 with hn|⟨g,cap,cur,rfl,hb,hg,rest⟩
 ·exact Α hn
 ·have hlt:=h.lt g rfl;exact Β ⟨g,cap,cur,rfl,hb,by rw [hu.block g hlt.2 (hne g rfl)];exact hg,rest⟩
theorem aa.own {w0 w w':World} {S:List Nat} {base size n:Nat} {e:TypeId} {v:Value} {xs:List Value} (h:aa S w0 w) (ho:w.ownsRow base e size v n xs) (hb:w0.heap.size<=base) (hu:aa v.ownBlock.toList w w'):aa S w0 w':=
 h.joined hu (fun x hx=>Β (Χ hb (ho.lt x (by simpa using hx)).1))
theorem dH {w:World} {base size n:Nat} {e:TypeId} {v:Value} {xs:List Value} (h:w.ownsRow base e size v n xs) (hn:0<n) :
  ∃g cap,v=.slice (some ⟨g,0,none⟩) n cap/\base<=g/\g<w.heap.size/\n<=cap/\cap<=9223372036854775807/\(∀j u,xs[j]?=some u->w.cell? ⟨g,j,none⟩=some u)/\∀j,w.frozen? ⟨g,j,none⟩=false:=by
 rcases h.2 with ⟨_,h0⟩|⟨g,cap,cur,rfl,hb,hg,hnc,hcm,_⟩
 ·omega
 ·refine ⟨g,cap,rfl,hb,(h.lt g rfl).2,hnc,by unfold maxLen at hcm;exact hcm,fun j u hj=>?_,fun j=>h.frozenAt j⟩;have hlt:j<xs.length:=by
   rcases Ϙ j xs.length with h'|h'
   ·exact h'
   ·rw [List.getElem?_eq_none h'] at hj;cases hj
  rw [h.cellAt j (by rw [←h.1];exact hlt)];exact hj
theorem mU (W:World) (xs:List Value) (e:TypeId) (base size n:Nat) (hl:xs.length=n*size) (hb:base<=W.heap.size) (hn:n<=maxLen) :
  (W.alloc (.cells xs.toArray e)).ownsRow base e size (.slice (some ⟨W.heap.size,0,none⟩) n n) n xs:=by
 refine ⟨hl,Β ⟨W.heap.size,n,xs.toArray,rfl,hb,?_,Θ _,hn,by simpa using hl,?_⟩⟩
 ·show (W.heap.push _)[W.heap.size]?=_;simp
 ·rw [←hl];simp
theorem aU {w:World} {base size n:Nat} {e:TypeId} {v:Value} {xs:List Value} (h:w.ownsRow base e size v n xs):∃a cap,v=.slice a n cap/\cap<=9223372036854775807:=by
 rcases h.2 with ⟨rfl,rfl⟩|⟨g,cap,cur,rfl,_,_,_,hc,_⟩
 ·exact ⟨none,0,rfl,ω⟩
 ·exact ⟨_,cap,rfl,by unfold maxLen at hc;exact hc⟩
def aG (w:World) (b:Nat) (e:TypeId) (m:Nat) (f:Nat->Value):Prop:=
 ∃arr:Array Value,w.heap[b]?=some (.cells arr e (0,0))/\arr.size=m/\∀j,j<m->arr[j]?=some (f j)
theorem aG.lt {w:World} {b m:Nat} {e:TypeId} {f:Nat->Value} (h:aG w b e m f):b<w.heap.size:=by
 obtain ⟨arr,h1,_⟩:=h;rcases Ϙ b w.heap.size with h'|h'
 ·exact h'
 ·rw [Array.getElem?_eq_none h'] at h1;cases h1
theorem aG.cell {w:World} {b m:Nat} {e:TypeId} {f:Nat->Value} (h:aG w b e m f) (j:Nat) (hj:j<m):w.cell? ⟨b,j,none⟩=some (f j):=by
 obtain ⟨arr,h1,h2,h3⟩:=h;unfold World.cell?;simp only [h1];simpa using h3 j hj
theorem aG.cellAt {w:World} {b m:Nat} {e:TypeId} {f:Nat->Value} {v:Value} (h:aG w b e m f) (j:Nat) (hj:j<m) (hv:f j=v):w.cell? ⟨b,j,none⟩=some v:=by rw [←hv];exact h.cell j hj
theorem aG.free {w:World} {b m:Nat} {e:TypeId} {f:Nat->Value} (h:aG w b e m f) (j:Nat):w.frozen? ⟨b,j,none⟩=false:=by
 obtain ⟨arr,h1,h2,h3⟩:=h;simp [World.frozen?,h1]
theorem aG.same {w w':World} {b m:Nat} {e:TypeId} {f:Nat->Value} (h:aG w b e m f) (hb:w'.heap[b]?=w.heap[b]?):aG w' b e m f:=by
 obtain ⟨arr,h1,h2,h3⟩:=h;exact ⟨arr,hb.trans h1,h2,h3⟩
theorem aG.upd {w w':World} {S:List Nat} {b m:Nat} {e:TypeId} {f:Nat->Value} (h:aG w b e m f) (hu:aa S w w') (hn:b∉S):aG w' b e m f:=h.same (hu.block b h.lt hn)
theorem aG.ext {w:World} {b m:Nat} {e:TypeId} {f g:Nat->Value} (h:aG w b e m f) (hg:∀j,j<m->f j=g j):aG w b e m g:=by
 obtain ⟨arr,h1,h2,h3⟩:=h;exact ⟨arr,h1,h2,fun j hj=>by rw [h3 j hj,hg j hj]⟩
theorem aG.set {w:World} {b m:Nat} {e:TypeId} {f:Nat->Value} (h:aG w b e m f) (j:Nat) (v:Value) :
  aG (w.setCell ⟨b,j,none⟩ v) b e m (fun i=>if i=j then v else f i):=by
 obtain ⟨arr,h1,h2,h3⟩:=h;refine ⟨arr.setIfInBounds j v,?_,by simp [h2],fun i hi=>?_⟩
 ·simp [World.setCell,Array.getElem?_modify,h1]
 ·rw [Array.getElem?_setIfInBounds]
  by_cases hij:j=i
  ·subst hij;simp [h2,hi]
  ·rw [Γ hij];show _=some (if i=j then v else f i);rw [Γ (fun e=>hij e.symm)];exact h3 i hi
theorem aG.far {w:World} {b m:Nat} {e:TypeId} {f:Nat->Value} (h:aG w b e m f) (a:Addr) (v:Value) (hn:b≠a.block):aG (w.setCell a v) b e m f:=
 h.same (Below.heap_setCell _ _ _ _ hn)
theorem aG.drew {w:World} {b m:Nat} {e:TypeId} {f:Nat->Value} (h:aG w b e m f):aG w.drew b e m f:=h
theorem aG.alloc {w:World} {b m:Nat} {e:TypeId} {f:Nat->Value} (h:aG w b e m f) (o:Obj):aG (w.alloc o) b e m f:=h.same (Below.heap_alloc _ _ _ h.lt)
theorem dC (w:World) (l:List Value) (e:TypeId):aG (w.alloc (.cells l.toArray e)) w.heap.size e l.length (fun j=>l.getD j undef):=by
 refine ⟨l.toArray,?_,σ,fun j hj=>?_⟩
 ·show (w.heap.push _)[w.heap.size]?=_;simp
 ·simp [hj,φ]
theorem Gb {w:World} {base size n cap g:Nat} {e:TypeId} {xs:List Value} (h:w.ownsRow base e size (.slice (some ⟨g,0,none⟩) n cap) n xs) (hcap:cap=n) (hn:n=0->xs=[]) :
  aG w g e (n*size) (fun j=>xs.getD j undef):=by
 subst hcap;rcases h.2 with ⟨h1,h0⟩|⟨g',cap',cur,h1,_,hg,_,_,hs,ht⟩
 ·cases h1
 ·simp only [Value.slice.injEq,ϙ,Addr.mk.injEq,and_true,true_and] at h1;obtain ⟨rfl,rfl⟩:=h1;refine ⟨cur,hg,hs,fun j hj=>?_⟩;have e1:cur.toList=xs:=by rw [←ht,List.take_of_length_le (by simp [hs])]
  rw [←e1];have hj':j<cur.toList.length:=by simp [hs];exact hj
  simp [φ];rw [Array.getElem?_eq_getElem (by simpa using hj')];rfl
theorem wpList_make_row {P:Program} {w:World} {ops:Array Oper} {rest:List Oper} {o:Oper} {a:Act} {Q:Exit->Act->World->Prop}
  (hg:o.guard=none) (l:Operand) (t:TypeId) (hop:o.op=Op.makeSlice t l l) (e:TypeId) (z:Value) (size bytes:Nat) (h1:P.underlying t=some (.slice e))
  (hinfo:(P.info? e).map (fun i=>(i.zero,i.size,i.bytes))=some (some z,size,bytes)) (n:Nat) (hl:a.eval l=.int .i64 (n:Int)) (b2:bytes*n<=281474976710656) (b3:n<=maxLen)
  (hK:∀w',aG w' w.heap.size e (n*size) (fun j=>(madeCells z.cells (n*size)).toList.getD j undef)->aa [] w w'->wpList P ops Q rest (a.put o.dst (.slice (some ⟨w.heap.size,0,none⟩) n n)) w') :
  wpList P ops Q (o::rest) a w:=by
 obtain ⟨i,hi,hz0,hz1,hz2⟩:=info_parts hinfo
 exact wpList_make_full w hg l l t hop w.heap.size e i z size h1 hi hz0 hz1 .i64 .i64 n n n hl hl rfl rfl (by rw [hz2];exact b2) b3 (Θ _) (fun w' ho hgr=>
  hK w' (Gb ho rfl (fun h0=>ϟ (by rw [ho.1,h0,Nat.zero_mul]))) ((aa.refl [] w).grown hgr (fun k hk=>by cases hk)))
def jL (w:World) (lo:Nat) (v:Value) (n:Nat) (xs:List Value):Prop:=
 (v=.slice none 0 0/\n=0/\xs=[])\/
 ∃g cap,v=.slice (some ⟨g,0,none⟩) n cap/\n<=cap/\cap<=9223372036854775807/\lo<=g/\g<w.heap.size/\∀j u,xs[j]?=some u->w.cell? ⟨g,j,none⟩=some u
theorem jL.open {w:World} {lo n:Nat} {v:Value} {xs:List Value} (h:jL w lo v n xs) :
  ∃a cap,v=.slice a n cap/\cap<=9223372036854775807/\n<=cap/\(0<n->∃g,a=some ⟨g,0,none⟩/\lo<=g/\g<w.heap.size/\∀j u,xs[j]?=some u->w.cell? ⟨g,j,none⟩=some u):=by
 rcases h with ⟨rfl,rfl,rfl⟩|⟨g,cap,rfl,h1,h2,h3⟩
 ·exact ⟨none,0,rfl,ω,ω,fun h=>ω⟩
 ·exact ⟨_,cap,rfl,h2,h1,fun _=>⟨g,rfl,h3⟩⟩
theorem jL.JZ {w:World} {base size n:Nat} {e:TypeId} {v:Value} {xs:List Value} (h:w.ownsRow base e size v n xs):jL w base v n xs:=by
 rcases h.2 with ⟨rfl,rfl⟩|⟨g,cap,cur,rfl,hb,hg,hn,hc,_⟩
 ·exact Α ⟨rfl,rfl,ϟ (by rw [h.1,Nat.zero_mul])⟩
 ·refine Β ⟨g,cap,rfl,hn,by unfold maxLen at hc;exact hc,hb,(h.lt g rfl).2,fun j u hj=>?_⟩;have hlt:j<xs.length:=by
   rcases Ϙ j xs.length with h'|h'
   ·exact h'
   ·rw [List.getElem?_eq_none h'] at hj;cases hj
  rw [h.cellAt j (by rw [←h.1];exact hlt)];exact hj
theorem jL.upd {w w':World} {S:List Nat} {lo n:Nat} {v:Value} {xs:List Value} (h:jL w lo v n xs) (hu:aa S w w') (hS:∀k,k∈S->k<lo\/w.heap.size<=k):jL w' lo v n xs:=by
 rcases h with h|⟨g,cap,rfl,h1,h2,h3,h4,h5⟩
 ·exact Α h
 ·exact Β ⟨g,cap,rfl,h1,h2,h3,Ψ h4 hu.size,fun j u hj=>by rw [hu.cell h4 (fun hm=>by rcases hS _ hm with h'|h'<;>simp at *<;>omega)];exact h5 j u hj⟩
theorem jL.mono {w:World} {lo lo' n:Nat} {v:Value} {xs:List Value} (h:jL w lo v n xs) (hl:lo'<=lo):jL w lo' v n xs:=by
 rcases h with h|⟨g,cap,rfl,h1,h2,h3,h4⟩
 ·exact Α h
 ·exact Β ⟨g,cap,rfl,h1,h2,Χ hl h3,h4⟩
theorem zS {P:Program} {o:Oper} {a:Act} {w:World} {K:Act->World->Prop} {Q:Exit->Act->World->Prop} (s x:Operand) (t:TypeId)
  (ho:o.op=.call { callee:=.builtin .append,args:=#[s,x],argTypes:=#[t,t] })
  (base:Nat) (e:TypeId) (z:Value) (size bytes:Nat) (ht:P.underlying t=some (.slice e)) (hinfo:(P.info? e).map (fun i=>(i.zero,i.size,i.bytes))=some (some z,size,bytes))
  (hzs:z.cells.size=size) (hsz:0<size) (v:Value) (n:Nat) (xs:List Value) (hs:a.eval s=v) (hown:w.ownsRow base e size v n xs)
  (lo m:Nat) (news:List Value) (v2:Value) (hx:a.eval x=v2) (hl:jL w lo v2 m news) (hlen:news.length=m*size) (h1:∀u∈news,u.oneCell'=true)
  (hn:n+m<=maxLen) (hbytes:(n+m)*bytes<=140737488355328) (hbase:base<=w.heap.size)
  (h:∀v' w',w'.ownsRow base e size v' (n+m) (xs++news)->aa v.ownBlock.toList w w'->K (a.put o.dst v') w'):o.wp P a w K Q:=by
 obtain ⟨i,hi,hz0,hz1,hz2⟩:=info_parts hinfo;rcases hl with ⟨rfl,rfl,rfl⟩|⟨g,cap,rfl,h2,h3,h4,h5,h6⟩
 ·have hrun:=run_append_owned_none (P:=P) (w:=w) base t o.type e i size ht hi v n xs hown;unfold Oper.wp;simp [execOp,ho,resolve,invoke,builtin,hs,hx,hrun,Result.andThen];exact h v w (by simpa using hown) (aa.refl _ _)
 ·refine wp_append_own w s x t ho base e i z size bytes ht hi hz0 hz1 hz2 hzs hsz v n xs hs hown ⟨g,0,none⟩ m cap news hx hlen (fun j u hj=>?_) h1 hn hbytes hbase (fun v' w' h1 h2 _=>h v' w' h1 ((aa.refl _ _).grown h2 (fun k hk=>Α (by simp [hk]))));have e1:((⟨g,0,none⟩:Addr).add j)=⟨g,j,none⟩:=by
   unfold Addr.add;split
   ·subst_vars;rfl
   ·simp
  rw [e1];exact h6 j u hj
theorem uY {P:Program} {ops:Array Oper} {rest:List Oper} {o:Oper} {a:Act} {w:World} {Q:Exit->Act->World->Prop} (hgd:o.guard=none) (s x:Operand) (t:TypeId)
  (ho:o.op=.call { callee:=.builtin .append,args:=#[s,x],argTypes:=#[t,t] })
  (base:Nat) (e:TypeId) (z:Value) (size bytes:Nat) (ht:P.underlying t=some (.slice e)) (hinfo:(P.info? e).map (fun i=>(i.zero,i.size,i.bytes))=some (some z,size,bytes))
  (hzs:z.cells.size=size) (hsz:0<size) (v:Value) (n:Nat) (xs:List Value) (hs:a.eval s=v) (hown:w.ownsRow base e size v n xs)
  (lo m:Nat) (news:List Value) (v2:Value) (hx:a.eval x=v2) (hl:jL w lo v2 m news) (hlen:news.length=m*size) (h1:∀u∈news,u.oneCell'=true)
  (hn:n+m<=maxLen) (hbytes:(n+m)*bytes<=140737488355328) (hbase:base<=w.heap.size)
  (h:∀v' w',w'.ownsRow base e size v' (n+m) (xs++news)->aa v.ownBlock.toList w w'->wpList P ops Q rest (a.put o.dst v') w'):wpList P ops Q (o::rest) a w:=
 wpList_plain hgd fun _ hK=>zS s x t ho base e z size bytes ht hinfo hzs hsz v n xs hs hown lo m news v2 hx hl hlen h1 hn hbytes hbase fun v' w' h2 h3=>hK _ _ (h v' w' h2 h3)
def cv (w:World) (a:Addr):Value:=(w.cell? a).getD undef
theorem vI (g j:Nat):((⟨g,0,none⟩:Addr).add j)=⟨g,j,none⟩:=by
 unfold Addr.add;split
 ·subst_vars;rfl
 ·simp
theorem kQ (W:World) (us:List Value) (e:TypeId) (j:Nat) (u:Value) (hj:us[j]?=some u):(W.alloc (.cells us.toArray e)).cell? ⟨W.heap.size,j,none⟩=some u:=by
 rw [←vI];exact Ji W us e j u hj
theorem zW {P:Program} {o:Oper} {a:Act} {w:World} {K:Act->World->Prop} {Q:Exit->Act->World->Prop} (s x:Operand) (t:TypeId)
  (ho:o.op=.call { callee:=.builtin .append,args:=#[s,x],argTypes:=#[t,t] })
  (base:Nat) (e:TypeId) (z:Value) (size bytes:Nat) (ht:P.underlying t=some (.slice e)) (hinfo:(P.info? e).map (fun i=>(i.zero,i.size,i.bytes))=some (some z,size,bytes))
  (hzs:z.cells.size=size) (hsz:0<size) (v:Value) (n:Nat) (xs:List Value) (hs:a.eval s=v) (hown:w.ownsRow base e size v n xs)
  (g:Nat) (news:List Value) (hx:a.eval x=.slice (some ⟨g,0,none⟩) 1 1) (hl:news.length=size) (hnews:∀j u,news[j]?=some u->w.cell? ⟨g,j,none⟩=some u) (h1:∀u∈news,u.oneCell'=true)
  (hn:n+1<=maxLen) (hbytes:(n+1)*bytes<=140737488355328) (hbase:base<=w.heap.size)
  (h:∀v' w',w'.ownsRow base e size v' (n+1) (xs++news)->aa v.ownBlock.toList w w'->(v'.ownBlock=v.ownBlock\/v'.ownBlock=some w.heap.size)->K (a.put o.dst v') w'):Oper.wp P o a w K Q:=by
 obtain ⟨i,hi,hz0,hz1,hz2⟩:=info_parts hinfo;obtain ⟨v',w',hr,h2,h3,_,h5⟩:=run_append_own_at (P:=P) w base t o.type e i z size bytes ht hi hz0 hz1 hz2 hzs hsz v n xs hown ⟨g,0,none⟩ 1 1 news (by rw [hl,Nat.one_mul]) (fun j u hj=>by rw [vI];exact hnews j u hj) h1 hn hbytes hbase;unfold Oper.wp execOp;simp only [ho,resolve,invoke,builtin,Sem.run_bind,Sem.run_pure,Result.andThen_ok,List.map_toArray,List.map_cons,List.map_nil,hs,hx,hr];exact h _ _ h2 ((aa.refl _ _).grown h3 (fun k hk=>Α (by simp [hk]))) h5
theorem iV {P:Program} {ops:Array Oper} {o:Oper} {a:Act} {w:World} {K:Act->World->Prop} {Q:Exit->Act->World->Prop} {E:Prop} (hgd:o.guard=none) (s x:Operand) (t:TypeId)
  (ho:o.op=.call { callee:=.builtin .append,args:=#[s,x],argTypes:=#[t,t] })
  (base:Nat) (e:TypeId) (z:Value) (size bytes:Nat) (ht:P.underlying t=some (.slice e)) (hinfo:(P.info? e).map (fun i=>(i.zero,i.size,i.bytes))=some (some z,size,bytes))
  (hzs:z.cells.size=size) (hsz:0<size) (v:Value) (n:Nat) (xs:List Value) (hs:a.eval s=v) (hown:w.ownsRow base e size v n xs)
  (g:Nat) (news:List Value) (hx:a.eval x=.slice (some ⟨g,0,none⟩) 1 1) (hl:news.length=size) (hnews:∀j u,news[j]?=some u->w.cell? ⟨g,j,none⟩=some u) (h1:∀u∈news,u.oneCell'=true)
  (hn:n+1<=maxLen) (hbytes:(n+1)*bytes<=140737488355328) (hbase:base<=w.heap.size)
  (h:∀v' w',w'.ownsRow base e size v' (n+1) (xs++news)->aa v.ownBlock.toList w w'->(v'.ownBlock=v.ownBlock\/v'.ownBlock=some w.heap.size)->K (a.put o.dst v') w') :
  if Region.wanted o (yielded ops a.tmps)=true then Oper.wp P o a w K Q else E:=by
 have hw:Region.wanted o (yielded ops a.tmps)=true:=by simp [Region.wanted,hgd]
 rw [Δ hw];exact zW s x t ho base e z size bytes ht hinfo hzs hsz v n xs hs hown g news hx hl hnews h1 hn hbytes hbase h
theorem dX:(Tryz.prog.info? 3).map (fun i=>(i.zero,i.size,i.bytes))=some (some (.int .i64 0),1,8):=by kernel_rfl
def aM (l:List Int):List Value:=l.map (fun x=>Value.int .i64 x)
theorem bz (a b:List Int):aM (a++b)=aM a++aM b:=by unfold aM;rw [List.map_append]
theorem dO (a:List Int):(aM a).length=a.length:=by unfold aM;simp
theorem Ap (l:List Int):∀u∈aM l,u.oneCell'=true:=by
 intro u hu;unfold aM at hu;simp only [List.mem_map] at hu;obtain ⟨x,_,rfl⟩:=hu;rfl
theorem jg {l:List Int} {j:Nat} (hj:j<l.length):(aM l)[j]?=some (.int .i64 (l.getD j 0)):=by unfold aM;simp [φ,hj]
theorem Og {X:World} {us:List Value} {e:TypeId} {g:Nat} (hg:g=X.heap.size) (j:Nat) {u:Value} (hj:us[j]?=some u):(X.alloc (.cells us.toArray e)).cell? ⟨g,j,none⟩=some u:=by
 subst hg;exact kQ X us e j u hj
theorem Az {X:World} {us:List Value} {e:TypeId} {g:Nat} (hg:g=X.heap.size) (j:Nat) {u:Value} (hj:us[j]?=some u):((X.alloc (.cells us.toArray e)).drew).cell? ⟨g,j,none⟩=some u:=Og hg j hj
structure IZ (w:World) (g cap:Nat) (l:List Int):Prop where
 own:w.ownsRow 0 3 1 (.slice (some ⟨g,0,none⟩) l.length cap) l.length (aM l)
theorem IZ.lt {w:World} {g cap:Nat} {l:List Int} (h:IZ w g cap l):g<w.heap.size:=(h.own.lt g rfl).2
theorem IZ.cap {w:World} {g cap:Nat} {l:List Int} (h:IZ w g cap l):l.length<=cap/\cap<=9223372036854775807:=by
 rcases h.own.2 with ⟨h1,_⟩|⟨g',cap',cur,h1,_,_,h2,h3,_⟩
 ·cases h1
 ·cases h1;unfold maxLen at h3;exact ⟨h2,h3⟩
theorem IZ.cell {w:World} {g cap:Nat} {l:List Int} (h:IZ w g cap l) (j:Nat) (hj:j<l.length):w.cell? ⟨g,j,none⟩=some (.int .i64 (l.getD j 0)):=by
 rw [h.own.cellAt j ω];exact jg hj
theorem IZ.free {w:World} {g cap:Nat} {l:List Int} (h:IZ w g cap l) (j:Nat):w.frozen? ⟨g,j,none⟩=false:=h.own.frozenAt j
theorem IZ.upd {w w':World} {S:List Nat} {g cap:Nat} {l:List Int} (h:IZ w g cap l) (hu:aa S w w') (hn:g∉S):IZ w' g cap l:=
 ⟨ay h.own hu (fun k hk=>by cases hk;exact hn)⟩
theorem IZ.drewN {w:World} {g cap:Nat} {l:List Int} (h:IZ w g cap l) (n:Nat):IZ (w.drewN n) g cap l:=h.upd ((aa.refl [] w).drewN n) σ
theorem IZ.set {w:World} {g cap:Nat} {l:List Int} (h:IZ w g cap l) (j:Nat) (x:Int):IZ (w.setCell ⟨g,j,none⟩ (.int .i64 x)) g cap (l.set j x):=by
 rcases h.own.2 with ⟨h1,_⟩|⟨g',cap',cur,h1,hb,hg,hn,hc,hs,ht⟩
 ·cases h1
 ·cases h1;refine ⟨⟨by rw [dO];omega,Β ⟨g,cap,cur.setIfInBounds j (.int .i64 x),by rw [Ι],ω,?_,by rw [Ι];exact hn,hc,ζ,?_⟩⟩⟩
  ·simp [World.setCell,Array.getElem?_modify,hg]
  ·rw [Ι,Array.toList_setIfInBounds]
   by_cases hj:j<l.length
   ·rw [List.take_set,ht];unfold aM;rw [List.map_set]
   ·rw [List.take_set_of_le ω,ht,List.set_eq_of_length_le ω]
theorem IZ.lit (w:World) (l:List Int) (hl:l.length<=1000000):IZ (w.alloc (.cells (aM l).toArray 3)) w.heap.size l.length l:=
 ⟨mU w (aM l) 3 0 1 l.length (by rw [dO];omega) ω μ⟩
theorem IZ.fQ {w:World} {base:Nat} {v:Value} {l:List Int} (h:w.ownsRow base 3 1 v l.length (aM l)) (hl:0<l.length):∃g cap,v=.slice (some ⟨g,0,none⟩) l.length cap/\IZ w g cap l/\base<=g:=by
 obtain ⟨g,cap,rfl,hb,_⟩:=dH h hl;exact ⟨g,cap,rfl,⟨jT h ω⟩,hb⟩
def fO (w:World) (F:List Nat) (v:Value) (xs:List Int):Prop:=
 ∃a cap,v=.slice a xs.length cap/\xs.length<=cap/\cap<=9223372036854775807/\∀j u,xs[j]?=some u->∃g off,a=some ⟨g,off,none⟩/\g<w.heap.size/\g∉F/\w.cell? ⟨g,off+j,none⟩=some (.int .i64 u)
theorem fO.fresh {w w':World} {F F':List Nat} {v:Value} {xs:List Int} (h:fO w F v xs) (hu:aa F w w') (hF:∀g,g∈F'->g∈F\/w.heap.size<=g):fO w' F' v xs:=by
 obtain ⟨a,cap,rfl,h1,h2,h3⟩:=h;refine ⟨a,cap,rfl,h1,h2,fun j u hj=>?_⟩;obtain ⟨g,off,rfl,hg,hn,hc⟩:=h3 j u hj;exact ⟨g,off,rfl,Ψ hg hu.size,fun hm=>by rcases hF g hm with h'|h';exact hn h';omega,by rw [hu.cell hg hn];exact hc⟩
theorem fO.fQ {w:World} {base:Nat} {v:Value} {xs:List Int} {F:List Nat} (h:w.ownsRow base 3 1 v xs.length (aM xs)) (hF:∀g,g∈F->g<base):fO w F v xs:=by
 rcases h.2 with ⟨rfl,h0⟩|⟨g,cap,cur,rfl,hb,hg,hn,hc,_⟩
 ·have:xs=[]:=ϟ h0;subst this;exact ⟨none,0,rfl,σ,ω,fun j u hj=>by simp at hj⟩
 ·refine ⟨_,cap,rfl,hn,by unfold maxLen at hc;exact hc,fun j u hj=>⟨g,0,rfl,(h.lt g rfl).2,fun hm=>by have:=hF g hm;omega,?_⟩⟩;have hjl:=(List.getElem?_eq_some_iff.1 hj).1;rw [ϖ,h.cellAt j ω,jg hjl];simp [φ,hj]
end Go.Proofs.YtklibcncmbofpaaGreat
namespace Go.Proofs.YtklibcncmbofpaaGreat
theorem EY {a b:List Int} (h:a.length≠b.length):a≠b:=fun e=>h (by rw [e])
theorem Ru {a b:List Int} (hl:a.length=b.length) (h:∀k,k<a.length->a.getD k 0=b.getD k 0):a=b:=by
 apply List.ext_getElem hl;intro i h1 h2;have:=h i h1;simpa [φ,h1,h2] using this
end Go.Proofs.YtklibcncmbofpaaGreat
namespace Go.Proofs.YtklibcncmbofpaaGreat
open Go Go.RowKit
theorem Sz (w:World) (F1 F2:List Nat) (va vb:Value) (za zb:List Int) (ha:fO w F1 va za) (hb:fO w F2 vb zb) :
  Calls Tryz.prog 20 #[va,vb] w fun e w'=>e=.returned (.bool (decide (za=zb)))/\∃k,w'=w.drewN k:=by
 obtain ⟨a,ca,rfl,hla,hca,PN⟩:=ha;obtain ⟨b,cb,rfl,hlb,hcb,hpb⟩:=hb;have HA:=χ PN;have HB:=χ hpb;clear PN hpb
 by_cases hl:za.length=zb.length
 ·have hl':((za.length:Int) != (zb.length:Int))=false:=by rw [hl];simp
  generalize hlen:za.length=len at *;have HLEN:=χ (ψ hlen hl);have hll:zb.length=len:=hl.symm;rw [hll] at *;clear hl hll hlen hl'
  go_enter Tryz.func20,Tryz.ntmps20
  go_wp2
  go_loopw [13] (fun i wr=>∃k:Nat,k<=len/\i=.int .i64 (k:Int)/\(∀j,j<k->za.getD j 0=zb.getD j 0)/\∃d,wr=w.drewN d) (fun i _=>len-(intOf i).toNat)
  case atStart=>exact ⟨0,ω,rfl,fun j hj=>ω,0,rfl⟩
  case round=>
   obtain ⟨k,hk,rfl,he,d,rfl⟩:=hrel;have HE:=χ he;clear he
   by_cases hlt:k<len
   ·obtain ⟨ga,oa,rfl,_,_,c1⟩:=HA.out k (za.getD k 0) (by simp [φ,HLEN.out.1,hlt]);obtain ⟨gb,ob,rfl,_,_,c2⟩:=HB.out k (zb.getD k 0) (by simp [φ,←HLEN.out.2,hlt]);have HP:Hid (∀j,j<k+1->za.getD k 0=zb.getD k 0->za.getD j 0=zb.getD j 0):=fun j hj e=>by
     rcases (ω:j<k\/j=k) with h|h
     ·exact HE.out j h
     ·rw [h];exact e
    have HN:Hid (za.getD k 0≠zb.getD k 0->¬za=zb):=fun e1 e2=>e1 (by rw [e2]);generalize za.getD k 0=x1 at *;generalize zb.getD k 0=x2 at *
    by_cases Pt:x1=x2
    ·have b1:(x1 != x2)=false:=by simpa using Pt
     have HXX:=χ Pt;clear Pt;go_wp2
     go_quiet (fail)
     go_wp2
     go_roundw
     case rel=>exact ⟨k+1,ω,by go_num,fun j hj=>HP.out j hj HXX.out,_,rfl⟩
     case measure=>simp [intOf];omega
    ·have b1:(x1 != x2)=true:=by simpa using Pt
     have HXX:=χ (HN.out Pt);clear Pt;go_wp2
     go_quiet (fail)
     go_wp2;go_ret;exact ⟨bA (by simp [HXX.out]),_,by rw [World.drewN_drewN]⟩
   ·obtain rfl:k=len:=ω;have HE2:=χ (Ru (by rw [HLEN.out.1,HLEN.out.2]) (fun j hj=>HE.out j (by rw [←HLEN.out.1];exact hj)));go_wp2;go_ret;exact ⟨bA (by simp [HE2.out]),_,rfl⟩
 ·have hl':((za.length:Int) != (zb.length:Int))=true:=ζ;have hne:=χ (EY hl);clear hl
  go_enter Tryz.func20,Tryz.ntmps20
  go_wp2;go_ret;exact ⟨bA (by simp [hne.out]),0,rfl⟩
theorem NG (w:World) (F1 F2:List Nat) (va vb:Value) (z:List Int) (ha:fO w F1 va z) (hb:fO w F2 vb z) :
  Calls Tryz.prog 20 #[va,vb] w fun e w'=>e=.returned (.bool true)/\∃k,w'=w.drewN k:=
 (Sz w F1 F2 va vb z z ha hb).mono fun e w' ⟨he,h⟩=>⟨by rw [he,Ν rfl],h⟩
def Enters (f:FuncId):Prop:=∀ (args:Array Value) (W:World),(callFunc f args).run Tryz.prog W=.ok (.enter f args) W
end Go.Proofs.YtklibcncmbofpaaGreat
namespace Go.Proofs.YtklibcncmbofpaaGreat
structure Cl where
 i:Int
 k:Int
 s:Int
instance:Inhabited Cl:=⟨⟨0,0,0⟩⟩
def Cl.z:Cl:=⟨0,0,0⟩
structure NS where
 hs:List Bool
 cs:List Cl
def NS.c (A:NS) (x:Nat):Cl:=A.cs.getD x Cl.z
def NS.new (n:Nat):NS:=⟨[false],List.replicate n Cl.z⟩
def bq (A:NS) (h:Int):Bool:=decide (1<=h) && decide (h<A.hs.length) && A.hs.getD h.toNat false
def uV (A:NS) (x:Int):Bool:=decide (0<=x) && decide (x<A.cs.length)
def bV (A:NS) (x:Int):Bool:=uV A x && decide (0<(A.c x.toNat).i)
def iD (A:NS) (x:Nat) (c:Cl):NS:=⟨A.hs,A.cs.set x c⟩
def Zg (k1 s1 k2 s2:Int):Bool:=if k1=k2 then decide (s1<s2) else decide (k1<k2)
def bS (A:NS):Int:=if 65536<A.hs.length then 0 else A.hs.length
def aC (A:NS):NS:=if 65536<A.hs.length then A else ⟨A.hs++[true],A.cs⟩
def iM (A:NS) (h x:Int):Bool:=bq A h && uV A x && !bV A x
def az (A:NS) (h x k s:Int):NS:=if iM A h x then iD A x.toNat ⟨h,k,s⟩ else A
def aN (A:NS) (x:Int):NS:=if bV A x then iD A x.toNat Cl.z else A
def lowB (A:NS) (x k s:Int):Bool:=bV A x && !Zg (A.c x.toNat).k (A.c x.toNat).s k s
def lowN (A:NS) (x k s:Int):NS:=if lowB A x k s then iD A x.toNat ⟨(A.c x.toNat).i,k,s⟩ else A
def Gy (cs:List Cl) (h:Int):Nat:=(cs.filter fun c=>decide (c.i=h) && decide (0<h)).length
def dG (A:NS) (h:Int):Nat:=Gy A.cs h
def eU (A:NS) (a b:Nat):Prop:=(A.c a).k<(A.c b).k\/(A.c a).k=(A.c b).k/\((A.c a).s<(A.c b).s\/(A.c a).s=(A.c b).s/\a<b)
instance (A:NS) (a b:Nat):Decidable (eU A a b):=by unfold eU;infer_instance
def bL (A:NS) (a b:Int):Bool:=bV A a && bV A b && decide (eU A a.toNat b.toNat)
def Gn (A:NS) (h:Int) (b:Option Nat) (x:Nat):Option Nat:=if decide (0<h) && decide ((A.c x).i=h) && (match b with|none=>true|some y=>bL A x y) then some x else b
def bB (A:NS) (h:Int):Option Nat:=(List.range A.cs.length).foldl (Gn A h) none
def nO (o:Option Nat):Int:=match o with|some x=>(x:Int)|none=>0
structure NS.Ok (A:NS):Prop where
 h0:1<=A.hs.length
 h1:A.hs.length<=65537
 h2:A.hs.getD 0 false=false
 c1:A.cs.length<=65536
 cell:∀x,x<A.cs.length->((A.c x).i=0/\(A.c x).k=0/\(A.c x).s=0)\/bq A (A.c x).i=true
 key:∀x, -9223372036854775808<=(A.c x).k/\(A.c x).k<=9223372036854775807/\0<=(A.c x).s/\(A.c x).s<=18446744073709551615
theorem aQ (A:NS) (h:Int):bq A h=true↔1<=h/\h<A.hs.length/\A.hs.getD h.toNat false=true:=by
 unfold bq;simp [and_assoc]
theorem dE (A:NS) (x:Int):uV A x=true↔0<=x/\x<A.cs.length:=by unfold uV;simp
theorem xk (A:NS) (x:Int):bV A x=true↔0<=x/\x<A.cs.length/\0<(A.c x.toNat).i:=by unfold bV uV;simp [and_assoc]
theorem aj (A:NS) (x:Nat):bV A (x:Int)=true↔x<A.cs.length/\0<(A.c x).i:=by rw [xk];simp
theorem NS.Ok.nat {A:NS} (h:A.Ok) (x:Nat) (hx:x<A.cs.length):0<=(A.c x).i/\(A.c x).i<A.hs.length:=by
 rcases h.cell x hx with h'|h'
 ·have:=h.h0;omega
 ·have:=(aQ _ _).1 h';omega
theorem iN (A:NS) (x:Nat) (c:Cl) (y:Nat):(iD A x c).c y=if y=x/\x<A.cs.length then c else A.c y:=by
 unfold iD NS.c;simp only [φ,ύ]
 by_cases h:x=y
 ·subst h
  by_cases hx:x<A.cs.length
  ·simp [hx]
  ·simp [hx,List.getElem?_eq_none (Nat.le_of_not_lt hx)]
 ·rw [Γ h,Γ (fun e=>h e.1.symm)]
theorem fq (A:NS) (x:Nat) (c:Cl):(iD A x c).cs.length=A.cs.length:=by unfold iD;simp
theorem OE (A:NS) (x:Nat) (c:Cl) (h:Int):bq (iD A x c) h=bq A h:=rfl
theorem NS.Ok.with {A:NS} (h:A.Ok) (x:Nat) (c:Cl) (hc:(c.i=0/\c.k=0/\c.s=0)\/bq A c.i=true) (hk:-9223372036854775808<=c.k/\c.k<=9223372036854775807/\0<=c.s/\c.s<=18446744073709551615):(iD A x c).Ok:=by
 refine ⟨h.h0,h.h1,h.h2,by rw [fq];exact h.c1,fun y hy=>?_,fun y=>?_⟩
 ·rw [fq] at hy;rw [iN,OE]
  split
  ·exact hc
  ·exact h.cell y hy
 ·rw [iN];split
  ·exact hk
  ·exact h.key y
theorem NS.wL (n x:Nat):(NS.new n).c x=Cl.z:=by
 unfold NS.new NS.c;rw [φ,List.getElem?_replicate];split<;>rfl
theorem NS.mg (n:Nat) (hn:n<=65536):(NS.new n).Ok:=by
 refine ⟨by simp [NS.new],by simp [NS.new],rfl,by simp [NS.new];exact hn,fun x _=>Α ?_,fun x=>?_⟩
 ·rw [NS.wL];exact ⟨rfl,rfl,rfl⟩
 ·rw [NS.wL];exact ⟨δ,δ,δ,δ⟩
theorem qa {A:NS} (h:A.Ok):(aC A).Ok:=by
 unfold aC;split
 ·exact h
 ·rename_i hl
  have h0:=h.h0;refine ⟨σ,ζ,?_,h.c1,fun x hx=>?_,h.key⟩
  ·have:=h.h2;simp only [φ] at this ⊢;rw [Ρ ω];exact this
  ·rcases h.cell x hx with h'|h'
   ·exact Α h'
   ·refine Β ?_;have h2:=(aQ _ _).1 h';refine (aQ _ _).2 ⟨h2.1,by show (A.c x).i<((A.hs++[true]).length:Int);rw [υ];have:=h2.2.1;omega,?_⟩;have h3:=h2.2.2;simp only [φ] at h3 ⊢;rw [Ρ (by show (A.c x).i.toNat<A.hs.length;omega)];exact h3
theorem bX (A:NS) (h x:Int):iM A h x=true↔bq A h=true/\uV A x=true/\bV A x=false:=by unfold iM;simp [and_assoc]
theorem rD {A:NS} (h:A.Ok) (g x k s:Int) (hk:-9223372036854775808<=k/\k<=9223372036854775807/\0<=s/\s<=18446744073709551615):(az A g x k s).Ok:=by
 unfold az;split
 ·rename_i hp
  exact h.with _ _ (Β ((bX _ _ _).1 hp).1) hk
 ·exact h
theorem uu {A:NS} (h:A.Ok) (x:Int):(aN A x).Ok:=by
 unfold aN;split
 ·exact h.with _ _ (Α ⟨rfl,rfl,rfl⟩) ⟨δ,δ,δ,δ⟩
 ·exact h
theorem jH {A:NS} (h:A.Ok) {x:Int} (hx:bV A x=true):bq A (A.c x.toNat).i=true:=by
 have h1:=(xk _ _).1 hx;rcases h.cell x.toNat ω with h'|h'
 ·omega
 ·exact h'
/-! ### how many are in a heap -/
theorem Tp (cs:List Cl) (h:Int):Gy cs h<=cs.length:=List.length_filter_le _ _
theorem Qg (cs:List Cl) (x:Nat) (c:Cl) (h:Int) (hx:x<cs.length) :
  Gy (cs.set x c) h+(if (cs.getD x Cl.z).i=h/\0<h then 1 else 0)=Gy cs h+(if c.i=h/\0<h then 1 else 0):=by
 unfold Gy
 induction cs generalizing x with
 | nil=>simp at hx
 | cons d r ih=>
  cases x with
  | zero=>
   simp only [List.set_cons_zero,List.filter_cons,List.getD_cons_zero];have e1:∀c:Cl,(decide (c.i=h) && decide (0<h))=decide (c.i=h/\0<h):=fun c=>by by_cases a:c.i=h<;>by_cases b:0<h<;>simp [a,b]
   have e2:∀ (p:Prop) [Decidable p] (d:Cl) (l:List Cl),(if decide p=true then d::l else l).length=l.length+(if p then 1 else 0):=fun p _ d l=>by by_cases hp:p<;>simp [hp]
   simp only [e1,e2];omega
  | succ x=>
   have:=ih x (by simpa using hx);simp only [List.set_cons_succ,List.filter_cons,List.getD_cons_succ]
   split<;>simp at this ⊢<;>omega
theorem qU (A:NS) (x:Nat) (c:Cl) (h:Int) (hx:x<A.cs.length) :
  dG (iD A x c) h+(if (A.c x).i=h/\0<h then 1 else 0)=dG A h+(if c.i=h/\0<h then 1 else 0):=Qg A.cs x c h hx
theorem Ng {cs:List Cl} {h:Int}:0<Gy cs h↔∃x,x<cs.length/\(cs.getD x Cl.z).i=h/\0<h:=by
 unfold Gy;rw [List.length_pos_iff_exists_mem];constructor
 ·rintro ⟨c,hc⟩;obtain ⟨hm,hp⟩:=List.mem_filter.1 hc;obtain ⟨x,hx,rfl⟩:=List.mem_iff_getElem.1 hm;simp only [Τ,Ο] at hp;exact ⟨x,hx,by simpa [φ,hx] using hp.1,hp.2⟩
 ·rintro ⟨x,hx,h1,h2⟩;refine ⟨cs[x],List.mem_filter.2 ⟨Ϝ hx,?_⟩⟩;simp only [φ,ε hx,Option.getD_some] at h1;simp [h1,h2]
theorem dL {A:NS} {h:Int}:0<dG A h↔∃x,x<A.cs.length/\(A.c x).i=h/\0<h:=Ng
theorem Ct {A:NS} (hA:A.Ok) (h:Int):dG A h<=65536:=Χ (Tp _ _) hA.c1
theorem ML {A:NS} (hA:A.Ok) {h:Int} (hh:bq A h=false):dG A h=0:=by
 rcases Nat.eq_zero_or_pos (dG A h) with h'|h'
 ·exact h'
 ·obtain ⟨x,hx,h1,h2⟩:=dL.1 h';rcases hA.cell x hx with h3|h3
  ·omega
  ·rw [h1,hh] at h3;cases h3
theorem K4 {A:NS} (h:Int):dG (aC A) h=dG A h:=by unfold aC;split<;>rfl
/-! ### the order of slots -/
theorem dB {A:NS} {a b c:Nat} (h:eU A a b) (h':eU A b c):eU A a c:=by unfold eU at *;omega
theorem Jp {A:NS} {a:Nat}:¬eU A a a:=by unfold eU;omega
theorem jQ {A:NS} {a b:Nat} (h:a≠b):eU A a b\/eU A b a:=by unfold eU;omega
theorem qy {A:NS} {a b:Nat} (h:eU A a b):¬eU A b a:=fun h'=>Jp (dB h h')
theorem jW (A:NS) (a b:Nat):bL A (a:Int) (b:Int)=(bV A a && bV A b && decide (eU A a b)):=by unfold bL;simp
def QK (A:NS) (h:Int) (l:List Nat) (m:Nat):Prop:=m∈l/\(A.c m).i=h/\∀y,y∈l->(A.c y).i=h->y=m\/eU A m y
theorem vZ (A:NS) (h:Int) (hh:0<h):∀ (l:List Nat),(∀x∈l,x<A.cs.length)->∀ (pre:List Nat),(∀x∈pre,x<A.cs.length)->∀o:Option Nat,
  (match o with|some m=>QK A h pre m|none=>∀y∈pre,(A.c y).i≠h)->
  (match l.foldl (Gn A h) o with|some m=>QK A h (pre++l) m|none=>∀y∈pre++l,(A.c y).i≠h)
 | [],_,pre,_,o,ho=>by simpa using ho
 | x::l,hl,pre,hp,o,ho=>by
  have hx:=hl x σ;have step:(match Gn A h o x with|some m=>QK A h (pre++[x]) m|none=>∀y∈pre++[x],(A.c y).i≠h):=by
   unfold Gn
   by_cases hi:(A.c x).i=h
   ·cases o with
    | none=>
     simp only at ho;simp only [hi,hh,decide_true,Bool.and_self,if_true];refine ⟨σ,hi,fun y hy he=>?_⟩;rcases τ.1 hy with hy|hy
     ·exact absurd he (ho y hy)
     ·exact Α (by simpa using hy)
    | some m=>
     simp only at ho;obtain ⟨h1,h2,h3⟩:=ho;have hm:=hp m h1;have hin:bV A (x:Int)=true:=(aj A x).2 ⟨hx,ω⟩;have him:bV A (m:Int)=true:=(aj A m).2 ⟨hm,ω⟩;simp only [hi,hh,decide_true,Bool.and_self,Bool.true_and,jW,hin,him,Ο]
     by_cases hlt:eU A x m
     ·rw [Δ hlt];refine ⟨σ,hi,fun y hy he=>?_⟩;rcases τ.1 hy with hy|hy
      ·rcases h3 y hy he with rfl|h4
       ·exact Β hlt
       ·exact Β (dB hlt h4)
      ·exact Α (by simpa using hy)
     ·rw [Γ hlt];refine ⟨by simp [h1],h2,fun y hy he=>?_⟩;rcases τ.1 hy with hy|hy
      ·exact h3 y hy he
      ·simp at hy;subst hy
       by_cases e:y=m
       ·exact Α e
       ·rcases jQ (A:=A) e with h4|h4
        ·exact absurd h4 hlt
        ·exact Β h4
   ·simp only [hi,decide_false,Bool.and_false,Bool.false_and,ϥ,if_false];cases o with
    | none=>
     simp only at ho ⊢;intro y hy;rcases τ.1 hy with hy|hy
     ·exact ho y hy
     ·simp at hy;subst hy;exact hi
    | some m=>
     simp only at ho ⊢;obtain ⟨h1,h2,h3⟩:=ho;refine ⟨by simp [h1],h2,fun y hy he=>?_⟩;rcases τ.1 hy with hy|hy
     ·exact h3 y hy he
     ·simp at hy;subst hy;exact absurd he hi
  have:=vZ A h hh l (fun y hy=>hl y (by simp [hy])) (pre++[x]) (fun y hy=>by rcases τ.1 hy with hy|hy;exact hp y hy;simp at hy;subst hy;exact hx) _ step;simpa using this
def RJ (A:NS) (h:Int) (m:Nat):Prop:=m<A.cs.length/\(A.c m).i=h/\∀y,y<A.cs.length->(A.c y).i=h->y=m\/eU A m y
theorem dD {A:NS} {h:Int} (hh:0<h) {m:Nat}:bB A h=some m↔RJ A h m:=by
 have:=vZ A h hh (List.range A.cs.length) (fun x hx=>by simpa using hx) [] σ none σ;simp only [Ϡ] at this
 change (match bB A h with|some m=>_|none=>_) at this
 constructor
 ·intro e;rw [e] at this;obtain ⟨h1,h2,h3⟩:=this;exact ⟨by simpa using h1,h2,fun y hy he=>h3 y (by simpa using hy) he⟩
 ·rintro ⟨h1,h2,h3⟩;cases e:bB A h with
  | none=>rw [e] at this;exact absurd h2 (this m (by simpa using h1))
  | some m'=>
   rw [e] at this;obtain ⟨k1,k2,k3⟩:=this;rcases h3 m' (by simpa using k1) k2 with rfl|h4
   ·rfl
   ·rcases k3 m (by simpa using h1) h2 with rfl|h5
    ·rfl
    ·exact absurd h4 (qy h5)
theorem iJ {A:NS} {h:Int} (hh:0<h):bB A h=none↔dG A h=0:=by
 have:=vZ A h hh (List.range A.cs.length) (fun x hx=>by simpa using hx) [] σ none σ;simp only [Ϡ] at this
 change (match bB A h with|some m=>_|none=>_) at this
 cases e:bB A h with
 | none=>
  rw [e] at this;refine ⟨fun _=>?_,fun _=>rfl⟩;rcases Nat.eq_zero_or_pos (dG A h) with h'|h'
  ·exact h'
  ·obtain ⟨x,hx,h1,_⟩:=dL.1 h';exact absurd h1 (this x (by simpa using hx))
 | some m=>
  rw [e] at this;obtain ⟨k1,k2,_⟩:=this;refine ⟨fun h=>by (cases h),fun h0=>?_⟩;have:0<dG A h:=dL.2 ⟨m,by simpa using k1,k2,hh⟩;omega
theorem nV {A:NS} {h:Int} (hh:¬0<h):bB A h=none:=by
 unfold bB;generalize List.range A.cs.length=l;have:∀l:List Nat,l.foldl (Gn A h) none=none:=fun l=>by
  induction l with
  | nil=>rfl
  | cons x l ih=>rw [List.foldl_cons,show Gn A h none x=none by unfold Gn;simp [hh]];exact ih
 exact this l
theorem Pd {A:NS} {h:Int} (hh:¬0<h):dG A h=0:=by
 rcases Nat.eq_zero_or_pos (dG A h) with h'|h'
 ·exact h'
 ·obtain ⟨x,_,_,h2⟩:=dL.1 h';exact absurd h2 hh
theorem pY {A:NS} {x:Nat} (hB:bV A x=true) (y:Nat):(aN A x).c y=if y=x then Cl.z else A.c y:=by
 have hx:=((aj A x).1 hB).1;unfold aN;rw [Δ hB,π,iN]
 by_cases e:y=x
 ·rw [Δ ⟨e,hx⟩,Δ e]
 ·rw [Γ (fun h=>e h.1),Γ e]
theorem dm (A:NS) (x:Int):(aN A x).cs.length=A.cs.length:=by unfold aN;split;exact fq _ _ _;rfl
theorem fJ (A:NS) (x:Int):(aN A x).hs=A.hs:=by unfold aN;split<;>rfl
theorem gB {A A':NS} {a b:Nat} (ha:A'.c a=A.c a) (hb:A'.c b=A.c b):eU A' a b↔eU A a b:=by unfold eU;rw [ha,hb]
end Go.Proofs.YtklibcncmbofpaaGreat
namespace Go.Proofs.YtklibcncmbofpaaGreat
open Go Go.RowKit
theorem j5 {A:NS} {h:Int} {m:Nat} (hm:bB A h=some m):0<h/\m<A.cs.length/\(A.c m).i=h/\bV A m=true:=by
 by_cases hh:0<h
 ·have h1:=(dD hh).1 hm;exact ⟨hh,h1.1,h1.2.1,(aj _ _).2 ⟨h1.1,by rw [h1.2.1];exact hh⟩⟩
 ·rw [nV hh] at hm;cases hm
theorem gJ {A:NS} {h:Int}:bB A h=none↔dG A h=0:=by
 by_cases hh:0<h
 ·exact iJ hh
 ·rw [nV hh,Pd hh];simp
def lenOf:Value->Nat | .slice _ l _=>l|_=>0
def bD (l:List Nat):List Int:=l.map (fun (x:Nat)=>(x:Int))
def vJ (a b:Int):Int:=if a<b then -1 else if b<a then 1 else 0
def Gt (k1 s1 k2 s2:Int):Int:=if k1=k2 then vJ s1 s2 else vJ k1 k2
theorem Pk (x:Int) (w:World):Calls Tryz.prog 85 #[.int .i64 x] w fun e w'=>e=.returned (.bool false)/\w'=w:=by
 have h:(x != x)=false:=σ
 go_enter Tryz.func85,Tryz.ntmps85
 go_wp2;go_ret;exact ⟨rfl,rfl⟩
theorem QG (x:Int) (w:World):Calls Tryz.prog 173 #[.int .u64 x] w fun e w'=>e=.returned (.bool false)/\w'=w:=by
 have h:(x != x)=false:=σ
 go_enter Tryz.func173,Tryz.ntmps173
 go_wp2;go_ret;exact ⟨rfl,rfl⟩
theorem Pp (a b:Int) (w:World):Calls Tryz.prog 170 #[.int .i64 a,.int .i64 b] w fun e w'=>e=.returned (.int .i64 (vJ a b))/\w'=w:=by
 have k:=fun x=>Pk x w;unfold vJ
 by_cases h1:a<b
 ·go_enter Tryz.func170,Tryz.ntmps170
  go_wp2_with ((go_at_call 85;(with_reducible refine ((k _)).mono ?_);rintro e w9 ⟨rfl,aS⟩;rw [aS];clear aS w9))
  go_ret;exact ⟨by first|rfl|(refine j4 ?_;simp;try omega),rfl⟩
 ·by_cases h2:b<a
  ·go_enter Tryz.func170,Tryz.ntmps170
   go_wp2_with ((go_at_call 85;(with_reducible refine ((k _)).mono ?_);rintro e w9 ⟨rfl,aS⟩;rw [aS];clear aS w9))
   go_ret;exact ⟨by first|rfl|(refine j4 ?_;simp;try omega),rfl⟩
  ·have e:a=b:=ω;subst e;clear h1 h2
   go_enter Tryz.func170,Tryz.ntmps170
   go_wp2_with ((go_at_call 85;(with_reducible refine ((k _)).mono ?_);rintro e w9 ⟨rfl,aS⟩;rw [aS];clear aS w9))
   go_ret;exact ⟨by first|rfl|(refine j4 ?_;simp;try omega),rfl⟩
theorem QA (a b:Int) (w:World):Calls Tryz.prog 171 #[.int .u64 a,.int .u64 b] w fun e w'=>e=.returned (.int .i64 (vJ a b))/\w'=w:=by
 have k:=fun x=>QG x w;unfold vJ
 by_cases h1:a<b
 ·go_enter Tryz.func171,Tryz.ntmps171
  go_wp2_with ((go_at_call 173;(with_reducible refine ((k _)).mono ?_);rintro e w9 ⟨rfl,aS⟩;rw [aS];clear aS w9))
  go_ret;exact ⟨by first|rfl|(refine j4 ?_;simp;try omega),rfl⟩
 ·by_cases h2:b<a
  ·go_enter Tryz.func171,Tryz.ntmps171
   go_wp2_with ((go_at_call 173;(with_reducible refine ((k _)).mono ?_);rintro e w9 ⟨rfl,aS⟩;rw [aS];clear aS w9))
   go_ret;exact ⟨by first|rfl|(refine j4 ?_;simp;try omega),rfl⟩
  ·have e:a=b:=ω;subst e;clear h1 h2
   go_enter Tryz.func171,Tryz.ntmps171
   go_wp2_with ((go_at_call 173;(with_reducible refine ((k _)).mono ?_);rintro e w9 ⟨rfl,aS⟩;rw [aS];clear aS w9))
   go_ret;exact ⟨by first|rfl|(refine j4 ?_;simp;try omega),rfl⟩
def orZ (a b:Int):Int:=if a=0 then b else a
theorem Ve (g:Nat) (a b:Int) (w:World) (c0:w.cell? ⟨g,0,none⟩=some (.int .i64 a)) (c1:w.cell? ⟨g,1,none⟩=some (.int .i64 b)) :
  Calls Tryz.prog 169 #[.slice (some ⟨g,0,none⟩) 2 2] w fun e w'=>e=.returned (.int .i64 (orZ a b))/\w'=w:=by
 unfold orZ
 by_cases ha:a=0
 ·subst ha
  by_cases hb:b=0
  ·subst hb
   go_enter Tryz.func169,Tryz.ntmps169
   go_wp2;refine wp_loop_rounds 3 ?_;rw [rounds_succ];go_wp2
   all_goals try (rw [rounds_succ];go_wp2)
   all_goals try (rw [rounds_succ];go_wp2)
   go_ret;exact ⟨σ,rfl⟩
  ·have hb':(b != 0)=true:=by simpa using hb
   go_enter Tryz.func169,Tryz.ntmps169
   go_wp2;refine wp_loop_rounds 3 ?_;rw [rounds_succ];go_wp2
   all_goals try (rw [rounds_succ];go_wp2)
   all_goals try (rw [rounds_succ];go_wp2)
   go_ret;exact ⟨σ,rfl⟩
 ·have ha':(a != 0)=true:=by simpa using ha
  have HA:=χ ha;clear ha
  go_enter Tryz.func169,Tryz.ntmps169
  go_wp2;refine wp_loop_rounds 3 ?_;rw [rounds_succ];go_wp2
  all_goals try (rw [rounds_succ];go_wp2)
  all_goals try (rw [rounds_succ];go_wp2)
  go_ret;exact ⟨by first|rfl|rw [Γ HA.out],rfl⟩
theorem RZ (k1 s1 k2 s2:Int):orZ (vJ k1 k2) (vJ s1 s2)=Gt k1 s1 k2 s2:=by
 unfold orZ Gt
 by_cases h:k1=k2
 ·subst h;simp [vJ]
 ·rw [Γ h,Γ];unfold vJ;split;omega;split<;>omega
theorem D8 (k1 s1 k2 s2:Int) (w:World):Calls Tryz.prog 164 #[.agg #[.int .i64 k1,.int .u64 s1],.agg #[.int .i64 k2,.int .u64 s2]] w fun e w'=>e=.returned (.int .i64 (Gt k1 s1 k2 s2))/\aa [] w w':=by
 rw [←RZ];have ka:=fun W=>Pp k1 k2 W;have kb:=fun W=>QA s1 s2 W;generalize vJ k1 k2=za at *;generalize vJ s1 s2=zb at *;have r0:∀W,aa [] ((w.alloc (.cells #[.int .i64 k1,.int .u64 s1] 129)).alloc (.cells #[.int .i64 k2,.int .u64 s2] 129)) W->W.cell? ⟨w.heap.size,0,none⟩=some (.int .i64 k1):=fun W h=>h.was σ;have r1:∀W,aa [] ((w.alloc (.cells #[.int .i64 k1,.int .u64 s1] 129)).alloc (.cells #[.int .i64 k2,.int .u64 s2] 129)) W->W.cell? ⟨w.heap.size,1,none⟩=some (.int .u64 s1):=fun W h=>h.was σ
 have r2:∀W,aa [] ((w.alloc (.cells #[.int .i64 k1,.int .u64 s1] 129)).alloc (.cells #[.int .i64 k2,.int .u64 s2] 129)) W->W.cell? ⟨w.heap.size+1,0,none⟩=some (.int .i64 k2):=fun W h=>h.was σ;have r3:∀W,aa [] ((w.alloc (.cells #[.int .i64 k1,.int .u64 s1] 129)).alloc (.cells #[.int .i64 k2,.int .u64 s2] 129)) W->W.cell? ⟨w.heap.size+1,1,none⟩=some (.int .u64 s2):=fun W h=>h.was σ
 go_enter Tryz.func164,Tryz.ntmps164
 go_wp2
 go_region_held3 (aa [] ((w.alloc (.cells #[.int .i64 k1,.int .u64 s1] 129)).alloc (.cells #[.int .i64 k2,.int .u64 s2] 129))) (exact η)
  (first
   | (go_at_call 170;(with_reducible refine (ka _).mono ?_);rintro e w9 ⟨rfl,aS⟩;rw [aS];clear aS w9)
   | (go_at_call 171;(with_reducible refine (kb _).mono ?_);rintro e w9 ⟨rfl,aS⟩;rw [aS];clear aS w9)
   | (go_at_call 169;(with_reducible refine (Ve _ za zb _ (Az σ 0 rfl) (Az σ 1 rfl)).mono ?_);rintro e w9 ⟨rfl,aS⟩;rw [aS];clear aS w9))
 go_wp2;go_ret;exact ⟨rfl,ξ⟩
structure pO (l:List Int) (rt dp:Nat->Nat):Prop where
 len:1<=l.length
 PI:l.length<=65537
 wO:∀i,1<=i->i<l.length->1<=l.getD i 0/\l.getD i 0<l.length
 up:∀i,1<=i->i<l.length->rt (l.getD i 0).toNat=rt i
 top:∀i,1<=i->i<l.length->l.getD i 0=i->rt i=i
 low:∀i,1<=i->i<l.length->l.getD i 0≠i->dp (l.getD i 0).toNat<dp i
theorem pO.root {l:List Int} {rt dp:Nat->Nat} (h:pO l rt dp):∀ (d i:Nat),dp i<=d->1<=i->i<l.length->1<=rt i/\rt i<l.length/\l.getD (rt i) 0=rt i
 | d,i,hd,h1,h2=>by
  by_cases e:l.getD i 0=i
  ·rw [h.top i h1 h2 e];exact ⟨h1,h2,e⟩
  ·have hl:=h.low i h1 h2 e;have hr:=h.wO i h1 h2
   match d,hd with
   | 0,hd=>omega
   | d+1,hd=>
    have:=pO.root h d (l.getD i 0).toNat ω ω ω;rwa [h.up i h1 h2] at this
theorem pO.Uf {l:List Int} {rt dp:Nat->Nat} (h:pO l rt dp) {i:Nat} (h1:1<=i) (h2:i<l.length):1<=rt i/\rt i<l.length/\l.getD (rt i) 0=rt i:=h.root (dp i) i (Θ _) h1 h2
theorem pO.O8 {l:List Int} {rt dp:Nat->Nat} (h:pO l rt dp) {i:Nat} (h1:1<=i) (h2:i<l.length):l.getD i 0=i↔rt i=i:=
 ⟨h.top i h1 h2,fun e=>by have:=h.Uf h1 h2;rw [e] at this;exact this.2.2⟩
theorem OG (l:List Int) (i:Nat) (x:Int) (j:Nat):(l.set i x).getD j 0=if j=i/\i<l.length then x else l.getD j 0:=by
 simp only [φ,ύ]
 by_cases h:i=j
 ·subst h
  by_cases hx:i<l.length
  ·simp [hx]
  ·simp [hx,List.getElem?_eq_none (Nat.le_of_not_lt hx)]
 ·rw [Γ h,Γ (fun e=>h e.1.symm)]
theorem pO.short {l:List Int} {rt dp:Nat->Nat} (h:pO l rt dp) {k:Nat} (h1:1<=k) (h2:k<l.length) (hk:l.getD k 0≠k):pO (l.set k (l.getD (l.getD k 0).toNat 0)) rt dp:=by
 have r1:=h.wO k h1 h2;obtain ⟨j,hj⟩:∃j:Nat,l.getD k 0=j:=⟨(l.getD k 0).toNat,ω⟩;have u1:=h.up k h1 h2;have d1:=h.low k h1 h2 hk;rw [hj] at r1 u1 d1 hk ⊢;simp only [π] at u1 d1 ⊢;have hjk:j≠k:=fun e=>hk (by rw [e]);have r2:=h.wO j ω ω;obtain ⟨q,hq⟩:∃q:Nat,l.getD j 0=q:=⟨(l.getD j 0).toNat,ω⟩;have u2:=h.up j ω ω;have d2:=h.low j ω ω;rw [hq] at r2 u2 d2 ⊢;simp only [π] at u2 d2;have d3:q≠j->dp q<dp j:=fun e=>d2 ω;clear d2;refine ⟨by simp;exact h.len,by simp;exact h.PI,fun i a b=>?_,fun i a b=>?_,fun i a b=>?_,fun i a b=>?_⟩
 all_goals
  rw [Ι] at b;rw [OG]
 ·rw [Ι];split
  ·exact r2
  ·exact h.wO i a b
 ·split
  ·rename_i e;simp only [π];rw [u2,u1,e.1]
  ·exact h.up i a b
 ·split
  ·rename_i e
   intro he;have hqi:q=k:=by have:=e.1;omega
   by_cases e2:q=j
   ·exfalso;omega
   ·have:=d3 e2;rw [hqi] at this;omega
  ·exact h.top i a b
 ·split
  ·rename_i e
   intro he;simp only [π];rw [e.1]
   by_cases e2:q=j
   ·rw [e2];exact d1
   ·have:=d3 e2;omega
  ·exact h.low i a b
structure jc (w:World) (nm g cap:Nat) (l:List Int):Prop where
 head:∃c:Int,aG w nm 262 3 (fun j=>[Value.slice (some ⟨g,0,none⟩) l.length cap,.int .i64 65536,.int .i64 c].getD j undef)
 row:IZ w g cap l
 ne:nm≠g
theorem jc.upd {w w':World} {S:List Nat} {nm g cap:Nat} {l:List Int} (h:jc w nm g cap l) (hu:aa S w w') (h1:nm∉S) (h2:g∉S):jc w' nm g cap l:=by
 obtain ⟨c,h3⟩:=h.head;exact ⟨⟨c,h3.upd hu h1⟩,h.row.upd hu h2,h.ne⟩
theorem jc.c0 {w:World} {nm g cap:Nat} {l:List Int} (h:jc w nm g cap l):w.cell? ⟨nm,0,none⟩=some (.slice (some ⟨g,0,none⟩) l.length cap):=by obtain ⟨c,h⟩:=h.head;exact h.cellAt 0 ω rfl
theorem jc.c1 {w:World} {nm g cap:Nat} {l:List Int} (h:jc w nm g cap l):w.cell? ⟨nm,1,none⟩=some (.int .i64 65536):=by obtain ⟨c,h⟩:=h.head;exact h.cellAt 1 ω rfl
theorem jc.lt {w:World} {nm g cap:Nat} {l:List Int} (h:jc w nm g cap l):nm<w.heap.size/\g<w.heap.size:=by obtain ⟨c,h1⟩:=h.head;exact ⟨h1.lt,h.row.lt⟩
theorem jc.set {w:World} {nm g cap:Nat} {l:List Int} (h:jc w nm g cap l) (j:Nat) (x:Int):jc (w.setCell ⟨g,j,none⟩ (.int .i64 x)) nm g cap (l.set j x):=by
 obtain ⟨c,h1⟩:=h.head;exact ⟨⟨c,by rw [Ι];exact h1.far _ _ h.ne⟩,h.row.set j x,h.ne⟩
theorem jc.VK {w:World} {nm g cap:Nat} {l:List Int} (h:jc w nm g cap l) (x:Int):jc (w.setCell ⟨nm,2,none⟩ (.int .i64 x)) nm g cap l:=by
 obtain ⟨c,h1⟩:=h.head;refine ⟨⟨x,(h1.set 2 (.int .i64 x)).ext (fun j hj=>?_)⟩,h.row.upd ((aa.refl [nm] w).setCell (Α σ) _) (by simp;exact fun e=>h.ne e.symm),h.ne⟩;rcases (ω:j=0\/j=1\/j=2) with rfl|rfl|rfl<;>simp
theorem jc.setRow {w:World} {nm g cap:Nat} {l:List Int} (h:jc w nm g cap l) {W:World} {g' cap':Nat} {l':List Int} (hu:aa [g] w W) (hr:IZ W g' cap' l') (hne:nm≠g'):jc (W.setCell ⟨nm,0,none⟩ (.slice (some ⟨g',0,none⟩) l'.length cap')) nm g' cap' l':=by
 obtain ⟨c,h1⟩:=h.head;refine ⟨⟨c,((h1.upd hu (by simp;exact h.ne)).set 0 _).ext (fun j hj=>?_)⟩,hr.upd ((aa.refl [nm] W).setCell (Α σ) _) (by simp;exact fun e=>hne e.symm),hne⟩;rcases (ω:j=0\/j=1\/j=2) with rfl|rfl|rfl<;>simp
theorem DI (nm g cap:Nat) (l:List Int) (x:Int) (w:World) (h:jc w nm g cap l) (hl:l.length<=65537) :
  Calls Tryz.prog 162 #[.pointer (some ⟨nm,0,none⟩),.int .i64 x] w fun e w'=>e=.returned (.bool (decide (0<x) && decide (x<l.length)))/\w'=w:=by
 have c0:=h.c0;have hc:=h.row.cap;clear h
 by_cases h0:0<x
 ·go_enter Tryz.func162,Tryz.ntmps162
  go_wp2;go_ret;exact ⟨bA (by simp [h0]),rfl⟩
 ·go_enter Tryz.func162,Tryz.ntmps162
  go_wp2;go_ret;exact ⟨bA ζ,rfl⟩
def DZ (l:List Int) (x:Int):Bool:=decide (0<x) && decide (x<l.length) && (l.getD x.toNat 0 == x)
theorem Oq (nm g cap:Nat) (l:List Int) (x:Int) (w:World) (h:jc w nm g cap l) (hl:l.length<=65537) :
  Calls Tryz.prog 152 #[.pointer (some ⟨nm,0,none⟩),.int .i64 x] w fun e w'=>e=.returned (.bool (DZ l x))/\w'=w:=by
 have k:=DI nm g cap l x w h hl;unfold DZ;have c0:=h.c0;have hc:=h.row.cap
 by_cases h0:0<x/\x<l.length
 ·obtain ⟨i,rfl⟩:∃i:Nat,x=i:=⟨x.toNat,ω⟩;rw [show (decide (0<(i:Int)) && decide ((i:Int)<l.length))=true by simp;omega] at *;have hi:i<l.length:=ω;have c1:=h.row.cell i hi;simp only [π];generalize l.getD i 0=y at *;clear h
  go_enter Tryz.func152,Tryz.ntmps152
  go_wp2_with ((go_at_call 162;(with_reducible refine (k).mono ?_);rintro e w9 ⟨rfl,aS⟩;rw [aS];clear aS w9))
  go_ret;exact ⟨bA σ,rfl⟩
 ·rw [show (decide (0<x) && decide (x<l.length))=false by simp;omega] at *;clear h
  go_enter Tryz.func152,Tryz.ntmps152
  go_wp2_with ((go_at_call 162;(with_reducible refine (k).mono ?_);rintro e w9 ⟨rfl,aS⟩;rw [aS];clear aS w9))
  go_ret;exact ⟨bA σ,rfl⟩
theorem Fp (nm g cap:Nat) (l:List Int) (w:World) (h:jc w nm g cap l) (hl:l.length<=65537) :
  Calls Tryz.prog 168 #[.pointer (some ⟨nm,0,none⟩)] w fun e w'=>e=.returned (.int .i64 ((l.length:Int)-1))/\w'=w:=by
 have c0:=h.c0;have hc:=h.row.cap;clear h
 go_enter Tryz.func168,Tryz.ntmps168
 go_wp2;go_ret;exact ⟨rfl,rfl⟩
theorem Lh (nm g cap:Nat) (l:List Int) (rt dp:Nat->Nat) (x:Nat) (w:World) (h:jc w nm g cap l) (ok:pO l rt dp) (hx:1<=x) (hx2:x<l.length) :
  Calls Tryz.prog 153 #[.pointer (some ⟨nm,0,none⟩),.int .i64 (x:Int)] w fun e w'=>∃l',e=.returned (.tuple #[.int .i64 (rt x:Int),.bool true])/\jc w' nm g cap l'/\pO l' rt dp/\l'.length=l.length/\aa [g] w w':=by
 have k:=DI nm g cap l x w h ok.PI;rw [show (decide (0<(x:Int)) && decide ((x:Int)<l.length))=true by simp;omega] at k;generalize hr:rt x=r at *;have HR:=χ hr;clear hr
 go_enter Tryz.func153,Tryz.ntmps153
 go_wp2_with ((go_at_call 162;(with_reducible refine (k).mono ?_);rintro e w9 ⟨rfl,aS⟩;rw [aS];clear aS w9))
 clear k
 go_loopw [1] (fun id wr=>∃ (k:Nat) (l':List Int),id=.int .i64 (k:Int)/\1<=k/\k<l'.length/\rt k=r/\jc wr nm g cap l'/\pO l' rt dp/\l'.length=l.length/\aa [g] w wr) (fun id _=>dp (intOf id).toNat)
 case atStart=>exact ⟨x,l,rfl,hx,hx2,HR.out,h,ok,rfl,aa.refl _ _⟩
 case round=>
  obtain ⟨k,l',rfl,hk1,hk2,hrt,hN,hok,hlen,hu⟩:=hrel;have c0:=hN.c0;have hc:=hN.row.cap;have c1:=hN.row.cell k hk2;have c2:=hN.row.free k;have hrg:=hok.wO k hk1 hk2;have hl2:=hok.PI;have HA:=χ (ψ h ok);have HB:=χ (ψ hN (ψ hok (ψ hlen hrt)));clear h ok hN hok hlen hrt
  by_cases hkk:l'.getD k 0=k
  ·rw [hkk] at c1;have HK:=χ hkk;clear hkk hrg;go_wp2;go_ret2;obtain ⟨h1,h2,h3,h4⟩:=HB.out;exact ⟨l',by rw [←h4,h2.top k hk1 hk2 HK.out];rfl,h1,h2,h3,hu⟩
  ·obtain ⟨j,hj⟩:∃j:Nat,l'.getD k 0=j:=⟨(l'.getD k 0).toNat,ω⟩;have hjr:1<=j/\j<l'.length:=ω;have c3:=HB.out.1.row.cell j hjr.2;have hrg2:=HB.out.2.1.wO j hjr.1 hjr.2;obtain ⟨q,hq⟩:∃q:Nat,l'.getD j 0=q:=⟨(l'.getD j 0).toNat,ω⟩;rw [hj] at c1 hrg hkk;rw [hq] at c3 hrg2;have hne:((j:Int) != (k:Int))=true:=by simpa using hkk
   have HJ:=χ (ψ hj (ψ hq hkk));clear hj hq hkk;go_wp2
   go_region
   go_wp2
   go_roundw
   case rel=>
    obtain ⟨h1,h2,h3,h4⟩:=HB.out;obtain ⟨e1,e2,e3⟩:=HJ.out;have hs:=h2.short hk1 hk2 (by rw [e1];exact e3);rw [e1] at hs;simp only [π] at hs;rw [e2] at hs;have u1:=h2.up k hk1 hk2;have u2:=h2.up j ω ω;rw [e1] at u1;rw [e2] at u2;simp only [π] at u1 u2;exact ⟨q,_,rfl,ω,by rw [Ι];omega,by rw [u2,u1,h4],(h1.set k q).upd ((aa.refl [] _).drew) σ σ,hs,by rw [Ι];exact h3,((hu.setCell (Α σ) _)).drew⟩
   case measure=>
    obtain ⟨h1,h2,h3,h4⟩:=HB.out;obtain ⟨e1,e2,e3⟩:=HJ.out;have d1:=h2.low k hk1 hk2 (by rw [e1];exact e3);have d2:=h2.low j ω ω;rw [e1] at d1;rw [e2] at d2;simp only [π] at d1 d2;simp [intOf]
    by_cases e:q=j
    ·rw [e];exact d1
    ·have:=d2 ω;omega
theorem Ol (nm g cap:Nat) (l:List Int) (w:World) (h:jc w nm g cap l) (hl:l.length=65537) :
  Calls Tryz.prog 163 #[.pointer (some ⟨nm,0,none⟩)] w fun e w'=>e=.returned (.tuple #[.int .i64 0,.bool false])/\aa [] w w':=by
 have k:=Fp nm g cap l;have k1:=fun W hW=>k W hW ω;rw [hl] at k1;have c1:∀d,(w.drewN d).cell? ⟨nm,1,none⟩=some (.int .i64 65536):=fun d=>h.c1;have H:=fun d=>(h.upd ((aa.refl [] w).drewN d) σ σ)
 clear h k
 go_enter Tryz.func163,Tryz.ntmps163
 go_wp2
 go_quiet ((go_at_call 168;exact Calls.quiet_of_same (k1 _ (H _))))
 go_wp2;go_ret2;exact ⟨rfl,(aa.refl _ _).drewN _⟩
theorem Ld (nm g cap:Nat) (l:List Int) (w:World) (h:jc w nm g cap l) (hl:1<=l.length) (hl2:l.length<=65536) :
  Calls Tryz.prog 163 #[.pointer (some ⟨nm,0,none⟩)] w fun e w'=>∃g' cap',e=.returned (.tuple #[.int .i64 (l.length:Int),.bool true])/\jc w' nm g' cap' (l++[(l.length:Int)])/\aa [nm,g] w w'/\(g'=g\/w.heap.size<=g'):=by
 have k1:=fun W hW=>Fp nm g cap l W hW ω;have c1:∀d,(w.drewN d).cell? ⟨nm,1,none⟩=some (.int .i64 65536):=fun d=>h.c1;have c0:∀d,(w.drewN d).cell? ⟨nm,0,none⟩=some (.slice (some ⟨g,0,none⟩) l.length cap):=fun d=>h.c0;obtain ⟨cn,hh⟩:=h.head;have c2:w.cell? ⟨nm,2,none⟩=some (.int .i64 cn):=hh.cellAt 2 ω rfl;have f0:=hh.free 0;have f2:=hh.free 2;have HO:Hid (∀d,(w.drewN d).ownsRow 0 3 1 (.slice (some ⟨g,0,none⟩) l.length cap) l.length (aM l)):=fun d=>(h.row.drewN d).own;have H:Hid (∀d,jc (w.drewN d) nm g cap l):=fun d=>(h.upd ((aa.refl [] w).drewN d) σ σ)
 have hcap:=h.row.cap;have hlt:=h.lt;have hne:=h.ne;have hb1:((l.length:Int)-1 == 65536)=false:=ζ;clear h hh;generalize hlen:l.length=len at *;have HL:=χ hlen;clear hlen
 go_enter Tryz.func163,Tryz.ntmps163
 go_wp2
 go_quiet ((go_at_call 168;exact Calls.quiet_of_same (k1 _ (H.out _))))
 go_wp2_with (((at_builtin;refine aI rfl _ _ 26 rfl 0 3 (.int .i64 0) 1 8 Tryz.underlying26 dX rfl δ _ _ _ rfl ((HO.out _)) [.int .i64 (len:Int)] rfl (by simp [Value.oneCell']) (by first|rfl|(rw [Κ];rfl)) μ ω (σ) ?_;intro v1 w1 ho1 hu1 Ue));obtain ⟨g1,Yl,rfl,_,hg1,hc1,hc2,_⟩:=dH ho1 ω;(have hu2:aa [g] (w.drewN nq) w1:=hu1);(have hs2:g1=g\/w.heap.size<g1:=by (rcases Ue with h'|h';(exact Α (Option.some.inj h'));(exact Β (h' g1 rfl))));clear hu1 Ue;(have q1:w1.cell? ⟨nm,0,none⟩=some (.slice (some ⟨g,0,none⟩) len cap):=(hu2.cell (p:=⟨nm,0,none⟩) hlt.1 (by simp;exact hne)).trans (c0 _));(have q2:w1.cell? ⟨nm,2,none⟩=some (.int .i64 cn):=(hu2.cell (p:=⟨nm,2,none⟩) hlt.1 (by simp;exact hne)).trans c2);(have q3:w1.frozen? ⟨nm,0,none⟩=false:=(hu2.frozen (p:=⟨nm,0,none⟩) hlt.1 (by simp;exact hne)).trans f0);(have q4:w1.frozen? ⟨nm,2,none⟩=false:=(hu2.frozen (p:=⟨nm,2,none⟩) hlt.1 (by simp;exact hne)).trans f2))
 go_ret2;have hn1:nm≠g1:=ω;have hz:IZ w1 g1 Yl (l++[(len:Int)]):=⟨by rw [υ,HL.out,bz];exact ho1⟩;have hN:=(H.out nq).setRow hu2 hz hn1;rw [υ,HL.out] at hN;refine ⟨g1,Yl,rfl,?_,?_,ω⟩
 ·exact hN.VK _
 ·exact ((((aa.refl [nm,g] w).drewN nq).joined hu2 (fun x hx=>Α (by simp at hx;simp [hx]))).setCell (Α σ) _).setCell (Α σ) _
theorem OP (w:World):Calls Tryz.prog 114 #[.int .i64 65536] w fun e w'=>∃nm g,e=.returned (.tuple #[.pointer (some ⟨nm,0,none⟩),.int .i64 0])/\jc w' nm g 1 [0]/\aa [] w w'/\w.heap.size<=nm/\w.heap.size<=g:=by
 go_enter Tryz.func114,Tryz.ntmps114
 go_wp2;go_ret2;have hr:=dC (w.alloc (.cells #[.int .i64 0] 3)) [Value.slice (some ⟨w.heap.size,0,none⟩) 1 1,.int .i64 65536,.int .i64 0] 262;rw [Κ] at hr;exact ⟨_,_,rfl,⟨⟨0,hr⟩,(IZ.lit w [0] σ).upd ((aa.refl [] _).alloc _) σ,ω⟩,((aa.refl _ _).alloc _).alloc _,σ,Θ _⟩
end Go.Proofs.YtklibcncmbofpaaGreat
namespace Go.Proofs.YtklibcncmbofpaaGreat
open Go Go.RowKit Go.Maps
theorem nodup_range:∀ (n:Nat) (l:List Int),l.Nodup->(∀x,x∈l->0<=x/\x<n)->l.length<=n
 | 0,l,_,h=>by
  cases l with
  | nil=>simp
  | cons x r=>have:=h x σ;omega
 | n+1,l,hn,h=>by
  have h1:=nodup_range n (l.filter (fun x=>x != (n:Int))) (hn.filter _) (fun x hx=>by
   simp only [List.mem_filter] at hx;have:=h x hx.1;have h2:x≠n:=by simpa using hx.2
   omega)
  have h2:l.length<=(l.filter (fun x=>x != (n:Int))).length+1:=by
   clear h1 h
   induction l with
   | nil=>simp
   | cons y r ih=>
    rw [Ζ] at hn
    by_cases hy:y=n
    ·subst hy;have e:r.filter (fun x=>x != (n:Int))=r:=by
      rw [List.filter_eq_self];intro a ha;simp;intro e;subst e;exact hn.1 ha
     rw [List.filter_cons_of_neg σ,e];simp
    ·rw [List.filter_cons_of_pos (by simpa using hy)];have:=ih hn.2;simp only [Ω];omega
  omega
def eZ (w:World) (b:Nat) (f:Int->Option Int):Prop:=
 ∃D:DataW Unit,w.ownsMap Tryz.prog 3 (plainElem Tryz.prog 3) b (Maps.size D) D/\
  (∀kl,Maps.has D kl=true->∃k:Int,kl=.int .i64 k/\0<=k/\k<=65536/\(f k).isSome=true)/\
  (∀k z,f k=some z->Maps.has D (.int .i64 k)=true/\∀d,D.atKey (.int .i64 k) d=.lit (.int .i64 z))
theorem ve {w:World} {k:TypeId} {R:Value->Option (DataW Unit×List MemPlace)} {b n:Nat} {D:DataW Unit} (h:w.ownsMap Tryz.prog k R b n D):w.ownsMap Tryz.prog k R b (Maps.size D) D:=by
 obtain ⟨es,clock,hb,F,hs,rfl⟩:=h;exact ⟨es,clock,hb,F,by simp [Maps.size,length_sorted],rfl⟩
theorem nQ:Keyed Tryz.prog 3:=int_keyed Tryz.underlying3
theorem CL (w:World):(zeroValue 3).run Tryz.prog w=.ok (.int .i64 0) w:=by kernel_rfl
theorem eZ.same {w w':World} {b:Nat} {f:Int->Option Int} (h:eZ w b f) (hb:w'.heap[b]?=w.heap[b]?):eZ w' b f:=by
 obtain ⟨D,⟨es,clock,h1,h2⟩,h3⟩:=h;exact ⟨D,⟨es,clock,hb.trans h1,h2⟩,h3⟩
theorem eZ.lt {w:World} {b:Nat} {f:Int->Option Int} (h:eZ w b f):b<w.heap.size:=by
 obtain ⟨D,h1,_⟩:=h;exact h1.lt
theorem eZ.upd {w w':World} {S:List Nat} {b:Nat} {f:Int->Option Int} (h:eZ w b f) (hu:aa S w w') (hn:b∉S):eZ w' b f:=h.same (hu.block b h.lt hn)
theorem eZ.ext {w:World} {b:Nat} {f g:Int->Option Int} (h:eZ w b f) (hg:∀k,f k=g k):eZ w b g:=by
 rwa [show f=g from funext hg] at h
theorem CR {P:Program} {k:TypeId} {R:Value->Option (DataW Unit×List MemPlace)} {es':Array MapEntry} {clock:Nat} (K:Keyed P k) (F:Go.WideElems.Fit P k R es' clock) {p:Lit×DataW Unit}
  (hp:p∈(es'.toList.map (Go.WideElems.rg P k R)).foldr DataW.insert []):WideAt.IsKeyLit p.1:=by
 have hp2:=(Go.WideShapes.sorted_perm _).mem_iff.1 hp;obtain ⟨x,hx,rfl⟩:=List.mem_map.1 hp2;obtain ⟨y,hy⟩:=F.reads x hx;rw [Go.WideElems.rg_of hy];exact K.key (Go.WideElems.rd_key hy)
theorem eZ.small {w:World} {b:Nat} {f:Int->Option Int} {D:DataW Unit} (h1:w.ownsMap Tryz.prog 3 (plainElem Tryz.prog 3) b (Maps.size D) D)
  (h2:∀kl,Maps.has D kl=true->∃k:Int,kl=.int .i64 k/\0<=k/\k<=65536/\(f k).isSome=true):Maps.size D<=65537:=by
 obtain ⟨es,rfl,hp⟩:=h1.tidy nQ
 let num:Lit->Int:=fun l=>match l with | .int _ k=>k|_=>0
 have hk:∀p∈es,∃k:Int,p.1=.int .i64 k/\0<=k/\k<=65536:=fun p hp=>by
  have hh:Maps.has (DataW.map es) p.1=true:=by
   rw [has_eq];refine List.any_eq_true.2 ⟨p,hp,WideAt.sameKey_self ?_⟩;obtain ⟨es',clock,_,F,_,he⟩:=h1;have hes:es=(es'.toList.map (Go.WideElems.rg Tryz.prog 3 (plainElem Tryz.prog 3))).foldr DataW.insert []:=by simpa using he
   rw [hes] at hp;exact CR nQ F hp
  obtain ⟨k,hk,h3,h4,_⟩:=h2 _ hh;exact ⟨k,hk,h3,h4⟩
 have:=nodup_range 65537 (es.map fun p=>num p.1) (by
  unfold List.Nodup;rw [List.pairwise_map];refine (List.Pairwise.imp_of_mem ?_ hp);intro a b ha hb hab e;obtain ⟨k1,e1,_⟩:=hk a ha;obtain ⟨k2,e2,_⟩:=hk b hb;rw [e1,e2] at e hab;exact hab (by rw [show k1=k2 from e])) (fun x hx=>by
  obtain ⟨p,hp,rfl⟩:=List.mem_map.1 hx;obtain ⟨k,e,h3,h4⟩:=hk p hp
  rw [e];show 0<=k/\k<((65537:Nat):Int);omega)
 simpa [size_eq] using this
theorem uK {k:Int} (h:-9223372036854775808<=k/\k<=9223372036854775807):keyOf Tryz.prog 3 (.int .i64 k)=some (.int .i64 k):=keyOf_int_mk Tryz.underlying3 (WalkArith.wf_i64 h)
theorem eZ.look {w:World} {b:Nat} {f:Int->Option Int} (h:eZ w b f) (k:Int) (hk:-9223372036854775808<=k/\k<=9223372036854775807) :
  (Instr.lookup 232 (.map (some b)) (.int .i64 k) false).run Tryz.prog w=.ok (.int .i64 ((f k).getD 0)) w:=by
 obtain ⟨D,h1,h2,h3⟩:=h;obtain ⟨c,hrun,hat,_⟩:=h1.lookup_int nQ Tryz.underlying232 Tryz.underlying3 (CL w) (uK hk);rw [hrun];cases hf:f k with
 | some z=>
  rw [(h3 k z hf).2] at hat;have:z=c:=by simpa using hat
  rw [this];rfl
 | none=>
  have:Maps.has D (.int .i64 k)=false:=by
   cases hh:Maps.has D (.int .i64 k)
   ·rfl
   ·obtain ⟨k',e,_,_,h4⟩:=h2 _ hh;cases e;rw [hf] at h4;cases h4
  rw [atKey_of_not_has this] at hat;have:(0:Int)=c:=by simpa using hat
  rw [←this];rfl
theorem eZ.look_ok {w:World} {b:Nat} {f:Int->Option Int} (h:eZ w b f) (k:Int) (hk:-9223372036854775808<=k/\k<=9223372036854775807) :
  (Instr.lookup 232 (.map (some b)) (.int .i64 k) true).run Tryz.prog w=.ok (.tuple #[.int .i64 ((f k).getD 0),.bool (f k).isSome]) w:=by
 obtain ⟨D,h1,h2,h3⟩:=h;obtain ⟨v,ps,hrun,hv⟩:=h1.look_ok nQ Tryz.underlying232 (CL w) (plainElem_int Tryz.underlying3 (a:=0) δ) (uK hk);obtain ⟨c,rfl,hc,_⟩:=plainElem_int_inv Tryz.underlying3 hv;simp only [Prod.mk.injEq] at hc;have hat:=hc.1;rw [hrun];cases hf:f k with
 | some z=>
  rw [(h3 k z hf).2] at hat;rw [(h3 k z hf).1];have:z=c:=by simpa using hat
  rw [this];rfl
 | none=>
  have:Maps.has D (.int .i64 k)=false:=by
   cases hh:Maps.has D (.int .i64 k)
   ·rfl
   ·obtain ⟨k',e,_,_,h4⟩:=h2 _ hh;cases e;rw [hf] at h4;cases h4
  rw [atKey_of_not_has this] at hat;rw [this];have:(0:Int)=c:=by simpa using hat
  rw [←this];rfl
theorem nE {w w':World} {b:Nat} (h:w.mapTurned w' b):aa [b] w w':=(aa.refl [b] w).grown h.grown (fun k hk=>Α (by cases hk;simp))
theorem eZ.store {w:World} {b:Nat} {f:Int->Option Int} (h:eZ w b f) (k z:Int) (hk:0<=k/\k<=65536) (hz:-9223372036854775808<=z/\z<=9223372036854775807) :
  ∃w',(Instr.mapUpdate 232 (.map (some b)) (.int .i64 k) (.int .i64 z)).run Tryz.prog w=.ok () w'/\eZ w' b (fun q=>if q=k then some z else f q)/\aa [b] w w':=by
 obtain ⟨D,h1,h2,h3⟩:=h;have hs:=eZ.small h1 h2;obtain ⟨w',hrun,ho,ht⟩:=h1.store nQ Tryz.underlying232 μ (uK (k:=k) ω) (plainElem_int Tryz.underlying3 (a:=z) (WalkArith.wf_i64 hz));have hD:=h1.isMap;refine ⟨w',hrun,⟨_,ve ho,fun kl hkl=>?_,fun q y hq=>?_⟩,nE ht⟩
 ·by_cases e:kl=.int .i64 k
  ·exact ⟨k,e,hk.1,hk.2,σ⟩
  ·rw [has_put_other e] at hkl;obtain ⟨q,rfl,a,b,c⟩:=h2 kl hkl;refine ⟨q,rfl,a,b,?_⟩
   show (if q=k then some z else f q).isSome=true
   split
   ·rfl
   ·exact c
 ·by_cases e:q=k
  ·subst e;simp only [if_true,ϙ] at hq;subst hq;exact ⟨has_put_same hD (show WideAt.IsKeyLit (.int .i64 q) from True.intro) _,fun d=>atKey_put_same hD (show WideAt.IsKeyLit (.int .i64 q) from True.intro) _ _⟩
  ·simp only [Γ e] at hq;have hne:(Lit.int .i64 q)≠.int .i64 k:=fun h=>e (by cases h;rfl);rw [has_put_other hne];exact ⟨(h3 q y hq).1,fun d=>by rw [atKey_put_other hne];exact (h3 q y hq).2 d⟩
theorem eZ.drop {w:World} {b:Nat} {f:Int->Option Int} (h:eZ w b f) (k:Int) (hk:-9223372036854775808<=k/\k<=9223372036854775807) (ty:TypeId) :
  ∃w',(Builtin.delete_ #[232,3] ty #[.map (some b),.int .i64 k]).run Tryz.prog w=.ok (.tuple #[]) w'/\eZ w' b (fun q=>if q=k then none else f q)/\aa [b] w w':=by
 obtain ⟨D,h1,h2,h3⟩:=h;obtain ⟨w',hrun,ho,ht⟩:=h1.drop nQ Tryz.underlying232 (uK hk) ty;refine ⟨w',hrun,⟨_,ve ho,fun kl hkl=>?_,fun q y hq=>?_⟩,nE ht⟩
 ·by_cases e:kl=.int .i64 k
  ·subst e;rw [has_del_same] at hkl;cases hkl
  ·rw [has_del_other e] at hkl;obtain ⟨q,rfl,a,b,c⟩:=h2 kl hkl;exact ⟨q,rfl,a,b,by show (if q=k then none else f q).isSome=true;rw [Γ (fun h=>e (by rw [h]))];exact c⟩
 ·by_cases e:q=k
  ·subst e;simp at hq
  ·simp only [Γ e] at hq;have hne:(Lit.int .i64 q)≠.int .i64 k:=fun h=>e (by cases h;rfl);rw [has_del_other hne];exact ⟨(h3 q y hq).1,fun d=>by rw [atKey_del_other hne];exact (h3 q y hq).2 d⟩
theorem eZ.made (w:World):eZ (w.alloc (.map #[] 0)) w.heap.size (fun _=>none):=
 ⟨.map [],World.ownsMap_made w _ _ _,fun kl hkl=>by simp [has_eq] at hkl,fun k z hz=>by cases hz⟩
theorem kL {w:World} {ops:Array Oper} {rest:List Oper} {o:Oper} {a:Act} {Q:Exit->Act->World->Prop} (hg:o.guard=none) (m x v:Operand) (hop:o.op=Op.mapUpdate 232 m x v)
  (b:Nat) (f:Int->Option Int) (hm:a.eval m=.map (some b)) (h:eZ w b f) (k z:Int) (hx:a.eval x=.int .i64 k) (hv:a.eval v=.int .i64 z) (hk:0<=k/\k<=65536) (hz:-9223372036854775808<=z/\z<=9223372036854775807)
  (hK:∀w',eZ w' b (fun q=>if q=k then some z else f q)->aa [b] w w'->wpList Tryz.prog ops Q rest (a.put o.dst undef) w'):wpList Tryz.prog ops Q (o::rest) a w:=by
 refine wpList_plain hg fun K' hK'=>?_;obtain ⟨w',hrun,r1,r2⟩:=h.store k z hk hz;unfold Oper.wp;simp [execOp,hop,hm,hx,hv,hrun,Result.andThen];exact hK' _ _ (hK w' r1 r2)
theorem mW {w:World} {ops:Array Oper} {rest:List Oper} {o:Oper} {a:Act} {Q:Exit->Act->World->Prop} (hg:o.guard=none) (m x:Operand) (hop:o.op=Op.call { callee:=Callee.builtin Builtin.delete,args:=#[m,x],argTypes:=#[232,3] })
  (b:Nat) (f:Int->Option Int) (hm:a.eval m=.map (some b)) (h:eZ w b f) (k:Int) (hx:a.eval x=.int .i64 k) (hk:-9223372036854775808<=k/\k<=9223372036854775807)
  (hK:∀w',eZ w' b (fun q=>if q=k then none else f q)->aa [b] w w'->wpList Tryz.prog ops Q rest (a.put o.dst (.tuple #[])) w'):wpList Tryz.prog ops Q (o::rest) a w:=by
 refine wpList_plain hg fun K' hK'=>?_;obtain ⟨w',hrun,r1,r2⟩:=h.drop k hk o.type;unfold Oper.wp;simp [execOp,hop,resolve,invoke,builtin,hm,hx,hrun,Result.andThen];exact hK' _ _ (hK w' r1 r2)
theorem jE {w:World} {ops:Array Oper} {rest:List Oper} {o:Oper} {a:Act} {Q:Exit->Act->World->Prop} (hg:o.guard=none) (m x:Operand) (hop:o.op=Op.lookup 232 m x false)
  (b:Nat) (f:Int->Option Int) (hm:a.eval m=.map (some b)) (h:eZ w b f) (k:Int) (hx:a.eval x=.int .i64 k) (hk:-9223372036854775808<=k/\k<=9223372036854775807) (z:Int) (hz:(f k).getD 0=z)
  (hK:wpList Tryz.prog ops Q rest (a.put o.dst (.int .i64 z)) w):wpList Tryz.prog ops Q (o::rest) a w:=by
 refine wpList_plain hg fun K' hK'=>?_;have hrun:=h.look k hk;rw [hz] at hrun;unfold Oper.wp;simp [execOp,hop,hm,hx,hrun,Result.andThen];exact hK' _ _ hK
theorem pF {w:World} {ops:Array Oper} {rest:List Oper} {o:Oper} {a:Act} {Q:Exit->Act->World->Prop} (hg:o.guard=none) (m x:Operand) (hop:o.op=Op.lookup 232 m x true)
  (b:Nat) (f:Int->Option Int) (hm:a.eval m=.map (some b)) (h:eZ w b f) (k:Int) (hx:a.eval x=.int .i64 k) (hk:-9223372036854775808<=k/\k<=9223372036854775807)
  (hK:wpList Tryz.prog ops Q rest (a.put o.dst (.tuple #[.int .i64 ((f k).getD 0),.bool (f k).isSome])) w):wpList Tryz.prog ops Q (o::rest) a w:=by
 refine wpList_plain hg fun K' hK'=>?_;have hrun:=h.look_ok k hk;unfold Oper.wp;simp [execOp,hop,hm,hx,hrun,Result.andThen];exact hK' _ _ hK
end Go.Proofs.YtklibcncmbofpaaGreat
namespace Go.Proofs.YtklibcncmbofpaaGreat
open Go Go.RowKit
def lq (raw:Nat->Cl) (j:Nat):Value:=if j % 3=0 then .int .i64 (raw (j / 3)).i else if j % 3=1 then .int .i64 (raw (j / 3)).k else .int .u64 (raw (j / 3)).s
theorem Jj (raw:Nat->Cl) (x:Nat):lq raw (x*3)=.int .i64 (raw x).i:=by unfold lq;rw [Δ ω,show x*3 / 3=x by omega]
theorem BP (raw:Nat->Cl) (x:Nat):lq raw (x*3+1)=.int .i64 (raw x).k:=by unfold lq;rw [Γ ω,Δ ω,show (x*3+1) / 3=x by omega]
theorem Dj (raw:Nat->Cl) (x:Nat):lq raw (x*3+2)=.int .u64 (raw x).s:=by unfold lq;rw [Γ ω,Γ ω,show (x*3+2) / 3=x by omega]
def jh (A:NS) (h:Int):Option Int:=if 0<dG A h then some (dG A h:Int) else none
theorem qX (A:NS) (h:Int):(jh A h).getD 0=dG A h:=by unfold jh;split;rfl;simp;omega
structure CM (w:World) (c ca nm mb g cap:Nat) (l:List Int) (rt dp:Nat->Nat) (raw:Nat->Cl) (A:NS) (st:Nat):Prop where
 head:aG w c 245 4 (fun j=>[Value.int .i64 (st:Int),.slice (some ⟨ca,0,none⟩) A.cs.length A.cs.length,.pointer (some ⟨nm,0,none⟩),.map (some mb)].getD j undef)
 row:aG w ca 281 (A.cs.length*3) (lq raw)
 UD:jc w nm g cap l
 many:eZ w mb (jh A)
 Oo:pO l rt dp
 ok:A.Ok
 qp:st<=4611686018427387904
 rel:∀x,x<A.cs.length->(raw x=Cl.z/\A.c x=Cl.z)\/(1<=(raw x).i/\(raw x).i<l.length/\A.c x=⟨rt (raw x).i.toNat,(raw x).k,(raw x).s⟩)
 hlen:A.hs.length=l.length
 has:∀i,1<=i->i<l.length->A.hs.getD i false=decide (l.getD i 0=i)
 sep:(c≠ca/\c≠nm/\c≠mb/\c≠g)/\(ca≠nm/\ca≠mb/\ca≠g)/\(nm≠mb/\mb≠g)
theorem CM.upd {w w':World} {S:List Nat} {c ca nm mb g cap:Nat} {l:List Int} {rt dp:Nat->Nat} {raw:Nat->Cl} {A:NS} {st:Nat} (h:CM w c ca nm mb g cap l rt dp raw A st) (hu:aa S w w') (hS:∀x,x∈S->x∉[c,ca,nm,mb,g]):CM w' c ca nm mb g cap l rt dp raw A st:=
 ⟨h.head.upd hu (fun m=>hS _ m σ),h.row.upd hu (fun m=>hS _ m σ),h.UD.upd hu (fun m=>hS _ m σ) (fun m=>hS _ m σ),h.many.upd hu (fun m=>hS _ m σ),h.Oo,h.ok,h.qp,h.rel,h.hlen,h.has,h.sep⟩
def aD (w:World) (c:Nat) (F:List Nat) (A:NS) (st:Nat):Prop:=∃ca nm mb g cap l rt dp raw,CM w c ca nm mb g cap l rt dp raw A st/\F=[c,ca,nm,mb,g]
theorem aD.upd {w w':World} {S F:List Nat} {c:Nat} {A:NS} {st:Nat} (h:aD w c F A st) (hu:aa S w w') (hS:∀x,x∈S->x∉F):aD w' c F A st:=by
 obtain ⟨ca,nm,mb,g,cap,l,rt,dp,raw,h,rfl⟩:=h;exact ⟨ca,nm,mb,g,cap,l,rt,dp,raw,h.upd hu hS,rfl⟩
theorem aD.ae {w w':World} {F:List Nat} {c:Nat} {A:NS} {st:Nat} (h:aD w c F A st) (hu:aa [] w w'):aD w' c F A st:=h.upd hu σ
theorem aD.ok {w:World} {F:List Nat} {c:Nat} {A:NS} {st:Nat} (h:aD w c F A st):A.Ok:=by
 obtain ⟨ca,nm,mb,g,cap,l,rt,dp,raw,h,rfl⟩:=h;exact h.ok
theorem aD.qp {w:World} {F:List Nat} {c:Nat} {A:NS} {st:Nat} (h:aD w c F A st):st<=4611686018427387904:=by
 obtain ⟨ca,nm,mb,g,cap,l,rt,dp,raw,h,rfl⟩:=h;exact h.qp
theorem aD.lt {w:World} {F:List Nat} {c:Nat} {A:NS} {st:Nat} (h:aD w c F A st):∀x,x∈F->x<w.heap.size:=by
 obtain ⟨ca,nm,mb,g,cap,l,rt,dp,raw,h,rfl⟩:=h;intro x hx;have:=h.head.lt;have:=h.row.lt;have:=h.UD.lt;have:=h.many.lt;simp at hx;omega
theorem aD.mem {w:World} {F:List Nat} {c:Nat} {A:NS} {st:Nat} (h:aD w c F A st):c∈F:=by
 obtain ⟨ca,nm,mb,g,cap,l,rt,dp,raw,h,rfl⟩:=h;simp
def Goes (F:List Nat) (w w':World) (P:List Nat->Prop):Prop:=∃F',P F'/\aa F w w'/\∀x,x∈F'->x∈F\/w.heap.size<=x
theorem Goes.stay {F:List Nat} {w w':World} {P:List Nat->Prop} (h:P F) (hu:aa F w w'):Goes F w w' P:=⟨F,h,hu,fun x hx=>Α hx⟩
section
variable {w:World} {c ca nm mb g cap:Nat} {l:List Int} {rt dp:Nat->Nat} {raw:Nat->Cl} {A:NS} {st:Nat}
theorem CM.c0 (h:CM w c ca nm mb g cap l rt dp raw A st):w.cell? ⟨c,0,none⟩=some (.int .i64 (st:Int)):=h.head.cellAt 0 ω rfl
theorem CM.c1 (h:CM w c ca nm mb g cap l rt dp raw A st):w.cell? ⟨c,1,none⟩=some (.slice (some ⟨ca,0,none⟩) A.cs.length A.cs.length):=h.head.cellAt 1 ω rfl
theorem CM.c2 (h:CM w c ca nm mb g cap l rt dp raw A st):w.cell? ⟨c,2,none⟩=some (.pointer (some ⟨nm,0,none⟩)):=h.head.cellAt 2 ω rfl
theorem CM.c3 (h:CM w c ca nm mb g cap l rt dp raw A st):w.cell? ⟨c,3,none⟩=some (.map (some mb)):=h.head.cellAt 3 ω rfl
theorem CM.Vl (h:CM w c ca nm mb g cap l rt dp raw A st) {x:Nat} (hx:x<A.cs.length):decide (0<(A.c x).i)=decide (0<(raw x).i):=by
 rcases h.rel x hx with ⟨h1,h2⟩|⟨h1,h2,h3⟩
 ·rw [h1,h2]
 ·have:=h.Oo.Uf (i:=(raw x).i.toNat) ω ω;rw [h3,decide_eq_decide];simp only;omega
theorem CM.DZ (h:CM w c ca nm mb g cap l rt dp raw A st) (x:Int):DZ l x=bq A x:=by
 unfold Go.Proofs.YtklibcncmbofpaaGreat.DZ bq;rw [h.hlen]
 by_cases hx:0<x/\x<l.length
 ·rw [h.has x.toNat ω ω,Bool.eq_iff_iff];simp only [Τ,Ο,beq_iff_eq];constructor
  ·rintro ⟨_,h2⟩;exact ⟨⟨ω,ω⟩,ω⟩
  ·rintro ⟨_,h2⟩;exact ⟨⟨ω,ω⟩,ω⟩
 ·have e1:(decide (0<x) && decide (x<(l.length:Int)))=false:=ζ;have e2:(decide (1<=x) && decide (x<(l.length:Int)))=false:=ζ;rw [e1,e2];rfl
end
theorem iw {w:World} {c st:Nat} {F:List Nat} {A:NS} (h:aD w c F A st) (x:Int) :
  Calls Tryz.prog 139 #[.pointer (some ⟨c,0,none⟩),.int .i64 x] w fun e w'=>e=.returned (.bool (bq A x))/\w'=w:=by
 obtain ⟨ca,nm,mb,g,cap,l,rt,dp,raw,h,rfl⟩:=h;have c2:=h.c2;have k:=Oq nm g cap l x w h.UD h.Oo.PI;rw [h.DZ] at k;clear h
 go_enter Tryz.func139,Tryz.ntmps139
 go_wp2_with ((go_at_call 152;(with_reducible refine (k).mono ?_);rintro e w9 ⟨rfl,aS⟩;rw [aS];clear aS w9))
 go_ret;exact ⟨rfl,rfl⟩
theorem nZ {w:World} {c st:Nat} {F:List Nat} {A:NS} (h:aD w c F A st) (x:Int) (hx:-9223372036854775808<=x/\x<=9223372036854775807) :
  Calls Tryz.prog 142 #[.pointer (some ⟨c,0,none⟩),.int .i64 x] w fun e w'=>e=.returned (.int .i64 (dG A x:Int))/\w'=w:=by
 obtain ⟨ca,nm,mb,g,cap,l,rt,dp,raw,h,rfl⟩:=h;have c3:=h.c3;have hl:=h.many.look x hx;rw [qX] at hl;clear h
 go_enter Tryz.func142,Tryz.ntmps142
 go_wp2;go_ret;exact ⟨rfl,rfl⟩
theorem yI {w:World} {c st:Nat} {F:List Nat} {A:NS} (h:aD w c F A st) (x:Int) :
  Calls Tryz.prog 160 #[.pointer (some ⟨c,0,none⟩),.int .i64 x] w fun e w'=>e=.returned (.bool (uV A x))/\w'=w:=by
 obtain ⟨ca,nm,mb,g,cap,l,rt,dp,raw,h,rfl⟩:=h;have c1:=h.c1;have h1:=h.ok.c1;clear h;unfold uV
 by_cases h0:0<=x
 ·go_enter Tryz.func160,Tryz.ntmps160
  go_wp2;go_ret;exact ⟨bA (by simp [h0]),rfl⟩
 ·go_enter Tryz.func160,Tryz.ntmps160
  go_wp2;go_ret;exact ⟨bA ζ,rfl⟩
theorem qP {w:World} {c st:Nat} {F:List Nat} {A:NS} (h:aD w c F A st) (x:Int) :
  Calls Tryz.prog 149 #[.pointer (some ⟨c,0,none⟩),.int .i64 x] w fun e w'=>e=.returned (.bool (bV A x))/\w'=w:=by
 have k:=yI h x;obtain ⟨ca,nm,mb,g,cap,l,rt,dp,raw,h,rfl⟩:=h;have c1:=h.c1;have h1:=h.ok.c1;unfold bV;cases hs:uV A x
 ·rw [hs] at k;clear h
  go_enter Tryz.func149,Tryz.ntmps149
  go_wp2_with ((go_at_call 160;(with_reducible refine (k).mono ?_);rintro e w9 ⟨rfl,aS⟩;rw [aS];clear aS w9))
  go_ret;exact ⟨rfl,rfl⟩
 ·rw [hs] at k;have hx:=(dE _ _).1 hs;obtain ⟨i,rfl⟩:∃i:Nat,x=i:=⟨x.toNat,ω⟩;have hi:i<A.cs.length:=ω;have d0:=h.row.cellAt (i*3) ω (Jj raw i);simp only [π];rw [h.Vl hi];clear h hs
  go_enter Tryz.func149,Tryz.ntmps149
  go_wp2_with ((go_at_call 160;(with_reducible refine (k).mono ?_);rintro e w9 ⟨rfl,aS⟩;rw [aS];clear aS w9))
  go_ret;exact ⟨bA σ,rfl⟩
theorem Y2 {w:World} {ca m i:Nat} {e:TypeId} {raw:Nat->Cl} (h:aG w ca e m (lq raw)) (cl:Cl) :
  aG (((w.setCell ⟨ca,i*3,none⟩ (.int .i64 cl.i)).setCell ⟨ca,i*3+1,none⟩ (.int .i64 cl.k)).setCell ⟨ca,i*3+2,none⟩ (.int .u64 cl.s)) ca e m (lq (fun y=>if y=i then cl else raw y)):=by
 refine (((h.set _ _).set _ _).set _ _).ext (fun j hj=>?_);simp only [lq]
 by_cases e0:j=i*3+2
 ·rw [Δ e0,Γ ω,Γ ω,Δ ω]
 ·rw [Γ e0]
  by_cases e1:j=i*3+1
  ·rw [Δ e1,Γ ω,Δ ω,Δ ω]
  ·rw [Γ e1]
   by_cases e2:j=i*3
   ·rw [Δ e2,Δ ω,Δ ω]
   ·rw [Γ e2,Γ (show ¬j / 3=i by omega)]
section
variable {w:World} {c ca nm mb g cap:Nat} {l:List Int} {rt dp:Nat->Nat} {raw:Nat->Cl} {A:NS} {st:Nat}
theorem CM.turn (h:CM w c ca nm mb g cap l rt dp raw A st) {w2:World} {ES:Nat->Cl} {A':NS} (hu:aa [ca,mb] w w2) (hrow:aG w2 ca 281 (A.cs.length*3) (lq ES)) (hm:eZ w2 mb (jh A')) (hok:A'.Ok)
  (hlen:A'.cs.length=A.cs.length) (nG:A'.hs=A.hs) (hrel:∀x,x<A.cs.length->(ES x=Cl.z/\A'.c x=Cl.z)\/(1<=(ES x).i/\(ES x).i<l.length/\A'.c x=⟨rt (ES x).i.toNat,(ES x).k,(ES x).s⟩)) :
  CM w2 c ca nm mb g cap l rt dp ES A' st:=by
 have s:=h.sep;refine ⟨?_,by rw [hlen];exact hrow,h.UD.upd hu ι ι,hm,h.Oo,hok,h.qp,by rw [hlen];exact hrel,by rw [nG];exact h.hlen,by rw [nG];exact h.has,s⟩;rw [hlen];exact h.head.upd hu ι
theorem CM.Vi (h:CM w c ca nm mb g cap l rt dp raw A st) {i:Nat} (hi:bq A i=true):1<=i/\i<l.length/\rt i=i/\l.getD i 0=i:=by
 rw [←h.DZ] at hi;unfold Go.Proofs.YtklibcncmbofpaaGreat.DZ at hi;simp only [Τ,Ο,beq_iff_eq,π] at hi;exact ⟨ω,ω,h.Oo.top i ω ω hi.2,hi.2⟩
end
def V9 (l:List Int) (rt:Nat->Nat) (cr ca:Cl):Prop:=(cr=Cl.z/\ca=Cl.z)\/(1<=cr.i/\cr.i<l.length/\ca=⟨rt cr.i.toNat,cr.k,cr.s⟩)
theorem D6 {l:List Int} {rt:Nat->Nat} {raw:Nat->Cl} {A:NS} {x:Nat} {cr ca:Cl} (h:∀y,y<A.cs.length->V9 l rt (raw y) (A.c y)) (hx:x<A.cs.length) (hc:V9 l rt cr ca) :
  ∀y,y<A.cs.length->V9 l rt (if y=x then cr else raw y) ((iD A x ca).c y):=by
 intro y hy;rw [iN]
 by_cases e:y=x
 ·simp only [e,hx,and_self,if_true];exact hc
 ·simp only [e,false_and,if_false];exact h y hy
theorem Ha {A:NS} {x:Nat} {c:Cl} (h:Int) (hx:x<A.cs.length) (hz:(A.c x).i=0) (hc:0<c.i) (q:Int):(if q=c.i then some ((dG A c.i:Int)+1) else jh A q)=jh (iD A x c) q:=by
 have:=qU A x c q hx;rw [hz] at this;unfold jh
 by_cases e:q=c.i
 ·subst e;rw [Δ rfl];rw [Γ ω,Δ ⟨rfl,hc⟩] at this;simp only [ϗ] at this;rw [Δ ω,this];simp
 ·rw [Γ e];rw [Γ ω,Γ ω] at this;simp only [ϗ] at this;rw [this]
theorem l9 {w:World} {c st:Nat} {F:List Nat} {A:NS} (h:aD w c F A st) (hh x:Nat) (k s:Int) (hk:-9223372036854775808<=k/\k<=9223372036854775807/\0<=s/\s<=18446744073709551615) (hB:iM A hh x=true) :
  Calls Tryz.prog 154 #[.pointer (some ⟨c,0,none⟩),.int .i64 (hh:Int),.int .i64 (x:Int),.agg #[.int .i64 k,.int .u64 s]] w fun e w'=>e=.returned (.bool true)/\aD w' c F (az A hh x k s) st/\aa F w w':=by
 have k1:=fun W hW=>iw (h.ae (w':=W) hW) hh;have k2:=fun W hW=>yI (h.ae (w':=W) hW) x;have k3:=fun W hW=>qP (h.ae (w':=W) hW) x;have hu:aa [] w (w.alloc (.cells #[.int .i64 k,.int .u64 s] 129)):=(aa.refl _ _).alloc _;have hp:=(bX _ _ _).1 hB;rw [hp.1] at k1;rw [hp.2.1] at k2;rw [hp.2.2] at k3;have hx:=(dE _ _).1 hp.2.1;have zH:=(aQ _ _).1 hp.1;have hAz:(A.c x).i<=0:=by have:=hp.2.2;unfold bV at this;rw [hp.2.1] at this;simpa using this
 have hin:(A.c x).i=0:=by have:=h.ok.nat x ω;omega
 have hlen:=Ct h.ok (hh:Int);have hA1:=h.ok.h1;have hA2:=h.ok.c1;obtain ⟨ca,nm,mb,g,cap,l,rt,dp,raw,h,rfl⟩:=h;have c1:=h.c1;have c3:=h.c3;have d0:=h.row.cell (x*3) ω;have d1:=h.row.cell (x*3+1) ω;have d2:=h.row.cell (x*3+2) ω;have f0:=h.row.free (x*3);have f1:=h.row.free (x*3+1);have f2:=h.row.free (x*3+2);have hlt:=aD.lt ⟨ca,nm,mb,g,cap,l,rt,dp,raw,h,rfl⟩;have l1:=hlt c σ;have l2:=hlt ca σ;have l3:=hlt mb σ;have hs:=h.sep;have H:=χ h;have HP:=χ hp;clear h hp hB hlt;obtain ⟨len,hle⟩:∃n,n=A.cs.length:=⟨_,rfl⟩;rw [←hle] at c1 hx;have HL:=χ hle;clear hle;have hx2:x<len:=ω
 go_enter Tryz.func154,Tryz.ntmps154
 go_wp2_with (first|(go_at_call 139;(with_reducible refine ((k1 _ hu)).mono ?_);rintro e w9 ⟨rfl,aS⟩;rw [aS];clear aS w9)|(go_at_call 160;(with_reducible refine ((k2 _ hu)).mono ?_);rintro e w9 ⟨rfl,aS⟩;rw [aS];clear aS w9)|(go_at_call 149;(with_reducible refine ((k3 _ hu)).mono ?_);rintro e w9 ⟨rfl,aS⟩;rw [aS];clear aS w9))
 go_region
 go_wp2_with (first
  | (at_lookup;refine jE rfl _ _ rfl mb (jh A) rfl (H.out.many.upd (S:=[ca]) β ι) (hh:Int) rfl ω (dG A (hh:Int):Int) (qX _ _) ?_)
  | (at_mapUpdate;refine kL rfl _ _ _ rfl mb (jh A) rfl (H.out.many.upd (S:=[ca]) β ι) (hh:Int) ((dG A (hh:Int):Int)+1) rfl rfl ω ω ?_;intro w2 hm2 hu2))
 go_ret;have hu3:aa [ca] w ((((w.setCell ⟨ca,x*3,none⟩ (.int .i64 (hh:Int))).setCell ⟨ca,x*3+1,none⟩ (.int .i64 k)).setCell ⟨ca,x*3+2,none⟩ (.int .u64 s)).alloc (.cells #[.int .i64 k,.int .u64 s] 129)).drew:=β;have hr3:=((Y2 (i:=x) H.out.row ⟨(hh:Int),k,s⟩).upd ((aa.refl [] _).alloc (.cells #[.int .i64 k,.int .u64 s] 129) |>.drew) σ).upd hu2 ι;have om:aa [ca,mb] w w2:=(hu3.mono ι).joined hu2 (fun y hy=>Α (by simp at hy;simp [hy]));have hrt:=H.out.Vi HP.out.1;have hxl:x<A.cs.length:=by rw [←HL.out];exact hx2
 have e:az A (hh:Int) (x:Int) k s=iD A x ⟨(hh:Int),k,s⟩:=by unfold az;rw [Δ ((bX _ _ _).2 HP.out)];simp
 refine ⟨rfl,⟨ca,nm,mb,g,cap,l,rt,dp,fun y=>if y=x then ⟨(hh:Int),k,s⟩ else raw y,?_,rfl⟩,om.mono ι⟩;rw [e];refine H.out.turn om hr3 (hm2.ext (fun q=>Ha (c:=⟨(hh:Int),k,s⟩) (hh:Int) hxl hin (by show 0<(hh:Int);omega) q)) (by rw [←e];exact rD H.out.ok _ _ _ _ hk) (fq _ _ _) rfl (D6 H.out.rel hxl (Β ⟨by show 1<=(hh:Int);omega,by show (hh:Int)<l.length;omega,by rw [π,hrt.2.2.1]⟩))
theorem jR {w:World} {c st:Nat} {F:List Nat} {A:NS} (h:aD w c F A st) (x:Int) (hx:bV A x=false) :
  Calls Tryz.prog 137 #[.pointer (some ⟨c,0,none⟩),.int .i64 x] w fun e w'=>e=.returned (.tuple #[.agg #[.int .i64 0,.int .u64 0],.bool false])/\aa [] w w':=by
 have hu:aa [] w (w.alloc (.cells #[.int .i64 0,.int .u64 0] 129)):=(aa.refl _ _).alloc _;have k:=qP (h.ae hu) x;rw [hx] at k;clear h hx
 go_enter Tryz.func137,Tryz.ntmps137
 go_wp2_with ((go_at_call 149;(with_reducible refine (k).mono ?_);rintro e w9 ⟨rfl,aS⟩;rw [aS];clear aS w9))
 exact bodyPost_ret (v:=.tuple #[.agg #[.int .i64 0,.int .u64 0],.bool false]) (by simp [results,Tryz.results137,go_sem]) rfl ⟨rfl,ξ⟩
theorem iY {w:World} {c st:Nat} {F:List Nat} {A:NS} (h:aD w c F A st) (x:Nat) (hx:bV A x=true) :
  Calls Tryz.prog 137 #[.pointer (some ⟨c,0,none⟩),.int .i64 (x:Int)] w fun e w'=>e=.returned (.tuple #[.agg #[.int .i64 (A.c x).k,.int .u64 (A.c x).s],.bool true])/\aa [] w w':=by
 have hu:aa [] w (w.alloc (.cells #[.int .i64 0,.int .u64 0] 129)):=(aa.refl _ _).alloc _;have k:=qP (h.ae hu) x;rw [hx] at k;obtain ⟨hx1,hx2⟩:=(aj _ _).1 hx;obtain ⟨ca,nm,mb,g,cap,l,rt,dp,raw,h,rfl⟩:=h;have e:A.c x=⟨rt (raw x).i.toNat,(raw x).k,(raw x).s⟩:=by
  rcases h.rel x hx1 with ⟨h1,h2⟩|⟨h1,h2,h3⟩
  ·rw [h2] at hx2;exact absurd hx2 δ
  ·exact h3
 rw [e];have c1:=h.c1;have d1:=h.row.cellAt (x*3+1) ω (BP raw x);have d2:=h.row.cellAt (x*3+2) ω (Dj raw x);have hA:=h.ok.c1;have l1:=h.head.lt;have l2:=h.row.lt;clear h hx hx2 e
 go_enter Tryz.func137,Tryz.ntmps137
 go_wp2_with ((go_at_call 149;(with_reducible refine (k).mono ?_);rintro e w9 ⟨rfl,aS⟩;rw [aS];clear aS w9))
 exact bodyPost_ret (v:=.tuple #[.agg #[.int .i64 (raw x).k,.int .u64 (raw x).s],.bool true]) (by simp [results,Tryz.results137,go_sem]) rfl ⟨rfl,ξ⟩
theorem CM.UF {w:World} {c ca nm mb g cap:Nat} {l l':List Int} {rt dp:Nat->Nat} {raw:Nat->Cl} {A:NS} {st:Nat} (h:CM w c ca nm mb g cap l rt dp raw A st) {w':World} (hN:jc w' nm g cap l') (ok:pO l' rt dp) (hl:l'.length=l.length) (hu:aa [g] w w') :
  CM w' c ca nm mb g cap l' rt dp raw A st:=by
 have s:=h.sep;refine ⟨h.head.upd hu ι,h.row.upd hu ι,hN,h.many.upd hu ι,ok,h.ok,h.qp,by rw [hl];exact h.rel,by rw [hl];exact h.hlen,fun i h1 h2=>?_,s⟩;rw [hl] at h2;rw [h.has i h1 h2,decide_eq_decide,h.Oo.O8 h1 h2,ok.O8 h1 (by rw [hl];exact h2)]
theorem jq {w:World} {c st:Nat} {F:List Nat} {A:NS} (h:aD w c F A st) (x:Nat) (hx:bV A x=true) :
  Calls Tryz.prog 140 #[.pointer (some ⟨c,0,none⟩),.int .i64 (x:Int)] w fun e w'=>e=.returned (.tuple #[.int .i64 (A.c x).i,.bool true])/\aD w' c F A st/\aa F w w':=by
 have k:=qP h x;rw [hx] at k;obtain ⟨hx1,hx2⟩:=(aj _ _).1 hx;obtain ⟨ca,nm,mb,g,cap,l,rt,dp,raw,h,rfl⟩:=h;have e:1<=(raw x).i/\(raw x).i<l.length/\A.c x=⟨rt (raw x).i.toNat,(raw x).k,(raw x).s⟩:=by
  rcases h.rel x hx1 with ⟨h1,h2⟩|h3
  ·rw [h2] at hx2;exact absurd hx2 δ
  ·exact h3
 obtain ⟨r,hr⟩:∃r:Nat,(raw x).i=r:=⟨(raw x).i.toNat,ω⟩;rw [e.2.2,hr,π];have c1:=h.c1;have c2:=h.c2;have d0:=h.row.cellAt (x*3) ω (Jj raw x);rw [hr] at d0 e;have hA:=h.ok.c1;have hs:=h.sep;have H:=χ h;have hr1:1<=r:=ω;have hr2:r<l.length:=ω;clear h hx hx2 e hr
 go_enter Tryz.func140,Tryz.ntmps140
 go_wp2_with ((go_at_call 149;(with_reducible refine (k).mono ?_);rintro e w9 ⟨rfl,aS⟩;rw [aS];clear aS w9))
 have r1:∀W,aa [g] w W->W.cell? ⟨c,1,none⟩=some (.slice (some ⟨ca,0,none⟩) A.cs.length A.cs.length):=fun W hW=>by rw [hW.cell H.out.head.lt ι];exact c1
 have r2:∀W,aa [g] w W->W.cell? ⟨c,2,none⟩=some (.pointer (some ⟨nm,0,none⟩)):=fun W hW=>by rw [hW.cell H.out.head.lt ι];exact c2
 have r3:∀W,aa [g] w W->W.cell? ⟨ca,x*3,none⟩=some (.int .i64 (r:Int)):=fun W hW=>by rw [hW.cell H.out.row.lt ι];exact d0
 go_region_held3 (aa [g] w) (exact η)
  ((go_at_call 153;(with_reducible refine (Lh nm g cap l rt dp r _ (H.out.UD.upd (S:=[]) β σ σ) H.out.Oo hr1 hr2).mono ?_);rintro e w1 ⟨l',rfl,hN,hok,hlen,hu⟩;have hu':aa [g] w w1:=(by first|exact hu|exact ((aa.refl [g] w).drew.trans hu)|exact ((aa.refl [g] w).drewN _ |>.trans hu))))
 go_wp2;go_ret2;exact ⟨rfl,⟨ca,nm,mb,g,cap,l',rt,dp,raw,H.out.UF hN hok hlen hu',rfl⟩,hu'.mono ι⟩
def dF (st k:Nat):Nat:=min (st+k) 4611686018427387904
theorem ig {st:Nat} (h:st<=4611686018427387904):dF st 0=st:=by unfold dF;omega
theorem kG (st a b:Nat):dF (dF st a) b=dF st (a+b):=by unfold dF;omega
theorem Gi (p:Addr) (s:Nat) (w:World) (h1:s<=4611686018427387904) (hc:w.cell? p=some (.int .i64 (s:Int))) (hf:w.frozen? p=false) :
  Calls Tryz.prog 182 #[.pointer (some p),.int .i64 1] w fun e w'=>e=.returned (.tuple #[])/\w'=w.setCell p (.int .i64 (dF s 1:Nat)):=by
 by_cases h:s=4611686018427387904
 ·have e:dF s 1=4611686018427387904:=by unfold dF;omega
  rw [e];have h':4611686018427387904-(s:Int)<1:=ω;clear e h
  go_enter Tryz.func182,Tryz.ntmps182
  go_wp2;go_end0;exact ⟨rfl,rfl⟩
 ·have e:((dF s 1:Nat):Int)=(s:Int)+1:=by unfold dF;omega
  rw [e];have h':¬4611686018427387904-(s:Int)<1:=ω;clear e h
  go_enter Tryz.func182,Tryz.ntmps182
  go_wp2;go_end0;exact ⟨rfl,rfl⟩
theorem CM.count {w:World} {c ca nm mb g cap:Nat} {l:List Int} {rt dp:Nat->Nat} {raw:Nat->Cl} {A:NS} {st:Nat} (h:CM w c ca nm mb g cap l rt dp raw A st) (k:Nat):CM (w.setCell ⟨c,0,none⟩ (.int .i64 (dF st k:Nat))) c ca nm mb g cap l rt dp raw A (dF st k):=by
 have hu:aa [c] w (w.setCell ⟨c,0,none⟩ (.int .i64 (dF st k:Nat))):=β;have s:=h.sep;refine ⟨(h.head.set 0 _).ext (fun j hj=>?_),h.row.upd hu ι,h.UD.upd hu ι ι,h.many.upd hu ι,h.Oo,h.ok,by unfold dF;omega,h.rel,h.hlen,h.has,s⟩;rcases (ω:j=0\/j=1\/j=2\/j=3) with rfl|rfl|rfl|rfl<;>simp
theorem NN (A:NS) (a b:Nat):(decide (Gt (A.c a).k (A.c a).s (A.c b).k (A.c b).s<0) || (decide (Gt (A.c a).k (A.c a).s (A.c b).k (A.c b).s=0) && decide (a<b)))=decide (eU A a b):=by
 rw [Bool.eq_iff_iff,decide_eq_true_iff];simp only [Bool.or_eq_true,Τ,Ο];unfold Gt vJ eU
 by_cases h:(A.c a).k=(A.c b).k
 ·rw [Δ h]
  by_cases h1:(A.c a).s<(A.c b).s
  ·rw [Δ h1];omega
  ·rw [Γ h1];split<;>omega
 ·rw [Γ h]
  by_cases h1:(A.c a).k<(A.c b).k
  ·rw [Δ h1];omega
  ·rw [Γ h1];split<;>omega
theorem gZ {w:World} {c st:Nat} {F:List Nat} {A:NS} (h:aD w c F A st) (a b:Nat) (ha:bV A a=true) (hb:bV A b=true) :
  Calls Tryz.prog 174 #[.pointer (some ⟨c,0,none⟩),.int .i64 (a:Int),.int .i64 (b:Int)] w fun e w'=>e=.returned (.bool (decide (eU A a b)))/\aD w' c F A (dF st 1)/\aa [c] w w':=by
 have k1:=qP h a;have k2:=qP h b;rw [ha] at k1;rw [hb] at k2;obtain ⟨ha1,ha2⟩:=(aj _ _).1 ha;obtain ⟨hb1,hb2⟩:=(aj _ _).1 hb;have hA:=h.ok.c1;obtain ⟨ca,nm,mb,g,cap,l,rt,dp,raw,h,rfl⟩:=h;have e1:A.c a=⟨rt (raw a).i.toNat,(raw a).k,(raw a).s⟩:=by
  rcases h.rel a ha1 with ⟨h1,h2⟩|h3
  ·rw [h2] at ha2;exact absurd ha2 δ
  ·exact h3.2.2
 have e2:A.c b=⟨rt (raw b).i.toNat,(raw b).k,(raw b).s⟩:=by
  rcases h.rel b hb1 with ⟨h1,h2⟩|h3
  ·rw [h2] at hb2;exact absurd hb2 δ
  ·exact h3.2.2
 have hres:=NN A a b;rw [e1,e2] at hres;simp only at hres;have c0:=h.c0;have c1:=h.c1;have f0:=h.head.free 0;have d1:=h.row.cellAt (a*3+1) ω (BP raw a);have d2:=h.row.cellAt (a*3+2) ω (Dj raw a);have d3:=h.row.cellAt (b*3+1) ω (BP raw b);have d4:=h.row.cellAt (b*3+2) ω (Dj raw b);have s:=h.sep;have hst:=h.qp;have kc:=Gi ⟨c,0,none⟩ st w hst c0 f0;have kk:=fun W=>D8 (raw a).k (raw a).s (raw b).k (raw b).s W;generalize hz:Gt (raw a).k (raw a).s (raw b).k (raw b).s=z at *;generalize (raw a).k=ka at *;generalize (raw a).s=sa at *;generalize (raw b).k=kb at *;generalize (raw b).s=sb at *
 have Sj:=h.row.lt;have hcw:=h.head.lt;have H1:=χ (h.count 1);have HR:=χ hres;generalize hn:dF st 1=st1 at *;have u0:aa [c] w (w.setCell ⟨c,0,none⟩ (.int .i64 (st1:Int))):=β;have r1:∀W,aa [] (w.setCell ⟨c,0,none⟩ (.int .i64 (st1:Int))) W->W.cell? ⟨c,1,none⟩=some (.slice (some ⟨ca,0,none⟩) A.cs.length A.cs.length):=fun W hW=>hW.was H1.out.c1;have r2:∀W,aa [] (w.setCell ⟨c,0,none⟩ (.int .i64 (st1:Int))) W->W.cell? ⟨ca,a*3+1,none⟩=some (.int .i64 ka):=fun W hW=>hW.was ((u0.cell Sj ι).trans d1)
 have r3:∀W,aa [] (w.setCell ⟨c,0,none⟩ (.int .i64 (st1:Int))) W->W.cell? ⟨ca,a*3+2,none⟩=some (.int .u64 sa):=fun W hW=>hW.was ((u0.cell Sj ι).trans d2);have r4:∀W,aa [] (w.setCell ⟨c,0,none⟩ (.int .i64 (st1:Int))) W->W.cell? ⟨ca,b*3+1,none⟩=some (.int .i64 kb):=fun W hW=>hW.was ((u0.cell Sj ι).trans d3);have r5:∀W,aa [] (w.setCell ⟨c,0,none⟩ (.int .i64 (st1:Int))) W->W.cell? ⟨ca,b*3+2,none⟩=some (.int .u64 sb):=fun W hW=>hW.was ((u0.cell Sj ι).trans d4);clear h ha hb ha2 hb2 e1 e2 hres d1 d2 d3 d4 hz hn u0
 by_cases hz1:z<0
 ·have hd:decide (eU A a b)=true:=by rw [←HR.out,Ν hz1];rfl
  rw [hd];clear hd
  go_enter Tryz.func174,Tryz.ntmps174
  go_wp2_with (first|(go_at_call 149;(with_reducible refine (k1).mono ?_);rintro e w9 ⟨rfl,aS⟩;rw [aS];clear aS w9)|(go_at_call 149;(with_reducible refine (k2).mono ?_);rintro e w9 ⟨rfl,aS⟩;rw [aS];clear aS w9)|(go_at_call 182;(with_reducible refine (kc).mono ?_);rintro e w9 ⟨rfl,aS⟩;rw [aS];clear aS w9))
  go_region_held3 (aa [] (w.setCell ⟨c,0,none⟩ (.int .i64 (st1:Int)))) (exact η)
   ((go_at_call 164;(with_reducible refine (kk _).mono ?_);rintro e w1 ⟨rfl,hu1⟩;(have hu2:aa [] (w.setCell ⟨c,0,none⟩ (.int .i64 (st1:Int))) w1:=η)))
  go_wp2;go_ret;exact ⟨rfl,⟨ca,nm,mb,g,cap,l,rt,dp,raw,H1.out.upd hu2 σ,rfl⟩,((aa.refl [c] w).setCell (Α σ) _).then hu2⟩
 ·by_cases hz2:z=0
  ·have hd:decide (eU A a b)=decide ((a:Int)<(b:Int)):=by rw [←HR.out,Ξ hz1,Ν hz2];simp
   rw [hd];subst hz2;clear hd
   go_enter Tryz.func174,Tryz.ntmps174
   go_wp2_with (first|(go_at_call 149;(with_reducible refine (k1).mono ?_);rintro e w9 ⟨rfl,aS⟩;rw [aS];clear aS w9)|(go_at_call 149;(with_reducible refine (k2).mono ?_);rintro e w9 ⟨rfl,aS⟩;rw [aS];clear aS w9)|(go_at_call 182;(with_reducible refine (kc).mono ?_);rintro e w9 ⟨rfl,aS⟩;rw [aS];clear aS w9))
   go_region_held3 (aa [] (w.setCell ⟨c,0,none⟩ (.int .i64 (st1:Int)))) (exact η)
    ((go_at_call 164;(with_reducible refine (kk _).mono ?_);rintro e w1 ⟨rfl,hu1⟩;(have hu2:aa [] (w.setCell ⟨c,0,none⟩ (.int .i64 (st1:Int))) w1:=η)))
   go_wp2;go_ret;exact ⟨bA σ,⟨ca,nm,mb,g,cap,l,rt,dp,raw,H1.out.upd hu2 σ,rfl⟩,((aa.refl [c] w).setCell (Α σ) _).then hu2⟩
  ·have hz3:(z == 0)=false:=by simpa using hz2
   have hd:decide (eU A a b)=false:=by rw [←HR.out,Ξ hz1,Ξ hz2];rfl
   rw [hd];clear hd hz2
   go_enter Tryz.func174,Tryz.ntmps174
   go_wp2_with (first|(go_at_call 149;(with_reducible refine (k1).mono ?_);rintro e w9 ⟨rfl,aS⟩;rw [aS];clear aS w9)|(go_at_call 149;(with_reducible refine (k2).mono ?_);rintro e w9 ⟨rfl,aS⟩;rw [aS];clear aS w9)|(go_at_call 182;(with_reducible refine (kc).mono ?_);rintro e w9 ⟨rfl,aS⟩;rw [aS];clear aS w9))
   go_region_held3 (aa [] (w.setCell ⟨c,0,none⟩ (.int .i64 (st1:Int)))) (exact η)
    ((go_at_call 164;(with_reducible refine (kk _).mono ?_);rintro e w1 ⟨rfl,hu1⟩;(have hu2:aa [] (w.setCell ⟨c,0,none⟩ (.int .i64 (st1:Int))) w1:=η)))
   go_wp2;go_ret;exact ⟨bA ζ,⟨ca,nm,mb,g,cap,l,rt,dp,raw,H1.out.upd hu2 σ,rfl⟩,((aa.refl [c] w).setCell (Α σ) _).then hu2⟩
theorem pO.make {l:List Int} {rt dp:Nat->Nat} (h:pO l rt dp) (hl:l.length<=65536):pO (l++[(l.length:Int)]) (fun i=>if i=l.length then i else rt i) dp:=by
 have h1:=h.len;have g1:∀i,i<l.length->(l++[(l.length:Int)]).getD i 0=l.getD i 0:=fun i hi=>by simp [φ,Ρ hi]
 have g2:(l++[(l.length:Int)]).getD l.length 0=l.length:=by simp [φ]
 refine ⟨σ,ζ,fun i a b=>?_,fun i a b=>?_,fun i a b=>?_,fun i a b=>?_⟩
 all_goals
  simp only [υ,Ω,List.length_nil] at b ⊢;rcases (ω:i<l.length\/i=l.length) with hi|hi
 ·rw [g1 i hi];have:=h.wO i a hi;omega
 ·rw [hi,g2];omega
 ·have:=h.wO i a hi;rw [g1 i hi,Γ (show ¬ (l.getD i 0).toNat=l.length by omega),Γ ω];exact h.up i a hi
 ·rw [hi,g2];simp
 ·rw [g1 i hi,Γ (show ¬i=l.length by omega)];exact h.top i a hi
 ·intro _;rw [Δ hi]
 ·rw [g1 i hi];exact h.low i a hi
 ·rw [hi,g2];intro hn;exact absurd rfl hn
theorem gQ {w:World} {c st:Nat} {F:List Nat} {A:NS} (h:aD w c F A st) :
  Calls Tryz.prog 156 #[.pointer (some ⟨c,0,none⟩)] w fun e w'=>e=.returned (.int .i64 (bS A))/\Goes F w w' (fun F'=>aD w' c F' (aC A) st):=by
 have hC:=h;obtain ⟨ca,nm,mb,g,cap,l,rt,dp,raw,h,rfl⟩:=h;have c2:=h.c2;have hlen:=h.hlen;have hl1:=h.Oo.len;have hl2:=h.Oo.PI;have hs:=h.sep;unfold bS aC
 by_cases hfull:l.length=65537
 ·have k:=Ol nm g cap l w h.UD hfull;rw [Δ ω,Δ ω];have HC:=χ hC;clear h hC hlen hfull
  go_enter Tryz.func156,Tryz.ntmps156
  go_wp2_with (go_at_call 163;(with_reducible refine (k).mono ?_);rintro e w1 ⟨rfl,hu⟩)
  go_ret;exact ⟨rfl,Goes.stay (HC.out.ae hu) (hu.mono σ)⟩
 ·have k:=Ld nm g cap l w h.UD hl1 ω;rw [Γ ω,Γ ω,hlen];have H:=χ h;have HL:=χ hlen;clear h hC hlen
  go_enter Tryz.func156,Tryz.ntmps156
  go_wp2_with (go_at_call 163;(with_reducible refine (k).mono ?_);rintro e w1 ⟨g',cap',rfl,hN,hu,hg⟩)
  go_ret;have h:=H.out;have hc:=h.head.lt;have hca:=h.row.lt;have hmb:=h.many.lt;have hsep:c≠g'/\ca≠g'/\mb≠g':=by rcases hg with rfl|hg;exact ⟨ω,ω,ω⟩;exact ⟨ω,ω,ω⟩
  have hok:(NS.mk (A.hs++[true]) A.cs).Ok:=by
   have:=qa h.ok;unfold aC at this;rwa [Γ (by have:=HL.out;omega)] at this
  refine ⟨rfl,[c,ca,nm,mb,g'],⟨ca,nm,mb,g',cap',l++[(l.length:Int)],fun i=>if i=l.length then i else rt i,dp,raw,?_,rfl⟩,hu.mono ι,fun x hx=>by simp at hx ⊢;omega⟩;refine ⟨h.head.upd hu ι,h.row.upd hu ι,hN,h.many.upd hu ι,h.Oo.make ω,hok,h.qp,fun x hx=>?_,by simp [HL.out],fun i h1 h2=>?_,ω⟩
  ·rcases h.rel x hx with h'|⟨h3,h4,h5⟩
   ·exact Α h'
   ·refine Β ⟨h3,ζ,?_⟩;rw [Γ ω];exact h5
  ·simp only [υ,Ω,List.length_nil] at h2;have hLo:=HL.out;rcases (ω:i<l.length\/i=l.length) with hi|hi
   ·have:=h.has i h1 hi;simp only [φ] at this ⊢;rw [Ρ ω,Ρ hi];exact this
   ·subst hi;simp only [φ];rw [←hLo,ϊ (Θ _),ϊ ω];simp [hLo]
theorem Ij (n j:Nat) (hj:j<n*3):(madeCells #[Value.int .i64 0,.int .i64 0,.int .u64 0] (n*3)).toList.getD j undef=if j % 3=0 then .int .i64 0 else if j % 3=1 then .int .i64 0 else .int .u64 0:=by
 rw [φ,ε (by simp [size_madeCells];omega)];simp only [Option.getD_some,madeCells,Array.getElem_toList,Array.getElem_map,Array.getElem_range];rcases (ω:j % 3=0\/j % 3=1\/j % 3=2) with e|e|e<;>simp [e]
theorem Qb:(Tryz.prog.info? 281).map (fun i=>(i.zero,i.size,i.bytes))=some (some (.agg #[.int .i64 0,.int .i64 0,.int .u64 0]),3,24):=by kernel_rfl
theorem lV (n:Nat) (w:World) (h:n<=65536) :
  Calls Tryz.prog 107 #[.int .i64 (n:Int)] w fun e w'=>∃c F,e=.returned (.tuple #[.pointer (some ⟨c,0,none⟩),.int .i64 0])/\aD w' c F (NS.new n) 0/\aa [] w w'/\∀x,x∈F->w.heap.size<=x:=by
 have hmm:=@run_makeMap Tryz.prog
 go_enter Tryz.func107,Tryz.ntmps107
 go_wp2_with (first
  | ((go_at_call 114;(with_reducible refine (OP _).mono ?_));rintro e w1 ⟨nm,g,rfl,hN,hu1,hb1,hb2⟩)
  | (at_make;refine wpList_make_row rfl _ 241 rfl 281 (.agg #[.int .i64 0,.int .i64 0,.int .u64 0]) 3 24 Tryz.underlying241 Qb n rfl ω μ ?_;intro w2 hr2 hu2))
 go_ret2;have hu3:aa [] w2 ((w2.alloc (.map #[] 0)).alloc (.cells #[.int .i64 0,.slice (some ⟨w1.heap.size,0,none⟩) n n,.pointer (some ⟨nm,0,none⟩),.map (some w2.heap.size)] 245)):=β;have hh:=dC (w2.alloc (.map #[] 0)) [.int .i64 0,.slice (some ⟨w1.heap.size,0,none⟩) n n,.pointer (some ⟨nm,0,none⟩),.map (some w2.heap.size)] 245;rw [Κ] at hh;have l1:=hN.lt;have l2:=hu2.size;have l3:=hr2.lt;have l4:=hu1.size;have hcs:(NS.new n).cs.length=n:=by simp [NS.new]
 refine ⟨w2.heap.size+1,[w2.heap.size+1,w1.heap.size,nm,w2.heap.size,g],rfl,⟨w1.heap.size,nm,w2.heap.size,g,1,[0],fun i=>i,fun _=>0,fun _=>Cl.z,?_,rfl⟩,(hu1.trans hu2).trans hu3,fun x hx=>by simp at hx;omega⟩;refine ⟨?_,?_,(hN.upd hu2 σ σ).upd hu3 σ σ,((eZ.made w2).upd ((aa.refl [] _).alloc _) σ).ext (fun k=>?_),?_,NS.mg n h,ω,fun x _=>Α ⟨rfl,NS.wL n x⟩,rfl,fun i h1 h2=>by simp at h2;omega,ω⟩
 ·rw [hcs];exact hh
 ·rw [hcs];refine (hr2.upd hu3 σ).ext (fun j hj=>?_);have hz:(Value.agg #[.int .i64 0,.int .i64 0,.int .u64 0]).cells=#[.int .i64 0,.int .i64 0,.int .u64 0]:=rfl;rw [hz];unfold lq Cl.z;have:=Ij n j hj;rw [this]
 ·unfold jh;have:dG (NS.new n) k=0:=by
   rcases Nat.eq_zero_or_pos (dG (NS.new n) k) with h'|h'
   ·exact h'
   ·obtain ⟨x,_,h1,h2⟩:=dL.1 h';rw [NS.wL] at h1;have:(0:Int)=k:=h1;omega
  rw [this];rfl
 ·exact ⟨σ,σ,fun i h1 h2=>by simp at h2;omega,fun i h1 h2=>by simp at h2;omega,fun i h1 h2=>by simp at h2;omega,fun i h1 h2=>by simp at h2;omega⟩
def rZ (A:NS) (h:Int):NS:=match bB A h with|some m=>aN A m|none=>A
def MU (ty:TypeId) (p:Nat) (name:String) (w:World) (mk:Value->Array Value) (Q:World->Ending->World->Prop):Prop:=
 ∃f v,Enters f/\∀W,aa [] w W->(method 429 ty (.pointer (some ⟨p,0,none⟩)) name).run Tryz.prog W=.ok (f,v) W/\Calls Tryz.prog f (mk v) W (Q W)
theorem MU.now {ty:TypeId} {p:Nat} {name:String} {w:World} {mk:Value->Array Value} {Q:World->Ending->World->Prop} (h:MU ty p name w mk Q) :
  ∃f v,Enters f/\(method 429 ty (.pointer (some ⟨p,0,none⟩)) name).run Tryz.prog w=.ok (f,v) w/\Calls Tryz.prog f (mk v) w (Q w):=by
 obtain ⟨f,v,he,h⟩:=h;exact ⟨f,v,he,h w (aa.refl _ _)⟩
theorem oZ {A:NS} {x:Int} (hB:bV A x=true):∃y:Nat,x=y:=⟨x.toNat,by have:=(xk _ _).1 hB;omega⟩
theorem aX {ty:TypeId} {p:Nat} {name:String} {w:World} {mk:Value->Array Value} {Q:World->Ending->World->Prop} (f:FuncId) (he:Enters f) (hm:∀W,(method 429 ty (.pointer (some ⟨p,0,none⟩)) name).run Tryz.prog W=.ok (f,.pointer (some ⟨p,0,none⟩)) W)
  (hc:∀W,aa [] w W->Calls Tryz.prog f (mk (.pointer (some ⟨p,0,none⟩))) W (Q W)):MU ty p name w mk Q:=⟨f,_,he,fun W hW=>⟨hm W,hc W hW⟩⟩
theorem gN {ty:TypeId} {p c:Nat} {name:String} {w:World} {mk:Value->Array Value} {Q:World->Ending->World->Prop} (f:FuncId) (he:Enters f) (h0:w.cell? ⟨p,0,none⟩=some (.pointer (some ⟨c,0,none⟩)))
  (hm:∀W,W.cell? ⟨p,0,none⟩=some (.pointer (some ⟨c,0,none⟩))->(method 429 ty (.pointer (some ⟨p,0,none⟩)) name).run Tryz.prog W=.ok (f,.pointer (some ⟨c,0,none⟩)) W)
  (hc:∀W,aa [] w W->Calls Tryz.prog f (mk (.pointer (some ⟨c,0,none⟩))) W (Q W)):MU ty p name w mk Q:=⟨f,_,he,fun W hW=>⟨hm W (hW.was h0),hc W hW⟩⟩
structure dV where
 ty:TypeId
 at_:World->Nat->List Nat->NS->Prop
 upd:∀ {w w':World} {p:Nat} {F S:List Nat} {A:NS},at_ w p F A->aa S w w'->(∀x,x∈S->x∉F)->at_ w' p F A
 lt:∀ {w:World} {p:Nat} {F:List Nat} {A:NS},at_ w p F A->∀x,x∈F->x<w.heap.size
 ok:∀ {w:World} {p:Nat} {F:List Nat} {A:NS},at_ w p F A->A.Ok
 make:∀ {w:World} {p:Nat} {F:List Nat} {A:NS},at_ w p F A->MU ty p "Make" w (fun v=>#[v]) fun w e w'=>e=.returned (.int .i64 (bS A))/\Goes F w w' (fun F'=>at_ w' p F' (aC A))
 insert:∀ {w:World} {p:Nat} {F:List Nat} {A:NS} (h x:Nat) (k s:Int),(-9223372036854775808<=k/\k<=9223372036854775807/\0<=s/\s<=18446744073709551615)->iM A h x=true->at_ w p F A->MU ty p "Insert" w (fun v=>#[v,.int .i64 (h:Int),.int .i64 (x:Int),.agg #[.int .i64 k,.int .u64 s]]) fun w e w'=>e=.returned (.bool true)/\Goes F w w' (fun F'=>at_ w' p F' (az A h x k s))
 min:∀ {w:World} {p:Nat} {F:List Nat} {A:NS} (h:Nat),bq A h=true->at_ w p F A->MU ty p "Min" w (fun v=>#[v,.int .i64 (h:Int)]) fun w e w'=>e=.returned (.tuple #[.int .i64 (nO (bB A h)),.bool (bB A h).isSome])/\Goes F w w' (fun F'=>at_ w' p F' A)
 extract:∀ {w:World} {p:Nat} {F:List Nat} {A:NS} (h m:Nat),bB A h=some m->at_ w p F A->MU ty p "Extract" w (fun v=>#[v,.int .i64 (h:Int)]) fun w e w'=>e=.returned (.tuple #[.int .i64 (m:Int),.bool true])/\Goes F w w' (fun F'=>at_ w' p F' (aN A m))
 has:∀ {w:World} {p:Nat} {F:List Nat} {A:NS} (x:Int),at_ w p F A->MU ty p "Has" w (fun v=>#[v,.int .i64 x]) fun w e w'=>e=.returned (.bool (bq A x))/\w'=w
 entry:∀ {w:World} {p:Nat} {F:List Nat} {A:NS} (x:Int),at_ w p F A->MU ty p "Entry" w (fun v=>#[v,.int .i64 x]) fun w e w'=>e=.returned (.tuple #[.agg #[.int .i64 (if bV A x then (A.c x.toNat).k else 0),.int .u64 (if bV A x then (A.c x.toNat).s else 0)],.bool (bV A x)])/\aa [] w w'
end Go.Proofs.YtklibcncmbofpaaGreat
namespace Go.Proofs.YtklibcncmbofpaaGreat
open Go Go.RowKit Go.Maps
theorem Zo:laidOutB Tryz.prog=true:=by kernel_rfl
theorem qG:Keyed Tryz.prog 85:=Keyed.of_law (Go.deep_law_laid Zo (m:=3) ω (Ϧ (by kernel_rfl)) (by kernel_rfl) (by rw [Tryz.underlying85]))
def hV (x g:Int):Value:=.agg #[.int .i64 x,.int .u32 g]
theorem Ro {x g:Int} (hx:-9223372036854775808<=x/\x<=9223372036854775807) (hg:0<=g/\g<=4294967295):∃l,keyOf Tryz.prog 85 (hV x g)=some l:=by
 have h1:Tryz.prog.keyType 85=true:=by kernel_rfl
 have h2:(hV x g).formed Tryz.prog 85=true:=by
  unfold hV Value.formed;simp only [Tryz.underlying85];rw [show Tryz.prog.cellsOf 85=2 by kernel_rfl]
  rfl
 have c0:Tryz.prog.cellsOf 3=1:=by kernel_rfl
 have c1:Tryz.prog.cellsOf 83=1:=by kernel_rfl
 have c2:Tryz.prog.cellsOf 85=2:=by kernel_rfl
 have w0:(Lit.int .i64 x).wf=true:=WalkArith.wf_i64 hx;have w1:(Lit.int .u32 g).wf=true:=by simp [Lit.wf,IntKind.min,IntKind.max,IntKind.signed,IntKind.bits];omega
 have key:∀n,Tryz.prog.keyLits (n+1+1) 85 [.int .i64 x,.int .u32 g]=some [.int .i64 x,.int .u32 g]:=fun n=>by
  simp [Program.keyLits,Tryz.underlying85,Tryz.underlying3,Tryz.underlying83,c0,c1,c2,w0,w1]
 have hpos:0<Tryz.prog.types.size:=Ϧ (by kernel_rfl);obtain ⟨n,hn⟩:∃n,Tryz.prog.types.size+1=n+1+1:=⟨Tryz.prog.types.size-1,ω⟩;refine ⟨.string (keyBytes [.int .i64 x,.int .u32 g]),?_⟩;unfold keyOf;rw [Tryz.underlying85];simp only [];rw [Δ (by rw [h1,h2];rfl),hn,show (hV x g).cells.toList=[.int .i64 x,.int .u32 g] from rfl,key]
 rfl
theorem OJ {x g x' g':Int} (h:hV x g=hV x' g'):x=x'/\g=g':=by
 unfold hV at h;simp only [Value.agg.injEq] at h;have h2:=congrArg Array.toList h;simp at h2;exact h2
def lU (w:World) (b c:Nat) (f:Int->Int->Option Int):Prop:=
 ∃D:DataW Unit,w.ownsMap Tryz.prog 85 (plainElem Tryz.prog 3) b c D/\∀x g z kl,f x g=some z->keyOf Tryz.prog 85 (hV x g)=some kl->∀d,D.atKey kl d=.lit (.int .i64 z)
theorem lU.upd {w w':World} {S:List Nat} {b c:Nat} {f:Int->Int->Option Int} (h:lU w b c f) (hu:aa S w w') (hn:b∉S):lU w' b c f:=by
 obtain ⟨D,h1,h3⟩:=h;have hl:=h1.lt;obtain ⟨es,clock,h1,h2⟩:=h1;exact ⟨D,⟨es,clock,(hu.block b hl hn).trans h1,h2⟩,h3⟩
theorem lU.lt {w:World} {b c:Nat} {f:Int->Int->Option Int} (h:lU w b c f):b<w.heap.size:=by
 obtain ⟨D,h1,_⟩:=h;exact h1.lt
theorem lU.made (w:World):lU (w.alloc (.map #[] 0)) w.heap.size 0 (fun _ _=>none):=
 ⟨.map [],World.ownsMap_made w _ _ _,fun x g z kl hz=>by cases hz⟩
theorem lU.look {w:World} {b c:Nat} {f:Int->Int->Option Int} (h:lU w b c f) {x g z:Int} (hz:f x g=some z) (hx:-9223372036854775808<=x/\x<=9223372036854775807) (hg:0<=g/\g<=4294967295) :
  (Instr.lookup 82 (.map (some b)) (hV x g) false).run Tryz.prog w=.ok (.int .i64 z) w:=by
 obtain ⟨D,h1,h3⟩:=h;obtain ⟨kl,hk⟩:=Ro hx hg;obtain ⟨c',hrun,hat,_⟩:=h1.lookup_int qG Tryz.underlying82 Tryz.underlying3 (CL w) hk;rw [hrun];rw [h3 x g z kl hz hk] at hat;have:z=c':=by simpa using hat
 rw [this]
theorem lU.store {w:World} {b c:Nat} {f:Int->Int->Option Int} (h:lU w b c f) (hc:c<9223372036854775807) (x g z:Int) (hx:-9223372036854775808<=x/\x<=9223372036854775807) (hg:0<=g/\g<=4294967295) (hz:-9223372036854775808<=z/\z<=9223372036854775807) :
  ∃w',(Instr.mapUpdate 82 (.map (some b)) (hV x g) (.int .i64 z)).run Tryz.prog w=.ok () w'/\lU w' b (c+1) (fun y e=>if y=x/\e=g then some z else f y e)/\aa [b] w w':=by
 obtain ⟨D,h1,h3⟩:=h;obtain ⟨kl,hk⟩:=Ro hx hg;obtain ⟨w',hrun,ho,ht⟩:=h1.store qG Tryz.underlying82 μ hk (plainElem_int Tryz.underlying3 (a:=z) (WalkArith.wf_i64 hz));have hD:=h1.isMap;refine ⟨w',hrun,⟨_,ho,fun y e u Ea hf hk2 d=>?_⟩,nE ht⟩
 replace hf:(if y=x/\e=g then some z else f y e)=some u:=hf
 by_cases e1:y=x/\e=g
 ·rw [Δ e1] at hf;obtain ⟨rfl,rfl⟩:=e1;rw [hk] at hk2;cases hk2;cases hf;exact atKey_put_same hD (qG.key hk) _ _
 ·rw [Γ e1] at hf;have hne:Ea≠kl:=fun e2=>e1 (OJ (qG.inj (by rw [hk2,e2]) hk));rw [atKey_put_other hne];exact h3 y e u Ea hf hk2 d
theorem SA {w:World} {o:Oper} {a:Act} {K:Act->World->Prop} {Q:Exit->Act->World->Prop} (m x v:Operand) (hop:o.op=Op.mapUpdate 82 m x v)
  (b c:Nat) (f:Int->Int->Option Int) (hm:a.eval m=.map (some b)) (h:lU w b c f) (hc:c<9223372036854775807) (k g z:Int) (hx:a.eval x=hV k g) (hv:a.eval v=.int .i64 z) (hk:-9223372036854775808<=k/\k<=9223372036854775807) (hg:0<=g/\g<=4294967295) (hz:-9223372036854775808<=z/\z<=9223372036854775807)
  (hK:∀w',lU w' b (c+1) (fun y e=>if y=k/\e=g then some z else f y e)->aa [b] w w'->K (a.put o.dst undef) w'):Oper.wp Tryz.prog o a w K Q:=by
 obtain ⟨w',hrun,r1,r2⟩:=h.store hc k g z hk hg hz;unfold Oper.wp;simp [execOp,hop,hm,hx,hv,hrun,Result.andThen];exact hK w' r1 r2
end Go.Proofs.YtklibcncmbofpaaGreat
namespace Go.Proofs.YtklibcncmbofpaaGreat
open Go Go.RowKit
abbrev Pl:=Nat×Nat
def EM (p q:Pl):Prop:=p.1<q.1\/(p.1=q.1/\p.2<q.2)
def mo (p q:Pl):Prop:=p.1<q.1\/(p.1=q.1/\p.2<=q.2)
theorem mo.Ce {p q:Pl} (h:¬EM q p):mo p q:=by unfold EM at h;unfold mo;omega
theorem mo.of_lt {p q:Pl} (h:EM p q):mo p q:=by unfold EM at h;unfold mo;omega
theorem mo.trans {p q r:Pl} (h:mo p q) (k:mo q r):mo p r:=by unfold mo at *;omega
theorem mo.refl (p:Pl):mo p p:=by unfold mo;omega
def DL (p q:Pl):Int:=if p.1≠q.1 then (p.1:Int)-q.1 else (p.2:Int)-q.2
theorem mQ (p q:Pl):decide (DL p q<0)=true↔EM p q:=by
 unfold DL EM;rw [Ο]
 split<;>omega
def fw (l:List Pl):Prop:=l.Pairwise mo
theorem fw.at {l:List Pl} (h:fw l) {i j:Nat} {p q:Pl} (hi:l[i]?=some p) (hj:l[j]?=some q) (hij:i<=j):mo p q:=by
 obtain ⟨h1,rfl⟩:=List.getElem?_eq_some_iff.1 hi;obtain ⟨h2,rfl⟩:=List.getElem?_eq_some_iff.1 hj;rcases (ω:i=j\/i<j) with rfl|h3
 ·exact mo.refl _
 ·exact List.pairwise_iff_getElem.1 h i j h1 h2 h3
theorem BR {a b:List Pl} (ha:fw a) (hb:fw b) (h:∀x,x∈a->∀y,y∈b->mo x y):fw (a++b):=List.pairwise_append.2 ⟨ha,hb,h⟩
theorem DC {α:Type} (P M S:List α) (x y:α):((P++x::(M++y::S)).set P.length y).set (P.length+(M.length+1)) x=P++y::(M++x::S):=by
 simp [List.set_append]
theorem vL {A B:List Pl} (hA:fw A) (hB:fw B) {i j:Nat} (hi:i<=A.length) (hj:j<=B.length)
  (h1:i=0\/j=B.length\/∃p q,A[i-1]?=some p/\B[j]?=some q/\mo p q)
  (h2:j=0\/i=A.length\/∃p q,B[j-1]?=some p/\A[i]?=some q/\mo p q) :
  ∀x,x∈A.take i++B.take j->∀y,y∈A.drop i++B.drop j->mo x y:=by
 have key:∀ {C D:List Pl},fw C->fw D->∀ {i j:Nat},i<=C.length->(i=0\/j=D.length\/∃p q,C[i-1]?=some p/\D[j]?=some q/\mo p q)->∀x,x∈C.take i->∀y,y∈D.drop j->mo x y:=by
  intro C D hC hD i j hi h x hx y hy;obtain ⟨m,hm,rfl⟩:=List.mem_iff_getElem.1 hx;obtain ⟨k,hk,rfl⟩:=List.mem_iff_getElem.1 hy;rw [ϑ] at hm;rw [ϒ] at hk;rcases h with h|h|⟨p,q,hp,hq,hpq⟩
  ·omega
  ·omega
  ·have e1:C[m]?=some ((C.take i)[m]):=by rw [List.getElem_take];exact ε _
   have e2:D[j+k]?=some ((D.drop j)[k]):=by rw [List.getElem_drop];exact ε _
   exact (hC.at e1 hp ω).trans (hpq.trans (hD.at hq e2 ω))
 intro x hx y hy;rcases τ.1 hx with hx|hx<;>rcases τ.1 hy with hy|hy
 ·obtain ⟨m,hm,rfl⟩:=List.mem_iff_getElem.1 hx;obtain ⟨k,hk,rfl⟩:=List.mem_iff_getElem.1 hy;rw [ϑ] at hm;rw [ϒ] at hk;have e1:A[m]?=some ((A.take i)[m]):=by rw [List.getElem_take];exact ε _
  have e2:A[i+k]?=some ((A.drop i)[k]):=by rw [List.getElem_drop];exact ε _
  exact hA.at e1 e2 ω
 ·exact key hA hB hi h1 x hx y hy
 ·exact key hB hA hj h2 x hx y hy
 ·obtain ⟨m,hm,rfl⟩:=List.mem_iff_getElem.1 hx;obtain ⟨k,hk,rfl⟩:=List.mem_iff_getElem.1 hy;rw [ϑ] at hm;rw [ϒ] at hk;have e1:B[m]?=some ((B.take j)[m]):=by rw [List.getElem_take];exact ε _
  have e2:B[j+k]?=some ((B.drop j)[k]):=by rw [List.getElem_drop];exact ε _
  exact hB.at e1 e2 ω
theorem J6 {B:List Pl} {x:Pl} {i:Nat} (hB:fw B) (hi:i<=B.length) (h1:i=0\/∃p,B[i-1]?=some p/\mo p x) (h2:i=B.length\/∃q,B[i]?=some q/\mo x q):fw (B.take i++x::B.drop i):=by
 have hx:fw [x]:=List.pairwise_singleton _ _
 have h:=vL (A:=[x]) (B:=B) (i:=0) (j:=i) hx hB σ hi (Α rfl) (by
  rcases h1 with h|⟨p,hp,hq⟩
  ·exact Α h
  ·exact Β (Β ⟨p,x,hp,σ,hq⟩))
 have h':∀y,y∈B.drop i->mo x y:=by
  have h3:=vL (A:=[x]) (B:=B) (i:=1) (j:=i) hx hB σ hi (by
   rcases h2 with h|⟨q,hq,hl⟩
   ·exact Β (Α h)
   ·exact Β (Β ⟨x,q,σ,hq,hl⟩)) (Β (Α σ))
  intro y hy;exact h3 x σ y (by simp [hy])
 refine BR (List.Pairwise.sublist (List.take_sublist _ _) hB) (List.pairwise_cons.2 ⟨h',List.Pairwise.sublist (List.drop_sublist _ _) hB⟩) ?_;intro a ha b hb;exact h a (by simpa using ha) b (by simpa using hb)
theorem EF {α:Type} (B:List α) (x:α) (i:Nat):(B.take i++x::B.drop i).Perm (x::B):=by
 have h:=@List.perm_middle _ x (B.take i) (B.drop i);rwa [Ϟ] at h
theorem SK {C D:List Pl} {x:Pl} (h:fw (C++D)) (h1:∀y,y∈C->mo y x) (h2:∀y,y∈D->mo x y):fw (C++x::D):=by
 obtain ⟨a,b,c⟩:=List.pairwise_append.1 h;refine BR a (List.pairwise_cons.2 ⟨h2,b⟩) ?_;intro y hy z hz;rcases ρ.1 hz with rfl|hz
 ·exact h1 y hy
 ·exact c y hy z hz
inductive Cx (k:Nat):List Pl->Prop
 | last (l:List Pl):l.length<=k->fw l->Cx k l
 | cons (C R:List Pl):C.length=k->fw C->Cx k R->Cx k (C++R)
theorem Cx.small {k:Nat} {R:List Pl} (h:Cx k R) (hl:R.length<=k):fw R:=by
 cases h with
 | last _ _ h=>exact h
 | cons C R hC hs h=>
  rw [υ] at hl;obtain rfl:R=[]:=ϟ ω;simpa using hs
theorem Cx.one {k:Nat} {R:List Pl} (h:Cx k R) (hl:k<R.length):∃C R',R=C++R'/\C.length=k/\fw C/\Cx k R':=by
 cases h with
 | last _ h _=>omega
 | cons C R hC hs h=>exact ⟨C,R,rfl,hC,hs,h⟩
theorem Cx.two {k:Nat} {R:List Pl} (hk:0<k) (h:Cx k R) (hl:2*k<=R.length):∃C D R',R=C++(D++R')/\C.length=k/\D.length=k/\fw C/\fw D/\Cx k R':=by
 obtain ⟨C,R1,rfl,hC,sC,h1⟩:=h.one ω;rw [υ] at hl;cases h1 with
 | last _ h1 h2=>exact ⟨C,R1,[],σ,hC,ω,sC,h2,.last [] σ List.Pairwise.nil⟩
 | cons D R2 hD sD h2=>exact ⟨C,D,R2,rfl,hC,hD,sC,sD,h2⟩
end Go.Proofs.YtklibcncmbofpaaGreat
namespace Go.Proofs.YtklibcncmbofpaaGreat
open Go Go.RowKit Go.Maps
def RY (p:Pl):Value:=.agg #[.int .i64 (p.1:Int),.int .i64 (p.2:Int)]
def plR (v:Value):Option (DataW Unit×List MemPlace):=
 match v with
 | .agg ⟨[.int .i64 a,.int .i64 b]⟩=>some (.map [(.int .i64 a,.lit (.int .i64 b))],[])
 | _=>none
theorem JH (p:Pl):plR (RY p)=some (.map [(.int .i64 (p.1:Int),.lit (.int .i64 (p.2:Int)))],[]):=rfl
theorem Tj {v:Value} {p:Pl} {ps:List MemPlace} (h:plR v=some (.map [(.int .i64 (p.1:Int),.lit (.int .i64 (p.2:Int)))],ps)):v=RY p:=by
 unfold plR at h
 split at h
 ·rename_i a b
  simp only [ϙ,Prod.mk.injEq,DataW.map.injEq,List.cons.injEq,Lit.int.injEq,DataW.lit.injEq,true_and,and_true] at h;unfold RY;rw [h.1.1,h.1.2]
 ·cases h
def pW (w:World) (b c:Nat) (f:Int->Int->Option Pl):Prop:=
 ∃D:DataW Unit,w.ownsMap Tryz.prog 85 plR b c D/\∀x g p kl,f x g=some p->keyOf Tryz.prog 85 (hV x g)=some kl->∀d,D.atKey kl d=.map [(.int .i64 (p.1:Int),.lit (.int .i64 (p.2:Int)))]
theorem pW.upd {w w':World} {S:List Nat} {b c:Nat} {f:Int->Int->Option Pl} (h:pW w b c f) (hu:aa S w w') (hn:b∉S):pW w' b c f:=by
 obtain ⟨D,h1,h3⟩:=h;have hl:=h1.lt;obtain ⟨es,clock,h1,h2⟩:=h1;exact ⟨D,⟨es,clock,(hu.block b hl hn).trans h1,h2⟩,h3⟩
theorem pW.lt {w:World} {b c:Nat} {f:Int->Int->Option Pl} (h:pW w b c f):b<w.heap.size:=by
 obtain ⟨D,h1,_⟩:=h;exact h1.lt
theorem pW.made (w:World):pW (w.alloc (.map #[] 0)) w.heap.size 0 (fun _ _=>none):=
 ⟨.map [],World.ownsMap_made w _ _ _,fun x g z kl hz=>by cases hz⟩
theorem VT (w:World):(zeroValue 53).run Tryz.prog w=.ok (RY (0,0)) w:=by kernel_rfl
theorem pW.look {w:World} {b c:Nat} {f:Int->Int->Option Pl} (h:pW w b c f) {x g:Int} {p:Pl} (hz:f x g=some p) (hx:-9223372036854775808<=x/\x<=9223372036854775807) (hg:0<=g/\g<=4294967295) :
  (Instr.lookup 94 (.map (some b)) (hV x g) false).run Tryz.prog w=.ok (RY p) w:=by
 obtain ⟨D,h1,h3⟩:=h;obtain ⟨kl,hk⟩:=Ro hx hg;obtain ⟨v,ps,hrun,hat⟩:=h1.lookup qG Tryz.underlying94 (VT w) (JH (0,0)) hk;rw [h3 x g p kl hz hk] at hat;rw [hrun,Tj hat]
theorem pW.store {w:World} {b c:Nat} {f:Int->Int->Option Pl} (h:pW w b c f) (hc:c<9223372036854775807) (x g:Int) (p:Pl) (hx:-9223372036854775808<=x/\x<=9223372036854775807) (hg:0<=g/\g<=4294967295) :
  ∃w',(Instr.mapUpdate 94 (.map (some b)) (hV x g) (RY p)).run Tryz.prog w=.ok () w'/\pW w' b (c+1) (fun y e=>if y=x/\e=g then some p else f y e)/\aa [b] w w':=by
 obtain ⟨D,h1,h3⟩:=h;obtain ⟨kl,hk⟩:=Ro hx hg;have hD:=h1.isMap;obtain ⟨w',hrun,ho,ht⟩:=h1.update qG Tryz.underlying94 μ hk (JH p);refine ⟨w',hrun,⟨_,ho,fun y e u Ea hf hk2 d=>?_⟩,(aa.refl _ _).grown ht (fun k hk=>Α (by simp at hk;simp [hk]))⟩
 replace hf:(if y=x/\e=g then some p else f y e)=some u:=hf
 by_cases e1:y=x/\e=g
 ·rw [Δ e1] at hf;obtain ⟨rfl,rfl⟩:=e1;rw [hk] at hk2;cases hk2;cases hf;exact atKey_put_same hD (qG.key hk) _ _
 ·rw [Γ e1] at hf;have hne:Ea≠kl:=fun e2=>e1 (OJ (qG.inj (by rw [hk2,e2]) hk));rw [atKey_put_other hne];exact h3 y e u Ea hf hk2 d
end Go.Proofs.YtklibcncmbofpaaGreat
namespace Go.Proofs.YtklibcncmbofpaaGreat
open Go Go.RowKit
structure PR (w:World) (g:Nat) (l:List Pl):Prop where
 lt:g<w.heap.size
 a:∀j p,l[j]?=some p->w.cell? ⟨g,j*2,none⟩=some (.int .i64 (p.1:Int))
 b:∀j p,l[j]?=some p->w.cell? ⟨g,j*2+1,none⟩=some (.int .i64 (p.2:Int))
 f:∀k,w.frozen? ⟨g,k,none⟩=false
 s:∀p,p∈l->p.1<1000000/\p.2<1000000
theorem PR.upd {w w':World} {g:Nat} {l:List Pl} {S:List Nat} (h:PR w g l) (hu:aa S w w') (hn:g∉S):PR w' g l:=
 ⟨Ψ h.lt hu.size,fun j p hj=>hu.kept (h.a j p hj) hn,fun j p hj=>hu.kept (h.b j p hj) hn,fun k=>by rw [hu.frozen (p:=⟨g,k,none⟩) h.lt hn];exact h.f k,h.s⟩
theorem qI (p q:Pl) (hp:p.1<1000000/\p.2<1000000) (hq:q.1<1000000/\q.2<1000000) (w:World) :
  Calls Tryz.prog 73 #[.agg #[.int .i64 (p.1:Int),.int .i64 (p.2:Int)],.agg #[.int .i64 (q.1:Int),.int .i64 (q.2:Int)]] w fun e w'=>e=.returned (.int .i64 (DL p q))/\aa [] w w':=by
 obtain ⟨a,b⟩:=p;obtain ⟨c,d⟩:=q;have h1:IntKind.i64.wrap ((a:Int)-(c:Int))=(a:Int)-c:=Μ _ ω;have h2:IntKind.i64.wrap ((b:Int)-(d:Int))=(b:Int)-d:=Μ _ ω;unfold DL;dsimp only
 by_cases hac:a=c
 ·rw [Γ (by simpa using hac)];have e:((a:Int) != (c:Int))=false:=by simp [hac]
  clear hp hq
  go_enter Tryz.func73,Tryz.ntmps73
  go_wp2;go_ret;exact ⟨rfl,β⟩
 ·rw [Δ hac];have e:((a:Int) != (c:Int))=true:=ζ;clear hp hq
  go_enter Tryz.func73,Tryz.ntmps73
  go_wp2;go_ret;exact ⟨rfl,β⟩
theorem PR.mid {w:World} {g:Nat} {P M S:List Pl} {x y:Pl} {i j:Nat} (h:PR w g (P++x::(M++y::S))) (hi:i=P.length) (hj:j=P.length+(M.length+1)) :
  (w.cell? ⟨g,i*2,none⟩=some (.int .i64 (x.1:Int))/\w.cell? ⟨g,i*2+1,none⟩=some (.int .i64 (x.2:Int)))/\(w.cell? ⟨g,j*2,none⟩=some (.int .i64 (y.1:Int))/\w.cell? ⟨g,j*2+1,none⟩=some (.int .i64 (y.2:Int))):=by
 subst hi;subst hj;have e1:(P++x::(M++y::S))[P.length]?=some x:=σ;have e2:(P++x::(M++y::S))[P.length+(M.length+1)]?=some y:=by
  rw [ϊ ω,show P.length+(M.length+1)-P.length=M.length+1 by omega];simp
 exact ⟨⟨h.a _ _ e1,h.b _ _ e1⟩,⟨h.a _ _ e2,h.b _ _ e2⟩⟩
theorem PR.Dx {w:World} {g:Nat} {l:List Pl} (h:PR w g l) {i:Nat} (hi:i<l.length) (p:Pl) (hp:p.1<1000000/\p.2<1000000):PR ((w.setCell ⟨g,i*2,none⟩ (.int .i64 (p.1:Int))).setCell ⟨g,i*2+1,none⟩ (.int .i64 (p.2:Int))) g (l.set i p):=by
 have h0:=h.a i _ (ε hi);have h1:=h.b i _ (ε hi);have e1:((w.setCell ⟨g,i*2,none⟩ (.int .i64 (p.1:Int))).cell? ⟨g,i*2+1,none⟩)=some (.int .i64 ((l[i]).2:Int)):=by
  rw [ϩ _ _ _ _ σ];exact h1
 refine ⟨by simpa using h.lt,fun j q hj=>?_,fun j q hj=>?_,fun k=>by simp [h.f],fun q hq=>?_⟩
 ·by_cases e:i=j
  ·subst e;rw [ώ hi] at hj;cases hj;rw [ϩ _ _ _ _ σ,World.cell?_setCell_same _ _ _ h0]
  ·rw [Ϗ e] at hj;rw [ϩ _ _ _ _ ι,ϩ _ _ _ _ ι];exact h.a j q hj
 ·by_cases e:i=j
  ·subst e;rw [ώ hi] at hj;cases hj;rw [World.cell?_setCell_same _ _ _ e1]
  ·rw [Ϗ e] at hj;rw [ϩ _ _ _ _ ι,ϩ _ _ _ _ ι];exact h.b j q hj
 ·rcases List.mem_or_eq_of_mem_set hq with h'|rfl
  ·exact h.s q h'
  ·exact hp
theorem PR.swap {w:World} {g:Nat} {P M S:List Pl} {x y:Pl} {i j:Nat} (h:PR w g (P++x::(M++y::S))) (hi:i=P.length) (hj:j=P.length+(M.length+1)) :
  (∀W,W=((((w.setCell ⟨g,i*2,none⟩ (.int .i64 (y.1:Int))).setCell ⟨g,i*2+1,none⟩ (.int .i64 (y.2:Int))).setCell ⟨g,j*2,none⟩ (.int .i64 (x.1:Int))).setCell ⟨g,j*2+1,none⟩ (.int .i64 (x.2:Int)))->PR W g (P++y::(M++x::S)))/\
  (∀W,W=((((w.setCell ⟨g,j*2,none⟩ (.int .i64 (x.1:Int))).setCell ⟨g,j*2+1,none⟩ (.int .i64 (x.2:Int))).setCell ⟨g,i*2,none⟩ (.int .i64 (y.1:Int))).setCell ⟨g,i*2+1,none⟩ (.int .i64 (y.2:Int)))->PR W g (P++y::(M++x::S))):=by
 have hx:=h.s x σ;have hy:=h.s y σ;have h1:=(h.Dx (i:=i) ζ y hy).Dx (i:=j) ζ x hx;have h2:=(h.Dx (i:=j) ζ x hx).Dx (i:=i) ζ y hy;subst hi;subst hj;rw [DC] at h1;rw [List.set_comm _ _ ω,DC] at h2;exact ⟨fun W e=>e▸h1,fun W e=>e▸h2⟩
theorem PR.drew {w:World} {g:Nat} {l:List Pl} (h:PR w g l):PR w.drew g l:=h.upd ((aa.refl [] w).drew) σ
theorem pz {g:Nat} {l:List Pl} {w1 w2 W:World} (h:(∀W,W=w1->PR W g l)/\(∀W,W=w2->PR W g l)) (e:W=w1\/W=w2):PR W g l:=e.elim (h.1 W) (h.2 W)
theorem PR.len {w:World} {g:Nat} {l l':List Pl} (h:PR w g l) (e:l=l'):PR w g l':=e▸h
theorem BM (w:World) (g n cap a b m:Nat) (P X M Y S:List Pl) (vf:Value) (h:PR w g (P++(X++(M++(Y++S))))) (hn:(P++(X++(M++(Y++S)))).length=n) (hc:n<=1000000) (hXY:X.length=Y.length) (ha:a=P.length) (hb:b=a+X.length+M.length) (hm:m=X.length) :
  Calls Tryz.prog 116 #[.slice (some ⟨g,0,none⟩) n cap,.int .i64 (a:Int),.int .i64 (b:Int),.int .i64 (m:Int),vf] w fun e w'=>e=.returned (.tuple #[])/\PR w' g (P++(Y++(M++(X++S))))/\aa [g] w w':=by
 simp only [υ] at hn;have HL:=χ (ψ ha (ψ hb (ψ hm (ψ hXY hn))));have hbn:b+m<=n:=ω;have ham:a+m<=b:=ω;clear ha hb hn;have H0:=χ h;clear h
 go_enter Tryz.func116,Tryz.ntmps116
 go_wp2
 go_loopw [10] (fun iv wr=>∃k:Nat,k<=m/\iv=.int .i64 (k:Int)/\PR wr g (P++((Y.take k++X.drop k)++(M++((X.take k++Y.drop k)++S))))/\aa [g] w wr) (fun iv _=>m-(intOf iv).toNat)
 case atStart=>exact ⟨0,ω,rfl,by simpa using H0.out,aa.refl _ _⟩
 case round=>
  obtain ⟨k,hk,rfl,hP,hu⟩:=hrel;rename World=>wr
  by_cases QZ:k<m
  ·have Gd:(k:Int)<(m:Int):=ω;have hX:k<X.length:=by have:=HL.out;omega
   have hY:k<Y.length:=by have:=HL.out;omega
   obtain ⟨x,hx⟩:∃x,X.drop k=x::X.drop (k+1):=⟨X[k],Ϣ hX⟩;obtain ⟨y,hy⟩:∃y,Y.drop k=y::Y.drop (k+1):=⟨Y[k],Ϣ hY⟩;have hP':PR wr g ((P++Y.take k)++x::((X.drop (k+1)++(M++X.take k))++y::(Y.drop (k+1)++S))):=hP.len (by rw [hx,hy];simp);have i1:a+k=(P++Y.take k).length:=by have:=HL.out;simp;omega
   have i2:b+k=(P++Y.take k).length+((X.drop (k+1)++(M++X.take k)).length+1):=by have:=HL.out;simp;omega
   obtain ⟨⟨c0,c1⟩,c2,c3⟩:=hP'.mid i1 i2;have f0:=hP'.f ((a+k)*2);have f1:=hP'.f ((a+k)*2+1);have f2:=hP'.f ((b+k)*2);have f3:=hP'.f ((b+k)*2+1);have hgl:=hP'.lt;have g1:((a+k:Nat):Int)<(n:Int):=ω;have g2:((b+k:Nat):Int)<(n:Int):=ω;have w1:IntKind.i64.wrap ((a:Int)+(k:Int))=((a+k:Nat):Int):=by rw [Μ _ ω];omega
   have w2:IntKind.i64.wrap ((b:Int)+(k:Int))=((b+k:Nat):Int):=by rw [Μ _ ω];omega
   have hne:¬a+k=b+k:=ω;have HP:=χ hP';have HS:=χ (hP'.swap i1 i2);have HE:=χ (ψ hx hy);clear hP hP' hx hy i1 i2;generalize a+k=i at *;generalize b+k=j at *;go_wp2
   go_region
   all_goals
    go_wp2;refine ⟨⟨k+1,ω,by go_num,?_,β⟩,by simp [intOf];omega⟩;refine PR.len (pz HS.out ?_).drew ?_
    ·first|exact Α rfl|exact Β rfl
    ·have hx:=HE.out.1;have hy:=HE.out.2;have e1:X.take (k+1)=X.take k++[x]:=by rw [ϐ];congr 1;have:=congrArg (fun l=>l[0]?) hx;simp at this;rw [this];rfl
     have e2:Y.take (k+1)=Y.take k++[y]:=by rw [ϐ];congr 1;have:=congrArg (fun l=>l[0]?) hy;simp at this;rw [this];rfl
     rw [e1,e2];simp
  ·have Gd:¬ (k:Int)<(m:Int):=ω;have hkm':k=m:=ω
   have hf:PR wr g (P++(Y++(M++(X++S)))):=hP.len (by
    have h3:=HL.out;rw [List.take_of_length_le ω,List.drop_eq_nil_of_le ω,List.take_of_length_le ω,List.drop_eq_nil_of_le ω]
    simp)
   have HF:=χ hf;clear hf hP;go_wp2;go_end0;exact ⟨rfl,HF.out,hu⟩
theorem SF (w:World) (g n cap a m b:Nat) (P X Y S:List Pl) (vf:Value) (h:PR w g (P++(X++(Y++S)))) (hn:(P++(X++(Y++S))).length=n) (hc:n<=1000000) (ha:a=P.length) (hm:m=a+X.length) (hb:b=m+Y.length) (hX:0<X.length) (hY:0<Y.length) :
  Calls Tryz.prog 113 #[.slice (some ⟨g,0,none⟩) n cap,.int .i64 (a:Int),.int .i64 (m:Int),.int .i64 (b:Int),vf] w fun e w'=>e=.returned (.tuple #[])/\PR w' g (P++(Y++(X++S)))/\aa [g] w w':=by
 simp only [υ] at hn;have CW:m<=n:=ω;have hbn:b<=n:=ω;have w1:IntKind.i64.wrap ((m:Int)-(a:Int))=((X.length:Nat):Int):=by rw [Μ _ ω];omega
 have w2:IntKind.i64.wrap ((b:Int)-(m:Int))=((Y.length:Nat):Int):=by rw [Μ _ ω];omega
 have H0:=χ (ψ h (ψ hX (ψ hY (ψ ha (ψ hm (ψ hb hn))))));clear h hX hY ha hm hb hn;generalize hxl:X.length=xl at *;generalize hyl:Y.length=yl at *;have HX:=χ (ψ hxl hyl);clear hxl hyl
 go_enter Tryz.func113,Tryz.ntmps113
 go_wp2
 go_loopw [10,11] (fun iv jv wr=>∃ (i j:Nat) (P' X' Y' S':List Pl),iv=.int .i64 (i:Int)/\jv=.int .i64 (j:Int)/\i=X'.length/\j=Y'.length/\0<i/\0<j/\P'.length+i=m/\m+j<=n/\PR wr g (P'++(X'++(Y'++S')))/\P'++(Y'++(X'++S'))=P++(Y++(X++S))/\aa [g] w wr) (fun iv jv _=>(intOf iv).toNat + (intOf jv).toNat)
 case atStart=>
  obtain ⟨h1,h2,h3,h4,h5,h6,h7⟩:=H0.out;obtain ⟨h8,h9⟩:=HX.out;exact ⟨xl,yl,P,X,Y,S,rfl,rfl,h8.symm,h9.symm,h2,h3,ω,ω,h1,rfl,aa.refl _ _⟩
 case round=>
  obtain ⟨i,j,P',X',Y',S',rfl,rfl,hi,hj,hi0,hj0,hPm,hmj,hP,hg,hu⟩:=hrel;rename World=>wr;have hln:(P'++(X'++(Y'++S'))).length=n:=by
   have h1:=congrArg List.length hg;obtain ⟨h2,h3,h4,h5,h6,h7,h8⟩:=H0.out;obtain ⟨h9,h10⟩:=HX.out;simp only [υ] at h1 ⊢;omega
  have w3:IntKind.i64.wrap ((m:Int)-(i:Int))=((m-i:Nat):Int):=by rw [Μ _ ω];omega
  rcases Nat.lt_trichotomy i j with hij|hij|hij
  ·have e1:((i:Int) != (j:Int))=true:=ζ;have e2:¬ (i:Int) > (j:Int):=ω;have e2b:decide (j<i)=false:=ζ;obtain ⟨q,hq⟩:∃q:Nat,m+j-i=q:=⟨_,rfl⟩;have w4:IntKind.i64.wrap ((m:Int)+(j:Int))=(m:Int)+(j:Int):=Μ _ ω;have w5:IntKind.i64.wrap ((m:Int)+(j:Int)-(i:Int))=(q:Int):=by rw [Μ _ ω];omega
   have w6:IntKind.i64.wrap ((j:Int)-(i:Int))=((j-i:Nat):Int):=by rw [Μ _ ω];omega
   have hY:Y'=Y'.take (j-i)++Y'.drop (j-i):=(Ϟ _ _).symm;have kc:=BM wr g n cap (m-i) q i P' X' (Y'.take (j-i)) (Y'.drop (j-i)) S' vf (hP.len (by rw [←ϋ (Y'.take (j-i))];rw [←hY])) (by rw [←ϋ (Y'.take (j-i)),←hY];exact hln) hc ζ ω ζ hi;have HG:=χ (ψ hg (ψ hY (ψ hi (ψ hj hij))));clear hi hj hP hg hY hln hij e2 hq
   go_wp2_with (first|((go_at_call 116;(with_reducible refine (kc).mono ?_));rintro e w9 ⟨rfl,U1,jJ⟩)|fail)
   go_roundw
   case rel=>
    obtain ⟨g1,g2,g3,g4,g5⟩:=HG.out;refine ⟨i,j-i,P',Y'.drop (j-i),Y'.take (j-i),X'++S',rfl,rfl,ζ,ζ,hi0,ω,hPm,ω,U1,?_,hu.trans jJ⟩;rw [←g1];rw [←ϋ (Y'.take (j-i)),←g2]
   case measure=>simp [intOf];omega
  ·subst hij;have e1:((i:Int) != (i:Int))=false:=σ;have kc:=BM wr g n cap (m-i) m i P' X' [] Y' S' vf hP hln hc ω ω ζ hi;have HG:=χ hg;clear hi hj hP hg hln
   go_wp2_with (first|((go_at_call 116;(with_reducible refine (kc).mono ?_));rintro e w9 ⟨rfl,U1,jJ⟩)|fail)
   go_end0;exact ⟨rfl,U1.len HG.out,hu.trans jJ⟩
  ·have e1:((i:Int) != (j:Int))=true:=ζ;have e2b:decide (j<i)=true:=by simpa using hij
   have e2:(i:Int) > (j:Int):=ω;have w6:IntKind.i64.wrap ((i:Int)-(j:Int))=((i-j:Nat):Int):=by rw [Μ _ ω];omega
   have hX:X'=X'.take j++X'.drop j:=(Ϟ _ _).symm;have kc:=BM wr g n cap (m-i) m j P' (X'.take j) (X'.drop j) Y' S' vf (hP.len (by rw [←ϋ (X'.take j)];rw [←hX])) (by rw [←ϋ (X'.take j),←hX];exact hln) hc ζ ω ζ ζ;have HG:=χ (ψ hg (ψ hX (ψ hi (ψ hj hij))));clear hi hj hP hg hX hln hij
   go_wp2_with (first|((go_at_call 116;(with_reducible refine (kc).mono ?_));rintro e w9 ⟨rfl,U1,jJ⟩)|fail)
   go_roundw
   case rel=>
    obtain ⟨g1,g2,g3,g4,g5⟩:=HG.out;refine ⟨i-j,j,P'++Y',X'.drop j,X'.take j,S',rfl,rfl,ζ,ζ,ω,hj0,ζ,ω,U1.len σ,?_,hu.trans jJ⟩;rw [←g1,ϋ];rw [←ϋ (X'.take j),←g2]
   case measure=>simp [intOf];omega
theorem PR.at {w:World} {g:Nat} {l:List Pl} (h:PR w g l) {j:Nat} {p:Pl} (hj:l[j]?=some p):w.cell? ⟨g,j*2,none⟩=some (.int .i64 (p.1:Int))/\w.cell? ⟨g,j*2+1,none⟩=some (.int .i64 (p.2:Int))/\(p.1<1000000/\p.2<1000000):=
 ⟨h.a j p hj,h.b j p hj,h.s p (Η hj)⟩
theorem J2 {P A R:List Pl} {k:Nat} {p:Pl} (h:A[k]?=some p):(P++(A++R))[P.length+k]?=some p:=by
 obtain ⟨h1,_⟩:=List.getElem?_eq_some_iff.1 h;rw [ϊ ω,show P.length+k-P.length=k by omega,Ρ h1,h]
theorem Qm {P A B R:List Pl} {k:Nat} {p:Pl} (h:B[k]?=some p):(P++(A++(B++R)))[P.length+A.length+k]?=some p:=by
 have:=J2 (P:=P++A) (A:=B) (R:=R) h;rwa [υ,ϋ] at this
def jZ (w:World) (g:Nat) (P A B S:List Pl) (e:Ending) (w':World):Prop:=e=.returned (.tuple #[])/\∃C,C.Perm (A++B)/\fw C/\PR w' g (P++(C++S))/\aa [g] w w'
theorem RG (w:World) (g n cap a m b:Nat) (P A B S:List Pl) (hP:PR w g (P++(A++(B++S)))) (hn:(P++(A++(B++S))).length=n) (hc:n<=1000000) (ha:a=P.length) (hm:m=a+A.length) (hb:b=m+B.length) (hA:0<A.length) (hB:0<B.length) (sA:fw A) (sB:fw B) (c1:A.length=1) :
  Calls Tryz.prog 106 #[.slice (some ⟨g,0,none⟩) n cap,.int .i64 (a:Int),.int .i64 (m:Int),.int .i64 (b:Int),.func (.func 73) #[] #[]] w (jZ w g P A B S):=by
 have hnl:=hn;simp only [υ] at hnl;have hbn:b<=n:=ω;have w1:IntKind.i64.wrap ((m:Int)-(a:Int))=((m-a:Nat):Int):=by rw [Μ _ ω];omega
 have w2:IntKind.i64.wrap ((b:Int)-(m:Int))=((b-m:Nat):Int):=by rw [Μ _ ω];omega
 obtain ⟨x,rfl⟩:=List.length_eq_one_iff.1 c1;have e1:m-a=1:=ω;rw [e1] at w1;obtain ⟨x0,x1,xb⟩:=hP.at (J2 (P:=P) (A:=[x]) (k:=0) (p:=x) rfl);rw [ϗ,←ha] at x0 x1;have hm1:m=a+1:=ω;have HB:=χ (ψ hP (ψ hn (ψ ha (ψ hm1 (ψ hb (ψ sB hnl))))));have ham:a<n:=ω;have hgl:=hP.lt;clear hP hn ha hm hb sA sB e1 hnl c1 hm1;unfold jZ
 go_enter Tryz.func106,Tryz.ntmps106
 go_wp2
 go_loopw [10,11,12] (fun iv jv _ wr=>∃i j:Nat,iv=.int .i64 (i:Int)/\jv=.int .i64 (j:Int)/\m<=i/\i<=j/\j<=b/\(i=m\/∃p,B[i-1-m]?=some p/\mo p x)/\(j=b\/∃q,B[j-m]?=some q/\mo x q)/\aa [] w wr) (fun iv jv _ _=>(intOf jv).toNat-(intOf iv).toNat)
 case atStart=>exact ⟨m,b,rfl,rfl,Θ _,by have:=HB.out;omega,Θ _,Α rfl,Α rfl,aa.refl _ _⟩
 case round=>
  obtain ⟨i,j,rfl,rfl,hi,hij,hj,hl,hr,hu⟩:=hrel;rename World=>wr
  by_cases hlt:i<j
  ·have zi:(i:Int)<(j:Int):=ω;obtain ⟨h,hh⟩:∃h:Nat,(i+j) / 2=h:=⟨_,rfl⟩;have hhI:((i:Int)+(j:Int)) / 2=(h:Int):=ω;have hmh:m<=h:=ω;have hhj:h<j:=ω;have hih:i<=h:=ω;have hhn:h<n:=ω;have w5:IntKind.i64.wrap ((h:Int)+1)=(h:Int)+1:=Μ _ ω;obtain ⟨p,hp⟩:∃p,B[h-m]?=some p:=⟨_,ε (by have:=HB.out;omega)⟩;have oo:=HB.out.1.upd hu σ;have hh':P.length+[x].length+(h-m)=h:=by have:=HB.out;simp only [List.length_singleton];omega
   obtain ⟨p0,p1,pb⟩:=oo.at (Qm (P:=P) (A:=[x]) (B:=B) (R:=S) (k:=h-m) hp);rw [hh'] at p0 p1;have y0:∀W,aa [] wr W->W.cell? ⟨g,a*2,none⟩=some (.int .i64 (x.1:Int)):=fun W h=>h.was (hu.was x0);have y1:∀W,aa [] wr W->W.cell? ⟨g,a*2+1,none⟩=some (.int .i64 (x.2:Int)):=fun W h=>h.was (hu.was x1);have q0:∀W,aa [] wr W->W.cell? ⟨g,h*2,none⟩=some (.int .i64 (p.1:Int)):=fun W h=>h.was p0;have q1:∀W,aa [] wr W->W.cell? ⟨g,h*2+1,none⟩=some (.int .i64 (p.2:Int)):=fun W h=>h.was p1;have hgr:=oo.lt;have kc:=fun W=>qI p x pb xb W;have Dq:=χ (ψ hp (ψ hl hr));clear hp hl hr oo hh' hh p0 p1
   cases hcmp:decide (DL p x<0) with
   | true=>
    have HC:=χ ((mQ _ _).1 hcmp);go_wp2
    go_region_held3 (aa [] wr) (first|assumption|(refine aa.drew ?_;first|assumption|exact aa.refl _ _)|(apply aa.trans;rotate_left;assumption;assumption))
     (first|((go_at_call 73;(with_reducible refine (kc _).mono ?_));rintro e w6 ⟨rfl,gX⟩;(have FP:aa [] wr w6:=aa.trans (by (first|assumption|(refine aa.drew ?_;first|assumption|exact aa.refl _ _)|(apply aa.trans;rotate_left;assumption;assumption))) gX)))
    go_wp2
    go_roundw
    case rel=>exact ⟨h+1,j,rfl,rfl,ω,ω,hj,Β ⟨p,by rw [show h+1-1-m=h-m by omega];exact Dq.out.1,mo.of_lt HC.out⟩,Dq.out.2.2,hu.trans ν⟩
    case measure=>simp [intOf];omega
   | false=>
    have HC:=χ (show ¬EM p x from fun hl=>by have:=(mQ p x).2 hl;rw [hcmp] at this;cases this);go_wp2
    go_region_held3 (aa [] wr) (first|assumption|(refine aa.drew ?_;first|assumption|exact aa.refl _ _)|(apply aa.trans;rotate_left;assumption;assumption))
     (first|((go_at_call 73;(with_reducible refine (kc _).mono ?_));rintro e w6 ⟨rfl,gX⟩;(have FP:aa [] wr w6:=aa.trans (by (first|assumption|(refine aa.drew ?_;first|assumption|exact aa.refl _ _)|(apply aa.trans;rotate_left;assumption;assumption))) gX)))
    go_wp2
    go_roundw
    case rel=>exact ⟨i,h,rfl,rfl,hi,hih,ω,Dq.out.2.1,Β ⟨p,Dq.out.1,mo.Ce HC.out⟩,hu.trans ν⟩
    case measure=>simp [intOf];omega
  ·have zi:¬ (i:Int)<(j:Int):=ω;obtain rfl:i=j:=ω;obtain ⟨q,hq⟩:∃q:Nat,i=q+1:=⟨i-1,by have:=HB.out;omega⟩;have w6:IntKind.i64.wrap ((i:Int)-1)=(q:Int):=by rw [Μ _ ω];omega
   have HQ:=χ (ψ hq (ψ hl (ψ hr hu)));have hqn:q<n:=ω;have haq:a<=q:=by have:=HB.out;omega
   clear hl hr hu hq;go_wp2
   go_loopw [13] (fun kv wr=>∃k:Nat,kv=.int .i64 (k:Int)/\a<=k/\k<=q/\PR wr g (P++(B.take (k-a)++x::(B.drop (k-a)++S)))/\aa [g] w wr) (fun kv _=>q-(intOf kv).toNat)
   case atStart=>exact ⟨a,rfl,Θ _,haq,by simpa using HB.out.1.upd HQ.out.2.2.2 σ,HQ.out.2.2.2.mono σ⟩
   case round=>
    obtain ⟨k,rfl,hka,hkq,Rn,ZM⟩:=hrel;rename World=>wr
    by_cases hk:k<q
    ·have Gd:(k:Int)<(q:Int):=ω;obtain ⟨k1,hk1⟩:∃k1:Nat,k+1=k1:=⟨_,rfl⟩;have w7:IntKind.i64.wrap ((k:Int)+1)=(k1:Int):=by rw [Μ _ ω];omega
     have hkB:k-a<B.length:=by have:=HB.out;have:=HQ.out.1;omega
     obtain ⟨y,hy⟩:∃y,B.drop (k-a)=y::B.drop (k-a+1):=⟨B[k-a],Ϣ hkB⟩;have hP':PR wr g ((P++B.take (k-a))++x::([]++y::(B.drop (k-a+1)++S))):=Rn.len (by rw [hy];simp);have i1:k=(P++B.take (k-a)).length:=by have:=HB.out;simp;omega
     have i2:k1=(P++B.take (k-a)).length+(([]:List Pl).length+1):=by have:=HB.out;simp;omega
     obtain ⟨⟨c0,c1⟩,c2,c3⟩:=hP'.mid i1 i2;have f0:=hP'.f (k*2);have f1:=hP'.f (k*2+1);have f2:=hP'.f (k1*2);have f3:=hP'.f (k1*2+1);have hgl2:=hP'.lt;have g1:(k:Int)<(n:Int):=ω;have g2:(k1:Int)<(n:Int):=ω;have hne:¬k=k1:=ω;have HS:=χ (hP'.swap i1 i2);have HE:=χ (ψ hy (ψ hk1 hkB));clear Rn hP' hy i1 i2 hk1;go_wp2
     go_region
     all_goals
      go_wp2;refine ⟨⟨k1,rfl,by have:=HE.out.2.1;omega,by have:=HE.out.2.1;omega,?_,β⟩,by have:=HE.out.2.1;simp [intOf];omega⟩;refine PR.len (pz HS.out ?_).drew ?_
      ·first|exact Α rfl|exact Β rfl
      ·obtain ⟨hy,hk1,hkB⟩:=HE.out;have e2:k1-a=(k-a)+1:=ω;have e3:B.take (k-a+1)=B.take (k-a)++[y]:=by rw [ϐ];congr 1;have:=congrArg (fun l=>l[0]?) hy;simp at this;rw [this];rfl
       rw [e2,e3];simp
    ·have Gd:¬ (k:Int)<(q:Int):=ω
     have hF:PR wr g (P++((B.take (i-m)++x::B.drop (i-m))++S)):=Rn.len (by
      have h1:=HB.out;have h2:=HQ.out.1
      rw [show k-a=i-m by omega];simp)
     have HF:=χ (ψ hF ZM);clear hF Rn ZM;go_wp2;refine bodyPost_ret (v:=.tuple #[]) (by simp [results,Tryz.results106,go_sem]) rfl ⟨rfl,_,?_,?_,HF.out.1,HF.out.2⟩
     ·simpa using EF B x (i-m)
     ·obtain ⟨h1,h2,h3,h4⟩:=HQ.out;have h5:=HB.out;refine J6 h5.2.2.2.2.2.1 ω ?_ ?_
      ·rcases h2 with h|⟨p,hp,hl⟩
       ·exact Α ω
       ·exact Β ⟨p,by rw [show i-m-1=i-1-m by omega];exact hp,hl⟩
      ·rcases h3 with h|⟨p,hp,hl⟩
       ·exact Α ω
       ·exact Β ⟨p,hp,hl⟩
theorem RB (w:World) (g n cap a m b:Nat) (P A B S:List Pl) (hP:PR w g (P++(A++(B++S)))) (hn:(P++(A++(B++S))).length=n) (hc:n<=1000000) (ha:a=P.length) (hm:m=a+A.length) (hb:b=m+B.length) (hA:0<A.length) (hB:0<B.length) (sA:fw A) (sB:fw B) (c1:¬A.length=1) (c2:B.length=1) :
  Calls Tryz.prog 106 #[.slice (some ⟨g,0,none⟩) n cap,.int .i64 (a:Int),.int .i64 (m:Int),.int .i64 (b:Int),.func (.func 73) #[] #[]] w (jZ w g P A B S):=by
 have hnl:=hn;simp only [υ] at hnl;have hbn:b<=n:=ω;have w1:IntKind.i64.wrap ((m:Int)-(a:Int))=((m-a:Nat):Int):=by rw [Μ _ ω];omega
 have w2:IntKind.i64.wrap ((b:Int)-(m:Int))=((b-m:Nat):Int):=by rw [Μ _ ω];omega
 obtain ⟨y,rfl⟩:=List.length_eq_one_iff.1 c2;have e1:b-m=1:=ω;rw [e1] at w2;have e0:(((m-a:Nat):Int) == 1)=false:=ζ;have e00:(m-a == 1)=false:=ζ;obtain ⟨y0,y1,yb⟩:=hP.at (Qm (P:=P) (A:=A) (B:=[y]) (R:=S) (k:=0) (p:=y) rfl);rw [ϗ,←ha,←hm] at y0 y1;obtain ⟨ma,Y7⟩:∃ma,m-a=ma:=⟨_,rfl⟩;rw [Y7] at w1 e0 e00;have CW:m<n:=ω;have HB:=χ (ψ hP (ψ hn (ψ ha (ψ hm (ψ hb (ψ sA hnl))))));have hgl:=hP.lt;clear hP hn ha hm hb sA sB e1 hnl c1 c2 Y7;unfold jZ
 go_enter Tryz.func106,Tryz.ntmps106
 go_wp2
 go_loopw [14,15,16] (fun iv jv _ wr=>∃i j:Nat,iv=.int .i64 (i:Int)/\jv=.int .i64 (j:Int)/\a<=i/\i<=j/\j<=m/\(i=a\/∃p,A[i-1-a]?=some p/\mo p y)/\(j=m\/∃q,A[j-a]?=some q/\mo y q)/\aa [] w wr) (fun iv jv _ _=>(intOf jv).toNat-(intOf iv).toNat)
 case atStart=>exact ⟨a,m,rfl,rfl,Θ _,by have:=HB.out;omega,Θ _,Α rfl,Α rfl,aa.refl _ _⟩
 case round=>
  obtain ⟨i,j,rfl,rfl,hi,hij,hj,hl,hr,hu⟩:=hrel;rename World=>wr
  by_cases hlt:i<j
  ·have zi:(i:Int)<(j:Int):=ω;obtain ⟨h,hh⟩:∃h:Nat,(i+j) / 2=h:=⟨_,rfl⟩;have hhI:((i:Int)+(j:Int)) / 2=(h:Int):=ω;have hmh:a<=h:=ω;have hhj:h<j:=ω;have hih:i<=h:=ω;have hhn:h<n:=ω;have w5:IntKind.i64.wrap ((h:Int)+1)=(h:Int)+1:=Μ _ ω;obtain ⟨p,hp⟩:∃p,A[h-a]?=some p:=⟨_,ε (by have:=HB.out;omega)⟩;have oo:=HB.out.1.upd hu σ;have hh':P.length+(h-a)=h:=by have:=HB.out;omega
   obtain ⟨p0,p1,pb⟩:=oo.at (J2 (P:=P) (A:=A) (R:=[y]++S) (k:=h-a) hp);rw [hh'] at p0 p1;have z0:∀W,aa [] wr W->W.cell? ⟨g,m*2,none⟩=some (.int .i64 (y.1:Int)):=fun W h=>h.was (hu.was y0);have z1:∀W,aa [] wr W->W.cell? ⟨g,m*2+1,none⟩=some (.int .i64 (y.2:Int)):=fun W h=>h.was (hu.was y1);have q0:∀W,aa [] wr W->W.cell? ⟨g,h*2,none⟩=some (.int .i64 (p.1:Int)):=fun W h=>h.was p0;have q1:∀W,aa [] wr W->W.cell? ⟨g,h*2+1,none⟩=some (.int .i64 (p.2:Int)):=fun W h=>h.was p1;have hgr:=oo.lt;have kc:=fun W=>qI y p yb pb W;have Dq:=χ (ψ hp (ψ hl hr));clear hp hl hr oo hh' hh p0 p1
   cases hcmp:decide (DL y p<0) with
   | true=>
    have HC:=χ ((mQ _ _).1 hcmp);go_wp2
    go_region_held3 (aa [] wr) (first|assumption|(refine aa.drew ?_;first|assumption|exact aa.refl _ _)|(apply aa.trans;rotate_left;assumption;assumption))
     (first|((go_at_call 73;(with_reducible refine (kc _).mono ?_));rintro e w6 ⟨rfl,gX⟩;(have FP:aa [] wr w6:=aa.trans (by (first|assumption|(refine aa.drew ?_;first|assumption|exact aa.refl _ _)|(apply aa.trans;rotate_left;assumption;assumption))) gX)))
    go_wp2
    go_roundw
    case rel=>exact ⟨i,h,rfl,rfl,hi,hih,ω,Dq.out.2.1,Β ⟨p,Dq.out.1,mo.of_lt HC.out⟩,hu.trans ν⟩
    case measure=>simp [intOf];omega
   | false=>
    have HC:=χ (show ¬EM y p from fun hl=>by have:=(mQ y p).2 hl;rw [hcmp] at this;cases this);go_wp2
    go_region_held3 (aa [] wr) (first|assumption|(refine aa.drew ?_;first|assumption|exact aa.refl _ _)|(apply aa.trans;rotate_left;assumption;assumption))
     (first|((go_at_call 73;(with_reducible refine (kc _).mono ?_));rintro e w6 ⟨rfl,gX⟩;(have FP:aa [] wr w6:=aa.trans (by (first|assumption|(refine aa.drew ?_;first|assumption|exact aa.refl _ _)|(apply aa.trans;rotate_left;assumption;assumption))) gX)))
    go_wp2
    go_roundw
    case rel=>exact ⟨h+1,j,rfl,rfl,ω,ω,hj,Β ⟨p,by rw [show h+1-1-a=h-a by omega];exact Dq.out.1,mo.Ce HC.out⟩,Dq.out.2.2,hu.trans ν⟩
    case measure=>simp [intOf];omega
  ·have zi:¬ (i:Int)<(j:Int):=ω;obtain rfl:i=j:=ω;have HQ:=χ (ψ hl (ψ hr hu));clear hl hr hu;go_wp2
   go_loopw [17] (fun kv wr=>∃k:Nat,kv=.int .i64 (k:Int)/\i<=k/\k<=m/\PR wr g (P++(A.take (k-a)++y::(A.drop (k-a)++S)))/\aa [g] w wr) (fun kv _=>(intOf kv).toNat)
   case atStart=>exact ⟨m,rfl,hj,Θ _,(HB.out.1.upd HQ.out.2.2 σ).len (by have:=HB.out;rw [List.take_of_length_le ω,List.drop_eq_nil_of_le ω];simp),HQ.out.2.2.mono σ⟩
   case round=>
    obtain ⟨k1,rfl,hka,hkq,Rn,ZM⟩:=hrel;rename World=>wr
    by_cases hk:i<k1
    ·have Gd:(i:Int)<(k1:Int):=ω;have hkb:decide (i<k1)=true:=by simpa using hk
     obtain ⟨k,hk1⟩:∃k:Nat,k+1=k1:=⟨k1-1,ω⟩;have w7:IntKind.i64.wrap ((k1:Int)-1)=(k:Int):=by rw [Μ _ ω];omega
     have hkB:k-a<A.length:=by have:=HB.out;omega
     obtain ⟨x,hx⟩:∃x,A.drop (k-a)=x::A.drop (k-a+1):=⟨A[k-a],Ϣ hkB⟩;have e2:k1-a=(k-a)+1:=ω;have e3:A.take (k-a+1)=A.take (k-a)++[x]:=by rw [ϐ];congr 1;have:=congrArg (fun l=>l[0]?) hx;simp at this;rw [this];rfl
     have hP':PR wr g ((P++A.take (k-a))++x::([]++y::(A.drop (k-a+1)++S))):=Rn.len (by rw [e2,e3];simp);have i1:k=(P++A.take (k-a)).length:=by have:=HB.out;simp;omega
     have i2:k1=(P++A.take (k-a)).length+(([]:List Pl).length+1):=by have:=HB.out;simp;omega
     obtain ⟨⟨c0,c1⟩,c2,c3⟩:=hP'.mid i1 i2;have f0:=hP'.f (k*2);have f1:=hP'.f (k*2+1);have f2:=hP'.f (k1*2);have f3:=hP'.f (k1*2+1);have hgl2:=hP'.lt;have g1:(k:Int)<(n:Int):=ω;have g2:(k1:Int)<(n:Int):=ω;have hne:¬k=k1:=ω;have HS:=χ (hP'.swap i1 i2);have HE:=χ (ψ hx hk1);clear Rn hP' hx i1 i2 hk1 e2 e3;go_wp2
     go_region
     all_goals
      go_wp2;refine ⟨⟨k,rfl,by have:=HE.out.2;omega,by have:=HE.out.2;omega,?_,β⟩,by have:=HE.out.2;simp [intOf];omega⟩;refine PR.len (pz HS.out ?_).drew ?_
      ·first|exact Α rfl|exact Β rfl
      ·rw [HE.out.1];simp
    ·have Gd:¬ (i:Int)<(k1:Int):=ω;have hkb:decide (i<k1)=false:=by simpa using hk
     have hF:PR wr g (P++((A.take (i-a)++y::A.drop (i-a))++S)):=Rn.len (by
      rw [show k1-a=i-a by omega];simp)
     have HF:=χ (ψ hF ZM);clear hF Rn ZM;go_wp2;refine bodyPost_ret (v:=.tuple #[]) (by simp [results,Tryz.results106,go_sem]) rfl ⟨rfl,_,?_,?_,HF.out.1,HF.out.2⟩
     ·exact (EF A y (i-a)).trans (Ϛ y A).symm
     ·obtain ⟨h2,h3,h4⟩:=HQ.out;have h5:=HB.out;refine J6 h5.2.2.2.2.2.1 ω ?_ ?_
      ·rcases h2 with h|⟨p,hp,hl⟩
       ·exact Α ω
       ·exact Β ⟨p,by rw [show i-a-1=i-1-a by omega];exact hp,hl⟩
      ·rcases h3 with h|⟨p,hp,hl⟩
       ·exact Α ω
       ·exact Β ⟨p,hp,hl⟩
def Ph0 (w:World) (g:Nat) (P A1 A2 B1 B2 S:List Pl) (W:World):Prop:=PR W g (P++(A1++(A2++(B1++(B2++S)))))/\aa [g] w W
def Xe (w:World) (g:Nat) (P A1 A2 B1 B2 S:List Pl) (W:World):Prop:=PR W g (P++(A1++(B1++(A2++(B2++S)))))/\aa [g] w W
def WM (w:World) (g:Nat) (P A1 A2 B1 B2 S:List Pl) (W:World):Prop:=∃C,C.Perm (A1++B1)/\fw C/\PR W g (P++(C++(A2++(B2++S))))/\aa [g] w W
def Ph3 (w:World) (g:Nat) (P A1 A2 B1 B2 S:List Pl) (W:World):Prop:=∃C D,C.Perm (A1++B1)/\fw C/\D.Perm (A2++B2)/\fw D/\PR W g (P++(C++(D++S)))/\aa [g] w W
theorem ph01 {w W:World} {g:Nat} {P A1 A2 B1 B2 S:List Pl} (h:Ph0 w g P A1 A2 B1 B2 S W) (he:A2=[]\/B1=[]):Xe w g P A1 A2 B1 B2 S W:=by
 refine ⟨h.1.len ?_,h.2⟩;rcases he with rfl|rfl<;>simp
theorem ph12 {w W:World} {g:Nat} {P A1 A2 B1 B2 S:List Pl} (h:Xe w g P A1 A2 B1 B2 S W) (sA:fw A1) (sB:fw B1) (he:A1=[]\/B1=[]):WM w g P A1 A2 B1 B2 S W:=
 ⟨A1++B1,ό _,by rcases he with rfl|rfl<;>simpa,h.1.len σ,h.2⟩
theorem ph23 {w W:World} {g:Nat} {P A1 A2 B1 B2 S:List Pl} (h:WM w g P A1 A2 B1 B2 S W) (sA:fw A2) (sB:fw B2) (he:A2=[]\/B2=[]):Ph3 w g P A1 A2 B1 B2 S W:=by
 obtain ⟨C,h1,h2,h3,h4⟩:=h;exact ⟨C,A2++B2,h1,h2,ό _,by rcases he with rfl|rfl<;>simpa,h3.len σ,h4⟩
theorem UQ {w W:World} {g:Nat} {P A B S:List Pl} {i j:Nat} (h:Ph3 w g P (A.take i) (A.drop i) (B.take j) (B.drop j) S W) (hs:∀x,x∈A.take i++B.take j->∀y,y∈A.drop i++B.drop j->mo x y) :
  ∃C,C.Perm (A++B)/\fw C/\PR W g (P++(C++S))/\aa [g] w W:=by
 obtain ⟨C,D,h1,h2,h3,h4,h5,h6⟩:=h;refine ⟨C++D,?_,BR h2 h4 (fun x hx y hy=>hs x (h1.mem_iff.1 hx) y (h3.mem_iff.1 hy)),h5.len σ,h6⟩;have e:=(h1.append h3);refine e.trans ?_;have e2:(A.take i++B.take j++(A.drop i++B.drop j)).Perm (A.take i++A.drop i++(B.take j++B.drop j)):=by
  rw [ϋ,ϋ];refine List.Perm.append_left _ ?_;rw [←ϋ,←ϋ];exact List.Perm.append_right _ Φ
 rwa [Ϟ,Ϟ] at e2
def Uy (A B:List Pl) (a d s:Nat):Prop:=s=a\/d-s=B.length\/∃p q,A[s-1-a]?=some p/\B[d-s]?=some q/\mo p q
def UB (A B:List Pl) (a m d r:Nat):Prop:=d=r\/r=m\/∃p q,B[d-1-r]?=some p/\A[r-a]?=some q/\mo p q
theorem KQ {A B:List Pl} {a m b d s en:Nat} (hm:m=a+A.length) (hb:b=m+B.length) (h1:a<=s) (h2:s<=m) (h3:s<=d) (h4:d-s<=B.length) (he:d+m-s=en) :
  (A.take (s-a)).length=s-a/\(A.drop (s-a)).length=m-s/\(B.take (d-s)).length=d-s/\(B.drop (d-s)).length=b-en/\en=m+(d-s)/\d=s+(d-s)/\en=d+(m-s)/\b=en+(b-en):=by
 simp only [ϑ,ϒ];omega
theorem Oz (w:World) (g n cap a m b:Nat) (P A B S:List Pl) (hP:PR w g (P++(A++(B++S)))) (hn:(P++(A++(B++S))).length=n) (hc:n<=1000000) (ha:a=P.length) (hm:m=a+A.length) (hb:b=m+B.length) (hA:0<A.length) (hB:0<B.length) (sA:fw A) (sB:fw B) (c1:¬A.length=1) (c2:¬B.length=1)
    (ih:∀ (w:World) (a m b:Nat) (P A' B' S:List Pl),A'.length+B'.length<A.length+B.length->PR w g (P++(A'++(B'++S)))->(P++(A'++(B'++S))).length=n->a=P.length->m=a+A'.length->b=m+B'.length->0<A'.length->0<B'.length->fw A'->fw B'->Calls Tryz.prog 106 #[.slice (some ⟨g,0,none⟩) n cap,.int .i64 (a:Int),.int .i64 (m:Int),.int .i64 (b:Int),.func (.func 73) #[] #[]] w (jZ w g P A' B' S)) :
    Calls Tryz.prog 106 #[.slice (some ⟨g,0,none⟩) n cap,.int .i64 (a:Int),.int .i64 (m:Int),.int .i64 (b:Int),.func (.func 73) #[] #[]] w (jZ w g P A B S):=by
  have hnl:=hn;simp only [υ] at hnl;have hbn:b<=n:=ω;have w1:IntKind.i64.wrap ((m:Int)-(a:Int))=((m-a:Nat):Int):=by rw [Μ _ ω];omega
  have w2:IntKind.i64.wrap ((b:Int)-(m:Int))=((b-m:Nat):Int):=by rw [Μ _ ω];omega
  obtain ⟨d,hd⟩:∃d:Nat,(a+b) / 2=d:=⟨_,rfl⟩;have xD:((a:Int)+(b:Int)) / 2=(d:Int):=ω;have e0:(((m-a:Nat):Int) == 1)=false:=ζ;have e00:(m-a == 1)=false:=ζ;have e1:(((b-m:Nat):Int) == 1)=false:=ζ;have e11:(b-m == 1)=false:=ζ;obtain ⟨ma,Y7⟩:∃ma,m-a=ma:=⟨_,rfl⟩;obtain ⟨mb,hmb⟩:∃mb,b-m=mb:=⟨_,rfl⟩;rw [Y7] at w1 e0 e00;rw [hmb] at w2 e1 e11;have w3:IntKind.i64.wrap ((d:Int)+(m:Int))=(d:Int)+(m:Int):=Μ _ ω;have w4:IntKind.i64.wrap ((d:Int)+(m:Int)-1)=(d:Int)+(m:Int)-1:=Μ _ ω
  obtain ⟨s0,r0,VL⟩:∃s0 r0:Nat,((decide (d<m)=true/\IntKind.i64.wrap ((d:Int)+(m:Int)-(b:Int))=(s0:Int)/\r0=d)\/(decide (d<m)=false/\s0=a/\r0=m))/\a<=s0/\s0<=r0/\r0<=m/\r0<=d/\d-s0<=B.length/\Uy A B a d s0/\UB A B a m d r0:=by
    by_cases h:d<m
    · refine ⟨d+m-b,d,Α ⟨by simpa using h,by rw [Μ _ ω];omega,rfl⟩,ω,ω,ω,ω,ω,Β (Α ω),Α rfl⟩
    · exact ⟨a,m,Β ⟨by simpa using h,rfl,rfl⟩,ω,ω,ω,ω,ω,Α rfl,Β (Α rfl)⟩
  have HB:=χ (ψ hP (ψ hn (ψ ha (ψ hm (ψ hb (ψ VL.2 (ψ hA (ψ hB (ψ hd hnl)))))))));have HS:=χ (ψ sA sB);have HI:=χ ih;have CW:m<=n:=ω;have hdn:d<=n:=ω;have hgl:=hP.lt;clear hP hn ih ha hm hb sA sB hnl c1 c2 Y7 hmb hd hA hB;unfold jZ;obtain ⟨VL, -⟩:=VL;rcases VL with ⟨VP,w5,hr0⟩|⟨VP,hs0,hr0⟩
  all_goals
    go_enter Tryz.func106,Tryz.ntmps106
    go_wp2
    go_loopw [20,21,23] (fun sv rv _ wr=>∃s r:Nat,sv=.int .i64 (s:Int)/\rv=.int .i64 (r:Int)/\s0<=s/\s<=r/\r<=r0/\Uy A B a d s/\UB A B a m d r/\aa [] w wr) (fun sv rv _ _=>(intOf rv).toNat-(intOf sv).toNat)
    case atStart=>
      obtain ⟨h1,h2,h3,h4,h5,⟨h6,h7,h8,h9,h10,h11,h12⟩,h13⟩:=HB.out;exact ⟨s0,r0,by first|rfl|rw [hs0],by rw [hr0],Θ _,h7,Θ _,h11,h12,aa.refl _ _⟩
    case round=>
      obtain ⟨s,r,rfl,rfl,hs,hsr2,hr,hL,hR,hu⟩:=hrel;rename World=>wr
      by_cases hlt:s<r
      · have zi:(s:Int)<(r:Int):=ω
        obtain ⟨h,hh⟩:∃h:Nat,(s+r) / 2=h:=⟨_,rfl⟩;have hhI:((s:Int)+(r:Int)) / 2=(h:Int):=ω;have hsh:s<=h:=ω;have hhr:h<r:=ω;obtain ⟨k,hk⟩:∃k,d-1-h=k:=⟨_,rfl⟩;obtain ⟨q,hq⟩:∃q,m+k=q:=⟨_,rfl⟩;have hfin:h<n/\q<n/\k<B.length/\h-a<A.length/\a<=h/\d=h+1+k:=by have:=HB.out;omega
        have hhn:h<n:=hfin.1;have hqn:q<n:=hfin.2.1;have w6:IntKind.i64.wrap ((h:Int)+1)=(h:Int)+1:=Μ _ ω;have w7:IntKind.i64.wrap ((d:Int)+(m:Int)-1-(h:Int))=(q:Int):=by rw [Μ _ ω];omega
        obtain ⟨pb,hpb⟩:∃p,B[k]?=some p:=⟨_,ε hfin.2.2.1⟩;obtain ⟨pa,PN⟩:∃p,A[h-a]?=some p:=⟨_,ε hfin.2.2.2.1⟩;have oo:=HB.out.1.upd hu σ;have e3:P.length+A.length+k=q:=by have:=HB.out;omega
        have e4:P.length+(h-a)=h:=by have:=HB.out;omega
        obtain ⟨b0,b1,bb⟩:=oo.at (Qm (P:=P) (A:=A) (B:=B) (R:=S) (k:=k) hpb);obtain ⟨a0,a1,ab⟩:=oo.at (J2 (P:=P) (A:=A) (R:=B++S) (k:=h-a) PN);rw [e3] at b0 b1;rw [e4] at a0 a1;have y0:∀W,aa [] wr W->W.cell? ⟨g,q*2,none⟩=some (.int .i64 (pb.1:Int)):=fun W h=>h.was b0;have y1:∀W,aa [] wr W->W.cell? ⟨g,q*2+1,none⟩=some (.int .i64 (pb.2:Int)):=fun W h=>h.was b1;have q0:∀W,aa [] wr W->W.cell? ⟨g,h*2,none⟩=some (.int .i64 (pa.1:Int)):=fun W h=>h.was a0;have q1:∀W,aa [] wr W->W.cell? ⟨g,h*2+1,none⟩=some (.int .i64 (pa.2:Int)):=fun W h=>h.was a1;have hgr:=oo.lt
        have kc:=fun W=>qI pb pa bb ab W;have Dq:=χ (ψ hpb (ψ PN (ψ hL (ψ hR (ψ hfin hk)))));clear hpb PN hL hR oo e3 e4 hh hfin hk hq a0 a1 b0 b1;cases hcmp:decide (DL pb pa<0) with
        | true=>
          have HC:=χ ((mQ _ _).1 hcmp);go_wp2
          go_region_held3 (aa [] wr) (first|assumption|(refine aa.drew ?_;first|assumption|exact aa.refl _ _)|(apply aa.trans;rotate_left;assumption;assumption))
            (first|((go_at_call 73;(with_reducible refine (kc _).mono ?_));rintro e w6 ⟨rfl,gX⟩;(have FP:aa [] wr w6:=aa.trans (by (first|assumption|(refine aa.drew ?_;first|assumption|exact aa.refl _ _)|(apply aa.trans;rotate_left;assumption;assumption))) gX)))
          go_wp2
          go_roundw
          case rel=>exact ⟨s,h,rfl,rfl,hs,hsh,ω,Dq.out.2.2.1,Β (Β ⟨pb,pa,by rw [Dq.out.2.2.2.2.2];exact Dq.out.1,Dq.out.2.1,mo.of_lt HC.out⟩),hu.trans ν⟩
          case measure=>simp [intOf];omega
        | false=>
          have HC:=χ (show ¬EM pb pa from fun hl=>by have:=(mQ pb pa).2 hl;rw [hcmp] at this;cases this);go_wp2
          go_region_held3 (aa [] wr) (first|assumption|(refine aa.drew ?_;first|assumption|exact aa.refl _ _)|(apply aa.trans;rotate_left;assumption;assumption))
            (first|((go_at_call 73;(with_reducible refine (kc _).mono ?_));rintro e w6 ⟨rfl,gX⟩;(have FP:aa [] wr w6:=aa.trans (by (first|assumption|(refine aa.drew ?_;first|assumption|exact aa.refl _ _)|(apply aa.trans;rotate_left;assumption;assumption))) gX)))
          go_wp2
          go_roundw
          case rel=>exact ⟨h+1,r,rfl,rfl,ω,ω,hr,Β (Β ⟨pa,pb,by rw [show h+1-1-a=h-a by omega];exact Dq.out.2.1,by rw [show d-(h+1)=d-1-h by omega,Dq.out.2.2.2.2.2];exact Dq.out.1,mo.Ce HC.out⟩),Dq.out.2.2.2.1,hu.trans ν⟩
          case measure=>simp [intOf];omega
      · have zi:¬ (s:Int)<(r:Int):=ω
        obtain rfl:s=r:=ω;obtain ⟨en,hen⟩:∃en:Nat,d+m-s=en:=⟨_,rfl⟩;have hF:=KQ (a:=a) (m:=m) (b:=b) (d:=d) (s:=s) (en:=en) HB.out.2.2.2.1 HB.out.2.2.2.2.1 (by have:=HB.out;omega) (by have:=HB.out;omega) (by have:=HB.out;omega) (by have:=HB.out;omega) hen;have w8:IntKind.i64.wrap ((d:Int)+(m:Int)-(s:Int))=(en:Int):=by rw [Μ _ (by have:=HB.out;omega)];omega
        obtain ⟨l1,l2,l3,l4,f1,f2,f3,f4⟩:=hF
        have hsp:=vL (A:=A) (B:=B) (i:=s-a) (j:=d-s) HS.out.1 HS.out.2 (by have:=HB.out;omega) (by have:=HB.out;omega) (by
          rcases hL with h|h|⟨p,q,h1,h2,h3⟩
          · exact Α ω
          · exact Β (Α h)
          · exact Β (Β ⟨p,q,by rw [show s-a-1=s-1-a by omega];exact h1,h2,h3⟩)) (by
          rcases hR with h|h|⟨p,q,h1,h2,h3⟩
          · exact Α ω
          · exact Β (Α (by have:=HB.out;omega))
          · exact Β (Β ⟨p,q,by rw [show d-s-1=d-1-s by omega];exact h1,h2,h3⟩))
        have hT:=χ (fun W h=>UQ (w:=w) (W:=W) (g:=g) (P:=P) (S:=S) h hsp);have sA1:fw (A.take (s-a)):=List.Pairwise.sublist (List.take_sublist _ _) HS.out.1;have sA2:fw (A.drop (s-a)):=List.Pairwise.sublist (List.drop_sublist _ _) HS.out.1;have sB1:fw (B.take (d-s)):=List.Pairwise.sublist (List.take_sublist _ _) HS.out.2;have sB2:fw (B.drop (d-s)):=List.Pairwise.sublist (List.drop_sublist _ _) HS.out.2;have h0:Ph0 w g P (A.take (s-a)) (A.drop (s-a)) (B.take (d-s)) (B.drop (d-s)) S wr:=by
          refine ⟨(HB.out.1.upd hu σ).len ?_,hu.mono σ⟩;rw [←ϋ (A.take (s-a)),←ϋ (B.take (d-s)),Ϟ,Ϟ]
        have hAl:=HB.out.2.2.2.1;have hBl:=HB.out.2.2.2.2.1;have xS:=HB.out.2.2.1;have hnl:=HB.out.2.2.2.2.2.2.2.2.2;have hih:=HI.out;have has:a<=s:=by have:=HB.out;omega
        have hds:d-s<=B.length:=by have:=HB.out;omega
        have hsm:s<=m:=by have:=HB.out;omega
        clear hL hR hsp hu;generalize A.take (s-a)=A1 at *;generalize A.drop (s-a)=A2 at *;generalize B.take (d-s)=B1 at *;generalize B.drop (d-s)=B2 at *;have kR:decide (s<m)=true->decide (m<en)=true->∀W,Ph0 w g P A1 A2 B1 B2 S W->Calls Tryz.prog 113 #[.slice (some ⟨g,0,none⟩) n cap,.int .i64 (s:Int),.int .i64 (m:Int),.int .i64 (en:Int),.func (.func 73) #[] #[]] W fun e w'=>e=.returned (.tuple #[])/\Xe w g P A1 A2 B1 B2 S w':=fun h1 h2 W hW=>by
          have h1:=Ϧ h1;have h2:=Ϧ h2;refine (SF W g n cap s m en (P++A1) A2 B1 (B2++S) _ (hW.1.len σ) (by simp only [υ];omega) hc (by rw [υ];omega) ω ω ω ω).mono ?_;rintro e w' ⟨rfl,hp,hu⟩;exact ⟨rfl,hp.len σ,hW.2.trans hu⟩
        have k1:decide (a<s)=true->decide (s<d)=true->∀W,Xe w g P A1 A2 B1 B2 S W->Calls Tryz.prog 106 #[.slice (some ⟨g,0,none⟩) n cap,.int .i64 (a:Int),.int .i64 (s:Int),.int .i64 (d:Int),.func (.func 73) #[] #[]] W fun e w'=>e=.returned (.tuple #[])/\WM w g P A1 A2 B1 B2 S w':=fun h1 h2 W hW=>by
          have h1:=Ϧ h1;have h2:=Ϧ h2;refine (hih W a s d P A1 B1 (A2++(B2++S)) (by have:=HB.out;omega) hW.1 (by simp only [υ];omega) xS ω ω ω ω sA1 sB1).mono ?_;rintro e w' ⟨rfl,C,q1,q2,q3,q4⟩;exact ⟨rfl,C,q1,q2,q3,hW.2.trans q4⟩
        have k2:decide (d<en)=true->decide (en<b)=true->∀W,WM w g P A1 A2 B1 B2 S W->Calls Tryz.prog 106 #[.slice (some ⟨g,0,none⟩) n cap,.int .i64 (d:Int),.int .i64 (en:Int),.int .i64 (b:Int),.func (.func 73) #[] #[]] W fun e w'=>e=.returned (.tuple #[])/\Ph3 w g P A1 A2 B1 B2 S w':=fun h1 h2 W hW=>by
          have h1:=Ϧ h1;have h2:=Ϧ h2;obtain ⟨C,p1,p2,p3,p4⟩:=hW;have IU:=p1.length_eq;rw [υ] at IU;refine (hih W d en b (P++C) A2 B2 S (by have:=HB.out;omega) (p3.len σ) (by simp only [υ];omega) (by rw [υ];omega) ω ω ω ω sA2 sB2).mono ?_;rintro e w' ⟨rfl,D,q1,q2,q3,q4⟩;exact ⟨rfl,C,D,p1,p2,q1,q2,q3.len σ,p4.trans q4⟩
        have t01:(decide (s<m)=false\/decide (m<en)=false)->∀W,Ph0 w g P A1 A2 B1 B2 S W->Xe w g P A1 A2 B1 B2 S W:=fun h W hW=>ph01 hW (by
          rcases h with h|h
          · exact Α (ϟ (by have:=ϧ h;omega))
          · exact Β (ϟ (by have:=ϧ h;omega)))
        have t12:(decide (a<s)=false\/decide (m<en)=false)->∀W,Xe w g P A1 A2 B1 B2 S W->WM w g P A1 A2 B1 B2 S W:=fun h W hW=>ph12 hW sA1 sB1 (by
          rcases h with h|h
          · exact Α (ϟ (by have:=ϧ h;omega))
          · exact Β (ϟ (by have:=ϧ h;omega)))
        have t23:(decide (s<m)=false\/decide (en<b)=false)->∀W,WM w g P A1 A2 B1 B2 S W->Ph3 w g P A1 A2 B1 B2 S W:=fun h W hW=>ph23 hW sA2 sB2 (by
          rcases h with h|h
          · exact Α (ϟ (by have:=ϧ h;omega))
          · exact Β (ϟ (by have:=ϧ h;omega)))
        have hb2:decide (s<d)=decide (m<en):=decide_eq_decide.2 ω;have hb1:decide (d<en)=decide (s<m):=decide_eq_decide.2 ω;have T01:=χ t01;have T12:=χ t12;have T23:=χ t23;clear t01 t12 t23 hih sA1 sA2 sB1 sB2 l1 l2 l3 l4 f1 f2 f3 f4 hen hAl hBl xS hnl;cases b1:decide (s<m)<;>cases b2:decide (m<en)<;>cases b3:decide (a<s)<;>cases b4:decide (en<b) <;>
          (rw [b2] at hb2
           rw [b1] at hb1;simp only [b1,b2,b3,b4,hb1,hb2,true_imp_iff,reduceCtorEq,false_imp_iff] at kR k1 k2
           go_wp2_with (first
             | ((go_at_call 113;(with_reducible refine (kR _ h0).mono ?_));rintro e w1 ⟨rfl,h1⟩)
             | ((go_at_call 106;(with_reducible refine (k1 _ (by first|assumption|exact T01.out (by first|exact Α b1|exact Β b2) _ (by assumption))).mono ?_));rintro e w2 ⟨rfl,h2⟩)
             | ((go_at_call 106;(with_reducible refine (k2 _ (by first|assumption|exact T12.out (by first|exact Α b3|exact Β b2) _ (by first|assumption|exact T01.out (by first|exact Α b1|exact Β b2) _ (by assumption)))).mono ?_));rintro e w3 ⟨rfl,h3⟩)
             | fail)
           go_end0
           exact ⟨rfl,hT.out _ (by first|assumption|exact T23.out (by first|exact Α b1|exact Β b4) _ (by first|assumption|exact T12.out (by first|exact Α b3|exact Β b2) _ (by first|assumption|exact T01.out (by first|exact Α b1|exact Β b2) _ (by assumption))))⟩)
theorem Jk (g n cap:Nat) (hc:n<=1000000):∀ (f:Nat) (w:World) (a m b:Nat) (P A B S:List Pl),A.length+B.length<=f->PR w g (P++(A++(B++S)))->(P++(A++(B++S))).length=n->a=P.length->m=a+A.length->b=m+B.length->0<A.length->0<B.length->fw A->fw B->
  Calls Tryz.prog 106 #[.slice (some ⟨g,0,none⟩) n cap,.int .i64 (a:Int),.int .i64 (m:Int),.int .i64 (b:Int),.func (.func 73) #[] #[]] w (jZ w g P A B S):=by
 intro f
 induction f with
 | zero=>intro w a m b P A B S hf _ _ _ _ _ h1 _ _ _;omega
 | succ f ih=>
  intro w a m b P A B S hf hP hn ha hm hb hA hB sA sB
  by_cases c1:A.length=1
  ·exact RG w g n cap a m b P A B S hP hn hc ha hm hb hA hB sA sB c1
  ·by_cases c2:B.length=1
   ·exact RB w g n cap a m b P A B S hP hn hc ha hm hb hA hB sA sB c1 c2
   ·exact Oz w g n cap a m b P A B S hP hn hc ha hm hb hA hB sA sB c1 c2 (fun w a m b P A' B' S h=>ih w a m b P A' B' S ω)
theorem Kg {α:Type} {X:List α} {k:Nat} {x:α} (h:X.drop k=x::X.drop (k+1)):X.take (k+1)=X.take k++[x]:=by
 rw [ϐ];congr 1;have:=congrArg (fun l=>l[0]?) h;simp at this;rw [this];rfl
theorem Jq (w:World) (g n cap a b:Nat) (P X S:List Pl) (hP:PR w g (P++(X++S))) (hn:(P++(X++S)).length=n) (hc:n<=1000000) (ha:a=P.length) (hb:b=a+X.length) :
  Calls Tryz.prog 105 #[.slice (some ⟨g,0,none⟩) n cap,.int .i64 (a:Int),.int .i64 (b:Int),.func (.func 73) #[] #[]] w fun e w'=>e=.returned (.tuple #[])/\∃C,C.Perm X/\fw C/\PR w' g (P++(C++S))/\aa [g] w w':=by
 have hnl:=hn;simp only [υ] at hnl;have hbn:b<=n:=ω;have hab:a<=b:=ω;have w1:IntKind.i64.wrap ((a:Int)+1)=(a:Int)+1:=Μ _ ω;have HB:=χ (ψ hP (ψ ha (ψ hb hnl)));clear hP hn ha hb hnl
 go_enter Tryz.func105,Tryz.ntmps105
 go_wp2
 go_loopw [8,9] (fun iv _ wr=>∃ (i:Nat) (C:List Pl),iv=.int .i64 (i:Int)/\a+1<=i/\(i<=b\/b=a/\i=a+1)/\C.Perm (X.take (i-a))/\fw C/\PR wr g (P++(C++(X.drop (i-a)++S)))/\aa [g] w wr) (fun iv _ _=>n-(intOf iv).toNat)
 case atStart=>
  refine ⟨a+1,X.take 1,rfl,Θ _,?_,by rw [show a+1-a=1 by omega],?_,?_,aa.refl _ _⟩
  ·omega
  ·match X with
   | []=>exact List.Pairwise.nil
   | [x]=>exact List.pairwise_singleton _ _
   | x::_::_=>exact List.pairwise_singleton _ _
  ·rw [show a+1-a=1 by omega,←ϋ (X.take 1),Ϟ];exact HB.out.1
 case round=>
  obtain ⟨i,C,rfl,hi,hib,hpm,hst,oo,hu⟩:=hrel;rename World=>wr
  by_cases hlt:i<b
  ·have zi:(i:Int)<(b:Int):=ω;have hin:i<n:=ω;have w2:IntKind.i64.wrap ((i:Int)+1)=(i:Int)+1:=Μ _ ω;have hkX:i-a<X.length:=by have:=HB.out;omega
   obtain ⟨x,hx⟩:∃x,X.drop (i-a)=x::X.drop (i-a+1):=⟨X[i-a],Ϣ hkX⟩;have IU:C.length=i-a:=by rw [hpm.length_eq,ϑ];omega
   have hxt:=Kg hx;obtain ⟨R,hR⟩:∃R,X.drop (i-a+1)++S=R:=⟨_,rfl⟩;have hP1:PR wr g (P++(C++x::([]++R))):=oo.len (by rw [hx,←hR];simp);have HI:=χ (ψ hpm (ψ hst (ψ hxt (ψ hR IU))));clear oo hx hpm hst hxt hR;go_wp2
   go_loopw [9] (fun jv wr=>∃ (j:Nat) (C1 C2:List Pl),jv=.int .i64 (j:Int)/\C=C1++C2/\j=a+C1.length/\(∀y,y∈C2->mo x y)/\PR wr g (P++(C1++x::(C2++R)))/\aa [g] w wr) (fun jv _=>(intOf jv).toNat)
   case atStart=>exact ⟨i,C,[],rfl,σ,by have:=HI.out;omega,σ,hP1,hu⟩
   case round=>
    clear hP1 hu;obtain ⟨j,C1,C2,rfl,hC,hj,hge,oo,hu⟩:=hrel;rename World=>wr;have hjn:j<=i:=by have:=HI.out.2.2.2.2;rw [hC,υ] at this;omega
    rcases List.eq_nil_or_concat C1 with rfl|⟨C0,z,rfl⟩
    ·have hja:j=a:=by simpa using hj
     have HE:=χ (ψ hC (ψ hge oo));subst hja;clear hC hge oo hj;go_wp2
     go_quiet (fail)
     go_wp2
     go_roundw
     case rel=>
      obtain ⟨h1,h2,h3,h4,h5⟩:=HI.out;obtain ⟨e1,e2,e3⟩:=HE.out;rw [Ϡ] at e1;subst e1;refine ⟨i+1,x::C,rfl,ω,Α ω,?_,List.pairwise_cons.2 ⟨e2,h2⟩,?_,β⟩
      ·rw [show i+1-j=i-j+1 by omega,h3];exact (List.Perm.cons x (by simpa using h1)).trans (Ϛ x _).symm
      ·rw [show i+1-j=i-j+1 by omega,h4];exact (e3.len σ).upd (S:=[]) β σ
     case measure=>simp [intOf];omega
    ·rw [List.concat_eq_append] at hC hj oo;rw [υ,List.length_singleton] at hj;obtain ⟨k,hk⟩:∃k:Nat,k+1=j:=⟨j-1,ω⟩;have w7:IntKind.i64.wrap ((j:Int)-1)=(k:Int):=by rw [Μ _ ω];omega
     have hjg:decide ((j:Int) > (a:Int))=true:=ζ;have hjg2:decide (a<j)=true:=ζ;have hajI:(a:Int)<(j:Int):=ω;have hP':PR wr g ((P++C0)++z::([]++x::(C2++R))):=oo.len σ;have i1:k=(P++C0).length:=by have:=HB.out.2.1;simp;omega
     have i2:j=(P++C0).length+(([]:List Pl).length+1):=by have:=HB.out.2.1;simp;omega
     obtain ⟨⟨c0,c1⟩,c2,c3⟩:=hP'.mid i1 i2;have zb:=hP'.s z σ;have xb:=hP'.s x σ;have kc:=fun W=>qI x z xb zb W;have hgl:=hP'.lt;have g1:(k:Int)<(n:Int):=ω;have g2:(j:Int)<(n:Int):=ω;have hne:¬k=j:=ω;have y0:∀W,aa [] wr W->W.cell? ⟨g,k*2,none⟩=some (.int .i64 (z.1:Int)):=fun W h=>h.was c0;have y1:∀W,aa [] wr W->W.cell? ⟨g,k*2+1,none⟩=some (.int .i64 (z.2:Int)):=fun W h=>h.was c1;have q0:∀W,aa [] wr W->W.cell? ⟨g,j*2,none⟩=some (.int .i64 (x.1:Int)):=fun W h=>h.was c2;have q1:∀W,aa [] wr W->W.cell? ⟨g,j*2+1,none⟩=some (.int .i64 (x.2:Int)):=fun W h=>h.was c3
     have HE:=χ (ψ hC (ψ hj (ψ hge (ψ hP' (ψ i1 (ψ i2 hk))))));clear hC hge oo hP' i1 i2 hk hj c0 c1 c2 c3;cases hcmp:decide (DL x z<0) with
     | true=>
      have HC:=χ ((mQ _ _).1 hcmp);go_wp2
      go_region_held3 (aa [] wr) (first|assumption|(refine aa.drew ?_;first|assumption|exact aa.refl _ _)|(apply aa.trans;rotate_left;assumption;assumption))
       (first|((go_at_call 73;(with_reducible refine (kc _).mono ?_));rintro e w6 ⟨rfl,gX⟩;(have FP:aa [] wr w6:=aa.trans (by (first|assumption|(refine aa.drew ?_;first|assumption|exact aa.refl _ _)|(apply aa.trans;rotate_left;assumption;assumption))) gX)))
      have c0:=y0 w6 FP;have c1:=y1 w6 FP;have c2:=q0 w6 FP;have c3:=q1 w6 FP;have pU:=HE.out.2.2.2.1.upd FP σ;have f0:=pU.f (k*2);have f1:=pU.f (k*2+1);have f2:=pU.f (j*2);have f3:=pU.f (j*2+1);have hgl6:=pU.lt;have HS:=χ (pU.swap HE.out.2.2.2.2.1 HE.out.2.2.2.2.2.1);have huw:=hu.trans (FP.mono σ);clear pU y0 y1 q0 q1 hu kc;go_wp2
      go_region
      all_goals
       go_wp2;obtain ⟨h1,h2,h3,h4,h5,h6,h7⟩:=HE.out;refine ⟨⟨k,C0,z::C2,rfl,by rw [h1];simp,ω,?_,?_,β⟩,by simp [intOf];omega⟩
       ·intro y hy;rcases ρ.1 hy with rfl|hy
        ·exact mo.of_lt HC.out
        ·exact h3 y hy
       ·exact (pz HS.out (by first|exact Α rfl|exact Β rfl)).drew.len σ
     | false=>
      have HC:=χ (show ¬EM x z from fun hl=>by have:=(mQ x z).2 hl;rw [hcmp] at this;cases this);go_wp2
      go_region_held3 (aa [] wr) (first|assumption|(refine aa.drew ?_;first|assumption|exact aa.refl _ _)|(apply aa.trans;rotate_left;assumption;assumption))
       (first|((go_at_call 73;(with_reducible refine (kc _).mono ?_));rintro e w6 ⟨rfl,gX⟩;(have FP:aa [] wr w6:=aa.trans (by (first|assumption|(refine aa.drew ?_;first|assumption|exact aa.refl _ _)|(apply aa.trans;rotate_left;assumption;assumption))) gX)))
      go_wp2
      go_roundw
      case rel=>
       obtain ⟨h1,h2,h3,h4,h5⟩:=HI.out;obtain ⟨e1,e2,e3,e4, -⟩:=HE.out;subst e1;refine ⟨i+1,(C0++[z])++x::C2,rfl,ω,Α ω,?_,?_,?_,hu.trans (aa.mono (S:=[]) ν σ)⟩
       ·rw [show i+1-a=i-a+1 by omega,h3];exact List.perm_middle.trans ((List.Perm.cons x h1).trans (Ϛ x _).symm)
       ·refine SK h2 (fun y hy=>?_) e3;have hzx:mo z x:=mo.Ce HC.out;rcases τ.1 hy with hy|hy
        ·have h6:=(List.pairwise_append.1 (List.pairwise_append.1 h2).1).2.2 y hy z σ;exact h6.trans hzx
        ·obtain rfl:y=z:=by simpa using hy
         exact hzx
       ·rw [show i+1-a=i-a+1 by omega,h4];exact (e4.len σ).upd (S:=[]) ν σ
      case measure=>simp [intOf];omega
  ·have zi:¬ (i:Int)<(b:Int):=ω;have HE:=χ (ψ hpm (ψ hst (ψ oo hu)));clear hpm hst oo hu;go_wp2;go_end0;obtain ⟨h1,h2,h3,h4⟩:=HE.out;refine ⟨rfl,C,?_,h2,h3.len ?_,h4⟩
   ·rwa [List.take_of_length_le (by have:=HB.out;omega)] at h1
   ·rw [List.drop_eq_nil_of_le (by have:=HB.out;omega)];simp
end Go.Proofs.YtklibcncmbofpaaGreat
