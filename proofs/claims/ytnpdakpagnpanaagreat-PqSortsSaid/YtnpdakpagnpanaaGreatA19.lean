/-
  Lemmas for PqSorts: Shelf, Dr5, Sd12, Dr6. Conditions: those of each lemma.
-/
import Derived.Ground.Names2Prog
import Derived.Shelf.Slices.Clone
import Derived.Ground.SlgnProg
import Derived.Shelf.SlicesE.Clone
import Derived.Test.YtnpdakpagnpanaaGreatA07
import Derived.Test.YtnpdakpagnpanaaGreatA09
set_option linter.all false
set_option maxHeartbeats 8000000
set_option maxRecDepth 10000
namespace Go.Proofs
open Go.Shelf
def Tryz.yZ:Go.Shelf.Ren:=⟨fun|15=>152|n=>n,fun|22=>77|3=>3|4=>4|n=>n,fun|n=>n⟩
theorem Tryz.A9:Go.Proofs.Lays2.n15 Tryz.prog Tryz.yZ:={
 mixed:=by kernel_rfl
 f15:=Tryz.func152.trans (congrArg some (by kernel_rfl))
 t3:=Tryz.underlying3
 a3:=Tryz.isAgg3
 z3:=Tryz.sizeOf3
 v3:=Tryz.zeroValue3
 t4:=Tryz.underlying4
 a4:=Tryz.isAgg4
 z4:=Tryz.sizeOf4
 v4:=Tryz.zeroValue4
 t22:=Tryz.underlying77
 a22:=Tryz.isAgg77
 z22:=Tryz.sizeOf77
 v22:=Tryz.zeroValue77
 i3:=by kernel_rfl }
open Go.RowKit Go.Lib in
theorem Tryz.slices_Clone_int (b off n c:Nat) (zs:List Int) (w:World) (hz:n<=zs.length) (hbig:n*8<=140737488355328) (hc:∀j,j<zs.length->w.cell? ⟨b,off+j,none⟩=some (.int .i64 (zs.getD j 0))) :
  Calls Tryz.prog 152 #[.slice (some ⟨b,off,none⟩) n c] w λe w'=>∃v',e=.returned v'/\w'.ownsRow w.heap.size 3 1 v' n ((zs.take n).map (Value.int .i64))/\v'≠.slice none 0 0/\Below w.heap.size w w':=Any.slices_Clone_int Tryz.A9 b off n c zs w hz hbig hc
open Go.RowKit Go.Lib in
theorem Tryz.slices_Clone_int_nil (n c:Nat) (w:World) :
  Calls Tryz.prog 152 #[.slice none n c] w λe w'=>e=.returned (.slice none 0 0)/\w'=w:=Any.slices_Clone_int_nil Tryz.A9 n c w
end Go.Proofs
namespace Go.Proofs.YtnpdakpagnpanaaGreat
open Go Go.RowKit
/-! ### plainly -/
def yw (a b t f:Nat):Prop:=(t=a/\f=b)\/(t=b/\f=a)
section
variable {d:Nat} {A:NS} {L:Nat->List Nat} {a b t f:Nat}
theorem pM.sum (h:pM d A L) (hd:2<=d) (hj:fQ A a b=true) (ht:yw a b t f) :
  (L t++L f).Nodup/\(L t).length+(L f).length<=A.cs.length/\(∀y,y∈L t++L f->bR (ah A a b) (y:Int)=true/\y<A.cs.length)/\Hp (mX (ah A a b)) d (L t)/\
  (∀x,x∈L t++L f↔x<A.cs.length/\((ah A a b).c x).i=a):=by
 obtain ⟨j1,j2,j3⟩:=(cO _ _ _).1 hj;have hne:a≠b:=λe=>j3 (by rw [e]);have ha:=(aA _ _).1 j1;have hb:=(aA _ _).1 j2;have ht1:bA A t=true:=by rcases ht with ⟨e, -⟩|⟨e, -⟩<;>rw [e]<;>assumption
 have hf1:bA A f=true:=by rcases ht with ⟨-,e⟩|⟨-,e⟩<;>rw [e]<;>assumption
 have Y7:t≠f:=by rcases ht with ⟨e,e'⟩|⟨e,e'⟩<;>omega
 have hm:∀x,x∈L t++L f↔x<A.cs.length/\((ah A a b).c x).i=a:=λx=>by
  rw [τ,h.mem t x ht1,h.mem f x hf1,kY hj]
  show _↔x<A.cs.length/\(if (A.c x).i=b/\x<A.cs.length then (a:Int) else (A.c x).i)=a
  rcases ht with ⟨rfl,rfl⟩|⟨rfl,rfl⟩
  ·constructor
   ·rintro (⟨h1,h2⟩|⟨h1,h2⟩)
    ·exact ⟨h1,by rw [Γ ω];exact h2⟩
    ·exact ⟨h1,by rw [Δ ⟨h2,h1⟩]⟩
   ·rintro ⟨h1,h2⟩
    by_cases e:(A.c x).i=f
    ·exact Β ⟨h1,e⟩
    ·rw [Γ (λh=>e h.1)] at h2;exact Α ⟨h1,h2⟩
  ·constructor
   ·rintro (⟨h1,h2⟩|⟨h1,h2⟩)
    ·exact ⟨h1,by rw [Δ ⟨h2,h1⟩]⟩
    ·exact ⟨h1,by rw [Γ ω];exact h2⟩
   ·rintro ⟨h1,h2⟩
    by_cases e:(A.c x).i=t
    ·exact Α ⟨h1,e⟩
    ·rw [Γ (λh=>e h.1)] at h2;exact Β ⟨h1,h2⟩
 have hnd:(L t++L f).Nodup:=by
  rw [θ];refine ⟨h.nd t ht1,h.nd f hf1,λx hx y hy e=>?_⟩;have h1:=(h.mem t x ht1).1 hx;have h2:=(h.mem f y hf1).1 hy;rw [e] at h1;omega
 refine ⟨hnd,?_,λy hy=>?_,?_,hm⟩
 ·have h1:=nodup_range A.cs.length ((L t++L f).map (λ(x:Nat)=>(x:Int))) (by
   unfold List.Nodup at hnd ⊢;rw [List.pairwise_map];exact hnd.imp (λh e=>h ω)) (λz hz=>by
   obtain ⟨y,hy,rfl⟩:=List.mem_map.1 hz
   have:=((hm y).1 hy).1;omega)
  simpa using h1
 ·have h1:=(hm y).1 hy;exact ⟨(ay _ _).2 ⟨by rw [dA];exact h1.1,by rw [h1.2];omega⟩,h1.1⟩
 ·exact (h.hp t ht1).frame (λx y _ _ hab=>dN.2 ((lY hj _ _).2 (dN.1 hab))) hd
theorem pM.join (h:pM d A L) (hd:2<=d) (hj:fQ A a b=true) (ht:yw a b t f) {l:List Nat} (hp:l.Perm (L t++L f)) (hH:Hp (mX (ah A a b)) d l):pM d (ah A a b) (dU L a l):=by
 obtain ⟨s1,s2,s3,s4,s5⟩:=h.sum hd hj ht;have hk:∀k:Nat,k≠a->bA (ah A a b) k=true->bA A k=true/\k≠b:=λk e hk=>by
  rw [jM hj] at hk;simp at hk;exact ⟨hk.1,ω⟩
 refine ⟨λk hk1=>?_,λk hk1=>?_,λk x hk1=>?_⟩
 ·by_cases e:k=a
  ·subst e;rw [bg];exact hH
  ·rw [aL _ _ e];exact (h.hp k (hk k e hk1).1).frame (λx y _ _ hab=>dN.2 ((lY hj _ _).2 (dN.1 hab))) hd
 ·by_cases e:k=a
  ·subst e;rw [bg];exact hp.nodup_iff.2 s1
  ·rw [aL _ _ e];exact h.nd k (hk k e hk1).1
 ·rw [dA]
  by_cases e:k=a
  ·subst e;rw [bg,hp.mem_iff];exact s5 x
  ·rw [aL _ _ e,h.mem k x (hk k e hk1).1,kY hj];have h2:=(hk k e hk1).2
   show _↔x<A.cs.length/\(if (A.c x).i=b/\x<A.cs.length then (a:Int) else (A.c x).i)=k
   constructor
   ·rintro ⟨h3,h4⟩;exact ⟨h3,by rw [Γ ω];exact h4⟩
   ·rintro ⟨h3,h4⟩;refine ⟨h3,?_⟩
    split at h4
    ·omega
    ·exact h4
end
theorem rJ (f:Nat->Option Nat) (m h:Nat) (o:Option Nat):(jH f m).set h (sj o)=jH (dU f h o) m:=by
 apply List.ext_getElem?;intro j;rw [ύ,vJ]
 by_cases hj:j<m
 ·rw [vR (f:=dU f h o) hj,vR hj]
  by_cases e:h=j
  ·subst e;rw [Δ rfl,Δ hj,bg]
  ·rw [Γ e,aL _ _ (λe'=>e e'.symm)]
 ·have h1:(jH f m)[j]?=none:=List.getElem?_eq_none (by rw [vJ];omega);have h2:(jH (dU f h o) m)[j]?=none:=List.getElem?_eq_none (by rw [vJ];omega);rw [h1,h2]
  split
  ·rw [Γ ω]
  ·rfl
theorem pR.xL {K:Yh} {ety:TypeId} {w w':World} {gr cr m:Nat} {has has':Nat->Bool} {Z:List Nat} {ptr:Nat->Option Nat} {G L:Nat->List Nat} {S G' L':List Nat} {a b t f pt:Nat} (h:pR K ety w gr cr m has Z ptr G L) (ha:has a=true) (hb:has b=true) (ht:yw a b t f)
  (hp:ptr t=some pt) (hrows:w'.ownsRow 0 ety 1 (.slice (some ⟨gr,0,none⟩) m cr) m (jH (dU (dU ptr a (some pt)) b none) m)) (hne:a≠b)
  (hu:aa S w w') (hS:∀z,z∈S->z∈G t\/z∉Z) (hr:K.at_ w' pt G' L') (hG:∀z,z∈G'->z∈G t\/w.heap.size<=z) (hh:∀k,has' k=(has k && !(k == b))) :
  pR K ety w' gr cr m has' (Z++G') (dU (dU ptr a (some pt)) b none) (dU G a G') (dU L a L'):=by
 have hgl:=h.lt;have ht1:has t=true:=by rcases ht with ⟨e, -⟩|⟨e, -⟩<;>rw [e]<;>assumption
 have hk:∀k,has' k=true->has k=true/\k≠b:=λk hk=>by
  rw [hh] at hk;simp at hk;exact hk
 have hkt:∀k,has' k=true->k≠a->k≠t:=λk h1 h2 e=>by
  rcases ht with ⟨e', -⟩|⟨e', -⟩
  ·exact h2 (by rw [e,e'])
  ·exact (hk k h1).2 (by rw [e,e'])
 have hoth:∀k,has' k=true->k≠a->∀z,z∈S->z∉G k:=λk h1 h2 z hz hm=>by
  rcases hS z hz with h3|h3
  ·exact h.Kj t k ht1 (hk k h1).1 (λe=>hkt k h1 h2 e.symm) z h3 hm
  ·exact h3 (h.qK k (hk k h1).1 z hm)
 refine ⟨hrows,λk h1=>?_,λk h1 z hz=>?_,λk j h1 h2 hne2 z hz=>?_,λz hz=>?_,λhm=>?_⟩
 ·by_cases e:k=a
  ·subst e;rw [bg,bg,aL _ _ hne,bg];exact ⟨pt,rfl,hr⟩
  ·rw [aL _ _ e,aL _ _ e,aL _ _ (hk k h1).2,aL _ _ e];obtain ⟨q,e2,hq⟩:=h.row k (hk k h1).1;exact ⟨q,e2,K.upd hq hu (hoth k h1 e)⟩
 ·by_cases e:k=a
  ·subst e;rw [bg] at hz;exact τ.2 (Β hz)
  ·rw [aL _ _ e] at hz;exact τ.2 (Α (h.qK k (hk k h1).1 z hz))
 ·have hn:∀k,has' k=true->k≠a->∀z,z∈G'->z∉G k:=λk h1 e z hz hm=>by
   rcases hG z hz with h3|h3
   ·exact h.Kj t k ht1 (hk k h1).1 (λe2=>hkt k h1 e e2.symm) z h3 hm
   ·have:=h.CL z (h.qK k (hk k h1).1 z hm);omega
  by_cases e:k=a
  ·subst e;rw [bg] at hz;rw [aL _ _ (λe=>hne2 e.symm)];exact hn j h2 (λe=>hne2 e.symm) z hz
  ·rw [aL _ _ e] at hz
   by_cases e2:j=a
   ·subst e2;rw [bg];exact λhm=>hn k h1 e z hm hz
   ·rw [aL _ _ e2];exact h.Kj k j (hk k h1).1 (hk j h2).1 hne2 z hz
 ·rcases τ.1 hz with h1|h1
  ·exact Ψ (h.CL z h1) hu.size
  ·exact K.lt hr z h1
 ·rcases τ.1 hm with h1|h1
  ·exact h.Cx h1
  ·rcases hG _ h1 with h2|h2
   ·exact h.Cx (h.qK t ht1 _ h2)
   ·omega
/-! ### a row's length, all its things -/
theorem zQ {w:World} {rp d:Nat} {G L:List Nat} (h:jG w rp G d L):Calls Tryz.prog 142 #[.pointer (some ⟨rp,0,none⟩)] w λe w'=>e=.returned (.int .i64 (L.length:Int))/\w'=w:=by
 obtain ⟨mb,f,v,h1,h2,h3,h4,h5,h6,rfl⟩:=h;obtain ⟨a,cc,rfl,hcc⟩:=bz h2;have c1:=h1.cellAt 1 (v:=.slice a L.length cc) ω rfl;clear h1 h2 h3 h4 h6;generalize L.length=n at *
 go_enter Tryz.func142,Tryz.ntmps142
 go_wp2;go_ret;exact ⟨rfl,rfl⟩
theorem Gc {w:World} {v:Value} {n:Nat} {l:List Int} (h:w.ownsRow 0 3 1 v n (aT l)) (hn:n<=1000000) :
  Calls Tryz.prog 152 #[v] w λe w'=>∃v',e=.returned v'/\w'.ownsRow w.heap.size 3 1 v' n (aT l)/\aa [] w w':=by
 have hl:l.length=n:=by have:=h.1;rw [fM] at this;omega
 rcases h.2 with ⟨rfl,rfl⟩|⟨g,cap,cur,rfl,hb,hg,hn1,hc,hs,ht⟩
 ·have e:l=[]:=ϙ hl;subst e;refine (Tryz.slices_Clone_int_nil 0 0 w).mono ?_;rintro e w' ⟨rfl,rfl⟩;exact ⟨_,rfl,⟨rfl,Α ⟨rfl,rfl⟩⟩,aa.refl _ _⟩
 ·have hcs:∀j,j<l.length->w.cell? ⟨g,0+j,none⟩=some (.int .i64 (l.getD j 0)):=λj hj=>by
   rw [Nat.zero_add,h.cellAt j ω];exact jT hj
  refine (Tryz.slices_Clone_int g 0 n cap l w ω ω hcs).mono ?_;rintro e w' ⟨v',rfl,ho, -,hb'⟩;rw [List.take_of_length_le ω] at ho;exact ⟨_,rfl,ho,Cf hb'⟩
theorem JO {w:World} {rp d:Nat} {G L:List Nat} (h:jG w rp G d L) (hl:L.length<=65536):Calls Tryz.prog 143 #[.pointer (some ⟨rp,0,none⟩)] w λe w'=>∃v,e=.returned v/\w'.ownsRow w.heap.size 3 1 v L.length (aT (bG L))/\aa [] w w':=by
 obtain ⟨mb,f,v,h1,h2,h3,h4,h5,h6,rfl⟩:=h;have c1:=h1.cellAt 1 (v:=v) ω rfl;have kc:=Gc h2 ω;clear h1 h2 h3 h4 h6;generalize L.length=n at *
 go_enter Tryz.func143,Tryz.ntmps143
 go_wp2_with (first
  | ((go_at_call 152;(with_reducible refine (kc).mono ?_));rintro e w2 ⟨v2,rfl,ho2,hu2⟩)
  | fail)
 go_ret;exact ⟨_,rfl,ho2,hu2⟩
theorem Pg {w:World} {B:HB} {rp n:Nat} {a:Option Addr} {cc:Nat} (h1:aJ w rp 302 2 (IL B (.slice a n cc))):Calls Tryz.prog 270 #[.pointer (some ⟨rp,0,none⟩)] w λe w'=>e=.returned (.int .i64 (n:Int))/\w'=w:=by
 have c1:=h1.cellAt 1 (v:=.slice a n cc) ω rfl;clear h1
 go_enter Tryz.func270,Tryz.ntmps270
 go_wp2;go_ret;exact ⟨rfl,rfl⟩
structure Ql (B:HB) (F:List Nat) (A:NS) (pt:Nat) (vt:Value) (Lt Lf T:List Nat) (w7 X:World) (i:Nat) (v':Value) (L' T':List Nat):Prop where
 Tc:Ac X B F A pt v' L' T'
 perm:L'.Perm (Lt++Lf.take i)
 hp:Hp (mX A) 2 L'
 tl:T'.length=T.length
 wJ:∀y,y∉Lt++Lf.take i->T'.getD y 0=T.getD y 0
 upd:aa (pt::B.ga::B.c::vt.ownBlock.toList) w7 X
 new:∀g,v'.ownBlock=some g->vt.ownBlock=some g\/w7.heap.size<=g
section
variable {B:HB} {F:List Nat} {A:NS} {pt i:Nat} {vt v':Value} {Lt Lf T L' T':List Nat} {w7 X:World}
theorem Ql.ai {Y:World} (h:Ql B F A pt vt Lt Lf T w7 X i v' L' T') (hu:aa [] X Y):Ql B F A pt vt Lt Lf T w7 Y i v' L' T':=
 ⟨h.Tc.ai hu,h.perm,h.hp,h.tl,h.wJ,h.upd.joined hu σ,h.new⟩
theorem Ql.add (h:Ql B F A pt vt Lt Lf T w7 X i v' L' T') (hi:i<Lf.length) (hnd0:(Lt++Lf).Nodup) (hln:Lt.length+Lf.length<=T.length) (hdom:∀y,y∈Lt++Lf->bR A (y:Int)=true/\y<T.length) :
  Calls Tryz.prog 269 #[.iface 298 (.pointer (some ⟨pt,0,none⟩)),.iface 3 (.int .i64 ((Lf.getD i 0:Nat):Int))] X λe w'=>e=.returned (.tuple #[])/\∃v2 L2 T2,Ql B F A pt vt Lt Lf T w7 w' (i+1) v2 L2 T2:=by
 have hx:Lf[i]?=some (Lf.getD i 0):=by rw [φ,ε hi];rfl
 generalize Lf.getD i 0=x at *;have ht:Lf.take (i+1)=Lf.take i++[x]:=by rw [Ϗ,hx];rfl
 have hsub:(Lt++Lf.take (i+1)).Sublist (Lt++Lf):=(List.Sublist.refl _).append (List.take_sublist _ _);have hnd:(Lt++Lf.take (i+1)).Nodup:=hsub.nodup hnd0;have hp2:(x::L').Perm (Lt++Lf.take (i+1)):=by
  rw [ht,←ϋ];exact ((h.perm.cons x).trans (Φ (l₁:=[x]) (l₂:=Lt++Lf.take i)))
 have hnx:=Ζ.1 (hp2.nodup_iff.2 hnd);have hmem:∀y,y∈x::L'->y∈Lt++Lf:=λy hy=>hsub.subset (hp2.mem_iff.1 hy);have hlen:=hp2.length_eq;have hle:=hsub.length_le;rw [υ,υ] at hle;rw [υ] at hlen;have htl:=h.tl;have Wq:=hdom x (hmem x σ);refine (Af h.Tc x hnx.1 Wq.1 (by rw [htl];exact Wq.2) (by simp only [Ω] at hlen;omega) h.hp).mono ?_;rintro e w' ⟨rfl,gs,cap,L2,T2,q1,q2,q3,q4,q5,q6,q7⟩;refine ⟨rfl,_,L2,T2,q1.any,q2.trans hp2,q3,q5.trans htl,λy hy=>?_,h.upd.joined q6 (λz hz=>?_),λg hg=>?_⟩
 ·rw [q4 y (λhm=>hy (hp2.mem_iff.1 hm))];refine h.wJ y (λhm=>hy ?_);rw [ht,←ϋ];exact τ.2 (Α hm)
 ·simp only [ρ] at hz ⊢;rcases hz with e|e|e|e
  ·exact Α (Α e)
  ·exact Α (Β (Α e))
  ·exact Α (Β (Β (Α e)))
  ·rcases h.new z (Option.mem_toList.1 e) with e|e
   ·exact Α (Β (Β (Β (Option.mem_toList.2 e))))
   ·exact Β e
 ·have hg':some gs=some g:=hg;cases hg';rcases q7 with e|e
  ·exact h.new _ e
  ·have:=h.upd.size;exact Β ω
end
section
variable {w w':World} {B:HB} {F Z:List Nat} {gr cr st:Nat} {A:NS} {ptr:Nat->Option Nat} {G L:Nat->List Nat} {T:List Nat}
theorem GR (h:ShAt w B F Z gr A st) (a b:Nat) (hj:fQ A a b=true) :
  Calls Tryz.prog 265 #[.pointer (some ⟨B.n0,0,none⟩),.int .i64 (a:Int),.int .i64 (b:Int)] w λe w'=>e=.returned (.bool true)/\Goes (B.blk F Z gr) w w' (λF'=>∃Z' st',F'=B.blk F Z' gr/\ShAt w' B F Z' gr (ah A a b) st'):=by
 obtain ⟨cr,ptr,G,L,T,hM,hI⟩:=h;obtain ⟨j1,j2,j3⟩:=(cO _ _ _).1 hj;have a1:=(aA _ _).1 j1;have a2:=(aA _ _).1 j2;have hne:a≠b:=λe=>j3 (by rw [e]);have hok:=hM.cells.ok;have hcs:=hok.c1;have hd:=hI.di;obtain ⟨pa,Dn,va,hRa,hOa, -, -⟩:=hM.gV.row a j1;obtain ⟨pb,hpb,vb,hRb,hOb, -, -⟩:=hM.gV.row b j2;have iN:(ah A a b).hs.length=A.hs.length:=by unfold ah;rw [Δ hj];simp
 have Y5:=hM.gV.cell (g:=a) ω Dn;have YX:=hM.gV.cell (g:=b) ω hpb;obtain ⟨t,f,ht,hlt⟩:∃t f,yw a b t f/\((t=a/\f=b/\¬ (L a).length<(L b).length)\/(t=b/\f=a/\(L a).length<(L b).length)):=by
  by_cases e:(L a).length<(L b).length
  ·exact ⟨b,a,Β ⟨rfl,rfl⟩,Β ⟨rfl,rfl,e⟩⟩
  ·exact ⟨a,b,Α ⟨rfl,rfl⟩,Α ⟨rfl,rfl,e⟩⟩
 have ht1:bA A t=true:=by rcases ht with ⟨e, -⟩|⟨e, -⟩<;>rw [e]<;>assumption
 have hf1:bA A f=true:=by rcases ht with ⟨-,e⟩|⟨-,e⟩<;>rw [e]<;>assumption
 have Y7:t≠f:=by rcases ht with ⟨e,e'⟩|⟨e,e'⟩<;>omega
 obtain ⟨s1,s2,s3,s4,s5⟩:=hd.sum ω hj ht;obtain ⟨pt,vt,hpt,JF,yS⟩:=hM.pile ht1 (λy hy=>⟨(hd.len ht1 hy).2.1,by rw [hM.tl];exact (hd.len ht1 hy).1⟩) (hd.nd t ht1) (hI.wJ t ht1);obtain ⟨pf,Tx,vf,hRf,hOf,ZQ, -⟩:=hM.gV.row f hf1;have Ya:(pa=pt/\pb=pf/\¬ (L a).length<(L b).length)\/(pa=pf/\pb=pt/\(L a).length<(L b).length):=by
  rcases hlt with ⟨rfl,rfl,e⟩|⟨rfl,rfl,e⟩
  ·rw [hpt] at Dn;rw [Tx] at hpb;cases Dn;cases hpb;exact Α ⟨rfl,rfl,e⟩
  ·rw [Tx] at Dn;rw [hpt] at hpb;cases Dn;cases hpb;exact Β ⟨rfl,rfl,e⟩
 have hl:=hM.lt;have kj:=jQ hM.cells a b hj;have LP:∀q:Nat,bA A q=true->∀z,z∈G q->z∈Z:=λq hq z hz=>hM.gV.qK q hq z hz;have hnF:∀z,z∈Z->z∉gr::F:=λz hz hm=>by
  rcases ρ.1 hm with e|e
  ·exact hM.gV.Cx (by rw [←e];exact hz)
  ·exact (hM.gH z hz).1 e
 have zm:∀ (q p:Nat) (W:World),aa (gr::F) w W->bA A q=true->ptr q=some p->Calls Tryz.prog 270 #[.pointer (some ⟨p,0,none⟩)] W λe w'=>e=.returned (.int .i64 ((L q).length:Int))/\w'=W:=λq p W hW hq hp=>by
  obtain ⟨p',hp',v,h1,h2,h3,h4⟩:=hM.gV.row q hq;rw [hp] at hp';cases hp';obtain ⟨x,c,rfl, -⟩:=bz h2;exact Pg (h1.upd hW (hnF _ (LP q hq _ (by rw [h3];simp))))
 have Yj:=λW (hW:aa (gr::F) w W)=>zm a pa W hW j1 Dn;have X9:=λW (hW:aa (gr::F) w W)=>zm b pb W hW j2 hpb;obtain ⟨af,cf,rfl,hcf⟩:=bz hOf;have X0:pf∈Z:=LP f hf1 _ (by rw [ZQ];simp);have Xq:∀W,aa (gr::F) w W->W.cell? ⟨pf,1,none⟩=some (.slice af (L f).length cf):=λW hW=>hW.kept (hRf.cellAt 1 ω rfl) (hnF _ X0);have Ap:=hM.bI;have nS:=hM.sep;have HD:=χ (ψ s1 (ψ (show (L t).length+(L f).length<=T.length by rw [hM.tl];exact s2) (show ∀y,y∈L t++L f->bR (ah A a b) (y:Int)=true/\y<T.length from λy hy=>⟨(s3 y hy).1,by rw [hM.tl];exact (s3 y hy).2⟩)))
 have HC:Hid (∀W,aa (gr::F) w W->∀st',aB W B.c F (ah A a b) st'->Ql B F (ah A a b) pt vt (L t) (L f) T W W 0 vt (L t) T):=λW hW st' hC=>by
  have h1:pt∈Z:=LP t ht1 _ (by rw [JF];simp);have hga:B.ga∉gr::F:=λhm=>by
   rcases ρ.1 hm with e|e
   ·exact nS.2.2 e
   ·exact Ap.2.2 e
  have hn0:B.n0∉gr::F:=λhm=>by
   rcases ρ.1 hm with e|e
   ·exact nS.1 e
   ·exact Ap.1 e
  exact ⟨⟨yS.hd.upd hW (hnF _ h1),au yS.own hW (λk hk=>hnF _ (LP t ht1 _ (by rw [JF];exact Λ _ (Option.mem_toList.2 hk)))),yS.wN.upd hW hga,hW.kept yS.LW hn0,hW.kept yS.LK hn0,⟨st',hC⟩,yS.s1,yS.sg,yS.s2,yS.s3,λy hy=>HD.out.2.2 y (τ.2 (Α hy)),yS.nd,yS.wJ,yS.tl⟩,σ,s4,rfl,λy _=>rfl,aa.refl _ _,λg hg=>Α hg⟩
 have hapart:∀ (q z:Nat),bA A q=true->q≠t->z∈G q->z∉pt::B.ga::B.c::vt.ownBlock.toList:=λq z hq hqt hz hm=>by
  have hzZ:=LP q hq z hz;have h3:=hM.gH z hzZ;have hnt:z∉pt::vt.ownBlock.toList:=λh=>hM.gV.Kj q t hq ht1 hqt z hz (by rw [JF];exact h);simp only [ρ] at hm hnt;rcases hm with e|e|e|e
  ·exact hnt (Α e)
  ·exact h3.2.2 e
  ·exact h3.1 (by rw [e];exact hM.cells.mem)
  ·exact hnt (Β e)
 have hfro:∀W X,aa (gr::F) w W->aa (pt::B.ga::B.c::vt.ownBlock.toList) W X->X.ownsRow 0 3 1 (.slice af (L f).length cf) (L f).length (aT (bG (L f))):=λW X hW hX=>
  au (au hOf hW (λk hk=>hnF _ (LP f hf1 _ (by rw [ZQ];exact Λ _ (Option.mem_toList.2 hk))))) hX (λk hk=>hapart f k hf1 (λe=>Y7 e.symm) (by rw [ZQ];exact Λ _ (Option.mem_toList.2 hk)))
 have X3:gr∉pt::B.ga::B.c::vt.ownBlock.toList:=λhm=>by
  have hnt:gr∉pt::vt.ownBlock.toList:=λh=>hM.gV.Cx (LP t ht1 _ (by rw [JF];exact h));simp only [ρ] at hm hnt;rcases hm with e|e|e|e
  ·exact hnt (Α e)
  ·exact nS.2.2 e.symm
  ·exact Ap.2.1 (by rw [e];exact hM.cells.mem)
  ·exact hnt (Β e)
 have FIN:Hid (∀W0 W v' L' T',aa (gr::F) w W0->Ql B F (ah A a b) pt vt (L t) (L f) T W0 W (L f).length v' L' T'->
   W0.ownsRow 0 298 1 (.slice (some ⟨gr,0,none⟩) A.hs.length cr) A.hs.length (jH (dU (dU ptr a (some pt)) b none) A.hs.length)->
   Goes (B.blk F Z gr) w W (λF'=>∃Z' st',F'=B.blk F Z' gr/\ShAt W B F Z' gr (ah A a b) st')):=λW0 W v' L' T' h0 h1 h7=>by
  have hperm:L'.Perm (L t++L f):=by have:=h1.perm;rwa [List.take_length] at this
  obtain ⟨st',hC⟩:=h1.Tc.wV;have hs0:=h0.size
  have hU:aa (gr::(F++(pt::B.ga::B.c::vt.ownBlock.toList))) w W:=(h0.mono (λz hz=>by
   rcases ρ.1 hz with e|e
   ·rw [e];simp
   ·simp [e])).trans (h1.upd.mono (λz hz=>Λ _ (τ.2 (Β hz))))
  have hkb:∀k:Nat,jw (ah A a b) k=(jw A k && !(k == b)):=λk=>by
   have e:((k:Int) == (b:Int))=(k == b):=by
    rw [Bool.eq_iff_iff];simp only [Ϝ];omega
   unfold jw;rw [jM hj,e]
  have hnew:∀z,z∈pt::v'.ownBlock.toList->z∈G t\/w.heap.size<=z:=λz hz=>by
   rcases ρ.1 hz with e|e
   ·exact Α (by rw [JF,e];simp)
   ·rcases h1.new z (Option.mem_toList.1 e) with e|e
    ·exact Α (by rw [JF];exact Λ _ (Option.mem_toList.2 e))
    ·exact Β ω
  have hG:∀z,z∈pt::v'.ownBlock.toList->z∉F/\z≠B.n0/\z≠B.ga:=λz hz=>by
   rcases hnew z hz with e|e
   ·exact hM.gH z (LP t ht1 z e)
   ·exact ⟨λhm=>by have:=hM.cells.lt z hm;omega,λe3=>by have:=hl B.n0 (by simp [HB.blk]);omega,λe3=>by have:=hl B.ga (by simp [HB.blk]);omega⟩
  have hS:∀z,z∈gr::(F++(pt::B.ga::B.c::vt.ownBlock.toList))->z∈G t\/z∉Z:=λz hz=>by
   simp only [ρ,τ] at hz;rcases hz with e|e|e|e|e|e
   ·exact Β (by rw [e];exact hM.gV.Cx)
   ·exact Β (λhm=>(hM.gH z hm).1 e)
   ·exact Α (by rw [JF,e];simp)
   ·exact Β (λhm=>(hM.gH z hm).2.2 e)
   ·exact Β (λhm=>(hM.gH z hm).1 (by rw [e];exact hM.cells.mem))
   ·exact Α (by rw [JF];exact Λ _ e)
  have hn0S:B.n0∉gr::(F++(pt::B.ga::B.c::vt.ownBlock.toList)):=λhm=>by
   have hpz:∀z,z∈pt::vt.ownBlock.toList->z≠B.n0:=λz hz=>(hM.gH z (LP t ht1 z (by rw [JF];exact hz))).2.1;simp only [ρ,τ] at hm;rcases hm with e|e|e|e|e|e
   ·exact nS.1 e
   ·exact Ap.1 e
   ·exact hpz pt σ e.symm
   ·exact nS.2.1 e.symm
   ·exact Ap.1 (by rw [e];exact hM.cells.mem)
   ·exact hpz _ (Λ _ e) rfl
  have hJ:=hd.join ω hj ht hperm h1.hp;refine ⟨B.blk F (Z++(pt::v'.ownBlock.toList)) gr,⟨Z++(pt::v'.ownBlock.toList),st',rfl,cr,dU (dU ptr a (some pt)) b none,dU G a (pt::v'.ownBlock.toList),dU L a L',T',⟨?_,hC,?_,h1.Tc.wN,by rw [h1.tl,hM.tl,dA],Ap,nS,λz hz=>?_⟩,⟨hJ,λk hk j x hx=>?_⟩⟩,hU.mono (λz hz=>?_),λz hz=>?_⟩
  ·rw [iN,h1.tl];exact hM.head.upd hU hn0S
  ·rw [iN];exact hM.gV.xL (K:=Vt B) j1 j2 ht hpt (au h7 h1.upd (λk hk=>by cases hk;exact X3)) hne hU hS ⟨v',h1.Tc.hd,h1.Tc.own,rfl,λk hk=>(h1.Tc.sg k hk).1⟩ hnew hkb
  ·rcases τ.1 hz with e|e
   ·exact hM.gH z e
   ·exact hG z e
  ·by_cases e:k=a
   ·subst e;rw [bg] at hx;exact h1.Tc.wJ j x hx
   ·rw [aL _ _ e] at hx;have hk':bA A k=true/\k≠b:=by
     rw [jM hj] at hk;simp at hk;exact ⟨hk.1,ω⟩
    have hxm:=Η hx;rw [h1.wJ x (λhm=>?_)]
    ·exact hI.wJ k hk'.1 j x hx
    ·rw [List.take_length] at hm;have hkt:k≠t/\k≠f:=by rcases ht with ⟨e1,e2⟩|⟨e1,e2⟩<;>exact ⟨ω,ω⟩
     rcases τ.1 hm with h|h
     ·exact hd.apart hkt.1 hk'.1 ht1 hxm h
     ·exact hd.apart hkt.2 hk'.1 hf1 hxm h
  ·simp only [ρ,τ] at hz;have hpz:∀z,z∈pt::vt.ownBlock.toList->z∈Z:=λz hz=>LP t ht1 z (by rw [JF];exact hz);rcases hz with e|e|e|e|e|e
   ·simp [HB.blk,e]
   ·exact B.Kt e
   ·exact B.G9 (hpz z (by simp [e]))
   ·simp [HB.blk,e]
   ·exact B.Kt (by rw [e];exact hM.cells.mem)
   ·exact B.G9 (hpz z (Λ _ e))
  ·simp only [HB.blk,ρ,τ] at hz ⊢;rcases hz with h|h|h|h|h|h
   ·exact Α (Α h)
   ·exact Α (Β (Α h))
   ·exact Α (Β (Β (Α h)))
   ·exact Α (Β (Β (Β (Α h))))
   ·exact Α (Β (Β (Β (Β h))))
   ·rcases hnew z (by simpa using h) with h|h
    ·exact Α (Β (Β (Β (Β (LP t ht1 z h)))))
    ·exact Β h
 have HO:=χ hM.gV.rows;have c0:=hM.h0;have c2:=hM.h1;have sZ:gr∉F:=Ap.2.1;have NK:B.n0∉F:=Ap.1;have uN:B.n0≠gr:=nS.1;have HP:=χ (ψ hne (ψ hcs (ψ s2 (ψ hapart hfro))));have b1:(0:Int)<=(a:Int):=ω;have b2:(a:Int)<(A.hs.length:Int):=ω;have b3:(0:Int)<=(b:Int):=ω;have b4:(b:Int)<(A.hs.length:Int):=ω;have hlf65:(L f).length<=65536:=ω;clear hM hI hd hj j1 j2 j3 hok hcs Dn hpb iN hlt ht hpt Tx ht1 hf1 Y7 s1 s2 s3 s4 s5 hl Ap nS hne a1 a2 hRa hRb hOa hOb JF yS hRf hOf ZQ LP hnF zm X0 hapart hfro X3 va vb;generalize ah A a b=A' at *;generalize (L a).length=la at *;generalize (L b).length=lb at *
 generalize hLt:L t=Lt at *;generalize hLf:L f=Lf at *;generalize A.hs.length=m at *;clear hLt hLf
 go_enter Tryz.func265,Tryz.ntmps265
 go_upto_region 3 with (first
  | ((go_at_call 141;(with_reducible refine (kj).mono ?_));rintro e w1 ⟨rfl,gK,hu1⟩)
  | fail)
 have d2:=hu1.kept c2 NK;have da:=hu1.kept Y5 sZ;have db:=hu1.kept YX sZ;have hv1:aa (gr::F) w w1:=hu1.mono (λz hz=>Λ _ hz);have oq:=χ (au HO.out hu1 (λk hk=>by cases hk;exact sZ));have fz:∀j,w1.frozen? ⟨gr,j,none⟩=false:=λj=>oq.out.frozenAt j;have fa:=fz a;have fb:=fz b;have NW:=λW (hW:aa [] w1 W)=>Yj W (hv1.joined hW σ);have MC:=λW (hW:aa [] w1 W)=>X9 W (hv1.joined hW σ);have HJ:=χ (ψ gK (ψ hv1 Xq));clear c0 c2 Y5 YX kj hu1 gK hv1 fz Yj X9 Xq
 go_cut [7,8] (λs7 s8 W=>s7=.pointer (some ⟨pa,0,none⟩)/\s8=.pointer (some ⟨pb,0,none⟩)/\aa [] w1 W)
 case first=>
  go_quiet (fail)
  go_wp2
  go_meet
  exact ⟨rfl,rfl,β⟩
 case rest=>
 obtain ⟨rfl,rfl,mI⟩:=hcut;rename World=>W1;have e2:=mI.was d2;have ea:=mI.was da;have eb:=mI.was db;have ga:=mI.aM da σ fa;have gb:=mI.aM db σ fb;have ML:=λW (hW:aa [] W1 W)=>NW W (mI.trans hW);have Mq:=λW (hW:aa [] W1 W)=>MC W (mI.trans hW);have HU:=χ mI;have T9:¬a=b:=HP.out.1;have XP:¬b=a:=λe=>T9 e.symm;clear d2 da db fa fb NW MC mI
 go_upto_if 37 with (first
  | ((go_at_call 270;(with_reducible refine (ML _ β).mono ?_));rintro e w9 ⟨rfl,aH⟩;rw [aH];clear aH w9)
  | ((go_at_call 270;(with_reducible refine (Mq _ β).mono ?_));rintro e w9 ⟨rfl,aH⟩;rw [aH];clear aH w9)
  | fail)
 go_cut [7,8] (λs7 s8 W=>s7=.pointer (some ⟨pt,0,none⟩)/\s8=.pointer (some ⟨pf,0,none⟩)/\aa [] W1 W)
 case first=>
  rcases Ya with ⟨rfl,rfl,hlt⟩|⟨rfl,rfl,hlt⟩
  ·have hdec:decide ((la:Int)<(lb:Int))=false:=ζ;go_wp2
   go_meet
   exact ⟨rfl,rfl,β⟩
  ·have hdec:decide ((la:Int)<(lb:Int))=true:=ζ;go_wp2
   go_meet
   exact ⟨rfl,rfl,β⟩
 case rest=>
 obtain ⟨rfl,rfl,mI⟩:=hcut;rename World=>W2;have e3:=mI.was e2;have ea3:=mI.was ea;have eb3:=mI.was eb;have ga3:=mI.aM ea σ ga;have gb3:=mI.aM eb σ gb;have TF:=χ (HU.out.trans mI);clear e2 ea eb ga gb ML Mq mI Ya
 go_upto_region 6 with (fail)
 go_cut [] (λW=>W.ownsRow 0 298 1 (.slice (some ⟨gr,0,none⟩) m cr) m (jH (dU (dU ptr a (some pt)) b none) m)/\aa [gr] w1 W)
 case first=>
  go_region
  all_goals
   go_wp2
   go_meet
   have hu:=TF.out;have ho2:=au oq.out hu σ;refine ⟨au (?_:World.ownsRow ((W2.setCell ⟨gr,a,none⟩ (sj (some pt))).setCell ⟨gr,b,none⟩ (sj none)) _ _ _ _ _ _) (S:=[]) β σ,?_⟩
   ·rw [←rJ,←rJ];exact uA (uA ho2 a _) b _
   ·exact aa.trans (hu.mono σ) β
 case rest=>
 obtain ⟨hO3,hu3⟩:=hcut;rename World=>W3;obtain ⟨gK,hv1,Xq⟩:=HJ.out;have hv3:aa (gr::F) w W3:=hv1.trans (hu3.mono (λz hz=>by simp at hz;rw [hz];simp));have Rb:=gK.upd hu3 (λz hz=>by simp at hz;rw [hz];exact sZ);have c3:=Xq W3 hv3;have HM:=χ (ψ (HC.out W3 hv3 _ Rb) (ψ hv3 hO3));clear hO3 hu3 gK hv1 Xq hv3 Rb sZ NK uN e3 ea3 eb3 ga3 gb3;go_wp2
 go_loopw [10,58] (λv10 v58 wr=>∃ (i:Nat) (v':Value) (L' T':List Nat),i<=Lf.length/\v58=.int .i64 (i:Int)/\Ql B F A' pt vt Lt Lf T W3 wr i v' L' T') (λ_ v58 _=>Lf.length-(intOf v58).toNat)
 case atStart=>exact ⟨0,vt,Lt,T,Nat.zero_le _,rfl,HM.out.1.ai β⟩
 case round=>
  obtain ⟨i,v',L',T',hi,rfl,hL⟩:=hrel;rename World=>wr
  by_cases hin:i<Lf.length
  ·have IW:(i:Int)<(Lf.length:Int):=ω;have UD:decide ((i:Int)<(Lf.length:Int))=true:=ζ;have hwj:IntKind.i64.wrap ((i:Int)+1)=(i:Int)+1:=Μ _ ω;obtain ⟨g7,c7',ev, -, -, -, -,hcs, -⟩:=ed (HP.out.2.2.2.2 W3 wr HM.out.2.1 hL.upd) ω;cases ev
   have hcl:=hcs i (.int .i64 ((Lf.getD i 0:Nat):Int)) (by
    have:=jT (l:=bG Lf) (j:=i) (by rw [bQ];exact hin)
    rwa [lV] at this)
   have EJ:=λX (hX:aa [] wr X)=>(hL.ai hX).add hin HD.out.1 HD.out.2.1 HD.out.2.2;clear hL hcs;generalize Lf.getD i 0=x at *
   go_wp2_with (first
    | ((go_at_call 269;(with_reducible refine (EJ _ β).mono ?_));rintro e w8 ⟨rfl,v2,L2,T2,hL2⟩)
    | fail)
   go_roundw
   case rel=>exact ⟨i+1,v2,L2,T2,ω,by go_num,hL2⟩
   case measure=>simp [intOf];omega
  ·obtain rfl:i=Lf.length:=ω;have IW:¬ (Lf.length:Int)<(Lf.length:Int):=ω;have UD:decide ((Lf.length:Int)<(Lf.length:Int))=false:=σ;have hF:Hid (∀W,aa [] wr W->Goes (B.blk F Z gr) w W (λF'=>∃Z' st',F'=B.blk F Z' gr/\ShAt W B F Z' gr A' st')):=λW hW=>FIN.out W3 W v' L' T' HM.out.2.1 (hL.ai hW) HM.out.2.2;clear hL;go_wp2;go_ret;obtain ⟨F',⟨Z',st',e,hA⟩,q⟩:=hF.out _ (aa.refl _ _);exact ⟨rfl,F',⟨Z',e,st',hA⟩,q⟩
end
structure SE (B:DB) (F:List Nat) (A:NS) (pt:Nat) (Gt Lt Lf:List Nat) (w7 X:World) (i:Nat) (G' L':List Nat):Prop where
 row:jG X pt G' B.d L'
 perm:L'.Perm (Lt++Lf.take i)
 hp:Hp (mX A) B.d L'
 wV:∃st,aB X B.c F A st
 upd:aa (Gt++[B.c]) w7 X
 new:∀z,z∈G'->z∈Gt\/w7.heap.size<=z
structure MeC (B:DB) (F:List Nat) (A:NS) (Gt Lt Lf:List Nat) (w7:World):Prop where
 h0:w7.cell? ⟨B.n0,0,none⟩=some (.pointer (some ⟨B.c,0,none⟩))
 nF:B.n0∉F
 lF:∀z,z∈B.n0::F->z<w7.heap.size
 cl:∀z,z∈Gt->z∉B.n0::F
 cF:B.c∈F
 dd:2<=B.d/\B.d<=16
 nd:(Lt++Lf).Nodup
 len:Lt.length+Lf.length<=65536
 dom:∀y,y∈Lt++Lf->bR A (y:Int)=true/\y<=65536
section
variable {B:DB} {F:List Nat} {A:NS} {pt i:Nat} {Gt Lt Lf G' L':List Nat} {w7 X:World}
theorem SE.ai {Y:World} (h:SE B F A pt Gt Lt Lf w7 X i G' L') (hu:aa [] X Y):SE B F A pt Gt Lt Lf w7 Y i G' L':=by
 obtain ⟨st,hc⟩:=h.wV;exact ⟨h.row.upd hu σ,h.perm,h.hp,⟨st,hc.ai hu⟩,h.upd.joined hu σ,h.new⟩
theorem SE.add (h:SE B F A pt Gt Lt Lf w7 X i G' L') (c:MeC B F A Gt Lt Lf w7) (hi:i<Lf.length) :
  Calls Tryz.prog 139 #[.pointer (some ⟨pt,0,none⟩),.iface 122 (.pointer (some ⟨B.n0,0,none⟩)),.int .i64 ((Lf.getD i 0:Nat):Int)] X λe w'=>e=.returned (.bool true)/\∃G2 L2,SE B F A pt Gt Lt Lf w7 w' (i+1) G2 L2:=by
 obtain ⟨st,hc⟩:=h.wV;have hx:Lf[i]?=some (Lf.getD i 0):=by rw [φ,ε hi];rfl
 generalize Lf.getD i 0=x at *;have ht:Lf.take (i+1)=Lf.take i++[x]:=by rw [Ϗ,hx];rfl
 have hsub:(Lt++Lf.take (i+1)).Sublist (Lt++Lf):=(List.Sublist.refl _).append (List.take_sublist _ _);have hnd:(Lt++Lf.take (i+1)).Nodup:=hsub.nodup c.nd;have hp2:(x::L').Perm (Lt++Lf.take (i+1)):=by
  rw [ht,←ϋ];exact ((h.perm.cons x).trans (Φ (l₁:=[x]) (l₂:=Lt++Lf.take i)))
 have hnx:=Ζ.1 (hp2.nodup_iff.2 hnd);have hmem:∀y,y∈x::L'->y∈Lt++Lf:=λy hy=>hsub.subset (hp2.mem_iff.1 hy);have hlen:=hp2.length_eq;have hle:=hsub.length_le;rw [υ,υ] at hle;rw [υ] at hlen;have hcl:=c.len;have hO:(QT B F A c.cF).at_ X:=⟨h.upd.kept c.h0 (λhm=>?_),c.nF,st,hc⟩
 ·refine (D7 (QT B F A c.cF) hO h.row c.dd (by simp only [Ω] at hlen;omega) h.hp x hnx.1 hnx.2 (λy hy=>(c.dom y (hmem y hy)).1) (λy hy=>(c.dom y (hmem y hy)).2) (λz hz hm=>?_)).mono ?_
  ·rcases h.new z hz with e|e
   ·exact c.cl z e hm
   ·have:=c.lF z hm;omega
  rintro e w' ⟨rfl,G2,L2,h1,h2,h3,⟨-, -,h4⟩,h5,h6⟩;refine ⟨rfl,G2,L2,h1,h2.trans hp2,h3,h4,h.upd.joined h5 (λz hz=>?_),λz hz=>?_⟩
  ·rcases τ.1 hz with e|e
   ·rcases h.new z e with e|e
    ·exact Α (τ.2 (Α e))
    ·exact Β e
   ·exact Α (τ.2 (Β e))
  ·rcases h6 z hz with e|e
   ·exact h.new z e
   ·have:=h.upd.size;exact Β ω
 ·rcases τ.1 hm with e|e
  ·exact c.cl _ e σ
  ·simp at e;exact c.nF (by rw [e];exact c.cF)
end
section
variable {w w':World} {B:DB} {F Z:List Nat} {gr cr st:Nat} {A:NS} {ptr:Nat->Option Nat} {G L:Nat->List Nat}
theorem Ku (h:kK w B F Z gr A st) (a b:Nat) (hj:fQ A a b=true) :
  Calls Tryz.prog 128 #[.pointer (some ⟨B.n0,0,none⟩),.int .i64 (a:Int),.int .i64 (b:Int)] w λe w'=>e=.returned (.bool true)/\Goes (B.blk F Z gr) w w' (λF'=>∃Z' st',F'=B.blk F Z' gr/\kK w' B F Z' gr (ah A a b) st'):=by
 obtain ⟨cr,ptr,G,L,hM,hI⟩:=h;obtain ⟨j1,j2,j3⟩:=(cO _ _ _).1 hj;have a1:=(aA _ _).1 j1;have a2:=(aA _ _).1 j2;have hne:a≠b:=λe=>j3 (by rw [e]);have hok:=hM.cells.ok;have hcs:=hok.c1;obtain ⟨pa,Dn, -⟩:=hM.gV.row a j1;obtain ⟨pb,hpb, -⟩:=hM.gV.row b j2;have iN:(ah A a b).hs.length=A.hs.length:=by unfold ah;rw [Δ hj];simp
 have Y5:=hM.gV.cell (g:=a) ω Dn;have YX:=hM.gV.cell (g:=b) ω hpb;obtain ⟨t,f,ht,hlt⟩:∃t f,yw a b t f/\((t=a/\f=b/\¬ (L a).length<(L b).length)\/(t=b/\f=a/\(L a).length<(L b).length)):=by
  by_cases e:(L a).length<(L b).length
  ·exact ⟨b,a,Β ⟨rfl,rfl⟩,Β ⟨rfl,rfl,e⟩⟩
  ·exact ⟨a,b,Α ⟨rfl,rfl⟩,Α ⟨rfl,rfl,e⟩⟩
 obtain ⟨pt,hpt⟩:∃pt,ptr t=some pt:=by rcases ht with ⟨e, -⟩|⟨e, -⟩;exact ⟨pa,by rw [e];exact Dn⟩;exact ⟨pb,by rw [e];exact hpb⟩
 obtain ⟨pf,Tx⟩:∃pf,ptr f=some pf:=by rcases ht with ⟨-,e⟩|⟨-,e⟩;exact ⟨pb,by rw [e];exact hpb⟩;exact ⟨pa,by rw [e];exact Dn⟩
 have ht1:bA A t=true:=by rcases ht with ⟨e, -⟩|⟨e, -⟩<;>rw [e]<;>assumption
 have hf1:bA A f=true:=by rcases ht with ⟨-,e⟩|⟨-,e⟩<;>rw [e]<;>assumption
 have Y7:t≠f:=by rcases ht with ⟨e,e'⟩|⟨e,e'⟩<;>omega
 have Ya:(pa=pt/\pb=pf/\¬ (L a).length<(L b).length)\/(pa=pf/\pb=pt/\(L a).length<(L b).length):=by
  rcases hlt with ⟨rfl,rfl,e⟩|⟨rfl,rfl,e⟩
  ·rw [hpt] at Dn;rw [Tx] at hpb;cases Dn;cases hpb;exact Α ⟨rfl,rfl,e⟩
  ·rw [Tx] at Dn;rw [hpt] at hpb;cases Dn;cases hpb;exact Β ⟨rfl,rfl,e⟩
 obtain ⟨s1,s2,s3,s4,s5⟩:=hI.sum hM.dd.1 hj ht;have hl:=hM.lt;have kj:=jQ hM.cells a b hj;have Na:∀ (q p:Nat) (W:World),aa (gr::F) w W->bA A q=true->ptr q=some p->jG W p (G q) B.d (L q):=λq p W hW hq hp=>by
  obtain ⟨p',hp',hR⟩:=hM.gV.row q hq;rw [hp] at hp';cases hp';have hR':jG w p (G q) B.d (L q):=hR;refine hR'.upd hW (λz hz hm=>?_);rcases ρ.1 hz with e|e
  ·exact hM.gV.Cx (by rw [←e];exact hM.gV.qK q hq z hm)
  ·exact (hM.gH z (hM.gV.qK q hq z hm)).1 e
 have Yj:∀W,aa (gr::F) w W->Calls Tryz.prog 142 #[.pointer (some ⟨pa,0,none⟩)] W λe w'=>e=.returned (.int .i64 ((L a).length:Int))/\w'=W:=λW hW=>zQ (Na a pa W hW j1 Dn);have X9:∀W,aa (gr::F) w W->Calls Tryz.prog 142 #[.pointer (some ⟨pb,0,none⟩)] W λe w'=>e=.returned (.int .i64 ((L b).length:Int))/\w'=W:=λW hW=>zQ (Na b pb W hW j2 hpb);have NP:∀W,aa (gr::F) w W->Calls Tryz.prog 143 #[.pointer (some ⟨pf,0,none⟩)] W λe w'=>∃v,e=.returned v/\w'.ownsRow W.heap.size 3 1 v (L f).length (aT (bG (L f)))/\aa [] W w':=λW hW=>JO (Na f pf W hW hf1 Tx) ω;have Ap:=hM.bI
 have HC:Hid (∀W,aa (gr::F) w W->W.cell? ⟨B.n0,0,none⟩=some (.pointer (some ⟨B.c,0,none⟩))/\MeC B F (ah A a b) (G t) (L t) (L f) W/\∀st',aB W B.c F (ah A a b) st'->SE B F (ah A a b) pt (G t) (L t) (L f) W W 0 (G t) (L t)):=λW hW=>by
  have h0:W.cell? ⟨B.n0,0,none⟩=some (.pointer (some ⟨B.c,0,none⟩)):=hW.kept hM.h0 (λhm=>by
   rcases ρ.1 hm with e|e
   ·exact Ap.2.2 e
   ·exact Ap.1 e)
  refine ⟨h0,⟨h0,Ap.1,λz hz=>?_,λz hz hm=>hM.clear ht1 z hz hm,hM.cells.mem,hM.dd,s1,ω,λy hy=>⟨(s3 y hy).1,by have:=(s3 y hy).2;omega⟩⟩,λst' hC=>⟨Na t pt W hW ht1 hpt,σ,s4,⟨st',hC⟩,aa.refl _ _,λz hz=>Α hz⟩⟩;have:=hW.size
  have:=hl z (by
   simp only [DB.blk,ρ,τ] at hz ⊢;rcases hz with e|e
   ·exact Α e
   ·exact Β (Β (Α e)))
  omega
 have FIN:Hid (∀W G' L',(∀z,z∈G'->z∈G t\/w.heap.size<=z)->jG W pt G' B.d L'->L'.Perm (L t++L f)->Hp (mX (ah A a b)) B.d L'->(∃st',aB W B.c F (ah A a b) st')->aa (gr::(F++G t)) w W->
   W.ownsRow 0 174 1 (.slice (some ⟨gr,0,none⟩) A.hs.length cr) A.hs.length (jH (dU (dU ptr a (some pt)) b none) A.hs.length)->
   Goes (B.blk F Z gr) w W (λF'=>∃Z' st',F'=B.blk F Z' gr/\kK W B F Z' gr (ah A a b) st')):=λW G' L' h1 h2 h3 h4 ⟨st',h5⟩ h6 h7=>by
  have hkb:∀k:Nat,jw (ah A a b) k=(jw A k && !(k == b)):=λk=>by
   have e:((k:Int) == (b:Int))=(k == b):=by
    rw [Bool.eq_iff_iff];simp only [Ϝ];omega
   unfold jw;rw [jM hj,e]
  have hG:∀z,z∈G'->z∉F/\z≠B.n0:=λz hz=>by
   rcases h1 z hz with e|e
   ·exact hM.gH z (hM.gV.qK t ht1 z e)
   ·exact ⟨λhm=>by have:=hM.cells.lt z hm;omega,λe3=>by have:=hl B.n0 (by simp [DB.blk]);omega⟩
  have hS:∀z,z∈gr::(F++G t)->z∈G t\/z∉Z:=λz hz=>by
   rcases ρ.1 hz with e|e
   ·exact Β (by rw [e];exact hM.gV.Cx)
   ·rcases τ.1 e with e|e
    ·exact Β (λhm=>(hM.gH z hm).1 e)
    ·exact Α e
  refine ⟨B.blk F (Z++G') gr,⟨Z++G',st',rfl,cr,dU (dU ptr a (some pt)) b none,dU G a G',dU L a L',⟨?_,h5,?_,Ap,λz hz=>?_,hM.dd⟩,hI.join hM.dd.1 hj ht h3 h4⟩,h6.mono (λz hz=>?_),λz hz=>?_⟩
  ·rw [iN];refine hM.head.upd h6 (λhm=>?_);rcases ρ.1 hm with e|e
   ·exact Ap.2.2 e
   ·rcases τ.1 e with e|e
    ·exact Ap.1 e
    ·exact (hM.gH _ (hM.gV.qK t ht1 _ e)).2 rfl
  ·rw [iN];exact hM.gV.xL (K:=VP B.d) j1 j2 ht hpt h7 hne h6 hS h2 h1 hkb
  ·rcases τ.1 hz with e|e
   ·exact hM.gH z e
   ·exact hG z e
  ·simp only [DB.blk,ρ,τ] at hz ⊢;rcases hz with e|e|e
   ·exact Β (Α e)
   ·exact Β (Β (Α e))
   ·exact Β (Β (Β (hM.gV.qK t ht1 z e)))
  ·simp only [DB.blk,ρ,τ] at hz ⊢;rcases hz with h|h|h|h|h
   ·exact Α (Α h)
   ·exact Α (Β (Α h))
   ·exact Α (Β (Β (Α h)))
   ·exact Α (Β (Β (Β h)))
   ·rcases h1 z h with h|h
    ·exact Α (Β (Β (Β (hM.gV.qK t ht1 z h))))
    ·exact Β h
 have HO:=χ hM.gV.rows;have c0:=hM.h0;have c2:=hM.h2;have sZ:gr∉F:=Ap.2.1;have NK:B.n0∉F:=Ap.1;have uN:B.n0≠gr:=Ap.2.2;have hgG:gr∉G t++[B.c]:=λhm=>by
  rcases τ.1 hm with e|e
  ·exact hM.gV.Cx (hM.gV.qK t ht1 _ e)
  ·simp at e;exact sZ (by rw [e];exact hM.cells.mem)
 have HP:=χ (ψ hne (ψ hcs s2));have b1:(0:Int)<=(a:Int):=ω;have b2:(a:Int)<(A.hs.length:Int):=ω;have b3:(0:Int)<=(b:Int):=ω;have b4:(b:Int)<(A.hs.length:Int):=ω;clear hM hI hj j1 j2 j3 hok hcs Dn hpb iN hlt ht hpt Tx ht1 hf1 Y7 s1 s2 s3 s4 s5 hl Ap Na hne a1 a2;generalize ah A a b=A' at *;generalize (L a).length=la at *;generalize (L b).length=lb at *;generalize hLt:L t=Lt at *;generalize hLf:L f=Lf at *;generalize JF:G t=Gt at *;generalize A.hs.length=m at *;clear hLt hLf JF
 go_enter Tryz.func128,Tryz.ntmps128
 go_upto_region 3 with (first
  | ((go_at_call 141;(with_reducible refine (kj).mono ?_));rintro e w1 ⟨rfl,gK,hu1⟩)
  | fail)
 have d2:=hu1.kept c2 NK;have da:=hu1.kept Y5 sZ;have db:=hu1.kept YX sZ;have hv1:aa (gr::F) w w1:=hu1.mono (λz hz=>Λ _ hz);have oq:=χ (au HO.out hu1 (λk hk=>by cases hk;exact sZ));have fz:∀j,w1.frozen? ⟨gr,j,none⟩=false:=λj=>oq.out.frozenAt j;have fa:=fz a;have fb:=fz b;have NW:=λW (hW:aa [] w1 W)=>Yj W (hv1.joined hW σ);have MC:=λW (hW:aa [] w1 W)=>X9 W (hv1.joined hW σ);have HJ:=χ (ψ gK hv1);clear c0 c2 Y5 YX kj hu1 gK hv1 fz Yj X9
 go_cut [7,8] (λs7 s8 W=>s7=.pointer (some ⟨pa,0,none⟩)/\s8=.pointer (some ⟨pb,0,none⟩)/\aa [] w1 W)
 case first=>
  go_quiet (fail)
  go_wp2
  go_meet
  exact ⟨rfl,rfl,β⟩
 case rest=>
 obtain ⟨rfl,rfl,mI⟩:=hcut;rename World=>W1;have e2:=mI.was d2;have ea:=mI.was da;have eb:=mI.was db;have ga:=mI.aM da σ fa;have gb:=mI.aM db σ fb;have ML:=λW (hW:aa [] W1 W)=>NW W (mI.trans hW);have Mq:=λW (hW:aa [] W1 W)=>MC W (mI.trans hW);have HU:=χ mI;have T9:¬a=b:=HP.out.1;have XP:¬b=a:=λe=>T9 e.symm;clear d2 da db fa fb NW MC mI
 go_upto_if 37 with (first
  | ((go_at_call 142;(with_reducible refine (ML _ β).mono ?_));rintro e w9 ⟨rfl,aH⟩;rw [aH];clear aH w9)
  | ((go_at_call 142;(with_reducible refine (Mq _ β).mono ?_));rintro e w9 ⟨rfl,aH⟩;rw [aH];clear aH w9)
  | fail)
 go_cut [7,8] (λs7 s8 W=>s7=.pointer (some ⟨pt,0,none⟩)/\s8=.pointer (some ⟨pf,0,none⟩)/\aa [] W1 W)
 case first=>
  rcases Ya with ⟨rfl,rfl,hlt⟩|⟨rfl,rfl,hlt⟩
  ·have hdec:decide ((la:Int)<(lb:Int))=false:=ζ;go_wp2
   go_meet
   exact ⟨rfl,rfl,β⟩
  ·have hdec:decide ((la:Int)<(lb:Int))=true:=ζ;go_wp2
   go_meet
   exact ⟨rfl,rfl,β⟩
 case rest=>
 obtain ⟨rfl,rfl,mI⟩:=hcut;rename World=>W2;have e3:=mI.was e2;have ea3:=mI.was ea;have eb3:=mI.was eb;have ga3:=mI.aM ea σ ga;have gb3:=mI.aM eb σ gb;have TF:=χ (HU.out.trans mI);clear e2 ea eb ga gb ML Mq mI Ya
 go_upto_region 6 with (fail)
 go_cut [] (λW=>W.ownsRow 0 174 1 (.slice (some ⟨gr,0,none⟩) m cr) m (jH (dU (dU ptr a (some pt)) b none) m)/\aa [gr] w1 W)
 case first=>
  go_region
  all_goals
   go_wp2
   go_meet
   have hu:=TF.out;have ho2:=au oq.out hu σ;refine ⟨au (?_:World.ownsRow ((W2.setCell ⟨gr,a,none⟩ (sj (some pt))).setCell ⟨gr,b,none⟩ (sj none)) _ _ _ _ _ _) (S:=[]) β σ,?_⟩
   ·rw [←rJ,←rJ];exact uA (uA ho2 a _) b _
   ·exact aa.trans (hu.mono σ) β
 case rest=>
 obtain ⟨hO3,hu3⟩:=hcut;rename World=>W3;obtain ⟨gK,hv1⟩:=HJ.out;have hv3:aa (gr::F) w W3:=hv1.trans (hu3.mono (λz hz=>by simp at hz;rw [hz];simp));have Rb:=gK.upd hu3 (λz hz=>by simp at hz;rw [hz];exact sZ);have Xc:=NP W3 hv3
 have HG:=χ (ψ hgG (show ∀z,z∈Gt++[B.c]->z<W3.heap.size from λz hz=>by
  obtain ⟨-,q1,q2⟩:=HC.out W3 hv3;rcases τ.1 hz with e|e
  ·exact (q2 _ Rb).row.lt z e
  ·exact q1.lF z (by simp at e;rw [e];exact Λ _ q1.cF)))
 have HH:=χ (ψ hO3 (ψ hv3 Rb));clear hO3 hu3 gK hv1 hv3 Rb NP sZ hgG NK uN e3 ea3 eb3 ga3 gb3
 go_wp2_with (first
  | ((go_at_call 143;(with_reducible refine (Xc).mono ?_));rintro e w7 ⟨v7,rfl,ho7,ny⟩;obtain ⟨a7,c7,rfl,hc7⟩:=bz ho7)
  | fail)
 have hv7:aa (gr::F) w w7:=HH.out.2.1.joined ny σ;obtain ⟨-,hMC,hMS⟩:=HC.out w7 hv7;have XB:=hMS _ (HH.out.2.2.ai ny);have hln:=hMC.len;have HM:=χ (ψ hMC (ψ XB (ψ ho7 (ψ ny hv7))));clear hMC hMS XB ho7 ny hv7
 go_loopw [10,56] (λv10 v56 wr=>∃ (i:Nat) (G' L':List Nat),i<=Lf.length/\v56=.int .i64 (i:Int)/\SE B F A' pt Gt Lt Lf w7 wr i G' L') (λ_ v56 _=>Lf.length-(intOf v56).toNat)
 case atStart=>exact ⟨0,Gt,Lt,Nat.zero_le _,rfl,HM.out.2.1⟩
 case round=>
  obtain ⟨i,G',L',hi,rfl,hL⟩:=hrel;rename World=>wr
  by_cases hin:i<Lf.length
  ·have IW:(i:Int)<(Lf.length:Int):=ω;have UD:decide ((i:Int)<(Lf.length:Int))=true:=ζ;have hwj:IntKind.i64.wrap ((i:Int)+1)=(i:Int)+1:=Μ _ ω;obtain ⟨g7,c7',ev,hg7,hg7b, -, -,hcs, -⟩:=ed HM.out.2.2.1 ω;cases ev
   have hcl:=hL.upd.kept (hcs i (.int .i64 ((Lf.getD i 0:Nat):Int)) (by
    have:=jT (l:=bG Lf) (j:=i) (by rw [bQ];exact hin)
    rwa [lV] at this)) (λhm=>by
    have:=HG.out.2 g7 hm
    omega)
   have EJ:=λX (hX:aa [] wr X)=>(hL.ai hX).add HM.out.1 hin;have hlt2:Lf.length<=65536:=ω;clear hL hcs;generalize Lf.getD i 0=x at *
   go_wp2_with (first
    | ((go_at_call 139;(with_reducible refine (EJ _ β).mono ?_));rintro e w8 ⟨rfl,G2,L2,hL2⟩)
    | fail)
   go_roundw
   case rel=>exact ⟨i+1,G2,L2,ω,by go_num,hL2⟩
   case measure=>simp [intOf];omega
  ·obtain rfl:i=Lf.length:=ω;have IW:¬ (Lf.length:Int)<(Lf.length:Int):=ω;have UD:decide ((Lf.length:Int)<(Lf.length:Int))=false:=σ;have hF:Hid (∀W,aa [] wr W->Goes (B.blk F Z gr) w W (λF'=>∃Z' st',F'=B.blk F Z' gr/\kK W B F Z' gr A' st')):=λW hW=>by
    have mg:=hL.ai hW;obtain ⟨q1,q2,q3,q4,q5⟩:=HM.out;have hs:=q5.size;refine FIN.out W G' L' (λz hz=>?_) mg.row (by have:=mg.perm;rwa [List.take_length] at this) mg.hp mg.wV ((q5.mono (λz hz=>?_)).trans (mg.upd.mono (λz hz=>?_))) (au (au HH.out.1 q4 σ) mg.upd (λk hk=>by cases hk;exact HG.out.1))
    ·rcases mg.new z hz with e|e
     ·exact Α e
     ·exact Β ω
    ·rcases ρ.1 hz with e|e
     ·rw [e];simp
     ·simp [e]
    ·rcases τ.1 hz with e|e
     ·simp [e]
     ·simp at e;rw [e];simp [q1.cF]
   clear hL;go_wp2;go_ret;obtain ⟨F',⟨Z',st',e,hA⟩,q⟩:=hF.out _ (aa.refl _ _);exact ⟨rfl,F',⟨Z',e,st',hA⟩,q⟩
end
end Go.Proofs.YtnpdakpagnpanaaGreat
