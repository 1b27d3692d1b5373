/-
  Lemmas for PqAlike: Shelf, Dr5, Sd12, Dr6. Conditions: those of each lemma.
-/
import Derived.Ground.Names2Prog
import Derived.Shelf.Slices.Clone
import Derived.Ground.SlgnProg
import Derived.Shelf.SlicesE.Clone
import Derived.Test.YtnpdakpagnpanaaGreatC06
set_option linter.all false
set_option maxHeartbeats 8000000
set_option maxRecDepth 10000
namespace Go.Proofs
open Go.Shelf
def Tryz.Cr:Go.Shelf.Ren:=⟨fun|15=>152|n=>n,fun|22=>77|3=>3|4=>4|n=>n,fun|n=>n⟩
theorem Tryz.Eu:Go.Proofs.Lays2.n15 Tryz.prog Tryz.Cr:={
 mixed:=by kernel_rfl
 f15:=Tryz.func152.trans (congrArg some (by kernel_rfl))
 t3:=Tryz.underlying3
 a3:=Tryz.isAgg3
 z3:=Tryz.sizeOf3
 v3:=Tryz.zeroValue3
 t4:=Tryz.underlying4
 a4:=Tryz.isAgg4
 z4:=Tryz.sizeOf4
 v4:=Tryz.zeroValue4
 t22:=Tryz.underlying77
 a22:=Tryz.isAgg77
 z22:=Tryz.sizeOf77
 v22:=Tryz.zeroValue77
 i3:=by kernel_rfl }
open Go.RowKit Go.Lib in
theorem Tryz.slices_Clone_int(b off n c:Nat)(zs:List Int)(w:World)(hz:n<=zs.length)(hbig:n*8<=140737488355328)(hc:∀j,j<zs.length->w.cell? ⟨b,off+j,none⟩=some (.int .i64 (zs.getD j 0))) :
  Calls Tryz.prog 152 #[.slice (some ⟨b,off,none⟩) n c] w λe w'=>∃v',e=.returned v'/\w'.ownsRow w.heap.size 3 1 v' n ((zs.take n).map (Value.int .i64))/\v'≠.slice none 0 0/\Below w.heap.size w w':=Any.slices_Clone_int Tryz.Eu b off n c zs w hz hbig hc
open Go.RowKit Go.Lib in
theorem Tryz.slices_Clone_int_nil(n c:Nat)(w:World) :
  Calls Tryz.prog 152 #[.slice none n c] w λe w'=>e=.returned (.slice none 0 0)/\w'=w:=Any.slices_Clone_int_nil Tryz.Eu n c w
end Go.Proofs
namespace Go.Proofs.YtnpdakpagnpanaaGreat
open Tryz
open Go Go.RowKit
/-! ### plainly -/
def Bg(a b t f:Nat):Prop:=(t=a/\f=b)\/(t=b/\f=a)
section
variable{d:Nat}{A:NS}{L:Nat->List Nat}{a b t f:Nat}
theorem pK.sum(h:pK d A L)(hd:2<=d)(hj:gJ A a b=true)(ht:Bg a b t f) :
  (L t++L f).Nodup/\(L t).length+(L f).length<=A.cs.length/\(∀y,y∈L t++L f->bY (az A a b) (y:Int)=true/\y<A.cs.length)/\Hp (nD (az A a b)) d (L t)/\
  (∀x,x∈L t++L f↔x<A.cs.length/\((az A a b).c x).i=a):=by
 obtain⟨j1,j2,j3⟩:=(dG _ _ _).1 hj;have hne:a≠b:=λe=>j3 (by rw[e]);have ha:=(aC _ _).1 j1;have hb:=(aC _ _).1 j2;have ht1:aY A t=true:=by rcases ht with⟨e, -⟩|⟨e, -⟩<;>rw[e]<;>assumption
 have hf1:aY A f=true:=by rcases ht with⟨-,e⟩|⟨-,e⟩<;>rw[e]<;>assumption
 have htf:t≠f:=by rcases ht with⟨e,e'⟩|⟨e,e'⟩<;>omega
 have hm:∀x,x∈L t++L f↔x<A.cs.length/\((az A a b).c x).i=a:=λx=>by
  rw[τ,h.mem t x ht1,h.mem f x hf1,oO hj]
  show _↔x<A.cs.length/\(if(A.c x).i=b/\x<A.cs.length then(a:Int) else(A.c x).i)=a
  rcases ht with⟨rfl,rfl⟩|⟨rfl,rfl⟩
  ·constructor
   ·rintro(⟨h1,h2⟩|⟨h1,h2⟩)
    ·exact⟨h1,by rw[Γ ω];exact h2⟩
    ·exact⟨h1,by rw[Δ ⟨h2,h1⟩]⟩
   ·rintro⟨h1,h2⟩
    by_cases e:(A.c x).i=f
    ·exact Β ⟨h1,e⟩
    ·rw[Γ (λh=>e h.1)] at h2;exact Α ⟨h1,h2⟩
  ·constructor
   ·rintro(⟨h1,h2⟩|⟨h1,h2⟩)
    ·exact⟨h1,by rw[Δ ⟨h2,h1⟩]⟩
    ·exact⟨h1,by rw[Γ ω];exact h2⟩
   ·rintro⟨h1,h2⟩
    by_cases e:(A.c x).i=t
    ·exact Α ⟨h1,e⟩
    ·rw[Γ (λh=>e h.1)] at h2;exact Β ⟨h1,h2⟩
 have hnd:(L t++L f).Nodup:=by
  rw[θ];refine⟨h.nd t ht1,h.nd f hf1,λx hx y hy e=>?_⟩;have h1:=(h.mem t x ht1).1 hx;have h2:=(h.mem f y hf1).1 hy;rw[e] at h1;omega
 refine⟨hnd,?_,λy hy=>?_,?_,hm⟩
 ·have h1:=nodup_range A.cs.length ((L t++L f).map (λ(x:Nat)=>(x:Int))) (by
   unfold List.Nodup at hnd ⊢;rw[List.pairwise_map];exact hnd.imp (λh e=>h ω)) (λz hz=>by
   obtain⟨y,hy,rfl⟩:=List.mem_map.1 hz
   have:=((hm y).1 hy).1;omega)
  simpa using h1
 ·have h1:=(hm y).1 hy;exact⟨(aj _ _).2 ⟨by rw[eY];exact h1.1,by rw[h1.2];omega⟩,h1.1⟩
 ·exact(h.hp t ht1).frame (λx y _ _ hab=>dY.2 ((nY hj _ _).2 (dY.1 hab))) hd
theorem pK.join(h:pK d A L)(hd:2<=d)(hj:gJ A a b=true)(ht:Bg a b t f){l:List Nat}(hp:l.Perm (L t++L f))(hH:Hp (nD (az A a b)) d l):pK d (az A a b) (fG L a l):=by
 obtain⟨s1,s2,s3,s4,s5⟩:=h.sum hd hj ht;have hk:∀k:Nat,k≠a->aY (az A a b) k=true->aY A k=true/\k≠b:=λk e hk=>by
  rw[qH hj] at hk;simp at hk;exact⟨hk.1,ω⟩
 refine⟨λk hk1=>?_,λk hk1=>?_,λk x hk1=>?_⟩
 ·by_cases e:k=a
  ·subst e;rw[bO];exact hH
  ·rw[bf _ _ e];exact(h.hp k (hk k e hk1).1).frame (λx y _ _ hab=>dY.2 ((nY hj _ _).2 (dY.1 hab))) hd
 ·by_cases e:k=a
  ·subst e;rw[bO];exact hp.nodup_iff.2 s1
  ·rw[bf _ _ e];exact h.nd k (hk k e hk1).1
 ·rw[eY]
  by_cases e:k=a
  ·subst e;rw[bO,hp.mem_iff];exact s5 x
  ·rw[bf _ _ e,h.mem k x (hk k e hk1).1,oO hj];have h2:=(hk k e hk1).2
   show _↔x<A.cs.length/\(if(A.c x).i=b/\x<A.cs.length then(a:Int) else(A.c x).i)=k
   constructor
   ·rintro⟨h3,h4⟩;exact⟨h3,by rw[Γ ω];exact h4⟩
   ·rintro⟨h3,h4⟩;refine⟨h3,?_⟩
    split at h4
    ·omega
    ·exact h4
end
theorem uT(f:Nat->Option Nat)(m h:Nat)(o:Option Nat):(lM f m).set h (vW o)=lM (fG f h o) m:=by
 apply List.ext_getElem?;intro j;rw[ύ,yS]
 by_cases hj:j<m
 ·rw[yz (f:=fG f h o) hj,yz hj]
  by_cases e:h=j
  ·subst e;rw[Δ rfl,Δ hj,bO]
  ·rw[Γ e,bf _ _ (λe'=>e e'.symm)]
 ·have h1:(lM f m)[j]?=none:=List.getElem?_eq_none (by rw[yS];omega);have h2:(lM (fG f h o) m)[j]?=none:=List.getElem?_eq_none (by rw[yS];omega);rw[h1,h2]
  split
  ·rw[Γ ω]
  ·rfl
theorem sI.Ab{K:RwK}{ety:TypeId}{w w':World}{gr cr m:Nat}{has has':Nat->Bool}{Z:List Nat}{ptr:Nat->Option Nat}{G L:Nat->List Nat}{S G' L':List Nat}{a b t f pt:Nat}(h:sI K ety w gr cr m has Z ptr G L)(ha:has a=true)(hb:has b=true)(ht:Bg a b t f)
  (hp:ptr t=some pt) (hrows:w'.ownsRow 0 ety 1 (.slice (some ⟨gr,0,none⟩) m cr) m (lM (fG (fG ptr a (some pt)) b none) m)) (hne:a≠b)
  (hu:ae S w w') (hS:∀z,z∈S->z∈G t\/z∉Z) (hr:K.at_ w' pt G' L') (hG:∀z,z∈G'->z∈G t\/w.heap.size<=z) (hh:∀k,has' k=(has k && !(k == b))) :
  sI K ety w' gr cr m has' (Z++G') (fG (fG ptr a (some pt)) b none) (fG G a G') (fG L a L'):=by
 have hgl:=h.lt;have ht1:has t=true:=by rcases ht with⟨e, -⟩|⟨e, -⟩<;>rw[e]<;>assumption
 have hk:∀k,has' k=true->has k=true/\k≠b:=λk hk=>by
  rw[hh] at hk;simp at hk;exact hk
 have hkt:∀k,has' k=true->k≠a->k≠t:=λk h1 h2 e=>by
  rcases ht with⟨e', -⟩|⟨e', -⟩
  ·exact h2 (by rw[e,e'])
  ·exact(hk k h1).2 (by rw[e,e'])
 have hoth:∀k,has' k=true->k≠a->∀z,z∈S->z∉G k:=λk h1 h2 z hz hm=>by
  rcases hS z hz with h3|h3
  ·exact h.Qx t k ht1 (hk k h1).1 (λe=>hkt k h1 h2 e.symm) z h3 hm
  ·exact h3 (h.sJ k (hk k h1).1 z hm)
 refine⟨hrows,λk h1=>?_,λk h1 z hz=>?_,λk j h1 h2 hne2 z hz=>?_,λz hz=>?_,λhm=>?_⟩
 ·by_cases e:k=a
  ·subst e;rw[bO,bO,bf _ _ hne,bO];exact⟨pt,rfl,hr⟩
  ·rw[bf _ _ e,bf _ _ e,bf _ _ (hk k h1).2,bf _ _ e];obtain⟨q,e2,hq⟩:=h.row k (hk k h1).1;exact⟨q,e2,K.upd hq hu (hoth k h1 e)⟩
 ·by_cases e:k=a
  ·subst e;rw[bO] at hz;exact τ.2 (Β hz)
  ·rw[bf _ _ e] at hz;exact τ.2 (Α (h.sJ k (hk k h1).1 z hz))
 ·have hn:∀k,has' k=true->k≠a->∀z,z∈G'->z∉G k:=λk h1 e z hz hm=>by
   rcases hG z hz with h3|h3
   ·exact h.Qx t k ht1 (hk k h1).1 (λe2=>hkt k h1 e e2.symm) z h3 hm
   ·have:=h.Ie z (h.sJ k (hk k h1).1 z hm);omega
  by_cases e:k=a
  ·subst e;rw[bO] at hz;rw[bf _ _ (λe=>hne2 e.symm)];exact hn j h2 (λe=>hne2 e.symm) z hz
  ·rw[bf _ _ e] at hz
   by_cases e2:j=a
   ·subst e2;rw[bO];exact λhm=>hn k h1 e z hm hz
   ·rw[bf _ _ e2];exact h.Qx k j (hk k h1).1 (hk j h2).1 hne2 z hz
 ·rcases τ.1 hz with h1|h1
  ·exact Ψ (h.Ie z h1) hu.size
  ·exact K.lt hr z h1
 ·rcases τ.1 hm with h1|h1
  ·exact h.Gp h1
  ·rcases hG _ h1 with h2|h2
   ·exact h.Gp (h.sJ t ht1 _ h2)
   ·omega
/-! ### a row's length, all its things -/
theorem Em{w:World}{rp d:Nat}{G L:List Nat}(h:jM w rp G d L):Calls prog 142 #[.pointer (some ⟨rp,0,none⟩)] w λe w'=>e=.returned (.int .i64 (L.length:Int))/\w'=w:=by
 obtain⟨mb,f,v,h1,h2,h3,h4,h5,h6,rfl⟩:=h;obtain⟨a,cc,rfl,hcc⟩:=aV h2;have c1:=h1.cellAt 1 (v:=.slice a L.length cc) ω rfl;clear h1 h2 h3 h4 h6;generalize L.length=n at *
 go_enter func142,ntmps142
 go_wp2;go_ret;exact⟨rfl,rfl⟩
theorem LD{w:World}{v:Value}{n:Nat}{l:List Int}(h:w.ownsRow 0 3 1 v n (bz l))(hn:n<=1000000) :
  Calls prog 152 #[v] w λe w'=>∃v',e=.returned v'/\w'.ownsRow w.heap.size 3 1 v' n (bz l)/\ae [] w w':=by
 have hl:l.length=n:=by have:=h.1;rw[gQ] at this;omega
 rcases h.2 with⟨rfl,rfl⟩|⟨g,cap,cur,rfl,hb,hg,hn1,hc,hs,ht⟩
 ·have e:l=[]:=Ϛ hl;subst e;refine(Tryz.slices_Clone_int_nil 0 0 w).mono ?_;rintro e w' ⟨rfl,rfl⟩;exact⟨_,rfl,⟨rfl,Α ⟨rfl,rfl⟩⟩,ae.refl _ _⟩
 ·have hcs:∀j,j<l.length->w.cell? ⟨g,0+j,none⟩=some (.int .i64 (l.getD j 0)):=λj hj=>by
   rw[ϔ,h.cellAt j ω];exact lY hj
  refine(Tryz.slices_Clone_int g 0 n cap l w ω ω hcs).mono ?_;rintro e w' ⟨v',rfl,ho, -,hb'⟩;rw[List.take_of_length_le ω] at ho;exact⟨_,rfl,ho,EI hb'⟩
theorem QB{w:World}{rp d:Nat}{G L:List Nat}(h:jM w rp G d L)(hl:L.length<=65536):Calls prog 143 #[.pointer (some ⟨rp,0,none⟩)] w λe w'=>∃v,e=.returned v/\w'.ownsRow w.heap.size 3 1 v L.length (bz (bZ L))/\ae [] w w':=by
 obtain⟨mb,f,v,h1,h2,h3,h4,h5,h6,rfl⟩:=h;have c1:=h1.cellAt 1 (v:=v) ω rfl;have kc:=LD h2 ω;clear h1 h2 h3 h4 h6;generalize L.length=n at *
 go_enter func143,ntmps143
 go_wp2_with (first
  |((go_at_call 152;(with_reducible refine(kc).mono ?_));rintro e w2 ⟨v2,rfl,ho2,hu2⟩)
  | fail)
 go_ret;exact⟨_,rfl,ho2,hu2⟩
theorem RG{w:World}{B:HB}{rp n:Nat}{a:Option Addr}{cc:Nat}(h1:aS w rp 302 2 (NQ B (.slice a n cc))):Calls prog 270 #[.pointer (some ⟨rp,0,none⟩)] w λe w'=>e=.returned (.int .i64 (n:Int))/\w'=w:=by
 have c1:=h1.cellAt 1 (v:=.slice a n cc) ω rfl;clear h1
 go_enter func270,ntmps270
 go_wp2;go_ret;exact⟨rfl,rfl⟩
structure Xc(B:HB)(F:List Nat)(A:NS)(pt:Nat)(vt:Value)(Lt Lf T:List Nat)(w7 X:World)(i:Nat)(v':Value)(L' T':List Nat):Prop where
 Ym:DI X B F A pt v' L' T'
 perm:L'.Perm (Lt++Lf.take i)
 hp:Hp (nD A) 2 L'
 tl:T'.length=T.length
 wQ:∀y,y∉Lt++Lf.take i->T'.getD y 0=T.getD y 0
 upd:ae (pt::B.ga::B.c::vt.ownBlock.toList) w7 X
 new:∀g,v'.ownBlock=some g->vt.ownBlock=some g\/w7.heap.size<=g
section
variable{B:HB}{F:List Nat}{A:NS}{pt i:Nat}{vt v':Value}{Lt Lf T L' T':List Nat}{w7 X:World}
theorem Xc.ag{Y:World}(h:Xc B F A pt vt Lt Lf T w7 X i v' L' T')(hu:ae [] X Y):Xc B F A pt vt Lt Lf T w7 Y i v' L' T':=
 ⟨h.Ym.ag hu,h.perm,h.hp,h.tl,h.wQ,h.upd.joined hu σ,h.new⟩
theorem Xc.add(h:Xc B F A pt vt Lt Lf T w7 X i v' L' T')(hi:i<Lf.length)(hnd0:(Lt++Lf).Nodup)(hln:Lt.length+Lf.length<=T.length)(hdom:∀y,y∈Lt++Lf->bY A (y:Int)=true/\y<T.length) :
  Calls prog 269 #[.iface 298 (.pointer (some ⟨pt,0,none⟩)),.iface 3 (.int .i64 ((Lf.getD i 0:Nat):Int))] X λe w'=>e=.returned (.tuple #[])/\∃v2 L2 T2,Xc B F A pt vt Lt Lf T w7 w' (i+1) v2 L2 T2:=by
 have hx:Lf[i]?=some (Lf.getD i 0):=by rw[φ,ε hi];rfl
 generalize Lf.getD i 0=x at *;have ht:Lf.take (i+1)=Lf.take i++[x]:=by rw[ϐ,hx];rfl
 have hsub:(Lt++Lf.take (i+1)).Sublist (Lt++Lf):=(List.Sublist.refl _).append (List.take_sublist _ _);have hnd:(Lt++Lf.take (i+1)).Nodup:=hsub.nodup hnd0;have hp2:(x::L').Perm (Lt++Lf.take (i+1)):=by
  rw[ht,←ϋ];exact((h.perm.cons x).trans (Φ (l₁:=[x]) (l₂:=Lt++Lf.take i)))
 have hnx:=Ζ.1 (hp2.nodup_iff.2 hnd);have hmem:∀y,y∈x::L'->y∈Lt++Lf:=λy hy=>hsub.subset (hp2.mem_iff.1 hy);have hlen:=hp2.length_eq;have hle:=hsub.length_le;rw[υ,υ] at hle;rw[υ] at hlen;have htl:=h.tl;have hdx:=hdom x (hmem x σ);refine(D8 h.Ym x hnx.1 hdx.1 (by rw[htl];exact hdx.2) (by simp only[Ω] at hlen;omega) h.hp).mono ?_;rintro e w' ⟨rfl,gs,cap,L2,T2,q1,q2,q3,q4,q5,q6,q7⟩;refine⟨rfl,_,L2,T2,q1.any,q2.trans hp2,q3,q5.trans htl,λy hy=>?_,h.upd.joined q6 (λz hz=>?_),λg hg=>?_⟩
 ·rw[q4 y (λhm=>hy (hp2.mem_iff.1 hm))];refine h.wQ y (λhm=>hy ?_);rw[ht,←ϋ];exact τ.2 (Α hm)
 ·simp only[ρ] at hz ⊢;rcases hz with e|e|e|e
  ·exact Α (Α e)
  ·exact Α (Β (Α e))
  ·exact Α (Β (Β (Α e)))
  ·rcases h.new z (Option.mem_toList.1 e) with e|e
   ·exact Α (Β (Β (Β (Option.mem_toList.2 e))))
   ·exact Β e
 ·have hg':some gs=some g:=hg;cases hg';rcases q7 with e|e
  ·exact h.new _ e
  ·have:=h.upd.size;exact Β ω
end
section
variable{w w':World}{B:HB}{F Z:List Nat}{gr cr st:Nat}{A:NS}{ptr:Nat->Option Nat}{G L:Nat->List Nat}{T:List Nat}
theorem LU(h:ShAt w B F Z gr A st)(a b:Nat)(hj:gJ A a b=true) :
  Calls prog 265 #[.pointer (some ⟨B.n0,0,none⟩),.int .i64 (a:Int),.int .i64 (b:Int)] w λe w'=>e=.returned (.bool true)/\Goes (B.blk F Z gr) w w' (λF'=>∃Z' st',F'=B.blk F Z' gr/\ShAt w' B F Z' gr (az A a b) st'):=by
 obtain⟨cr,ptr,G,L,T,hM,hI⟩:=h;obtain⟨j1,j2,j3⟩:=(dG _ _ _).1 hj;have a1:=(aC _ _).1 j1;have a2:=(aC _ _).1 j2;have hne:a≠b:=λe=>j3 (by rw[e]);have hok:=hM.cells.ok;have hcs:=hok.c1;have hd:=hI.di;obtain⟨pa,IB,va,hRa,hOa, -, -⟩:=hM.iq.row a j1;obtain⟨pb,hpb,vb,hRb,hOb, -, -⟩:=hM.iq.row b j2;have jd:(az A a b).hs.length=A.hs.length:=by unfold az;rw[Δ hj];simp
 have cga:=hM.iq.cell (g:=a) ω IB;have cgb:=hM.iq.cell (g:=b) ω hpb;obtain⟨t,f,ht,hlt⟩:∃t f,Bg a b t f/\((t=a/\f=b/\¬(L a).length<(L b).length)\/(t=b/\f=a/\(L a).length<(L b).length)):=by
  by_cases e:(L a).length<(L b).length
  ·exact⟨b,a,Β ⟨rfl,rfl⟩,Β ⟨rfl,rfl,e⟩⟩
  ·exact⟨a,b,Α ⟨rfl,rfl⟩,Α ⟨rfl,rfl,e⟩⟩
 have ht1:aY A t=true:=by rcases ht with⟨e, -⟩|⟨e, -⟩<;>rw[e]<;>assumption
 have hf1:aY A f=true:=by rcases ht with⟨-,e⟩|⟨-,e⟩<;>rw[e]<;>assumption
 have htf:t≠f:=by rcases ht with⟨e,e'⟩|⟨e,e'⟩<;>omega
 obtain⟨s1,s2,s3,s4,s5⟩:=hd.sum ω hj ht;obtain⟨pt,vt,hpt,PY,zz⟩:=hM.pile ht1 (λy hy=>⟨(hd.len ht1 hy).2.1,by rw[hM.tl];exact(hd.len ht1 hy).1⟩) (hd.nd t ht1) (hI.wQ t ht1);obtain⟨pf,YM,vf,hRf,hOf,hGf, -⟩:=hM.iq.row f hf1;have hwh:(pa=pt/\pb=pf/\¬(L a).length<(L b).length)\/(pa=pf/\pb=pt/\(L a).length<(L b).length):=by
  rcases hlt with⟨rfl,rfl,e⟩|⟨rfl,rfl,e⟩
  ·rw[hpt] at IB;rw[YM] at hpb;cases IB;cases hpb;exact Α ⟨rfl,rfl,e⟩
  ·rw[YM] at IB;rw[hpt] at hpb;cases IB;cases hpb;exact Β ⟨rfl,rfl,e⟩
 have hl:=hM.lt;have kj:=mf hM.cells a b hj;have Q8:∀q:Nat,aY A q=true->∀z,z∈G q->z∈Z:=λq hq z hz=>hM.iq.sJ q hq z hz;have hnF:∀z,z∈Z->z∉gr::F:=λz hz hm=>by
  rcases ρ.1 hm with e|e
  ·exact hM.iq.Gp (by rw[←e];exact hz)
  ·exact(hM.iF z hz).1 e
 have Cz:∀(q p:Nat) (W:World),ae (gr::F) w W->aY A q=true->ptr q=some p->Calls prog 270 #[.pointer (some ⟨p,0,none⟩)] W λe w'=>e=.returned (.int .i64 ((L q).length:Int))/\w'=W:=λq p W hW hq hp=>by
  obtain⟨p',hp',v,h1,h2,h3,h4⟩:=hM.iq.row q hq;rw[hp] at hp';cases hp';obtain⟨x,c,rfl, -⟩:=aV h2;exact RG (h1.upd hW (hnF _ (Q8 q hq _ (by rw[h3];simp))))
 have klt:=λW (hW:ae (gr::F) w W)=>Cz a pa W hW j1 IB;have klf:=λW (hW:ae (gr::F) w W)=>Cz b pb W hW j2 hpb;obtain⟨af,cf,rfl,hcf⟩:=aV hOf;have hpfZ:pf∈Z:=Q8 f hf1 _ (by rw[hGf];simp);have cpf:∀W,ae (gr::F) w W->W.cell? ⟨pf,1,none⟩=some (.slice af (L f).length cf):=λW hW=>hW.kept (hRf.cellAt 1 ω rfl) (hnF _ hpfZ);have ER:=hM.bS;have nS:=hM.sep;have HD:=χ (ψ s1 (ψ (show(L t).length+(L f).length<=T.length by rw[hM.tl];exact s2) (show ∀y,y∈L t++L f->bY (az A a b) (y:Int)=true/\y<T.length from λy hy=>⟨(s3 y hy).1,by rw[hM.tl];exact(s3 y hy).2⟩)))
 have HC:Hid (∀W,ae (gr::F) w W->∀st',aF W B.c F (az A a b) st'->Xc B F (az A a b) pt vt (L t) (L f) T W W 0 vt (L t) T):=λW hW st' hC=>by
  have h1:pt∈Z:=Q8 t ht1 _ (by rw[PY];simp);have hga:B.ga∉gr::F:=λhm=>by
   rcases ρ.1 hm with e|e
   ·exact nS.2.2 e
   ·exact ER.2.2 e
  have hn0:B.n0∉gr::F:=λhm=>by
   rcases ρ.1 hm with e|e
   ·exact nS.1 e
   ·exact ER.1 e
  exact⟨⟨zz.hd.upd hW (hnF _ h1),ak zz.own hW (λk hk=>hnF _ (Q8 t ht1 _ (by rw[PY];exact Λ _ (Option.mem_toList.2 hk)))),zz.zB.upd hW hga,hW.kept zz.QW hn0,hW.kept zz.QY hn0,⟨st',hC⟩,zz.s1,zz.sg,zz.s2,zz.s3,λy hy=>HD.out.2.2 y (τ.2 (Α hy)),zz.nd,zz.wQ,zz.tl⟩,σ,s4,rfl,λy _=>rfl,ae.refl _ _,λg hg=>Α hg⟩
 have hapart:∀(q z:Nat),aY A q=true->q≠t->z∈G q->z∉pt::B.ga::B.c::vt.ownBlock.toList:=λq z hq hqt hz hm=>by
  have hzZ:=Q8 q hq z hz;have h3:=hM.iF z hzZ;have hnt:z∉pt::vt.ownBlock.toList:=λh=>hM.iq.Qx q t hq ht1 hqt z hz (by rw[PY];exact h);simp only[ρ] at hm hnt;rcases hm with e|e|e|e
  ·exact hnt (Α e)
  ·exact h3.2.2 e
  ·exact h3.1 (by rw[e];exact hM.cells.mem)
  ·exact hnt (Β e)
 have hfro:∀W X,ae (gr::F) w W->ae (pt::B.ga::B.c::vt.ownBlock.toList) W X->X.ownsRow 0 3 1 (.slice af (L f).length cf) (L f).length (bz (bZ (L f))):=λW X hW hX=>
  ak (ak hOf hW (λk hk=>hnF _ (Q8 f hf1 _ (by rw[hGf];exact Λ _ (Option.mem_toList.2 hk))))) hX (λk hk=>hapart f k hf1 (λe=>htf e.symm) (by rw[hGf];exact Λ _ (Option.mem_toList.2 hk)))
 have hgrn:gr∉pt::B.ga::B.c::vt.ownBlock.toList:=λhm=>by
  have hnt:gr∉pt::vt.ownBlock.toList:=λh=>hM.iq.Gp (Q8 t ht1 _ (by rw[PY];exact h));simp only[ρ] at hm hnt;rcases hm with e|e|e|e
  ·exact hnt (Α e)
  ·exact nS.2.2 e.symm
  ·exact ER.2.1 (by rw[e];exact hM.cells.mem)
  ·exact hnt (Β e)
 have FIN:Hid (∀W0 W v' L' T',ae (gr::F) w W0->Xc B F (az A a b) pt vt (L t) (L f) T W0 W (L f).length v' L' T'->
   W0.ownsRow 0 298 1 (.slice (some ⟨gr,0,none⟩) A.hs.length cr) A.hs.length (lM (fG (fG ptr a (some pt)) b none) A.hs.length)->
   Goes (B.blk F Z gr) w W (λF'=>∃Z' st',F'=B.blk F Z' gr/\ShAt W B F Z' gr (az A a b) st')):=λW0 W v' L' T' h0 h1 h7=>by
  have hperm:L'.Perm (L t++L f):=by have:=h1.perm;rwa[List.take_length] at this
  obtain⟨st',hC⟩:=h1.Ym.Gj;have hs0:=h0.size
  have hU:ae (gr::(F++(pt::B.ga::B.c::vt.ownBlock.toList))) w W:=(h0.mono (λz hz=>by
   rcases ρ.1 hz with e|e
   ·rw[e];simp
   ·simp [e])).trans (h1.upd.mono (λz hz=>Λ _ (τ.2 (Β hz))))
  have hkb:∀k:Nat,kP (az A a b) k=(kP A k && !(k == b)):=λk=>by
   have e:((k:Int) == (b:Int))=(k == b):=by
    rw[Bool.eq_iff_iff];simp only[ϟ];omega
   unfold kP;rw[qH hj,e]
  have hnew:∀z,z∈pt::v'.ownBlock.toList->z∈G t\/w.heap.size<=z:=λz hz=>by
   rcases ρ.1 hz with e|e
   ·exact Α (by rw[PY,e];simp)
   ·rcases h1.new z (Option.mem_toList.1 e) with e|e
    ·exact Α (by rw[PY];exact Λ _ (Option.mem_toList.2 e))
    ·exact Β ω
  have hG:∀z,z∈pt::v'.ownBlock.toList->z∉F/\z≠B.n0/\z≠B.ga:=λz hz=>by
   rcases hnew z hz with e|e
   ·exact hM.iF z (Q8 t ht1 z e)
   ·exact⟨λhm=>by have:=hM.cells.lt z hm;omega,λe3=>by have:=hl B.n0 (by simp[HB.blk]);omega,λe3=>by have:=hl B.ga (by simp[HB.blk]);omega⟩
  have hS:∀z,z∈gr::(F++(pt::B.ga::B.c::vt.ownBlock.toList))->z∈G t\/z∉Z:=λz hz=>by
   simp only[ρ,τ] at hz;rcases hz with e|e|e|e|e|e
   ·exact Β (by rw[e];exact hM.iq.Gp)
   ·exact Β (λhm=>(hM.iF z hm).1 e)
   ·exact Α (by rw[PY,e];simp)
   ·exact Β (λhm=>(hM.iF z hm).2.2 e)
   ·exact Β (λhm=>(hM.iF z hm).1 (by rw[e];exact hM.cells.mem))
   ·exact Α (by rw[PY];exact Λ _ e)
  have hn0S:B.n0∉gr::(F++(pt::B.ga::B.c::vt.ownBlock.toList)):=λhm=>by
   have hpz:∀z,z∈pt::vt.ownBlock.toList->z≠B.n0:=λz hz=>(hM.iF z (Q8 t ht1 z (by rw[PY];exact hz))).2.1;simp only[ρ,τ] at hm;rcases hm with e|e|e|e|e|e
   ·exact nS.1 e
   ·exact ER.1 e
   ·exact hpz pt σ e.symm
   ·exact nS.2.1 e.symm
   ·exact ER.1 (by rw[e];exact hM.cells.mem)
   ·exact hpz _ (Λ _ e) rfl
  have hJ:=hd.join ω hj ht hperm h1.hp;refine⟨B.blk F (Z++(pt::v'.ownBlock.toList)) gr,⟨Z++(pt::v'.ownBlock.toList),st',rfl,cr,fG (fG ptr a (some pt)) b none,fG G a (pt::v'.ownBlock.toList),fG L a L',T',⟨?_,hC,?_,h1.Ym.zB,by rw[h1.tl,hM.tl,eY],ER,nS,λz hz=>?_⟩,⟨hJ,λk hk j x hx=>?_⟩⟩,hU.mono (λz hz=>?_),λz hz=>?_⟩
  ·rw[jd,h1.tl];exact hM.head.upd hU hn0S
  ·rw[jd];exact hM.iq.Ab (K:=aaG B) j1 j2 ht hpt (ak h7 h1.upd (λk hk=>by cases hk;exact hgrn)) hne hU hS ⟨v',h1.Ym.hd,h1.Ym.own,rfl,λk hk=>(h1.Ym.sg k hk).1⟩ hnew hkb
  ·rcases τ.1 hz with e|e
   ·exact hM.iF z e
   ·exact hG z e
  ·by_cases e:k=a
   ·subst e;rw[bO] at hx;exact h1.Ym.wQ j x hx
   ·rw[bf _ _ e] at hx;have hk':aY A k=true/\k≠b:=by
     rw[qH hj] at hk;simp at hk;exact⟨hk.1,ω⟩
    have hxm:=Η hx;rw[h1.wQ x (λhm=>?_)]
    ·exact hI.wQ k hk'.1 j x hx
    ·rw[List.take_length] at hm;have hkt:k≠t/\k≠f:=by rcases ht with⟨e1,e2⟩|⟨e1,e2⟩<;>exact⟨ω,ω⟩
     rcases τ.1 hm with h|h
     ·exact hd.apart hkt.1 hk'.1 ht1 hxm h
     ·exact hd.apart hkt.2 hk'.1 hf1 hxm h
  ·simp only[ρ,τ] at hz;have hpz:∀z,z∈pt::vt.ownBlock.toList->z∈Z:=λz hz=>Q8 t ht1 z (by rw[PY];exact hz);rcases hz with e|e|e|e|e|e
   ·simp[HB.blk,e]
   ·exact B.zH e
   ·exact B.AB (hpz z (by simp[e]))
   ·simp[HB.blk,e]
   ·exact B.zH (by rw[e];exact hM.cells.mem)
   ·exact B.AB (hpz z (Λ _ e))
  ·simp only[HB.blk,ρ,τ] at hz ⊢;rcases hz with h|h|h|h|h|h
   ·exact Α (Α h)
   ·exact Α (Β (Α h))
   ·exact Α (Β (Β (Α h)))
   ·exact Α (Β (Β (Β (Α h))))
   ·exact Α (Β (Β (Β (Β h))))
   ·rcases hnew z (by simpa using h) with h|h
    ·exact Α (Β (Β (Β (Β (Q8 t ht1 z h)))))
    ·exact Β h
 have HO:=χ hM.iq.rows;have c0:=hM.h0;have c2:=hM.h1;have wy:gr∉F:=ER.2.1;have UU:B.n0∉F:=ER.1;have HP:=χ (ψ hne (ψ hcs (ψ s2 (ψ hapart hfro))));have b1:(0:Int)<=(a:Int):=ω;have b2:(a:Int)<(A.hs.length:Int):=ω;have b3:(0:Int)<=(b:Int):=ω;have b4:(b:Int)<(A.hs.length:Int):=ω;have hlf65:(L f).length<=65536:=ω;clear hM hI hd hj j1 j2 j3 hok hcs IB hpb jd hlt ht hpt YM ht1 hf1 htf s1 s2 s3 s4 s5 hl ER nS hne a1 a2 hRa hRb hOa hOb PY zz hRf hOf hGf Q8 hnF Cz hpfZ hapart hfro hgrn va vb;generalize az A a b=A' at *;generalize (L a).length=la at *;generalize (L b).length=lb at *
 generalize hLt:L t=Lt at *;generalize hLf:L f=Lf at *;generalize A.hs.length=m at *;clear hLt hLf
 go_enter func265,ntmps265
 go_upto_region 3 with (first
  |((go_at_call 141;(with_reducible refine(kj).mono ?_));rintro e w1 ⟨rfl,gG,hu1⟩)
  | fail)
 have d2:=hu1.kept c2 UU;have da:=hu1.kept cga wy;have db:=hu1.kept cgb wy;have hv1:ae (gr::F) w w1:=hu1.mono (λz hz=>Λ _ hz);have qQ:=χ (ak HO.out hu1 (λk hk=>by cases hk;exact wy));have fz:∀j,w1.frozen? ⟨gr,j,none⟩=false:=λj=>qQ.out.frozenAt j;have fa:=fz a;have fb:=fz b;have TE:=λW (hW:ae [] w1 W)=>klt W (hv1.joined hW σ);have Ub:=λW (hW:ae [] w1 W)=>klf W (hv1.joined hW σ);have HJ:=χ (ψ gG (ψ hv1 cpf));clear c0 c2 cga cgb kj hu1 gG hv1 fz klt klf cpf
 go_cut [7,8] (λs7 s8 W=>s7=.pointer (some ⟨pa,0,none⟩)/\s8=.pointer (some ⟨pb,0,none⟩)/\ae [] w1 W)
 case first=>
  go_quiet (fail)
  go_wp2
  go_meet
  exact⟨rfl,rfl,β⟩
 case rest=>
 obtain⟨rfl,rfl,oV⟩:=hcut;rename World=>W1;have e2:=oV.was d2;have ea:=oV.was da;have eb:=oV.was db;have ga:=oV.aM da σ fa;have gb:=oV.aM db σ fb;have Vh:=λW (hW:ae [] W1 W)=>TE W (oV.trans hW);have R7:=λW (hW:ae [] W1 W)=>Ub W (oV.trans hW);have HU:=χ oV;have ZQ:¬a=b:=HP.out.1;have hnba:¬b=a:=λe=>ZQ e.symm;clear d2 da db fa fb TE Ub oV
 go_upto_if 37 with (first
  |((go_at_call 270;(with_reducible refine(Vh _ β).mono ?_));rintro e w9 ⟨rfl,zu⟩;rw[zu];clear zu w9)
  |((go_at_call 270;(with_reducible refine(R7 _ β).mono ?_));rintro e w9 ⟨rfl,zu⟩;rw[zu];clear zu w9)
  | fail)
 go_cut [7,8] (λs7 s8 W=>s7=.pointer (some ⟨pt,0,none⟩)/\s8=.pointer (some ⟨pf,0,none⟩)/\ae [] W1 W)
 case first=>
  rcases hwh with⟨rfl,rfl,hlt⟩|⟨rfl,rfl,hlt⟩
  ·have hdec:decide ((la:Int)<(lb:Int))=false:=ζ;go_wp2
   go_meet
   exact⟨rfl,rfl,β⟩
  ·have hdec:decide ((la:Int)<(lb:Int))=true:=ζ;go_wp2
   go_meet
   exact⟨rfl,rfl,β⟩
 case rest=>
 obtain⟨rfl,rfl,oV⟩:=hcut;rename World=>W2;have e3:=oV.was e2;have ea3:=oV.was ea;have eb3:=oV.was eb;have ga3:=oV.aM ea σ ga;have gb3:=oV.aM eb σ gb;have HU2:=χ (HU.out.trans oV);clear e2 ea eb ga gb Vh R7 oV hwh
 go_upto_region 6 with(fail)
 go_cut [] (λW=>W.ownsRow 0 298 1 (.slice (some ⟨gr,0,none⟩) m cr) m (lM (fG (fG ptr a (some pt)) b none) m)/\ae [gr] w1 W)
 case first=>
  go_region
  all_goals
   go_wp2
   go_meet
   have hu:=HU2.out;have ho2:=ak qQ.out hu σ;refine⟨ak (?_:World.ownsRow ((W2.setCell ⟨gr,a,none⟩ (vW (some pt))).setCell ⟨gr,b,none⟩ (vW none)) _ _ _ _ _ _) (S:=[]) β σ,?_⟩
   ·rw[←uT,←uT];exact xH (xH ho2 a _) b _
   ·exact ae.trans (hu.mono σ) β
 case rest=>
 obtain⟨hO3,hu3⟩:=hcut;rename World=>W3;obtain⟨gG,hv1,cpf⟩:=HJ.out;have hv3:ae (gr::F) w W3:=hv1.trans (hu3.mono (λz hz=>by simp at hz;rw[hz];simp));have wY:=gG.upd hu3 (λz hz=>by simp at hz;rw[hz];exact wy);have c3:=cpf W3 hv3;have HM:=χ (ψ (HC.out W3 hv3 _ wY) (ψ hv3 hO3));clear hO3 hu3 gG hv1 cpf hv3 wY wy UU e3 ea3 eb3 ga3 gb3;go_wp2
 go_loopw [10,58] (λv10 v58 wr=>∃(i:Nat) (v':Value) (L' T':List Nat),i<=Lf.length/\v58=.int .i64 (i:Int)/\Xc B F A' pt vt Lt Lf T W3 wr i v' L' T') (λ_ v58 _=>Lf.length-(intOf v58).toNat)
 case atStart=>exact⟨0,vt,Lt,T,Nat.zero_le _,rfl,HM.out.1.ag β⟩
 case round=>
  obtain⟨i,v',L',T',hi,rfl,hL⟩:=hrel;rename World=>wr
  by_cases hin:i<Lf.length
  ·have JX:(i:Int)<(Lf.length:Int):=ω;have hwj:IntKind.i64.wrap ((i:Int)+1)=(i:Int)+1:=Μ _ ω;obtain⟨g7,c7',ev, -, -, -, -,hcs, -⟩:=fQ (HP.out.2.2.2.2 W3 wr HM.out.2.1 hL.upd) ω;cases ev
   have hcl:=hcs i (.int .i64 ((Lf.getD i 0:Nat):Int)) (by
    have:=lY (l:=bZ Lf) (j:=i) (by rw[dK];exact hin)
    rwa [oM] at this)
   have H9:=λX (hX:ae [] wr X)=>(hL.ag hX).add hin HD.out.1 HD.out.2.1 HD.out.2.2;clear hL hcs;generalize Lf.getD i 0=x at *
   go_wp2_with (first
    |((go_at_call 269;(with_reducible refine(H9 _ β).mono ?_));rintro e w8 ⟨rfl,v2,L2,T2,hL2⟩)
    | fail)
   go_roundw
   case rel=>exact⟨i+1,v2,L2,T2,ω,by go_num,hL2⟩
   case measure=>simp[intOf];omega
  ·obtain rfl:i=Lf.length:=ω;have JX:¬(Lf.length:Int)<(Lf.length:Int):=ω;have hF:Hid (∀W,ae [] wr W->Goes (B.blk F Z gr) w W (λF'=>∃Z' st',F'=B.blk F Z' gr/\ShAt W B F Z' gr A' st')):=λW hW=>FIN.out W3 W v' L' T' HM.out.2.1 (hL.ag hW) HM.out.2.2;clear hL;go_wp2;go_ret;obtain⟨F',⟨Z',st',e,hA⟩,q⟩:=hF.out _ (ae.refl _ _);exact⟨rfl,F',⟨Z',e,st',hA⟩,q⟩
end
structure YO(B:DB)(F:List Nat)(A:NS)(pt:Nat)(Gt Lt Lf:List Nat)(w7 X:World)(i:Nat)(G' L':List Nat):Prop where
 row:jM X pt G' B.d L'
 perm:L'.Perm (Lt++Lf.take i)
 hp:Hp (nD A) B.d L'
 Gj:∃st,aF X B.c F A st
 upd:ae (Gt++[B.c]) w7 X
 new:∀z,z∈G'->z∈Gt\/w7.heap.size<=z
structure MeC(B:DB)(F:List Nat)(A:NS)(Gt Lt Lf:List Nat)(w7:World):Prop where
 h0:w7.cell? ⟨B.n0,0,none⟩=some (.pointer (some ⟨B.c,0,none⟩))
 nF:B.n0∉F
 lF:∀z,z∈B.n0::F->z<w7.heap.size
 cl:∀z,z∈Gt->z∉B.n0::F
 cF:B.c∈F
 dd:2<=B.d/\B.d<=16
 nd:(Lt++Lf).Nodup
 len:Lt.length+Lf.length<=65536
 dom:∀y,y∈Lt++Lf->bY A (y:Int)=true/\y<=65536
section
variable{B:DB}{F:List Nat}{A:NS}{pt i:Nat}{Gt Lt Lf G' L':List Nat}{w7 X:World}
theorem YO.ag{Y:World}(h:YO B F A pt Gt Lt Lf w7 X i G' L')(hu:ae [] X Y):YO B F A pt Gt Lt Lf w7 Y i G' L':=by
 obtain⟨st,hc⟩:=h.Gj;exact⟨h.row.upd hu σ,h.perm,h.hp,⟨st,hc.ag hu⟩,h.upd.joined hu σ,h.new⟩
theorem YO.add(h:YO B F A pt Gt Lt Lf w7 X i G' L')(c:MeC B F A Gt Lt Lf w7)(hi:i<Lf.length) :
  Calls prog 139 #[.pointer (some ⟨pt,0,none⟩),.iface 122 (.pointer (some ⟨B.n0,0,none⟩)),.int .i64 ((Lf.getD i 0:Nat):Int)] X λe w'=>e=.returned (.bool true)/\∃G2 L2,YO B F A pt Gt Lt Lf w7 w' (i+1) G2 L2:=by
 obtain⟨st,hc⟩:=h.Gj;have hx:Lf[i]?=some (Lf.getD i 0):=by rw[φ,ε hi];rfl
 generalize Lf.getD i 0=x at *;have ht:Lf.take (i+1)=Lf.take i++[x]:=by rw[ϐ,hx];rfl
 have hsub:(Lt++Lf.take (i+1)).Sublist (Lt++Lf):=(List.Sublist.refl _).append (List.take_sublist _ _);have hnd:(Lt++Lf.take (i+1)).Nodup:=hsub.nodup c.nd;have hp2:(x::L').Perm (Lt++Lf.take (i+1)):=by
  rw[ht,←ϋ];exact((h.perm.cons x).trans (Φ (l₁:=[x]) (l₂:=Lt++Lf.take i)))
 have hnx:=Ζ.1 (hp2.nodup_iff.2 hnd);have hmem:∀y,y∈x::L'->y∈Lt++Lf:=λy hy=>hsub.subset (hp2.mem_iff.1 hy);have hlen:=hp2.length_eq;have hle:=hsub.length_le;rw[υ,υ] at hle;rw[υ] at hlen;have hcl:=c.len;have hO:(Uw B F A c.cF).at_ X:=⟨h.upd.kept c.h0 (λhm=>?_),c.nF,st,hc⟩
 ·refine(Gz (Uw B F A c.cF) hO h.row c.dd (by simp only[Ω] at hlen;omega) h.hp x hnx.1 hnx.2 (λy hy=>(c.dom y (hmem y hy)).1) (λy hy=>(c.dom y (hmem y hy)).2) (λz hz hm=>?_)).mono ?_
  ·rcases h.new z hz with e|e
   ·exact c.cl z e hm
   ·have:=c.lF z hm;omega
  rintro e w' ⟨rfl,G2,L2,h1,h2,h3,⟨-, -,h4⟩,h5,h6⟩;refine⟨rfl,G2,L2,h1,h2.trans hp2,h3,h4,h.upd.joined h5 (λz hz=>?_),λz hz=>?_⟩
  ·rcases τ.1 hz with e|e
   ·rcases h.new z e with e|e
    ·exact Α (τ.2 (Α e))
    ·exact Β e
   ·exact Α (τ.2 (Β e))
  ·rcases h6 z hz with e|e
   ·exact h.new z e
   ·have:=h.upd.size;exact Β ω
 ·rcases τ.1 hm with e|e
  ·exact c.cl _ e σ
  ·simp at e;exact c.nF (by rw[e];exact c.cF)
end
section
variable{w w':World}{B:DB}{F Z:List Nat}{gr cr st:Nat}{A:NS}{ptr:Nat->Option Nat}{G L:Nat->List Nat}
theorem QI(h:lX w B F Z gr A st)(a b:Nat)(hj:gJ A a b=true) :
  Calls prog 128 #[.pointer (some ⟨B.n0,0,none⟩),.int .i64 (a:Int),.int .i64 (b:Int)] w λe w'=>e=.returned (.bool true)/\Goes (B.blk F Z gr) w w' (λF'=>∃Z' st',F'=B.blk F Z' gr/\lX w' B F Z' gr (az A a b) st'):=by
 obtain⟨cr,ptr,G,L,hM,hI⟩:=h;obtain⟨j1,j2,j3⟩:=(dG _ _ _).1 hj;have a1:=(aC _ _).1 j1;have a2:=(aC _ _).1 j2;have hne:a≠b:=λe=>j3 (by rw[e]);have hok:=hM.cells.ok;have hcs:=hok.c1;obtain⟨pa,IB, -⟩:=hM.iq.row a j1;obtain⟨pb,hpb, -⟩:=hM.iq.row b j2;have jd:(az A a b).hs.length=A.hs.length:=by unfold az;rw[Δ hj];simp
 have cga:=hM.iq.cell (g:=a) ω IB;have cgb:=hM.iq.cell (g:=b) ω hpb;obtain⟨t,f,ht,hlt⟩:∃t f,Bg a b t f/\((t=a/\f=b/\¬(L a).length<(L b).length)\/(t=b/\f=a/\(L a).length<(L b).length)):=by
  by_cases e:(L a).length<(L b).length
  ·exact⟨b,a,Β ⟨rfl,rfl⟩,Β ⟨rfl,rfl,e⟩⟩
  ·exact⟨a,b,Α ⟨rfl,rfl⟩,Α ⟨rfl,rfl,e⟩⟩
 obtain⟨pt,hpt⟩:∃pt,ptr t=some pt:=by rcases ht with⟨e, -⟩|⟨e, -⟩;exact⟨pa,by rw[e];exact IB⟩;exact⟨pb,by rw[e];exact hpb⟩
 obtain⟨pf,YM⟩:∃pf,ptr f=some pf:=by rcases ht with⟨-,e⟩|⟨-,e⟩;exact⟨pb,by rw[e];exact hpb⟩;exact⟨pa,by rw[e];exact IB⟩
 have ht1:aY A t=true:=by rcases ht with⟨e, -⟩|⟨e, -⟩<;>rw[e]<;>assumption
 have hf1:aY A f=true:=by rcases ht with⟨-,e⟩|⟨-,e⟩<;>rw[e]<;>assumption
 have hwh:(pa=pt/\pb=pf/\¬(L a).length<(L b).length)\/(pa=pf/\pb=pt/\(L a).length<(L b).length):=by
  rcases hlt with⟨rfl,rfl,e⟩|⟨rfl,rfl,e⟩
  ·rw[hpt] at IB;rw[YM] at hpb;cases IB;cases hpb;exact Α ⟨rfl,rfl,e⟩
  ·rw[YM] at IB;rw[hpt] at hpb;cases IB;cases hpb;exact Β ⟨rfl,rfl,e⟩
 obtain⟨s1,s2,s3,s4,s5⟩:=hI.sum hM.dd.1 hj ht;have hl:=hM.lt;have kj:=mf hM.cells a b hj;have U9:∀(q p:Nat) (W:World),ae (gr::F) w W->aY A q=true->ptr q=some p->jM W p (G q) B.d (L q):=λq p W hW hq hp=>by
  obtain⟨p',hp',hR⟩:=hM.iq.row q hq;rw[hp] at hp';cases hp';have hR':jM w p (G q) B.d (L q):=hR;refine hR'.upd hW (λz hz hm=>?_);rcases ρ.1 hz with e|e
  ·exact hM.iq.Gp (by rw[←e];exact hM.iq.sJ q hq z hm)
  ·exact(hM.iF z (hM.iq.sJ q hq z hm)).1 e
 have klt:∀W,ae (gr::F) w W->Calls prog 142 #[.pointer (some ⟨pa,0,none⟩)] W λe w'=>e=.returned (.int .i64 ((L a).length:Int))/\w'=W:=λW hW=>Em (U9 a pa W hW j1 IB);have klf:∀W,ae (gr::F) w W->Calls prog 142 #[.pointer (some ⟨pb,0,none⟩)] W λe w'=>e=.returned (.int .i64 ((L b).length:Int))/\w'=W:=λW hW=>Em (U9 b pb W hW j2 hpb);have RF:∀W,ae (gr::F) w W->Calls prog 143 #[.pointer (some ⟨pf,0,none⟩)] W λe w'=>∃v,e=.returned v/\w'.ownsRow W.heap.size 3 1 v (L f).length (bz (bZ (L f)))/\ae [] W w':=λW hW=>QB (U9 f pf W hW hf1 YM) ω;have ER:=hM.bS
 have HC:Hid (∀W,ae (gr::F) w W->W.cell? ⟨B.n0,0,none⟩=some (.pointer (some ⟨B.c,0,none⟩))/\MeC B F (az A a b) (G t) (L t) (L f) W/\∀st',aF W B.c F (az A a b) st'->YO B F (az A a b) pt (G t) (L t) (L f) W W 0 (G t) (L t)):=λW hW=>by
  have h0:W.cell? ⟨B.n0,0,none⟩=some (.pointer (some ⟨B.c,0,none⟩)):=hW.kept hM.h0 (λhm=>by
   rcases ρ.1 hm with e|e
   ·exact ER.2.2 e
   ·exact ER.1 e)
  refine⟨h0,⟨h0,ER.1,λz hz=>?_,λz hz hm=>hM.clear ht1 z hz hm,hM.cells.mem,hM.dd,s1,ω,λy hy=>⟨(s3 y hy).1,by have:=(s3 y hy).2;omega⟩⟩,λst' hC=>⟨U9 t pt W hW ht1 hpt,σ,s4,⟨st',hC⟩,ae.refl _ _,λz hz=>Α hz⟩⟩;have:=hW.size
  have:=hl z (by
   simp only[DB.blk,ρ,τ] at hz ⊢;rcases hz with e|e
   ·exact Α e
   ·exact Β (Β (Α e)))
  omega
 have FIN:Hid (∀W G' L',(∀z,z∈G'->z∈G t\/w.heap.size<=z)->jM W pt G' B.d L'->L'.Perm (L t++L f)->Hp (nD (az A a b)) B.d L'->(∃st',aF W B.c F (az A a b) st')->ae (gr::(F++G t)) w W->
   W.ownsRow 0 174 1 (.slice (some ⟨gr,0,none⟩) A.hs.length cr) A.hs.length (lM (fG (fG ptr a (some pt)) b none) A.hs.length)->
   Goes (B.blk F Z gr) w W (λF'=>∃Z' st',F'=B.blk F Z' gr/\lX W B F Z' gr (az A a b) st')):=λW G' L' h1 h2 h3 h4 ⟨st',h5⟩ h6 h7=>by
  have hkb:∀k:Nat,kP (az A a b) k=(kP A k && !(k == b)):=λk=>by
   have e:((k:Int) == (b:Int))=(k == b):=by
    rw[Bool.eq_iff_iff];simp only[ϟ];omega
   unfold kP;rw[qH hj,e]
  have hG:∀z,z∈G'->z∉F/\z≠B.n0:=λz hz=>by
   rcases h1 z hz with e|e
   ·exact hM.iF z (hM.iq.sJ t ht1 z e)
   ·exact⟨λhm=>by have:=hM.cells.lt z hm;omega,λe3=>by have:=hl B.n0 (by simp[DB.blk]);omega⟩
  have hS:∀z,z∈gr::(F++G t)->z∈G t\/z∉Z:=λz hz=>by
   rcases ρ.1 hz with e|e
   ·exact Β (by rw[e];exact hM.iq.Gp)
   ·rcases τ.1 e with e|e
    ·exact Β (λhm=>(hM.iF z hm).1 e)
    ·exact Α e
  refine⟨B.blk F (Z++G') gr,⟨Z++G',st',rfl,cr,fG (fG ptr a (some pt)) b none,fG G a G',fG L a L',⟨?_,h5,?_,ER,λz hz=>?_,hM.dd⟩,hI.join hM.dd.1 hj ht h3 h4⟩,h6.mono (λz hz=>?_),λz hz=>?_⟩
  ·rw[jd];refine hM.head.upd h6 (λhm=>?_);rcases ρ.1 hm with e|e
   ·exact ER.2.2 e
   ·rcases τ.1 e with e|e
    ·exact ER.1 e
    ·exact(hM.iF _ (hM.iq.sJ t ht1 _ e)).2 rfl
  ·rw[jd];exact hM.iq.Ab (K:=Y6 B.d) j1 j2 ht hpt h7 hne h6 hS h2 h1 hkb
  ·rcases τ.1 hz with e|e
   ·exact hM.iF z e
   ·exact hG z e
  ·simp only[DB.blk,ρ,τ] at hz ⊢;rcases hz with e|e|e
   ·exact Β (Α e)
   ·exact Β (Β (Α e))
   ·exact Β (Β (Β (hM.iq.sJ t ht1 z e)))
  ·simp only[DB.blk,ρ,τ] at hz ⊢;rcases hz with h|h|h|h|h
   ·exact Α (Α h)
   ·exact Α (Β (Α h))
   ·exact Α (Β (Β (Α h)))
   ·exact Α (Β (Β (Β h)))
   ·rcases h1 z h with h|h
    ·exact Α (Β (Β (Β (hM.iq.sJ t ht1 z h))))
    ·exact Β h
 have HO:=χ hM.iq.rows;have c0:=hM.h0;have c2:=hM.h2;have wy:gr∉F:=ER.2.1;have UU:B.n0∉F:=ER.1;have hgG:gr∉G t++[B.c]:=λhm=>by
  rcases τ.1 hm with e|e
  ·exact hM.iq.Gp (hM.iq.sJ t ht1 _ e)
  ·simp at e;exact wy (by rw[e];exact hM.cells.mem)
 have HP:=χ (ψ hne (ψ hcs s2));have b1:(0:Int)<=(a:Int):=ω;have b2:(a:Int)<(A.hs.length:Int):=ω;have b3:(0:Int)<=(b:Int):=ω;have b4:(b:Int)<(A.hs.length:Int):=ω;clear hM hI hj j1 j2 j3 hok hcs IB hpb jd hlt ht hpt YM ht1 hf1 s1 s2 s3 s4 s5 hl ER U9 hne a1 a2;generalize az A a b=A' at *;generalize (L a).length=la at *;generalize (L b).length=lb at *;generalize hLt:L t=Lt at *;generalize hLf:L f=Lf at *;generalize PY:G t=Gt at *;generalize A.hs.length=m at *;clear hLt hLf PY
 go_enter func128,ntmps128
 go_upto_region 3 with (first
  |((go_at_call 141;(with_reducible refine(kj).mono ?_));rintro e w1 ⟨rfl,gG,hu1⟩)
  | fail)
 have d2:=hu1.kept c2 UU;have da:=hu1.kept cga wy;have db:=hu1.kept cgb wy;have hv1:ae (gr::F) w w1:=hu1.mono (λz hz=>Λ _ hz);have qQ:=χ (ak HO.out hu1 (λk hk=>by cases hk;exact wy));have fz:∀j,w1.frozen? ⟨gr,j,none⟩=false:=λj=>qQ.out.frozenAt j;have fa:=fz a;have fb:=fz b;have TE:=λW (hW:ae [] w1 W)=>klt W (hv1.joined hW σ);have Ub:=λW (hW:ae [] w1 W)=>klf W (hv1.joined hW σ);have HJ:=χ (ψ gG hv1);clear c0 c2 cga cgb kj hu1 gG hv1 fz klt klf
 go_cut [7,8] (λs7 s8 W=>s7=.pointer (some ⟨pa,0,none⟩)/\s8=.pointer (some ⟨pb,0,none⟩)/\ae [] w1 W)
 case first=>
  go_quiet (fail)
  go_wp2
  go_meet
  exact⟨rfl,rfl,β⟩
 case rest=>
 obtain⟨rfl,rfl,oV⟩:=hcut;rename World=>W1;have e2:=oV.was d2;have ea:=oV.was da;have eb:=oV.was db;have ga:=oV.aM da σ fa;have gb:=oV.aM db σ fb;have Vh:=λW (hW:ae [] W1 W)=>TE W (oV.trans hW);have R7:=λW (hW:ae [] W1 W)=>Ub W (oV.trans hW);have HU:=χ oV;have ZQ:¬a=b:=HP.out.1;have hnba:¬b=a:=λe=>ZQ e.symm;clear d2 da db fa fb TE Ub oV
 go_upto_if 37 with (first
  |((go_at_call 142;(with_reducible refine(Vh _ β).mono ?_));rintro e w9 ⟨rfl,zu⟩;rw[zu];clear zu w9)
  |((go_at_call 142;(with_reducible refine(R7 _ β).mono ?_));rintro e w9 ⟨rfl,zu⟩;rw[zu];clear zu w9)
  | fail)
 go_cut [7,8] (λs7 s8 W=>s7=.pointer (some ⟨pt,0,none⟩)/\s8=.pointer (some ⟨pf,0,none⟩)/\ae [] W1 W)
 case first=>
  rcases hwh with⟨rfl,rfl,hlt⟩|⟨rfl,rfl,hlt⟩
  ·have hdec:decide ((la:Int)<(lb:Int))=false:=ζ;go_wp2
   go_meet
   exact⟨rfl,rfl,β⟩
  ·have hdec:decide ((la:Int)<(lb:Int))=true:=ζ;go_wp2
   go_meet
   exact⟨rfl,rfl,β⟩
 case rest=>
 obtain⟨rfl,rfl,oV⟩:=hcut;rename World=>W2;have e3:=oV.was e2;have ea3:=oV.was ea;have eb3:=oV.was eb;have ga3:=oV.aM ea σ ga;have gb3:=oV.aM eb σ gb;have HU2:=χ (HU.out.trans oV);clear e2 ea eb ga gb Vh R7 oV hwh
 go_upto_region 6 with(fail)
 go_cut [] (λW=>W.ownsRow 0 174 1 (.slice (some ⟨gr,0,none⟩) m cr) m (lM (fG (fG ptr a (some pt)) b none) m)/\ae [gr] w1 W)
 case first=>
  go_region
  all_goals
   go_wp2
   go_meet
   have hu:=HU2.out;have ho2:=ak qQ.out hu σ;refine⟨ak (?_:World.ownsRow ((W2.setCell ⟨gr,a,none⟩ (vW (some pt))).setCell ⟨gr,b,none⟩ (vW none)) _ _ _ _ _ _) (S:=[]) β σ,?_⟩
   ·rw[←uT,←uT];exact xH (xH ho2 a _) b _
   ·exact ae.trans (hu.mono σ) β
 case rest=>
 obtain⟨hO3,hu3⟩:=hcut;rename World=>W3;obtain⟨gG,hv1⟩:=HJ.out;have hv3:ae (gr::F) w W3:=hv1.trans (hu3.mono (λz hz=>by simp at hz;rw[hz];simp));have wY:=gG.upd hu3 (λz hz=>by simp at hz;rw[hz];exact wy);have adt:=RF W3 hv3
 have HG:=χ (ψ hgG (show ∀z,z∈Gt++[B.c]->z<W3.heap.size from λz hz=>by
  obtain⟨-,q1,q2⟩:=HC.out W3 hv3;rcases τ.1 hz with e|e
  ·exact(q2 _ wY).row.lt z e
  ·exact q1.lF z (by simp at e;rw [e];exact Λ _ q1.cF)))
 have HH:=χ (ψ hO3 (ψ hv3 wY));clear hO3 hu3 gG hv1 hv3 wY RF wy hgG UU e3 ea3 eb3 ga3 gb3
 go_wp2_with (first
  |((go_at_call 143;(with_reducible refine(adt).mono ?_));rintro e w7 ⟨v7,rfl,ho7,kS⟩;obtain⟨a7,c7,rfl,hc7⟩:=aV ho7)
  | fail)
 have hv7:ae (gr::F) w w7:=HH.out.2.1.joined kS σ;obtain⟨-,hMC,hMS⟩:=HC.out w7 hv7;have hMS0:=hMS _ (HH.out.2.2.ag kS);have hln:=hMC.len;have HM:=χ (ψ hMC (ψ hMS0 (ψ ho7 (ψ kS hv7))));clear hMC hMS hMS0 ho7 kS hv7
 go_loopw [10,56] (λv10 v56 wr=>∃(i:Nat) (G' L':List Nat),i<=Lf.length/\v56=.int .i64 (i:Int)/\YO B F A' pt Gt Lt Lf w7 wr i G' L') (λ_ v56 _=>Lf.length-(intOf v56).toNat)
 case atStart=>exact⟨0,Gt,Lt,Nat.zero_le _,rfl,HM.out.2.1⟩
 case round=>
  obtain⟨i,G',L',hi,rfl,hL⟩:=hrel;rename World=>wr
  by_cases hin:i<Lf.length
  ·have JX:(i:Int)<(Lf.length:Int):=ω;have hwj:IntKind.i64.wrap ((i:Int)+1)=(i:Int)+1:=Μ _ ω;obtain⟨g7,c7',ev,hg7,hg7b, -, -,hcs, -⟩:=fQ HM.out.2.2.1 ω;cases ev
   have hcl:=hL.upd.kept (hcs i (.int .i64 ((Lf.getD i 0:Nat):Int)) (by
    have:=lY (l:=bZ Lf) (j:=i) (by rw[dK];exact hin)
    rwa [oM] at this)) (λhm=>by
    have:=HG.out.2 g7 hm
    omega)
   have H9:=λX (hX:ae [] wr X)=>(hL.ag hX).add HM.out.1 hin;clear hL hcs;generalize Lf.getD i 0=x at *
   go_wp2_with (first
    |((go_at_call 139;(with_reducible refine(H9 _ β).mono ?_));rintro e w8 ⟨rfl,G2,L2,hL2⟩)
    | fail)
   go_roundw
   case rel=>exact⟨i+1,G2,L2,ω,by go_num,hL2⟩
   case measure=>simp[intOf];omega
  ·obtain rfl:i=Lf.length:=ω;have JX:¬(Lf.length:Int)<(Lf.length:Int):=ω;have hF:Hid (∀W,ae [] wr W->Goes (B.blk F Z gr) w W (λF'=>∃Z' st',F'=B.blk F Z' gr/\lX W B F Z' gr A' st')):=λW hW=>by
    have jG:=hL.ag hW;obtain⟨q1,q2,q3,q4,q5⟩:=HM.out;have hs:=q5.size;refine FIN.out W G' L' (λz hz=>?_) jG.row (by have:=jG.perm;rwa[List.take_length] at this) jG.hp jG.Gj ((q5.mono (λz hz=>?_)).trans (jG.upd.mono (λz hz=>?_))) (ak (ak HH.out.1 q4 σ) jG.upd (λk hk=>by cases hk;exact HG.out.1))
    ·rcases jG.new z hz with e|e
     ·exact Α e
     ·exact Β ω
    ·rcases ρ.1 hz with e|e
     ·rw[e];simp
     ·simp[e]
    ·rcases τ.1 hz with e|e
     ·simp[e]
     ·simp at e;rw[e];simp[q1.cF]
   clear hL;go_wp2;go_ret;obtain⟨F',⟨Z',st',e,hA⟩,q⟩:=hF.out _ (ae.refl _ _);exact⟨rfl,F',⟨Z',e,st',hA⟩,q⟩
end
end Go.Proofs.YtnpdakpagnpanaaGreat
