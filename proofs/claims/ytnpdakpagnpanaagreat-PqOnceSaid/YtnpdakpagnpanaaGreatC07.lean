/-
  Lemmas for PqAlike: BnS, Bn, Bn2, Del, Bn3, Bn4, Bn5, BnT, Bn6, Bn7, Bn8, BnW. Conditions: those of each lemma.
-/
import Derived.Lib.SliceRun
import Derived.IntWalk
import Derived.Deep.LoopGhost
import Derived.Test.YtnpdakpagnpanaaGreatC04
set_option linter.all false
set_option maxHeartbeats 8000000
set_option maxRecDepth 10000
namespace Go.Proofs.YtnpdakpagnpanaaGreat
open Tryz
def Vg(A':NS)(h x:Nat)(G:BG):BG:=wh (dA A') A'.cs.length h [(x:Int)] G
def XN(A':NS)(h x:Nat)(G:BG):Nat:=(jK (dA A') A'.cs.length G.F (G.R h) [(x:Int)]).q
def uB(G:BG)(b:Nat):BG:=⟨G.F,cO G.R b []⟩
def AY(A':NS)(a b:Nat)(G:BG):BG:=wh (dA A') A'.cs.length a (G.R b) (uB G b)
def NU(A':NS)(a b:Nat)(G:BG):Nat:=(jK (dA A') A'.cs.length G.F (G.R a) (G.R b)).q
theorem IW(n:Nat)(F:CF):lJ n F []:=⟨λx hx=>(by cases hx),List.Pairwise.nil⟩
theorem aaE(n:Nat):zY (NS.new n) BG.none:=by
 have hc:=λy=>NS.tV n y;have hn:(NS.new n).cs.length=n:=by simp[NS.new]
 refine⟨⟨by rw[hn];exact RO n,λy p hy hu=>?_,λy p hy hu=>?_,λy hy hh=>⟨rfl,rfl⟩⟩,⟨λh=>IW _ _,λh y=>⟨λhm=>(by cases hm),λhm=>?_⟩⟩,λh hh=>?_⟩
 ·have:(-1:Int)=p:=hu;omega
 ·have:(-1:Int)=p:=hu;omega
 ·have h2:=hm.2.2.2;rw[hc] at h2;simp[Cl.z] at h2;omega
 ·have:¬0<dD (NS.new n) (h:Int):=λhp=>by
   obtain⟨y,_,h2,h3⟩:=fM.1 hp;rw[hc] at h2;simp[Cl.z] at h2;omega
  show(0:Nat)=_
  omega
theorem aak(A:NS)(y:Nat):(aU A).c y=A.c y:=by unfold aU;split<;>rfl
theorem NT(A:NS):(aU A).cs=A.cs:=by unfold aU;split<;>rfl
section
variable{A:NS}{G:BG}
theorem Ws(B:zY A G):zY (aU A) G:=by
 have hc:=aak A;have hs:(aU A).cs.length=A.cs.length:=by rw[NT]
 refine ⟨⟨by rw [hs];exact B.fh.f,λy p hy hu=>by rw [hc,hc];exact B.fh.home y p (by rw [←hs];exact hy) hu,λy p hy hu=>(fE (hc p) (hc y)).2 (B.fh.ord y p (by rw [←hs];exact hy) hu),λy hy hh=>B.fh.alone y (by rw [←hs];exact hy) (by rw [←hc];exact hh)⟩,
  ⟨λh=>by rw [hs];exact B.rh.row h,λh y=>by rw [hs,hc];exact B.rh.mem h y⟩,λh hh=>by rw [hs,QJ];exact B.w h hh⟩
theorem ZL{h x:Nat}(k s:Int)(B:zY A G)(ok:A.Ok)(hB:rG A h x=true) :
  zY (aO A h x k s) (Vg (aO A h x k s) h x G)/\XN (aO A h x k s) h x G+((Vg (aO A h x k s) h x G).R h).length=(G.R h).length+1/\
   lJ A.cs.length G.F [(x:Int)]/\(∀z,z∈G.R h->z∉[(x:Int)])/\(∀z,z∈G.R h\/z∈[(x:Int)]->bY (aO A h x k s) z=true)/\(aO A h x k s).cs.length=A.cs.length:=by
 obtain⟨b1,b2,b3⟩:=(fP _ _ _).1 hB;have b4:=(aC _ _).1 b1;have hx:x<A.cs.length:=by have:=(ic _ _).1 b2;omega
 have Cj:1<=h:=ω;have h0:¬0<(A.c x).i:=λhp=>by rw[(aj _ _).2 ⟨hx,hp⟩] at b3;cases b3
 have eA:aO A h x k s=iW A x ⟨h,k,s⟩:=by unfold aO;rw[Δ hB,π]
 have hcs:(aO A h x k s).cs.length=A.cs.length:=by rw[eA];exact fO _ _ _
 have hc:∀y,(aO A h x k s).c y=if y=x then⟨h,k,s⟩ else A.c y:=λy=>by
  rw[eA,lg]
  by_cases e:y=x
  ·rw[Δ ⟨e,hx⟩,Δ e]
  ·rw[Γ (λh=>e h.1),Γ e]
 have al:=B.fh.alone x hx h0
 have hne:∀y p:Nat,y<A.cs.length->G.F.u y=p->y≠x/\p≠x:=λy p hy hu=>⟨λe=>by subst e;rw [al.1] at hu;omega,λe=>by
  subst e;have:=(B.fh.f.above hy hu).2
  rw [al.2] at this;cases this⟩
 have hF:FH A.cs.length G.F (λy=>((aO A h x k s).c y).i) (dB (aO A h x k s)):=by
  refine⟨B.fh.f,λy p hy hu=>?_,λy p hy hu=>?_,λy hy hh=>?_⟩
  ·obtain⟨e1,e2⟩:=hne y p hy hu;rw[hc,hc,Γ e1,Γ e2];exact B.fh.home y p hy hu
  ·obtain⟨e1,e2⟩:=hne y p hy hu;exact(fE (by rw[hc,Γ e2]) (by rw[hc,Γ e1])).2 (B.fh.ord y p hy hu)
  ·by_cases e:y=x
   ·rw[hc,Δ e] at hh;simp only at hh;omega
   ·rw[hc,Γ e] at hh;exact B.fh.alone y hy hh
 have hin:∀y:Nat,y<A.cs.length->((aO A h x k s).c y).i=(h:Int)->bY (aO A h x k s) (y:Int)=true:=λy hy e=>(aj _ _).2 ⟨ω,ω⟩;have hl:lJ A.cs.length G.F [(x:Int)]:=⟨λz hz=>by simp at hz;subst hz;exact⟨ω,ω,by simpa using al.1⟩,List.pairwise_singleton _ _⟩;have hd:∀z,z∈G.R h->z∉[(x:Int)]:=λz hz hm=>by
  simp at hm;subst hm;have:=((B.rh.mem h x).1 hz).2.2.2;omega
 have hm:∀y:Nat,y<A.cs.length/\G.F.u y=-1/\((aO A h x k s).c y).i=(h:Int)↔(y:Int)∈G.R h\/(y:Int)∈[(x:Int)]:=λy=>by
  rw[B.rh.mem h y];simp only[ϓ]
  by_cases e:y=x
  ·subst e;rw[hc,Δ rfl];exact⟨λ_=>Β rfl,λ_=>⟨hx,al.1,rfl⟩⟩
  ·rw[hc,Γ e];constructor
   ·rintro⟨a1,a2,a3⟩;exact Α ⟨Cj,a1,a2,a3⟩
   ·rintro(⟨_,a1,a2,a3⟩|a4)
    ·exact⟨a1,a2,a3⟩
    ·omega
 obtain ⟨r1,r2,r3,r4⟩:=yC (G:=G) (lt:=dA (aO A h x k s)) (h:=h) hF ok.c1 (mO _) (λy p hy hp h1 h2 hne ha=>xG (hin y hy h1) (hin p hp h2) hne ha) Cj B.rh.row (λq y hq=>by
  rw[B.rh.mem q y]
  by_cases e:y=x
  ·subst e;rw[hc,Δ rfl];constructor
   ·rintro⟨a1,_,_,a3⟩;omega
   ·rintro⟨a1,_,_,a3⟩;simp only at a3;omega
  ·rw [hc,Γ e]) hm hl hd
 unfold Vg XN;rw[hcs];refine⟨⟨by rw[hcs];exact r1,by rw[hcs];exact r2,λq hq=>?_⟩,by simpa using r4,hl,hd,λz hz=>?_,rfl⟩
 ·rw[hcs,r3 q];have hlen:=nT A x ⟨h,k,s⟩ (q:Int) hx;rw[←eA] at hlen;rw[Γ ω] at hlen;have wx:wt A.cs.length G.F [(x:Int)]=1:=by
   unfold wt;simp only[List.map_cons,List.map_nil,List.sum_cons,List.sum_nil];rw[fK _ _ hx,al.2];rfl
  have wq:=B.w q hq
  by_cases e:q=h
  ·subst e;rw[Δ ⟨rfl,ω⟩] at hlen;rw[Δ rfl,wx];omega
  ·rw[Γ (λh=>e (by have:=h.1;simp only at this;omega))] at hlen;rw[Γ e];omega
 ·have key:∃y:Nat,z=y/\y<A.cs.length/\((aO A h x k s).c y).i=(h:Int):=by
   rcases hz with hz|hz
   ·have hr:=(B.rh.row h).1 z hz;obtain⟨y,rfl⟩:=Int.eq_ofNat_of_zero_le hr.1;have:=(hm y).2 (Α hz);exact⟨y,rfl,this.1,this.2.2⟩
   ·simp at hz;subst hz;have:=(hm x).2 (Β σ);exact⟨x,rfl,this.1,this.2.2⟩
  obtain⟨y,rfl,h1,h2⟩:=key;exact hin y h1 h2
theorem Wp{a b:Nat}(B:zY A G)(ok:A.Ok)(hj:gJ A a b=true) :
  zY (az A a b) (AY (az A a b) a b G)/\NU (az A a b) a b G+((AY (az A a b) a b G).R a).length=(G.R a).length+(G.R b).length/\
   (∀z,z∈G.R a->z∉G.R b)/\(∀z,z∈G.R a\/z∈G.R b->bY (az A a b) z=true):=by
 obtain⟨j1,j2,j3⟩:=(dG _ _ _).1 hj;have a1:=(aC _ _).1 j1;have a2:=(aC _ _).1 j2;have hab:a≠b:=λe=>j3 (by rw[e]);have ha1:1<=a:=ω;have hcs:=eY A (a:Int) (b:Int);have hc:∀y:Nat,y<A.cs.length->((az A a b).c y).i=if(A.c y).i=b then(a:Int) else(A.c y).i:=λy hy=>by
  rw[oO hj];simp only
  by_cases e:(A.c y).i=b
  ·rw[Δ ⟨e,hy⟩,Δ e]
  ·rw[Γ (λh=>e h.1),Γ e]
 have hF:FH A.cs.length G.F (λy=>((az A a b).c y).i) (dB (az A a b)):=by
  refine⟨B.fh.f,λy p hy hu=>?_,λy p hy hu=>?_,λy hy hh=>?_⟩
  ·have hp:=(B.fh.f.above hy hu).1;have e:(A.c y).i=(A.c p).i/\0<(A.c y).i:=B.fh.home y p hy hu;rw[hc y hy,hc p hp,←e.1];refine⟨rfl,?_⟩
   split
   ·omega
   ·exact e.2
  ·exact(nY hj p y).2 (B.fh.ord y p hy hu)
  ·rw[hc y hy] at hh
   split at hh
   ·omega
   ·exact B.fh.alone y hy hh
 have hin:∀y:Nat,y<A.cs.length->((az A a b).c y).i=(a:Int)->bY (az A a b) (y:Int)=true:=λy hy e=>(aj _ _).2 ⟨ω,ω⟩;have WB:(uB G b).R a=G.R a:=by unfold uB cO;simp only[Γ hab]
 have hd:∀z,z∈G.R a->z∉G.R b:=λz hz hm=>by
  have hr:=(B.rh.row a).1 z hz;obtain⟨y,rfl⟩:=Int.eq_ofNat_of_zero_le hr.1;have e1:=((B.rh.mem a y).1 hz).2.2.2;have e2:=((B.rh.mem b y).1 hm).2.2.2;omega
 have hm:∀y:Nat,y<A.cs.length/\G.F.u y=-1/\((az A a b).c y).i=(a:Int)↔(y:Int)∈G.R a\/(y:Int)∈G.R b:=λy=>by
  rw[B.rh.mem a y,B.rh.mem b y];constructor
  ·rintro⟨c1,c2,c3⟩;rw[hc y c1] at c3
   split at c3
   ·rename_i e;exact Β ⟨ω,c1,c2,e⟩
   ·exact Α ⟨ha1,c1,c2,c3⟩
  ·rintro(⟨_,c1,c2,c3⟩|⟨_,c1,c2,c3⟩)
   ·exact⟨c1,c2,by rw[hc y c1,Γ ω];exact c3⟩
   ·exact⟨c1,c2,by rw[hc y c1,Δ c3]⟩
 obtain⟨r1,r2,r3,r4⟩:=yC (G:=uB G b) (lt:=dA (az A a b)) (h:=a) (l:=G.R b) hF ok.c1 (mO _) (λy p hy hp h1 h2 hne ha=>xG (hin y hy h1) (hin p hp h2) hne ha) ha1
  (λq=>by
   unfold uB cO;simp only
   split
   ·exact IW _ _
   ·exact B.rh.row q) (λq y hq=>by
   unfold uB cO;simp only
   by_cases e:q=b
   ·rw[Δ e];constructor
    ·intro h;cases h
    ·rintro⟨_,c1,_,c3⟩;rw[hc y c1] at c3
     split at c3<;>omega
   ·rw[Γ e,B.rh.mem q y];constructor
    ·rintro⟨c0,c1,c2,c3⟩;exact⟨c0,c1,c2,by rw[hc y c1,Γ ω];exact c3⟩
    ·rintro⟨c0,c1,c2,c3⟩;rw[hc y c1] at c3
     split at c3
     ·omega
     ·exact ⟨c0,c1,c2,c3⟩) (λy=>by rw [WB];exact hm y) (B.rh.row b) (λz hz=>by rw [WB] at hz;exact hd z hz)
 rw[WB] at r4;unfold AY NU;rw[hcs];refine⟨⟨by rw[hcs];exact r1,by rw[hcs];exact r2,λq hq=>?_⟩,r4,hd,λz hz=>?_⟩
 ·rw[hcs,r3 q,DR ok hj (q:Int)];have wq:=B.w q hq;have wa:=B.w a ha1;have wb:=B.w b ω;have eF:(uB G b).F=G.F:=rfl;rw[WB,eF]
  by_cases e:q=a
  ·rw[Δ e,Δ ω];omega
  ·rw[Γ e,Γ ω]
   by_cases e2:q=b
   ·subst e2;rw[Δ rfl];unfold uB cO;simp only[if_true]
    rfl
   ·rw[Γ ω];unfold uB cO;simp only[Γ e2];exact wq
 ·have key:∃y:Nat,z=y:=by
   rcases hz with hz|hz
   ·exact⟨z.toNat,by have:=(B.rh.row a).1 z hz;omega⟩
   ·exact⟨z.toNat,by have:=(B.rh.row b).1 z hz;omega⟩
  obtain⟨y,rfl⟩:=key;have:=(hm y).2 hz;exact hin y this.1 this.2.2
theorem Rq(B:zY A G):∀(m y:Nat),A.cs.length<=m+(G.F.k y).length->y<A.cs.length->0<(A.c y).i->∃T,T<A.cs.length/\G.F.u T=-1/\(A.c T).i=(A.c y).i/\(T=y\/dB A T y)
 |m,y,hm,hy,hh=>by
  rcases B.fh.f.up y hy with h1|⟨p,hp,h1,h2⟩
  ·exact⟨y,hy,h1,rfl,Α rfl⟩
  ·have hd:=B.fh.f.O6 hy h1;have hl:=B.fh.f.len hp;have ho:(A.c y).i=(A.c p).i/\0<(A.c y).i:=B.fh.home y p hy h1
   match m,hm with
   |0,hm=>omega
   |m+1,hm=>
    obtain⟨T,t1,t2,t3,t4⟩:=Rq B m p ω hp ω;refine⟨T,t1,t2,by rw[t3,ho.1],Β ?_⟩;have hl:=B.fh.ord y p hy h1;rcases t4 with e|e
    ·rw[e];exact hl
    ·exact dI e hl
def mQ(lt:Int->Int->Bool):Int->List Int->Int
 |b,[]=>b
 |b,x::t=>mQ lt (if lt x b then x else b) t
theorem BR(lt:Int->Int->Bool):∀(l:List Int) (b:Int),mQ lt b l∈b::l
 | [],b=>by simp[mQ]
 |x::t,b=>by
  have key:∀c,mQ lt c t∈c::t:=λc=>BR lt t c;unfold mQ;cases e:lt x b with
  |true=>
   rw[Δ rfl];exact Λ _ (key x)
  |false=>
   rw[Γ σ];rcases ρ.1 (key b) with h|h
   ·rw[h];simp
   ·exact Λ _ (Λ _ h)
theorem zk{lt:Int->Int->Bool}{P:Int->Prop}(tr:∀a b c,P a->P b->P c->lt a b=true->lt b c=true->lt a c=true)(tot:∀a b,P a->P b->a≠b->lt a b=false->lt b a=true) :
  ∀(l:List Int) (b:Int),P b->(∀x,x∈l->P x)->∀x,x∈b::l->x=mQ lt b l\/lt (mQ lt b l) x=true
 | [],b,_,_,x,hx=>by simp at hx;subst hx;exact Α rfl
 |y::t,b,hb,hl,x,hx=>by
  have hy:=hl y σ;have ht:=λz hz=>hl z (Λ _ hz);unfold mQ;have hP:P (if lt y b then y else b):=by split;exact hy;exact hb
  have ih:=zk tr tot t (if lt y b then y else b) hP ht;have adC:P (mQ lt (if lt y b then y else b) t):=by
   rcases ρ.1 (BR lt t (if lt y b then y else b)) with e|e
   ·rw[e];exact hP
   ·exact ht _ e
  have via:∀z,P z->lt (if lt y b then y else b) z=true->z=mQ lt (if lt y b then y else b) t\/lt (mQ lt (if lt y b then y else b) t) z=true:=λz hz h=>by
   rcases ih _ (List.mem_cons_self) with e|e
   ·rw[←e];exact Β h
   ·exact Β (tr _ _ _ adC hP hz e h)
  by_cases e:lt y b=true
  ·rw[Δ e] at ih via ⊢;rcases ρ.1 hx with e1|hx
   ·subst e1;exact via x hb e
   ·exact ih x hx
  ·rw[Γ e] at ih via ⊢;have e:lt y b=false:=by simpa using e
   rcases ρ.1 hx with e1|hx
   ·subst e1;exact ih x σ
   ·rcases ρ.1 hx with e1|hx
    ·subst e1
     by_cases exb:x=b
     ·subst exb;exact ih x σ
     ·exact via x hy (tot x b hy hb exb e)
    ·exact ih x (Λ _ hx)
theorem Uc(B:zY A G){h:Nat}{z:Int}(hz:z∈G.R h):∃y:Nat,z=y/\y<A.cs.length/\bY A z=true/\(A.c y).i=h/\G.F.u y=-1:=by
 have hr:=(B.rh.row h).1 z hz;obtain⟨y,rfl⟩:=Int.eq_ofNat_of_zero_le hr.1;have:=(B.rh.mem h y).1 hz;have h4:(A.c y).i=h:=this.2.2.2;exact⟨y,rfl,this.2.1,(aj _ _).2 ⟨this.2.1,ω⟩,h4,this.2.2.1⟩
theorem Rf(B:zY A G){h:Nat}(h1:1<=h){x:Int}{t:List Int}(hR:G.R h=x::t):∃m:Nat,mQ (dA A) x t=m/\dN A (h:Int)=some m/\m<A.cs.length/\G.F.u m=-1/\(A.c m).i=h:=by
 have hin:∀z,z∈x::t->∃y:Nat,z=y/\y<A.cs.length/\bY A z=true/\(A.c y).i=h/\G.F.u y=-1:=λz hz=>Uc B (by rw[hR];exact hz);obtain⟨m,e,m1,m2,m3,m4⟩:=hin _ (BR (dA A) t x);refine⟨m,e,(iY ω).2 ⟨m1,m3,λy hy hh=>?_⟩,m1,m4,m3⟩
 have F:=zk (lt:=dA A) (P:=λz=>∃y:Nat,z=y/\bY A z=true) (λa b c ha hb hc h1 h2=>by
  obtain⟨a,rfl,_⟩:=ha;obtain⟨b,rfl,_⟩:=hb;obtain⟨c,rfl,_⟩:=hc;rw[mi] at h1 h2 ⊢;simp only[Τ,Ο] at h1 h2 ⊢;exact⟨⟨h1.1.1,h2.1.2⟩,dI h1.2 h2.2⟩) (λa b ha hb hne h1=>by
  obtain⟨a,rfl,ia⟩:=ha;obtain⟨b,rfl,ib⟩:=hb;have:=xG ia ib (λe=>hne (by rw[e])) h1;rw[mi,ia,ib]
  simpa using this) t x (by obtain ⟨y,e,_,i,_⟩:=hin x σ;exact ⟨y,e,i⟩) (λz hz=>by obtain ⟨y,e,_,i,_⟩:=hin z (Λ _ hz);exact ⟨y,e,i⟩)
 obtain⟨T,t1,t2,t3,t4⟩:=Rq B A.cs.length y ω hy ω;have hT:(T:Int)∈x::t:=by rw[←hR];exact(B.rh.mem h T).2 ⟨h1,t1,t2,by rw[t3];exact hh⟩
 have hmT:T=m\/dB A m T:=by
  rcases F _ hT with e2|e2
  ·rw[e] at e2;exact Α ω
  ·rw[e,mi] at e2;simp only[Τ,Ο] at e2;exact Β e2.2
 rcases t4 with e1|e1
 ·subst e1;exact hmT
 ·rcases hmT with e2|e2
  ·subst e2;exact Β e1
  ·exact Β (dI e2 e1)
theorem NH(B:zY A G){h:Nat}(h1:1<=h)(hR:G.R h=[]):dN A (h:Int)=none:=by
 have:=B.w h h1;rw[hR] at this;exact(jF ω).2 this.symm
end
end Go.Proofs.YtnpdakpagnpanaaGreat
namespace Go.Proofs.YtnpdakpagnpanaaGreat
open Tryz
open Go Go.RowKit
theorem Fe:VI 126 "Ahead" 164:=by intro p c W h;unfold method;obtain⟨m,h1,h2,h3,h4⟩:=wC Tryz.t126.methods "Ahead" [⟨185,0,true⟩] 164 (by kernel_rfl);exact vZ
def bnO(A:NS)(p c:Nat)(F:List Nat)(st:Nat):vJ where
 ty:=126
 p:=p
 rd:=p::c::F
 wr:=[c]
 lt:=dA A
 dom:=λx=>bY A x=true
 at_:=λw q=>p<w.heap.size/\p∉c::F/\w.cell? ⟨p,0,none⟩=some (.pointer (some ⟨c,0,none⟩))/\aF w c F A (cK st q)
 sub:=λx hx=>by simp at hx;subst hx;simp
 low:=λ{w q} h x hx=>by
  obtain⟨h1,h2,h3,h4⟩:=h;rcases ρ.1 hx with rfl|hx
  ·exact h1
  ·rcases ρ.1 hx with rfl|hx
   ·exact h4.lt _ h4.mem
   ·exact h4.lt _ hx
 upd:=λ{w w' S q} h hu hS=>by
  obtain⟨h1,h2,h3,h4⟩:=h;exact⟨Ψ h1 hu.size,h2,hu.kept h3 (λhm=>hS _ hm σ),h4.upd hu (λx hx hm=>hS x hx (by simp[hm]))⟩
 asym:=mO A
 ahead:=λ{w q} x y h hx hy hq=>by
  obtain⟨h1,h2,h3,h4⟩:=h;obtain⟨a,rfl⟩:=rC hx;obtain⟨b,rfl⟩:=rC hy;refine dQ 164 (λ_ _=>by kernel_rfl) h3 (Fe p c) (λW hW=>?_);refine(fB (h4.ag hW) a b hx hy).mono ?_;rintro e w' ⟨rfl,hC,hu⟩;refine⟨by rw[mi,hx,hy];simp,⟨Ψ h1 (Χ hW.size hu.size),h2,hu.kept (hW.was h3) (λhm=>h2 (by simp at hm;simp[hm])),by rw[←iN];exact hC⟩,hu⟩
structure BB where
 n0:Nat
 c:Nat
 bt:Nat
 ba:Nat
structure iK(w:World)(B:BB)(F:List Nat)(gr cr lo:Nat)(A:NS)(st:Nat)(S:CS)(vs:List Value)(R:Nat->List Int):Prop where
 head:aS w B.n0 185 3 (λj=>[Value.pointer (some ⟨B.c,0,none⟩),.pointer (some ⟨B.bt,0,none⟩),.slice (some ⟨gr,0,none⟩) vs.length cr].getD j undef)
 cells:aF w B.c F A st
 jm:bA w B.bt B.ba lo A.cs.length S
 rows:w.ownsRow 0 77 1 (.slice (some ⟨gr,0,none⟩) vs.length cr) vs.length vs
 len:vs.length=A.hs.length
 each:∀h,h<vs.length->bF w 0 (vs.getD h undef) (R h)
 d1:B.n0∉F/\B.bt∉F/\B.ba∉F/\gr∉F
 d2:B.n0≠B.bt/\B.n0≠B.ba/\B.n0≠gr/\B.bt≠gr/\B.ba≠gr
 d3:∀g,g∈S.blk A.cs.length->g≠B.n0/\g≠gr/\g∉F
 d4:∀h g,h<vs.length->(vs.getD h undef).ownBlock=some g->g≠B.n0/\g≠B.bt/\g≠B.ba/\g≠gr/\g∉F/\g∉S.blk A.cs.length
 d5:∀h k g,h<vs.length->k<vs.length->h≠k->(vs.getD h undef).ownBlock=some g->(vs.getD k undef).ownBlock≠some g
def abe(vs:List Value):List Nat:=vs.filterMap Value.ownBlock
theorem jy{vs:List Value}{g:Nat}:g∈abe vs↔∃h,h<vs.length/\(vs.getD h undef).ownBlock=some g:=by
 unfold abe;rw[List.mem_filterMap];constructor
 ·rintro⟨v,hv,e⟩;obtain⟨i,hi,rfl⟩:=List.getElem_of_mem hv;exact⟨i,hi,by simpa[φ,hi] using e⟩
 ·rintro⟨i,hi,e⟩;exact⟨vs[i],Ϙ hi,by simpa[φ,hi] using e⟩
def BB.blk(B:BB)(F:List Nat)(gr n:Nat)(S:CS)(vs:List Value):List Nat:=B.n0::B.bt::B.ba::gr::(F++(S.blk n++abe vs))
theorem ve(vs:List Value)(h k:Nat)(v:Value):(vs.set h v).getD k undef=if k=h/\h<vs.length then v else vs.getD k undef:=by
 simp only[φ,ύ]
 by_cases e:h=k
 ·subst e
  by_cases hl:h<vs.length
  ·simp[hl]
  ·simp[hl]
 ·rw[Γ e,Γ (λh'=>e h'.1.symm)]
section
variable{w:World}{B:BB}{F:List Nat}{gr cr lo:Nat}{A:NS}{st:Nat}{S:CS}{vs:List Value}{R:Nat->List Int}
theorem iK.Jp(h:iK w B F gr cr lo A st S vs R):gr<w.heap.size:=(h.rows.lt gr rfl).2
theorem iK.yx(h:iK w B F gr cr lo A st S vs R){q g:Nat}(hq:q<vs.length)(e:(vs.getD q undef).ownBlock=some g):g<w.heap.size:=((h.each q hq).lt g e).2
theorem iK.lt(h:iK w B F gr cr lo A st S vs R):∀x,x∈B.blk F gr A.cs.length S vs->x<w.heap.size:=by
 intro x hx;have h1:=h.head.lt;have h2:=h.jm.head.lt;have h3:=h.jm.row.lt;have h4:=h.Jp;simp only[BB.blk,ρ,τ] at hx;rcases hx with rfl|rfl|rfl|rfl|hx|hx|hx
 ·exact h1
 ·exact h2
 ·exact h3
 ·exact h4
 ·exact h.cells.lt x hx
 ·exact(h.jm.oG hx).2
 ·obtain⟨q,hq,e⟩:=jy.1 hx;exact h.yx hq e
theorem iK.h0(h:iK w B F gr cr lo A st S vs R):w.cell? ⟨B.n0,0,none⟩=some (.pointer (some ⟨B.c,0,none⟩)):=h.head.cellAt 0 ω rfl
theorem iK.h1(h:iK w B F gr cr lo A st S vs R):w.cell? ⟨B.n0,1,none⟩=some (.pointer (some ⟨B.bt,0,none⟩)):=h.head.cellAt 1 ω rfl
theorem iK.h2(h:iK w B F gr cr lo A st S vs R):w.cell? ⟨B.n0,2,none⟩=some (.slice (some ⟨gr,0,none⟩) vs.length cr):=h.head.cellAt 2 ω rfl
theorem iK.OC(h:iK w B F gr cr lo A st S vs R){q:Nat}(hq:q<vs.length):w.cell? ⟨gr,q,none⟩=some (vs.getD q undef):=by
 rw[h.rows.cellAt q ω];simp[φ,hq]
theorem iK.Zq(h:iK w B F gr cr lo A st S vs R)(q:Nat):w.frozen? ⟨gr,q,none⟩=false:=h.rows.frozenAt q
theorem iK.vlen(h:iK w B F gr cr lo A st S vs R):vs.length<=65537:=by rw[h.len];exact h.cells.ok.h1
theorem iK.cn(h:iK w B F gr cr lo A st S vs R):B.n0≠B.c/\gr≠B.c/\B.bt≠B.c/\B.ba≠B.c:=by
 have hm:=h.cells.mem;exact⟨λe=>h.d1.1 (e▸hm),λe=>h.d1.2.2.2 (e▸hm),λe=>h.d1.2.1 (e▸hm),λe=>h.d1.2.2.1 (e▸hm)⟩
theorem iK.upd{w':World}{G:List Nat}(h:iK w B F gr cr lo A st S vs R)(hu:ae G w w')(hG:∀x,x∈G->x∉B.blk F gr A.cs.length S vs):iK w' B F gr cr lo A st S vs R:=by
 have k:∀x,x∈B.blk F gr A.cs.length S vs->x∉G:=λx hx hg=>hG x hg hx;refine⟨h.head.upd hu (k _ (by simp[BB.blk])),h.cells.upd hu (λx hx hm=>hG x hx (by simp[BB.blk,hm])),h.jm.upd hu (k _ (by simp[BB.blk])) (k _ (by simp[BB.blk])) (λg hg=>k _ (by simp[BB.blk,hg])),ak h.rows hu (λg hg=>by simp[Value.ownBlock] at hg;subst hg;exact k _ (by simp[BB.blk])),h.len,λq hq=>(h.each q hq).upd hu (λg hg=>k _ ?_),h.d1,h.d2,h.d3,h.d4,h.d5⟩;simp only[BB.blk,ρ,τ];exact Β (Β (Β (Β (Β (Β (jy.2 ⟨q,hq,hg⟩))))))
theorem iK.ag{w':World}(h:iK w B F gr cr lo A st S vs R)(hu:ae [] w w'):iK w' B F gr cr lo A st S vs R:=h.upd hu σ
theorem iK.cB{w':World}{F':List Nat}{A':NS}{st':Nat}(h:iK w B F gr cr lo A st S vs R)(hu:ae F w w')(hC:aF w' B.c F' A' st')(hF:∀x,x∈F'->x∈F\/w.heap.size<=x)(e1:A'.cs.length=A.cs.length)(e2:A'.hs.length=A.hs.length):iK w' B F' gr cr lo A' st' S vs R:=by
 have f:=h.d1;have g:=h.lt;have hf:∀x,x<w.heap.size->x∉F->x∉F':=λx hx hn hm=>by rcases hF x hm with h'|h';exact hn h';omega
 have l0:=g B.n0 (by simp[BB.blk]);have l1:=g B.bt (by simp[BB.blk]);have l2:=g B.ba (by simp[BB.blk]);have l4:=g gr (by simp[BB.blk])
 refine ⟨h.head.upd hu f.1,hC,by rw [e1];exact h.jm.upd hu f.2.1 f.2.2.1 (λx hx=>(h.d3 x hx).2.2),ak h.rows hu (λg hg=>by simp [Value.ownBlock] at hg;subst hg;exact f.2.2.2),by rw [e2];exact h.len,
  λq hq=>(h.each q hq).upd hu (λg hg=>(h.d4 q g hq hg).2.2.2.2.1),⟨hf _ l0 f.1,hf _ l1 f.2.1,hf _ l2 f.2.2.1,hf _ l4 f.2.2.2⟩,h.d2,λx hx=>?_,λq x hq hx=>?_,h.d5⟩
 ·rw[e1] at hx;have:=h.d3 x hx;exact⟨this.1,this.2.1,hf x (h.jm.oG hx).2 this.2.2⟩
 ·have:=h.d4 q x hq hx;rw[e1];exact⟨this.1,this.2.1,this.2.2.1,this.2.2.2.1,hf x (h.yx hq hx) this.2.2.2.2.1,this.2.2.2.2.2⟩
theorem iK.fG{w':World}{S':CS}{st':Nat}(h:iK w B F gr cr lo A st S vs R)(hu:ae (B.c::B.ba::S.blk A.cs.length) w w')(hC:aF w' B.c F A st')(hS:bA w' B.bt B.ba lo A.cs.length S')(hb:∀g,g∈S'.blk A.cs.length->g∈S.blk A.cs.length\/w.heap.size<=g):iK w' B F gr cr lo A st' S' vs R:=by
 have hcn:=h.cn;have g:=h.lt;have l0:=g B.n0 (by simp[BB.blk]);have l4:=g gr (by simp[BB.blk]);have k:∀x,x≠B.c->x≠B.ba->x∉S.blk A.cs.length->x∉B.c::B.ba::S.blk A.cs.length:=λx h1 h2 h3 hm=>by
  simp only[ρ] at hm;rcases hm with hm|hm|hm
  ·exact h1 hm
  ·exact h2 hm
  ·exact h3 hm
 have hrow:∀q x,q<vs.length->(vs.getD q undef).ownBlock=some x->x∉B.c::B.ba::S.blk A.cs.length:=λq x hq hx=>by
  have:=h.d4 q x hq hx;exact k x (λe=>this.2.2.2.2.1 (e▸h.cells.mem)) this.2.2.1 this.2.2.2.2.2
 refine⟨h.head.upd hu (k _ hcn.1 h.d2.2.1 (λhm=>(h.d3 _ hm).1 rfl)),hC,hS,ak h.rows hu (λx hx=>by simp[Value.ownBlock] at hx;subst hx;exact k _ hcn.2.1 (Ne.symm h.d2.2.2.2.2) (λhm=>(h.d3 _ hm).2.1 rfl)),h.len,λq hq=>(h.each q hq).upd hu (λx hx=>hrow q x hq hx),h.d1,h.d2,λx hx=>?_,λq x hq hx=>?_,h.d5⟩
 ·rcases hb x hx with h'|h'
  ·exact h.d3 x h'
  ·exact⟨ω,ω,λhm=>by have:=h.cells.lt x hm;omega⟩
 ·have:=h.d4 q x hq hx;refine⟨this.1,this.2.1,this.2.2.1,this.2.2.2.1,this.2.2.2.2.1,λhm=>?_⟩;rcases hb x hm with h'|h'
  ·exact this.2.2.2.2.2 h'
  ·have:=h.yx hq hx;omega
theorem iK.Yr{w1:World}{K:List Nat}(h:iK w B F gr cr lo A st S vs R)(q:Nat)(hq:q<vs.length)(hu1:ae K w w1)(hK:∀g,g∈K->(vs.getD q undef).ownBlock=some g)(v:Value)(X:List Int)(hv:bF w1 0 v X)
  (hg:∀g,v.ownBlock=some g->(g≠B.n0/\g≠B.bt/\g≠B.ba/\g≠gr/\g∉F/\g∉S.blk A.cs.length)/\∀k,k<vs.length->k≠q->(vs.getD k undef).ownBlock≠some g) :
  iK (w1.setCell ⟨gr,q,none⟩ v) B F gr cr lo A st S (vs.set q v) (cO R q X):=by
 have hu:ae [gr] w1 (w1.setCell ⟨gr,q,none⟩ v):=β;have kk:∀g,g∈K->g≠B.n0/\g≠B.bt/\g≠B.ba/\g≠gr/\g∉F/\g∉S.blk A.cs.length:=λg hg=>h.d4 q g hq (hK g hg);have e:∀k,k<vs.length->(vs.set q v).getD k undef=if k=q then v else vs.getD k undef:=λk hk=>by
  rw[ve]
  by_cases e:k=q
  ·rw[Δ ⟨e,hq⟩,Δ e]
  ·rw[Γ (λh=>e h.1),Γ e]
 refine ⟨by rw [Ι];exact (h.head.upd hu1 (λhm=>(kk _ hm).1 rfl)).upd hu (by simp;exact h.d2.2.2.1),(h.cells.upd hu1 (λx hx=>(kk x hx).2.2.2.2.1)).upd hu (λx hx hm=>by simp at hx;subst hx;exact h.d1.2.2.2 hm),
  (h.jm.upd hu1 (λhm=>(kk _ hm).2.1 rfl) (λhm=>(kk _ hm).2.2.1 rfl) (λg hg hm=>(kk g hm).2.2.2.2.2 hg)).upd hu (by simp;exact h.d2.2.2.2.1) (by simp;exact h.d2.2.2.2.2) (λx hx hm=>by simp at hm;exact(h.d3 x hx).2.1 hm),
  by rw [Ι];exact xH (ak h.rows hu1 (λg hg hm=>by simp [Value.ownBlock] at hg;subst hg;exact (kk _ hm).2.2.2.1 rfl)) q v,by rw [Ι];exact h.len,λk hk=>?_,h.d1,h.d2,h.d3,λk g hk e2=>?_,λk j g hk hj hne e2=>?_⟩
 ·rw[Ι] at hk;rw[e k hk];unfold cO
  by_cases ek:k=q
  ·rw[Δ ek,Δ ek];exact hv.upd hu (λg hg2 hm=>by simp at hm;exact(hg g hg2).1.2.2.2.1 hm)
  ·rw[Γ ek,Γ ek];exact((h.each k hk).upd hu1 (λg hg2 hm=>h.d5 k q g hk hq ek hg2 (hK g hm))).upd hu (λg hg2 hm=>by simp at hm;exact(h.d4 k g hk hg2).2.2.2.1 hm)
 ·rw[Ι] at hk;rw[e k hk] at e2
  split at e2
  ·exact(hg g e2).1
  ·exact h.d4 k g hk e2
 ·rw[Ι] at hk hj;rw[e k hk] at e2;rw[e j hj]
  split at e2
  ·rename_i ek
   rw[Γ (λej=>hne ω)];exact(hg g e2).2 j hj (λej=>hne ω)
  ·rename_i ek
   split
   ·rename_i ej
    intro e3;exact(hg g e3).2 k hk ek e2
   ·exact h.d5 k j g hk hj hne e2
theorem iK.AJ(h:iK w B F gr cr lo A st S vs R)(q:Nat)(hq:q<vs.length)(v:Value)(X:List Int)(hv:bF w 0 v X)
  (hg:∀g,v.ownBlock=some g->(g≠B.n0/\g≠B.bt/\g≠B.ba/\g≠gr/\g∉F/\g∉S.blk A.cs.length)/\∀k,k<vs.length->k≠q->(vs.getD k undef).ownBlock≠some g) :
  iK (w.setCell ⟨gr,q,none⟩ v) B F gr cr lo A st S (vs.set q v) (cO R q X):=h.Yr (K:=[]) q hq (ae.refl _ _) σ v X hv hg
theorem iK.adV{w1:World}(h:iK w B F gr cr lo A st S vs R)(q:Nat)(hq:q<vs.length)(hu:ae (vs.getD q undef).ownBlock.toList w w1)(v:Value)(X:List Int)(hv:bF w1 0 v X)(he:v.ownBlock=(vs.getD q undef).ownBlock) :
  iK (w1.setCell ⟨gr,q,none⟩ v) B F gr cr lo A st S (vs.set q v) (cO R q X):=
 h.Yr q hq hu (λg hg=>by simpa using hg) v X hv (λg hg=>⟨h.d4 q g hq (by rw[←he];exact hg),λk hk hne e=>h.d5 k q g hk hq hne e (by rw[←he];exact hg)⟩)
end
theorem bF.sl{w:World}{base:Nat}{F:List Nat}{v:Value}{xs:List Int}(h:bF w base v xs)(hF:∀g,v.ownBlock=some g->g∉F):j6 w F v xs:=by
 obtain⟨a,cap,rfl,h1,h2,h3⟩:=h.shape;refine⟨a,cap,rfl,h1,h2,λj u hj=>?_⟩;obtain⟨g,off,rfl,hc⟩:=h3 j u hj;exact⟨g,off,rfl,(h.lt g rfl).2,hF g rfl,hc⟩
section
variable{w:World}{B:BB}{F:List Nat}{gr cr lo:Nat}{A:NS}{st:Nat}{S:CS}{vs:List Value}{R:Nat->List Int}
theorem iK.shape(h:iK w B F gr cr lo A st S vs R){q:Nat}(hq:q<vs.length):∃a cap,vs.getD q undef=.slice a (R q).length cap/\(R q).length<=cap/\cap<=9223372036854775807:=by
 obtain⟨a,cap,e,h1,h2,_⟩:=(h.each q hq).shape;exact⟨a,cap,e,h1,h2⟩
theorem iK.hq(h:iK w B F gr cr lo A st S vs R){q:Int}(hh:aY A q=true):∃k:Nat,q=k/\1<=k/\k<vs.length:=by
 have:=(aC _ _).1 hh;have e:=h.len;exact⟨q.toNat,ω,ω,ω⟩
theorem Sz(M:iK w B F gr cr lo A st S vs R)(q:Nat)(hh:aY A q=true){a:Option Addr}{n cap:Nat}(hv:vs.getD q undef=.slice a n cap) :
  Calls prog 178 #[.pointer (some ⟨B.n0,0,none⟩),.int .i64 (q:Int)] w λe w'=>e=.returned (.slice a n cap)/\w'=w:=by
 have k:=jr M.cells (q:Int);rw[hh] at k;have h0:=M.h0;have h2:=M.h2;obtain⟨q',e,_,hq⟩:=M.hq hh;obtain rfl:q=q':=ω;have d:=M.OC hq;rw[hv] at d;have BF:(0:Int)<=(q:Int):=ω;have CB:(q:Int)<(vs.length:Int):=ω;clear M hh hv e
 go_enter func178,ntmps178
 go_wp2_with ((go_at_call 123;(with_reducible refine aT (k) ?_)))
 go_ret;exact⟨rfl,rfl⟩
theorem WK(M:iK w B F gr cr lo A st S vs R)(q:Int)(hh:aY A q=false) :
  Calls prog 178 #[.pointer (some ⟨B.n0,0,none⟩),.int .i64 q] w λe w'=>e=.returned (.slice none 0 0)/\w'=w:=by
 have k:=jr M.cells q;rw[hh] at k;have h0:=M.h0;clear M hh
 go_enter func178,ntmps178
 go_wp2_with ((go_at_call 123;(with_reducible refine aT (k) ?_)))
 go_ret;exact⟨rfl,rfl⟩
theorem iK.ord(M:iK w B F gr cr lo A st S vs R):(bnO A B.n0 B.c F st).at_ w 0:=by
 have h:=M.cells.nH;refine⟨M.head.lt,?_,M.h0,by rw[fF h];exact M.cells⟩;simp only[ρ,not_or];exact⟨M.cn.1,M.d1.1⟩
theorem iK.apart(M:iK w B F gr cr lo A st S vs R):Apart (bnO A B.n0 B.c F st) B.bt B.ba A.cs.length S:=by
 have hc:=M.cn;refine⟨?_,?_,λg hg=>?_⟩
 ·show B.bt∉B.n0::B.c::F
  simp only[ρ,not_or];exact⟨Ne.symm M.d2.1,hc.2.2.1,M.d1.2.1⟩
 ·show B.ba∉B.n0::B.c::F
  simp only[ρ,not_or];exact⟨Ne.symm M.d2.2.1,hc.2.2.2,M.d1.2.2.1⟩
 ·show g∉B.n0::B.c::F
  have:=M.d3 g hg;simp only[ρ,not_or];exact⟨this.1,λe=>this.2.2 (e▸M.cells.mem),this.2.2⟩
theorem Mo(M:iK w B F gr cr lo A st S vs R)(ok:pI A.cs.length S.f){va vl:Value}{X L:List Int}(hva:j6 w (B.c::B.ba::S.blk A.cs.length) va X)(hvl:j6 w (B.c::B.ba::S.blk A.cs.length) vl L)
  (hA:lJ A.cs.length S.f X) (hB:lJ A.cs.length S.f L) (hd:∀x,x∈X->x∉L) (hin:∀z,z∈X\/z∈L->bY A z=true) :
  Calls prog 185 #[.pointer (some ⟨B.bt,0,none⟩),.iface 126 (.pointer (some ⟨B.n0,0,none⟩)),va,vl] w λe w'=>
   ∃S' vo,e=.returned (.tuple #[vo,.bool true])/\S'.f=(jK (dA A) A.cs.length S.f X L).F/\iK w' B F gr cr lo A (cK st (jK (dA A) A.cs.length S.f X L).q) S' vs R/\bF w' w.heap.size vo (jK (dA A) A.cs.length S.f X L).O/\
    ae (B.c::B.ba::S.blk A.cs.length) w w'/\(∀g,g∈S'.blk A.cs.length->g∈S.blk A.cs.length\/w.heap.size<=g)/\(∀g,vo.ownBlock=some g->g∉S'.blk A.cs.length)/\∃a n cap,vo=.slice a n cap:=by
 refine(OV (bnO A B.n0 B.c F st) B.bt B.ba lo A.cs.length S va vl X L 0 w ⟨M.jm,M.ord,M.apart,M.jm.head.lt,ok⟩ hva hvl hA hB hd (Nat.zero_le _) (λx hx=>hin x (Α hx)) (λx hx=>hin x (Β hx))).mono ?_;rintro e w' ⟨S',vo,O,q',rfl,hFL,hTo,hG,hO,hS,hu,hb,hx⟩;obtain⟨e1,e2,e3⟩:=aaA hG (mO A) M.jm.le hTo;have e1:(jK (dA A) A.cs.length S.f X L).F=S'.f:=e1;have e2:(jK (dA A) A.cs.length S.f X L).O=O:=e2;have e3:(jK (dA A) A.cs.length S.f X L).q=q':=e3;rw[e1,e2,e3];obtain⟨a,cap,e4,_⟩:=hO.shape;exact⟨S',vo,rfl,rfl,M.fG hu hFL.l.2.2.2 hFL.f hb,hO,hu,hb,hx,a,_,cap,e4⟩
theorem BM(M:iK w B F gr cr lo A st S vs R)(ok:pI A.cs.length S.f)(q:Nat)(hq:q<vs.length){vl:Value}{L:List Int}(hvl:j6 w (B.c::B.ba::S.blk A.cs.length) vl L)
  (hA:lJ A.cs.length S.f (R q)) (hB:lJ A.cs.length S.f L) (hd:∀x,x∈R q->x∉L) (hin:∀z,z∈R q\/z∈L->bY A z=true) :
  Calls prog 177 #[.pointer (some ⟨B.n0,0,none⟩),.int .i64 (q:Int),vl] w λe w'=>
   ∃S' vo,e=.returned (.tuple #[])/\S'.f=(jK (dA A) A.cs.length S.f (R q) L).F/\iK w' B F gr cr lo A (cK st (jK (dA A) A.cs.length S.f (R q) L).q) S' (vs.set q vo) (cO R q (jK (dA A) A.cs.length S.f (R q) L).O)/\
    ae (B.c::B.ba::gr::S.blk A.cs.length) w w'/\(∀g,g∈S'.blk A.cs.length->g∈S.blk A.cs.length\/w.heap.size<=g)/\(∀g,vo.ownBlock=some g->w.heap.size<=g):=by
 have hrow:j6 w (B.c::B.ba::S.blk A.cs.length) (vs.getD q undef) (R q):=(M.each q hq).sl (λg hg hm=>by
  have:=M.d4 q g hq hg;simp only[ρ] at hm;rcases hm with e|e|e
  ·exact this.2.2.2.2.1 (e▸M.cells.mem)
  ·exact this.2.2.1 e
  ·exact this.2.2.2.2.2 e)
 have kc:=λW (hW:ae [] w W)=>Mo (M.ag hW) ok (hrow.upd hW σ) (hvl.upd hW σ) hA hB hd hin;obtain⟨a,cap,hv,_⟩:=M.shape hq;obtain⟨a2,cap2,hv2,_⟩:=hvl;subst hv2;rw[hv] at kc;have h1:=M.h1;have h2:=M.h2;have d:=M.OC hq;rw[hv] at d;have df:=M.Zq q;have hcn:=M.cn;have nn:∀x,x≠B.c->x≠B.ba->x∉S.blk A.cs.length->x∉B.c::B.ba::S.blk A.cs.length:=λx h1 h2 h3 hm=>by
  simp only[ρ] at hm;rcases hm with hm|hm|hm
  ·exact h1 hm
  ·exact h2 hm
  ·exact h3 hm
 have n0:B.n0∉B.c::B.ba::S.blk A.cs.length:=nn _ hcn.1 M.d2.2.1 (λhm=>(M.d3 _ hm).1 rfl);have ng:gr∉B.c::B.ba::S.blk A.cs.length:=nn _ hcn.2.1 (Ne.symm M.d2.2.2.2.2) (λhm=>(M.d3 _ hm).2.1 rfl);have r2:∀W,ae (B.c::B.ba::S.blk A.cs.length) w W->W.cell? ⟨B.n0,2,none⟩=some (.slice (some ⟨gr,0,none⟩) vs.length cr):=λW hW=>hW.kept h2 n0;have r3:∀W,ae (B.c::B.ba::S.blk A.cs.length) w W->W.cell? ⟨gr,q,none⟩=some (.slice a (R q).length cap)/\W.frozen? ⟨gr,q,none⟩=false:=λW hW=>⟨hW.kept d ng,hW.aM d ng df⟩
 have BF:(0:Int)<=(q:Int):=ω;have CB:(q:Int)<(vs.length:Int):=ω;have hgl:=M.Jp;have HM:=χ M;clear M hrow hA hB hd hin hv hcn nn;generalize hC:jK (dA A) A.cs.length S.f (R q) L=C at *;generalize hrl:(R q).length=rl at *;generalize hll:L.length=ll at *;clear hC hrl hll
 go_enter func177,ntmps177
 go_wp2
 go_region_law
  (first
   | (go_simp;go_at_call 185;(with_reducible refine (kc _ β).mono ?_);rintro e w5 ⟨S5,vo,rfl,hS5,vQ,CJ,pW,hb5,hx5,a5,n5,c5,rfl⟩;(have bW:ae (B.c::B.ba::S.blk A.cs.length) w w5:=ae.trans β pW);obtain ⟨q3,q4⟩:=r3 _ bW))
 all_goals
  go_wp2;go_end0;refine⟨S5,_,rfl,hS5,vQ.AJ q hq _ C.O (CJ.mono (Nat.zero_le _)) (λg hg=>?_),(bW.mono (λy hy=>?_)).setCell (Α σ) _,λg hg=>?_,λg hg=>?_⟩
  ·have hgs:=(CJ.lt g hg).1;have ll:=HM.out.lt;have hw:w.heap.size<=g:=hgs;refine⟨⟨?_,?_,?_,?_,λhm=>?_,hx5 g hg⟩,λk hk hne e=>?_⟩
   ·have:=ll B.n0 (by simp[BB.blk]);omega
   ·have:=ll B.bt (by simp[BB.blk]);omega
   ·have:=ll B.ba (by simp[BB.blk]);omega
   ·omega
   ·have:=HM.out.cells.lt g hm;omega
   ·have:=HM.out.yx hk e;omega
  ·simp only[ρ] at hy ⊢;rcases hy with hy|hy|hy
   ·exact Α hy
   ·exact Β (Α hy)
   ·exact Β (Β (Β hy))
  ·exact hb5 g hg
  ·exact(CJ.lt g hg).1
end
theorem bF.row{w:World}{base:Nat}{v:Value}{xs:List Int}(h:bF w base v xs)(hne:xs≠[]):∃g off cap m f,v=.slice (some ⟨g,off,none⟩) xs.length cap/\base<=g/\aS w g 3 m f/\xs.length<=cap/\cap<=9223372036854775807/\off+cap<=m/\∀j u,xs[j]?=some u->f (off+j)=.int .i64 u:=by
 rcases h with⟨_,e⟩|⟨g,off,cap,cur,rfl,hb,hg,h1,h2,h3,h4⟩
 ·exact absurd e hne
 ·refine⟨g,off,cap,cur.size,λj=>cur.getD j undef,rfl,hb,⟨cur,hg,rfl,λj hj=>by simp[hj]⟩,h1,h2,h3,λj u hj=>?_⟩;have:=h4 j u hj;simp[Array.getD_eq_getD_getElem?,this]
theorem aS.off{w:World}{base g off cap m:Nat}{f:Nat->Value}{ys:List Int}(h:aS w g 3 m f)(hb:base<=g)(h1:ys.length<=cap)(h2:cap<=9223372036854775807)(h3:off+cap<=m)(h4:∀j u,ys[j]?=some u->f (off+j)=.int .i64 u):bF w base (.slice (some ⟨g,off,none⟩) ys.length cap) ys:=by
 obtain⟨arr,a1,a2,a3⟩:=h;refine Β ⟨g,off,cap,arr,rfl,hb,a1,h1,h2,ω,λj u hj=>?_⟩;have hjl:j<ys.length:=(List.getElem?_eq_some_iff.1 hj).1;rw[a3 (off+j) ω,h4 j u hj]
theorem Dx(w:World)(b:Nat)(x y:Int)(h:w.cell? ⟨b,0,none⟩=some (.int .i64 x)) :
  Calls prog 183 #[.int .i64 y,.pointer (some ⟨b,0,none⟩)] w λe w'=>e=.returned (.bool (x == y))/\w'=w:=by
 go_enter func183,ntmps183
 go_wp2;go_ret;exact⟨rfl,rfl⟩
theorem Kw(w:World)(F:List Nat)(b:Nat)(v:Value)(l1 l2:List Int)(x:Int)(h:j6 w F v (l1++x::l2))(hn:x∉l1)(hb:w.cell? ⟨b,0,none⟩=some (.int .i64 x)) :
  Calls prog 188 #[v,.func (Fn.func 183) #[] #[.pointer (some ⟨b,0,none⟩)]] w λe w'=>e=.returned (.int .i64 (l1.length:Int))/\w'=w:=by
 obtain⟨a,cap,rfl,hlc,hcp,hp⟩:=h;have HP:=χ hp;clear hp;have hg:∀q,q<l1.length->(l1++x::l2)[q]?=l1[q]?:=λq hq=>Ρ hq;have hx:(l1++x::l2)[l1.length]?=some x:=by rw[ϊ (Θ _)];simp
 have hl:l1.length<(l1++x::l2).length:=σ;generalize l1++x::l2=xs at *;generalize hxl:xs.length=len at *;have HN:=χ (ψ hn (ψ hg hx));have kc:=λy=>Dx w b x y hb;clear hn hg hx hb hxl;generalize hk:l1.length=k at *;have HK:=χ hk;clear hk
 go_enter func188,ntmps188
 go_wp2
 go_loop [8] (λi=>∃q:Nat,q<=k/\i=.int .i64 (q:Int)) (λi=>k+1-(intOf i).toNat)
 case atStart=>exact⟨0,ω,rfl⟩
 case round=>
  obtain⟨q,hq,rfl⟩:=hrel;have hql:(q:Int)<(len:Int):=ω
  by_cases hqk:q<k
  ·obtain⟨y,qh⟩:∃y,l1[q]?=some y:=⟨l1[q]'(by rw[HK.out];exact hqk),σ⟩;obtain⟨gb,off,rfl,_,_,hc⟩:=HP.out q y (by rw[HN.out.2.1 q hqk];exact qh);have k1:=kc y;have hxy:(x == y)=false:=by
    have:x≠y:=λe=>HN.out.1 (by rw[e];exact Η qh);simpa using this
   rw[hxy] at k1;clear qh kc
   go_wp2_with ((go_at_call 183;(with_reducible refine aT (k1) ?_)))
   go_round
   case rel=>exact⟨q+1,ω,by go_num⟩
   case measure=>simp[intOf];omega
  ·obtain rfl:q=k:=ω;obtain⟨gb,off,rfl,_,_,hc⟩:=HP.out q x HN.out.2.2;have k1:=kc x;rw[show(x == x)=true by simp] at k1;clear kc
   go_wp2_with ((go_at_call 183;(with_reducible refine aT (k1) ?_)))
   go_ret;exact⟨rfl,rfl⟩
theorem UH(w:World):(zeroValue 3).run prog w=.ok (.int .i64 0) w:=by kernel_rfl
theorem UI(w:World)(b base:Nat)(v:Value)(l1 l2:List Int)(x:Int)(h:bF w base v (l1++x::l2))(hn1:x∉l1)(hn2:x∉l2)(hb:w.cell? ⟨b,0,none⟩=some (.int .i64 x))(hbv:v.ownBlock≠some b)(hlen:(l1++x::l2).length<=1000000) :
  Calls prog 182 #[v,.func (Fn.func 183) #[] #[.pointer (some ⟨b,0,none⟩)]] w λe w'=>∃v',e=.returned v'/\bF w' base v' (l1++l2)/\v'.ownBlock=v.ownBlock/\ae v.ownBlock.toList w w'/\∃a n c,v'=.slice a n c:=by
 have ki:=Kw w [] b v l1 l2 x (by
  obtain⟨a,cap,rfl,h1,h2,h3⟩:=h.shape;refine⟨a,cap,rfl,h1,h2,λj u hj=>?_⟩;obtain⟨g,off,rfl,hc⟩:=h3 j u hj
  exact ⟨g,off,rfl,(h.lt g rfl).2,σ,hc⟩) hn1 hb
 obtain⟨g,off,cap,m,f,rfl,hbg,hR,hlc,hcp,hcm,hf⟩:=h.row σ;have hbg2:b≠g:=λe=>hbv (by rw[e];rfl);have hx1:∀j,j<l1.length->(l1++x::l2)[j]?=l1[j]?:=λj hj=>Ρ hj;have hx2:∀j,l1.length<j->(l1++x::l2)[j]?=l2[j-(l1.length+1)]?:=λj hj=>by
  rw[ϊ ω,show j-l1.length=(j-(l1.length+1))+1 by omega,List.getElem?_cons_succ]
 have hln:(l1++x::l2).length=l1.length+l2.length+1:=ζ;simp only[hln] at hlc hlen ki ⊢;have hy1:∀j,j<l1.length->(l1++l2)[j]?=l1[j]?:=λj hj=>Ρ hj;have hy2:∀j,l1.length<=j->(l1++l2)[j]?=l2[j-l1.length]?:=λj hj=>ϊ hj;have hyl:(l1++l2).length=l1.length+l2.length:=σ;have HF:=χ (ψ hf (ψ hx1 (ψ hx2 (ψ hy1 (ψ hy2 hyl)))));have HR:=χ hR;have HN:=χ hn2;clear h hf hx1 hx2 hy1 hy2 hyl hn1 hn2 hR;generalize hk:l1.length=k at *;generalize hl:l2.length=l at *;have HK:=χ (ψ hk hl);have hkm1:((k:Int) == -1)=false:=beq_eq_false_iff_ne.2 ω
 have hwr0:IntKind.i64.wrap ((k:Int)+1)=((k+1:Nat):Int):=by rw[Μ _ ω];omega
 clear hk hl hln hlen hbv
 go_enter func182,ntmps182
 go_wp2_with ((go_at_call 188;(with_reducible refine aT (ki) ?_)))
 clear ki
 go_loopw [5,6,7] (λs5 s6 _ wr=>∃(j:Nat) (fj:Nat->Value),s5=.int .i64 ((k+j:Nat):Int)/\s6=.int .i64 ((k+j+1:Nat):Int)/\j<=l/\aS wr g 3 m fj/\(∀q,q<off+k->fj q=f q)/\(∀q u,q<j->l2[q]?=some u->fj (off+k+q)=.int .i64 u)/\(∀q,off+k+j<=q->fj q=f q)/\ae [g] w wr) (λ_ s6 _ _=>k+l+1-(intOf s6).toNat)
 case atStart=>exact⟨0,f,σ,σ,ω,HR.out,λq hq=>rfl,λq u hq=>ω,λq hq=>rfl,ae.refl _ _⟩
 case round=>
  obtain⟨j,fj,rfl,rfl,hj,hRj,hf1,hf2,hf3,hu⟩:=hrel;rename World=>wr;have HJ:=χ (ψ hf1 (ψ hf2 hf3));have HRj:=χ hRj;have HJR:=χ hRj;have hbc:=hu.kept hb (by simp;exact hbg2)
  by_cases hjl:j<l
  ·obtain⟨y,qh⟩:∃y,l2[j]?=some y:=⟨l2[j]'(by rw[HK.out.2];exact hjl),σ⟩;have c0:=hRj.cellAt (off+(k+j+1)) ω ((hf3 _ ω).trans (HF.out.1 (k+j+1) y (by rw[HF.out.2.2.1 _ ω,show k+j+1-(k+1)=j by omega];exact qh)));have c1:=hRj.cell (off+(k+j)) ω;have f1:=hRj.free (off+(k+j));have hxy:(x == y)=false:=by
    have:x≠y:=λe=>HN.out (by rw[e];exact Η qh);simpa using this
   have kc:=Dx wr b x y hbc;rw[hxy] at kc;have hi1:((k+j+1:Nat):Int)<((k+l+1:Nat):Int):=ω;have hi2:((k+j:Nat):Int)<((k+l+1:Nat):Int):=ω;have hw1:IntKind.i64.wrap (((k+j:Nat):Int)+1)=((k+(j+1):Nat):Int):=by rw[Μ _ ω];omega
   have hw2:IntKind.i64.wrap (((k+j+1:Nat):Int)+1)=((k+(j+1)+1:Nat):Int):=by rw[Μ _ ω];omega
   have HY:=χ qh;clear hf1 hf2 hf3 hRj qh;generalize hA:k+j+1=ja at *;generalize hB:k+j=jb at *;generalize hL:k+l+1=jl at *
   go_wp2_with ((go_at_call 183;(with_reducible refine aT (kc) ?_)))
   go_roundw
   case rel=>
    refine⟨j+1,_,by go_num,by go_num,ω,HRj.out.set (off+jb) _,λq hq=>?_,λq u hq hqu=>?_,λq hq=>?_,hu.setCell (Α σ) _⟩
    ·rw[Γ ω];exact HJ.out.1 q hq
    ·by_cases e:q=j
     ·subst e;rw[Δ ω];rw[HY.out] at hqu;cases hqu;rfl
     ·rw[Γ ω];exact HJ.out.2.1 q u ω hqu
    ·rw[Γ ω];exact HJ.out.2.2 q ω
   case measure=>simp[intOf];omega
  ·obtain rfl:j=l:=ω;have c1:=hRj.cell (off+(k+j)) ω;have f1:=hRj.free (off+(k+j));have hcl:∀ty,(Builtin.clear_ #[77] ty #[.slice (some ⟨g,off+(k+j),none⟩) 1 (cap-(k+j))]).run prog wr=.ok (.tuple #[]) (wr.setCell ⟨g,off+(k+j),none⟩ (.int .i64 0)):=λty=>by
    have:=Lib.run_clear_slice wr 77 3 ty (.int .i64 0) underlying77 UH rfl rfl g (off+(k+j)) 1 (cap-(k+j)) ω (λt ht=>by rw[show off+(k+j)+t=off+(k+j) by omega,c1];rfl) (λt ht=>by rw[show off+(k+j)+t=off+(k+j) by omega];exact f1);rw[this]
    rfl
   have HCM:=χ hcm;clear hf1 hf2 hf3 hRj c1 hcm hbc hb;generalize hB:k+j=jb at *;go_wp2;go_ret;have hR2:=HJR.out.set (off+jb) (.int .i64 0);have hk1:=HK.out.1;have hk2:=HK.out.2;have hlen:(l1++l2).length=jb:=by have:=HF.out.2.2.2.2.2;omega
   have hO:=hR2.off (base:=base) (ys:=l1++l2) (off:=off) (cap:=cap) hbg ω hcp HCM.out (λq u hq=>by
    have hql:q<(l1++l2).length:=(List.getElem?_eq_some_iff.1 hq).1;rw[Γ ω]
    by_cases e:q<k
    ·rw[HJ.out.1 (off+q) ω];exact HF.out.1 q u (by rw[HF.out.2.1 q ω];rw[HF.out.2.2.2.1 q ω] at hq;exact hq)
    ·have h3:=HF.out.2.2.2.2.1 q ω;have h5:l2[q-k]?=some u:=by rw[←hq,h3]
     have:=HJ.out.2.1 (q-k) u ω h5;rw[show off+k+(q-k)=off+q by omega] at this
     exact this)
   rw[hlen] at hO;exact⟨_,rfl,hO,rfl,hu.setCell (Α σ) _,_,_,_,rfl⟩
def BnAt(w:World)(p:Nat)(FF:List Nat)(A:NS)(st:Nat)(G:BG):Prop:=∃B F gr cr lo S vs,p=B.n0/\FF=B.blk F gr A.cs.length S vs/\iK w B F gr cr lo A st S vs G.R/\S.f=G.F
theorem Ru{l:List Int}{x:Int}(hn:l.Nodup)(hx:x∈l):∃l1 l2,l=l1++x::l2/\x∉l1/\x∉l2/\l.filter (λz=>z != x)=l1++l2:=by
 obtain⟨l1,l2,rfl⟩:=List.append_of_mem hx;rw[θ,Ζ] at hn;have h1:x∉l1:=λh=>hn.2.2 x h x σ rfl;have h2:x∉l2:=hn.2.1.1;refine⟨l1,l2,rfl,h1,h2,?_⟩;have f:∀l:List Int,x∉l->l.filter (λz=>z != x)=l:=λl hl=>by
  rw[List.filter_eq_self];intro a ha;simp;intro e;subst e;exact hl ha
 rw[List.filter_append,List.filter_cons_of_neg σ,f l1 h1,f l2 h2]
section
variable{w:World}{B:BB}{F:List Nat}{gr cr lo:Nat}{A:NS}{st:Nat}{S:CS}{vs:List Value}{G:BG}
theorem Db(M:iK w B F gr cr lo A st S vs G.R)(eF:S.f=G.F){x h:Nat}(X:EY A G x)(hx:x<A.cs.length)(hr:G.F.u x=-1)(hin:0<(A.c x).i)(hh:(A.c x).i=h)(hq:h<vs.length) :
  Calls prog 176 #[.pointer (some ⟨B.n0,0,none⟩),.int .i64 (h:Int),.int .i64 (x:Int)] w λe w'=>e=.returned (.bool true)/\
   Goes (B.blk F gr A.cs.length S vs) w w' (λFF=>BnAt w' B.n0 FF (bg A x) (cK st (xE A h x G)) (qF A h x G)):=by
 have ok:=M.cells.ok;obtain⟨T1,T2,mx,t1,t2,t3,t4,t5⟩:=F7 X ok hx hr hin hh;have nd:=(X.rh.row h).nodup;obtain⟨l1,l2,eR,n1,n2,eL⟩:=Ru nd mx;have hrl:(G.R h).length<=65536:=Χ (uA A.cs.length _ nd (λz hz=>⟨((X.rh.row h).1 z hz).1,((X.rh.row h).1 z hz).2.1⟩)) ok.c1;obtain⟨w0,hw0⟩:∃w0,w0=w.alloc (.cells #[.int .i64 (x:Int)] 3):=⟨_,rfl⟩;have u0:ae [] w w0:=by rw[hw0];exact(ae.refl _ _).alloc _
 have hb0:w0.cell? ⟨w.heap.size,0,none⟩=some (.int .i64 (x:Int)):=by rw[hw0];simp
 have hlt:=M.lt;have hbx:∀g,(vs.getD h undef).ownBlock=some g->g≠w.heap.size:=λg hg e=>by have:=M.yx hq hg;omega
 have kd:=λW (hW:ae [] w0 W)=>UI W w.heap.size 0 (vs.getD h undef) l1 l2 x (by rw[←eR];exact(M.each h hq).upd (u0.trans hW) σ) n1 n2 (hW.was hb0) (λe=>hbx _ e rfl) (by rw[←eR];omega);obtain⟨a,cap,hv,_⟩:=M.shape hq;have h2:=M.h2;have d:=M.OC hq;rw[hv] at d;have df:=M.Zq h;have n0:B.n0∉(vs.getD h undef).ownBlock.toList:=λhm=>(M.d4 h _ hq (by simpa using hm)).1 rfl;have ng:gr∉(vs.getD h undef).ownBlock.toList:=λhm=>(M.d4 h _ hq (by simpa using hm)).2.2.2.1 rfl;have nb:w.heap.size∉(vs.getD h undef).ownBlock.toList:=λhm=>hbx _ (by simpa using hm) rfl
 have r2:∀W,ae (vs.getD h undef).ownBlock.toList w0 W->W.cell? ⟨B.n0,2,none⟩=some (.slice (some ⟨gr,0,none⟩) vs.length cr):=λW hW=>hW.kept (u0.was h2) n0;have r3:∀W,ae (vs.getD h undef).ownBlock.toList w0 W->W.cell? ⟨gr,h,none⟩=some (.slice a (G.R h).length cap)/\W.frozen? ⟨gr,h,none⟩=false:=λW hW=>⟨hW.kept (u0.was d) ng,hW.aM (u0.was d) ng (u0.aM d σ df)⟩
 have r4:∀W,ae (vs.getD h undef).ownBlock.toList w0 W->W.cell? ⟨w.heap.size,0,none⟩=some (.int .i64 (x:Int)):=λW hW=>hW.kept hb0 nb;have BF:(0:Int)<=(h:Int):=ω;have CB:(h:Int)<(vs.length:Int):=ω;have hgl:=M.Jp;have HM:=χ M;have HX:=χ (ψ T1 (ψ t1 (ψ t2 (ψ t3 (ψ t4 (ψ t5 (ψ eL (ψ eF X))))))));rw[hv] at kd r2 r3 r4;clear M X T1 T2 mx t1 t2 t3 t4 t5 nd eL hbx ok h2 d df n0 ng nb n1 n2 eF hlt;have HV:=χ hv;clear eR hrl;generalize (G.R h).length=rl at *
 go_enter func176,ntmps176
 go_wp2;rw[←hw0];clear hw0 hb0
 go_cut [20] (λs20 wx=>∃v1,iK wx B F gr cr lo A st S (vs.set h v1) (cO G.R h (l1++l2))/\wx.cell? ⟨w.heap.size,0,none⟩=some (.int .i64 (x:Int))/\ae (gr::(Value.slice a rl cap).ownBlock.toList) w wx/\v1.ownBlock=(Value.slice a rl cap).ownBlock)
 case first=>
  have p2:=r2 _ (ae.refl _ _);obtain⟨p3,p4⟩:=r3 _ (ae.refl _ _)
  go_region_law
   (first
    | (go_simp;go_at_call 182;(with_reducible refine (kd _ β).mono ?_);rintro e w1 ⟨v1,rfl,qQ,hb1,hu1a,a1,n1,c1,rfl⟩;(have hu1:ae (Value.slice a rl cap).ownBlock.toList w0 w1:=ae.trans β hu1a);obtain ⟨q3,q4⟩:=r3 _ hu1))
  all_goals
   go_wp2
   go_meet
   have hu2:ae (Value.slice a rl cap).ownBlock.toList w w1:=(u0.mono σ).trans hu1;exact⟨_,HM.out.adV h hq (by rw[hv];exact hu2) _ _ qQ (by rw[hv];exact hb1),γ,(hu2.mono (by simp +contextual)).setCell (Α σ) _,hb1⟩
 case rest=>
  obtain⟨v1,hM2,hb2,hu2,ho2⟩:=hcut;obtain⟨T1,t1,t2,t3,t4,t5,eL,eF,X⟩:=HX.out;have hvs2:(vs.set h v1).length=vs.length:=Ι;have hfs:pI A.cs.length S.f:=by rw[eF];exact X.fh.f
  have hSk:S.k x=G.F.k x:=by rw[←eF];rfl
  have ksp:=λW (hW:ae [] wc W)=>PG B.bt B.ba lo A.cs.length S x W (hM2.jm.ag hW) hx (by unfold pF;rw[Ν ω];have e:S.u x=-1:=(by rw[←hr,←eF];rfl);simp[e]) (λk hk=>by have:=hfs.wL x hx k hk;omega);have h1:=hM2.h1;have hbn:w.heap.size∉B.c::B.ba::gr::S.blk A.cs.length:=λhm=>by
   have hl:=HM.out.lt;simp only[ρ] at hm;rcases hm with e|e|e|e
   ·have:=HM.out.cells.lt B.c HM.out.cells.mem;omega
   ·have:=hl B.ba (by simp[BB.blk]);omega
   ·omega
   ·have:=(HM.out.jm.oG e).2;omega
  have hn0:B.n0∉B.c::B.ba::gr::S.blk A.cs.length:=λhm=>by
   have hcn:=HM.out.cn;simp only[ρ] at hm;rcases hm with e|e|e|e
   ·exact hcn.1 e
   ·exact HM.out.d2.2.1 e
   ·exact HM.out.d2.2.2.1 e
   ·exact(HM.out.d3 _ e).1 rfl
  have r1:∀W,ae (B.c::B.ba::gr::S.blk A.cs.length) wc W->W.cell? ⟨B.n0,1,none⟩=some (.pointer (some ⟨B.bt,0,none⟩)):=λW hW=>hW.kept h1 hn0;have r0:∀W,ae (B.c::B.ba::gr::S.blk A.cs.length) wc W->W.cell? ⟨w.heap.size,0,none⟩=some (.int .i64 (x:Int)):=λW hW=>hW.kept hb2 hbn
  have ka:=λ(W:World) (vl:Value) (hM:iK W B F gr cr lo A st (gZ S x) (vs.set h v1) (cO G.R h (l1++l2))) (hvl:j6 W (B.c::B.ba::(gZ S x).blk A.cs.length) vl (G.F.k x))=>BM hM (by rw[zR,eF];exact X.fh.f.Uk hx hr) h (by rw[hvs2];exact hq) hvl (by rw[zR,eF,show cO G.R h (l1++l2) h=l1++l2 by simp[cO],←eL];exact t1) (by rw[zR,eF];exact t2) (λz hz=>by rw[show cO G.R h (l1++l2) h=l1++l2 by simp[cO],←eL] at hz;exact t3 z hz) (λz hz=>by rw[show cO G.R h (l1++l2) h=l1++l2 by simp[cO],←eL] at hz;exact t5 z (by rcases hz with hz|hz;exact Α (List.mem_filter.1 hz).1;exact Β hz))
  have oQ:=χ hM2;have HB:=χ (show ∀W:World,ae [B.ba] wc W->bA W B.bt B.ba lo A.cs.length (gZ S x)->iK W B F gr cr lo A st (gZ S x) (vs.set h v1) (cO G.R h (l1++l2)) from λW hu hF=>oQ.out.fG (hu.mono σ) (oQ.out.cells.upd hu (λy hy hm=>by simp at hy;subst hy;exact oQ.out.d1.2.2.1 hm)) hF (λg hg=>Α (rA S x _ g hg)))
  have HSUB:=χ (show ∀y,y∈B.c::B.ba::gr::(gZ S x).blk A.cs.length->y∈B.c::B.ba::gr::S.blk A.cs.length from λy hy=>by
   simp only[ρ] at hy ⊢;rcases hy with e|e|e|e
   ·exact Α e
   ·exact Β (Α e)
   ·exact Β (Β (Α e))
   ·exact Β (Β (Β (rA S x _ y e))))
  have Zj:=χ (show ∀y,y∈B.c::B.ba::(gZ S x).blk A.cs.length->y<wc.heap.size from λy hy=>by
   simp only[ρ] at hy;rcases hy with e|e|e
   ·subst e;exact hM2.cells.lt _ hM2.cells.mem
   ·subst e;exact hM2.jm.row.lt
   ·exact (hM2.jm.oG (rA S x _ y e)).2)
  clear hM2 T1 t1 t2 t3 t4 t5 eL hfs X h1 hb2 eF;rw[hSk] at ksp;go_wp2
  go_region_held3 (ae (B.c::B.ba::gr::S.blk A.cs.length) wc) (exact ν)
   (first
    |((go_at_call 184;(with_reducible refine(ksp _ β).mono ?_));rintro e w3 ⟨v3,rfl,hL3,YX,hu3⟩;(have Wq:ae [B.ba] wc w3:=ae.trans β hu3);(have hu3b:ae (B.c::B.ba::gr::S.blk A.cs.length) wc w3:=Wq.mono σ);(have jo:=HB.out _ Wq YX);obtain⟨a3,c3,hv3,hl3,hc3⟩:=(show ∃a c,v3=.slice a (G.F.k x).length c/\True/\True from(by obtain⟨a,c,e,_⟩:=hL3.open;exact⟨a,c,e,trivial,trivial⟩));subst hv3;(have ka3:=λW (hW:ae [] w3 W)=>ka W _ (jo.ag hW) (j6.upd (j6.Zh (F:=B.c::B.ba::(gZ S x).blk A.cs.length) hL3 (λg hg=>Ψ (Zj.out g hg) (ae.size (S:=[]) (w:=wc) β))) hW σ)))
    | ((go_at_call 177;(with_reducible refine (ka3 _ β).mono ?_));rintro e w4 ⟨S4,vo,rfl,hS4,sM,fU,hb4,hx4⟩;(have aaF:ae (B.c::B.ba::gr::S.blk A.cs.length) wc w4:=ae.trans ν (fU.mono HSUB.out))))
  have h04:=sM.h0;have hnF:=HM.out.d1.1;have wN:w.heap.size∉F:=λhm=>by have:=HM.out.cells.lt _ hm;omega
  have r5:∀W,ae F w4 W->W.cell? ⟨B.n0,0,none⟩=some (.pointer (some ⟨B.c,0,none⟩)):=λW hW=>hW.kept h04 hnF;have r6:∀W,ae F w4 W->W.cell? ⟨w.heap.size,0,none⟩=some (.int .i64 (x:Int)):=λW hW=>hW.kept (r0 _ aaF) wN;have Rt:=λW (hW:ae [] w4 W)=>gT (sM.cells.ag hW) x ((aj _ _).2 ⟨hx,hin⟩);have Mj:=χ sM;clear sM h04 r0 r1 ka ksp ka3 jo hL3 YX;go_wp2
  go_region_held3 (ae F w4) (exact ν)
   (first
    | ((go_at_call 134;(with_reducible refine (Rt _ β).mono ?_));rintro e w5 ⟨rfl,Q3,bW⟩;(have Lj:ae F w4 w5:=ae.trans ν bW)))
  go_wp2;go_ret;obtain⟨T1,t1,t2,t3,t4,t5,eL,eF,X⟩:=HX.out;have dl:=fD A (x:Int);have dh:=iV A (x:Int);have vQ:=Mj.out.cB Lj Q3 (λy hy=>Α hy) dl (by rw[dh]);have eT:(iE G h x).R=cO G.R h (l1++l2):=by unfold iE;rw[eL]
  have eTF:(iE G h x).F=(gZ S x).f:=by rw[zR,eF];rfl
  have e1:(qF A h x G).R=cO (cO G.R h (l1++l2)) h (jK (dA A) A.cs.length (gZ S x).f (cO G.R h (l1++l2) h) (G.F.k x)).O:=by unfold qF wh;rw[eT,eTF]
  have e2:(qF A h x G).F=S4.f:=by rw[hS4];unfold qF wh;rw[eT,eTF]
  have e3:xE A h x G=(jK (dA A) A.cs.length (gZ S x).f (cO G.R h (l1++l2) h) (G.F.k x)).q:=by unfold xE;rw[eT,eTF]
  have uw:ae (B.blk F gr A.cs.length S vs) w w5:=by
   have m1:∀y,y∈gr::(Value.slice a rl cap).ownBlock.toList->y∈B.blk F gr A.cs.length S vs:=λy hy=>by
    simp only[BB.blk,ρ,τ] at hy ⊢;rcases hy with e|e
    ·exact Β (Β (Β (Α e)))
    ·exact Β (Β (Β (Β (Β (Β (jy.2 ⟨h,hq,by rw[HV.out];simpa using e⟩))))))
   have m2:∀y,y∈B.c::B.ba::gr::S.blk A.cs.length->y∈B.blk F gr A.cs.length S vs:=λy hy=>by
    simp only[BB.blk,ρ,τ] at hy ⊢;rcases hy with e|e|e|e
    ·exact Β (Β (Β (Β (Α (by rw[e];exact HM.out.cells.mem)))))
    ·exact Β (Β (Α e))
    ·exact Β (Β (Β (Α e)))
    ·exact Β (Β (Β (Β (Β (Α e)))))
   have m3:∀y,y∈F->y∈B.blk F gr A.cs.length S vs:=λy hy=>by simp[BB.blk,hy]
   exact((hu2.mono m1).trans (aaF.mono m2)).trans (Lj.mono m3)
  refine⟨rfl,B.blk F gr (bg A x).cs.length S4 ((vs.set h v1).set h vo),⟨B,F,gr,cr,lo,S4,(vs.set h v1).set h vo,rfl,rfl,by rw[e1,e3];exact vQ,e2.symm⟩,uw,λy hy=>?_⟩;have hsz:=hu2.size;rw[dl] at hy;simp only[BB.blk,ρ,τ] at hy ⊢;rcases hy with e|e|e|e|e|e|e
  ·exact Α (Α e)
  ·exact Α (Β (Α e))
  ·exact Α (Β (Β (Α e)))
  ·exact Α (Β (Β (Β (Α e))))
  ·exact Α (Β (Β (Β (Β (Α e)))))
  ·rcases hb4 y e with h'|h'
   ·exact Α (Β (Β (Β (Β (Β (Α (rA S x _ y h')))))))
   ·right;have:=hu3b.size;omega
  ·obtain⟨k,hk,hk2⟩:=jy.1 e;rw[Ι,Ι] at hk;rw[ve,ve] at hk2
   by_cases ek:k=h
   ·rw[Δ ⟨ek,by rw[Ι];exact hq⟩] at hk2;right;have:=hx4 y hk2;have:=hu3b.size;omega
   ·rw[Γ (λh=>ek h.1),Γ (λh=>ek h.1)] at hk2;exact Α (Β (Β (Β (Β (Β (Β (jy.2 ⟨k,hk,hk2⟩)))))))
end
section
variable{w:World}{B:BB}{F:List Nat}{gr cr lo:Nat}{A:NS}{st:Nat}{S:CS}{vs:List Value}{G:BG}{R:Nat->List Int}
theorem iK.setSt{w':World}{st':Nat}(h:iK w B F gr cr lo A st S vs R)(hu:ae [B.c] w w')(hC:aF w' B.c F A st'):iK w' B F gr cr lo A st' S vs R:=
 h.cB (hu.mono (λx hx=>by simp at hx;subst hx;exact h.cells.mem)) hC (λx hx=>Α hx) rfl rfl
def ES(A:NS)(G:BG)(h:Int):Nat:=if aY A h then(G.R h.toNat).length-1 else 0
theorem I1(M:iK w B F gr cr lo A st S vs G.R)(I:zY A G)(h:Int) :
  Calls prog 171 #[.pointer (some ⟨B.n0,0,none⟩),.int .i64 h] w λe w'=>e=.returned (.tuple #[.int .i64 (qp (dN A h)),.bool (dN A h).isSome])/\iK w' B F gr cr lo A (cK st (ES A G h)) S vs G.R/\ae [B.c] w w':=by
 have hst:=M.cells.nH;cases hh:aY A h with
 |false=>
  have e:dN A h=none:=by
   by_cases h1:0<h
   ·exact(jF h1).2 (OL M.cells.ok hh)
   ·exact qm h1
  have e2:ES A G h=0:=by unfold ES;rw[hh];rfl
  rw[e,e2,fF hst];have kr:=WK M h hh;have HM:=χ M;clear M I hh e e2
  go_enter func171,ntmps171
  go_wp2_with ((go_at_call 178;(with_reducible refine aT (kr) ?_)))
  go_ret2;exact⟨rfl,HM.out,ae.refl _ _⟩
 |true=>
  obtain⟨q,rfl,hq1,hq⟩:=M.hq hh;have e2:ES A G (q:Int)=(G.R q).length-1:=by unfold ES;rw[hh];simp
  obtain⟨a,cap,hv,hl1,hl2⟩:=M.shape hq;have kr:=Sz M q hh hv;have hsl:j6 w [B.c] (vs.getD q undef) (G.R q):=(M.each q hq).sl (λg hg hm=>by simp at hm;subst hm;exact(M.d4 q _ hq hg).2.2.2.2.1 M.cells.mem);rw[hv] at hsl;rw[e2];cases hR:G.R q with
  |nil=>
   rw[NH I hq1 hR];rw[hR] at kr hsl;simp only[List.length_nil] at kr ⊢;rw[fF hst];have HM:=χ M;clear M I hh hR e2 hv hsl
   go_enter func171,ntmps171
   go_wp2_with ((go_at_call 178;(with_reducible refine aT (kr) ?_)))
   go_ret2;exact⟨rfl,HM.out,ae.refl _ _⟩
  |cons x t=>
   obtain⟨m,hb,hm,_⟩:=Rf I hq1 hR;rw[hm];rw[hR] at kr hsl hl1;simp only[Ω] at kr hsl hl1 ⊢;have hin:∀z,z∈x::t->∃y:Nat,z=y/\bY A z=true:=λz hz=>by
    obtain⟨y,e,_,i,_⟩:=Uc I (h:=q) (z:=z) (by rw[hR];exact hz);exact⟨y,e,i⟩
   obtain⟨g,off,rfl,hgl,wy,hc0⟩:=hsl.head;have Cf:=(show j6 w [B.c] (.slice (some ⟨g,off,none⟩) (t.length+1) cap) (x::t) from hsl).tail;have hsr:=λW=>yl W (some ⟨g,off,none⟩) (t.length+1) cap ω ω;obtain⟨a3,Az⟩:=qY (some ⟨g,off,none⟩) (t.length+1) cap;rw[Az] at hsr Cf;simp only[Nat.add_sub_cancel] at hsr Cf ⊢;have h0:=M.h0;have hn0:B.n0∉[B.c]:=by simp;exact M.cn.1
   have HM:=χ M;have HT:=χ Cf;have HI:=χ (ψ hin hb);have hC:=M.cells;have hz:cK st 0=st:=fF hst;clear M I hh hR e2 hv hsl Cf hin hb hm Az;generalize htl:t.length=tl at *;have HTL:=χ htl;have hne0:((tl:Int)+1 == 0)=false:=beq_eq_false_iff_ne.2 ω;clear htl
   go_enter func171,ntmps171
   go_wp2_with ((go_at_call 178;(with_reducible refine aT (kr) ?_)))
   go_loopw [7,22] (λs7 s22 wr=>∃(j:Nat) (b:Int),j<=tl/\s22=.int .i64 (j:Int)/\s7=.int .i64 b/\mQ (dA A) b (t.drop j)=mQ (dA A) x t/\(∃y:Nat,b=y/\bY A b=true)/\aF wr B.c F A (cK st j)/\ae [B.c] w wr) (λ_ s22 _=>tl-(intOf s22).toNat)
   case atStart=>exact⟨0,x,ω,rfl,rfl,σ,HI.out.1 x σ,by rw[hz];exact hC,ae.refl _ _⟩
   case round=>
    obtain⟨j,b,hj,rfl,rfl,hbb,hib,hCj,hu⟩:=hrel;rename World=>wr
    by_cases hjt:j<tl
    ·obtain⟨y,qh⟩:∃y,t[j]?=some y:=⟨t[j]'(by rw[HTL.out];exact hjt),σ⟩;have hd:t.drop j=y::t.drop (j+1):=by
      obtain⟨hl,e⟩:=List.getElem?_eq_some_iff.1 qh;rw[Ϟ hl,e]
     obtain⟨a4,c4,e4,_,_,h4⟩:=HT.out;have ea:a3=a4:=by injection e4
     subst ea;obtain⟨g4,o4,rfl,_,hg4,hc4⟩:=h4 j y qh;have hc5:=hu.kept hc4 hg4;obtain⟨yn,rfl,hiy⟩:=HI.out.1 y (Λ _ (Η qh));obtain⟨bn,rfl,hbn⟩:=hib;have ka:=fB hCj yn bn hiy hbn;have h05:=hu.kept h0 hn0;have JX:(j:Int)<(tl:Int):=ω;have hw1:IntKind.i64.wrap ((j:Int)+1)=(j:Int)+1:=Μ _ ω;have eah:dA A (yn:Int) (bn:Int)=decide (dB A yn bn):=by rw[mi,hiy,hbn];simp
     have hnx:∀b':Int,b'=(if dA A (yn:Int) (bn:Int) then(yn:Int) else(bn:Int))->mQ (dA A) b' (t.drop (j+1))=mQ (dA A) x t:=λb' e=>by rw[←hbb,hd,e];rfl
     have HN:=χ (ψ hnx (ψ hiy hbn));have hse:cK (cK st j) 1=cK st (j+1):=iN st j 1;rw[←eah] at ka;clear hCj hbb hd h4 qh hc4 hiy hbn eah hnx e4;cases hab:dA A (yn:Int) (bn:Int) with
     |true=>
      rw[hab] at ka;have HAB:=χ hab;clear hab
      go_wp2_with ((go_at_call 164;(with_reducible refine(ka).mono ?_));rintro e w2 ⟨rfl,hC2,hu2⟩)
      go_roundw
      case rel=>exact⟨j+1,yn,ω,by go_num,rfl,HN.out.1 _ (by rw[HAB.out];rfl),⟨yn,rfl,HN.out.2.1⟩,by rw[←hse];exact hC2,hu.trans hu2⟩
      case measure=>simp[intOf];omega
     |false=>
      rw[hab] at ka;have HAB:=χ hab;clear hab
      go_wp2_with ((go_at_call 164;(with_reducible refine(ka).mono ?_));rintro e w2 ⟨rfl,hC2,hu2⟩)
      go_roundw
      case rel=>exact⟨j+1,bn,ω,by go_num,rfl,HN.out.1 _ (by rw[HAB.out];rfl),⟨bn,rfl,HN.out.2.2⟩,by rw[←hse];exact hC2,hu.trans hu2⟩
      case measure=>simp[intOf];omega
    ·obtain rfl:j=tl:=ω;have hbf:b=(m:Int):=by
      rw[List.drop_of_length_le (by rw[HTL.out];omega)] at hbb;have e:mQ (dA A) b []=b:=rfl;rw[e,HI.out.2] at hbb;exact hbb
     have HB:=χ hbf;have HC:=χ hCj;clear hbb hib hbf hCj;go_wp2;go_ret2;exact⟨by rw[HB.out];rfl,HM.out.setSt hu HC.out,hu⟩
end
def DL(w:World)(p:Nat)(FF:List Nat)(A:NS)(st:Nat)(G:BG):Prop:=BnAt w p FF A st G/\zY A G
theorem TG{A:NS}{G:BG}(I:zY A G)(ok:A.Ok){q:Int}{m:Nat}(hm:dN A q=some m):∃k:Nat,q=k/\1<=k/\aY A q=true/\m<A.cs.length/\G.F.u m=-1/\(A.c m).i=k:=by
 have hq:0<q:=by
  apply ϙ;intro h;rw[qm h] at hm;cases hm
 obtain⟨k,rfl⟩:∃k:Nat,q=k:=⟨q.toNat,ω⟩;have hf:=(iY hq).1 hm;have hh:aY A (k:Int)=true:=by
  have:=iL ok ((aj A m).2 ⟨hf.1,by rw[hf.2.1];omega⟩);rw[π,hf.2.1] at this;exact this
 cases hR:G.R k with
 |nil=>rw[NH I ω hR] at hm;cases hm
 |cons x t=>
  obtain⟨m',_,h2,h3,h4,h5⟩:=Rf I (show 1<=k by omega) hR;rw[hm] at h2;cases h2;exact⟨k,rfl,ω,hh,h3,h4,h5⟩
def SE(A:NS)(q:Int)(G:BG):Nat:=ES A G q+(match dN A q with|some m=>xE A q.toNat m G|none=>0)
def Sn(A:NS)(q:Int)(G:BG):BG:=match dN A q with|some m=>qF A q.toNat m G|none=>G
section
variable{w:World}{p:Nat}{FF:List Nat}{A:NS}{st:Nat}{G:BG}
theorem Fz(h:DL w p FF A st G)(q:Int) :
  Calls prog 167 #[.pointer (some ⟨p,0,none⟩),.int .i64 q] w λe w'=>e=.returned (.tuple #[.int .i64 (qp (dN A q)),.bool (dN A q).isSome])/\Goes FF w w' (λBX=>DL w' p BX (sH A q) (cK st (SE A q G)) (Sn A q G)):=by
 obtain⟨⟨B,F,gr,cr,lo,S,vs,rfl,rfl,M,eF⟩,I⟩:=h;have km:=I1 M I q;have oC:∀y,y∈[B.c]->y∈B.blk F gr A.cs.length S vs:=λy hy=>by
  simp at hy;subst hy;simp[BB.blk,M.cells.mem]
 cases hm:dN A q with
 |none=>
  rw[hm] at km;simp only[qp,Option.isSome_none] at km ⊢;have e1:SE A q G=ES A G q:=by unfold SE;rw[hm];rfl
  have e2:Sn A q G=G:=by unfold Sn;rw[hm]
  have e3:sH A q=A:=by unfold sH;rw[hm]
  rw[e1,e2,e3];have HI:=χ (ψ I (ψ eF oC));clear M I hm e1 e2 e3 eF oC
  go_enter func167,ntmps167
  go_wp2_with ((go_at_call 171;(with_reducible refine(km).mono ?_));rintro e w1 ⟨rfl,hM1,hu1⟩)
  go_ret2;exact⟨rfl,Goes.stay ⟨⟨B,F,gr,cr,lo,S,vs,rfl,rfl,hM1,HI.out.2.1⟩,HI.out.1⟩ (hu1.mono HI.out.2.2)⟩
 |some m=>
  rw[hm] at km;simp only[qp,Option.isSome_some] at km ⊢;obtain⟨k,rfl,hk1,hh,m1,m2,m3⟩:=TG I M.cells.ok hm;have e1:SE A (k:Int) G=ES A G (k:Int)+xE A k m G:=by unfold SE;rw[hm];simp
  have e2:Sn A (k:Int) G=qF A k m G:=by unfold Sn;rw[hm];simp
  have e3:sH A (k:Int)=bg A (m:Int):=by unfold sH;rw[hm]
  rw[e1,e2,e3];obtain⟨k',hk',_,hkv⟩:=M.hq hh;obtain rfl:k=k':=ω;have X:=I.x m1;have kt:=λW (hM:iK W B F gr cr lo A (cK st (ES A G (k:Int))) S vs G.R)=>Db hM eF X m1 m2 (by rw[m3];omega) m3 hkv;have T:=(F7 X M.cells.ok m1 m2 (by rw[m3];omega) m3).1;have HI:=χ (ψ T oC);clear M I hm e1 e2 e3 eF oC X T m1 m2 m3 hh hk'
  go_enter func167,ntmps167
  go_wp2_with (first
   |((go_at_call 171;(with_reducible refine(km).mono ?_));rintro e w1 ⟨rfl,hM1,hu1⟩;(have kt1:=kt _ hM1);(have hs1:=hu1.size))
   |((go_at_call 176;(with_reducible refine(kt1).mono ?_));rintro e w2 ⟨rfl,FF2,hK2,hu2,hf2⟩)
   | fail)
  go_ret2;rw[iN] at hK2;refine⟨rfl,FF2,⟨hK2,HI.out.1⟩,(hu1.mono HI.out.2).trans hu2,λy hy=>?_⟩;rcases hf2 y hy with h'|h'
  ·exact Α h'
  ·exact Β ω
theorem tF{B:BB}{F:List Nat}{gr n:Nat}{S:CS}{vs:List Value}:∀y,y∈F->y∈B.blk F gr n S vs:=λy hy=>by simp[BB.blk,hy]
theorem O9{R:Nat->List Int}{a b:Nat}(h:a≠b)(O X:List Int):cO (cO R a O) b X=cO (cO R b X) a O:=by
 funext k
 unfold cO
 by_cases e:k=b
 ·rw[Δ e,Γ (λe2=>h ω),Δ e]
 ·rw[Γ e]
  by_cases e2:k=a
  ·rw[Δ e2,Δ e2]
  ·rw[Γ e2,Γ e2,Γ e]
theorem FT{w:World}{B:BB}{F F':List Nat}{gr n:Nat}{S S':CS}{vs:List Value}{q:Nat}{vo:Value}(hF:∀y,y∈F'->y∈F)(hb:∀g,g∈S'.blk n->g∈S.blk n\/w.heap.size<=g)(hv:∀g,vo.ownBlock=some g->w.heap.size<=g) :
  ∀y,y∈B.blk F' gr n S' (vs.set q vo)->y∈B.blk F gr n S vs\/w.heap.size<=y:=λy hy=>by
 simp only[BB.blk,ρ,τ] at hy ⊢;rcases hy with e|e|e|e|e|e|e
 ·exact Α (Α e)
 ·exact Α (Β (Α e))
 ·exact Α (Β (Β (Α e)))
 ·exact Α (Β (Β (Β (Α e))))
 ·exact Α (Β (Β (Β (Β (Α (hF y e))))))
 ·rcases hb y e with h'|h'
  ·exact Α (Β (Β (Β (Β (Β (Α h'))))))
  ·exact Β h'
 ·obtain⟨k,hk,hk2⟩:=jy.1 e;rw[Ι] at hk;rw[ve] at hk2
  by_cases ek:k=q/\q<vs.length
  ·rw[Δ ek] at hk2;exact Β (hv y hk2)
  ·rw[Γ ek] at hk2;exact Α (Β (Β (Β (Β (Β (Β (jy.2 ⟨k,hk,hk2⟩)))))))
theorem YB{w:World}{B:BB}{F:List Nat}{gr cr lo:Nat}{S:CS}{vs:List Value}{R:Nat->List Int}(M:iK w B F gr cr lo A st S vs R):∀y,y∈B.c::B.ba::gr::S.blk A.cs.length->y∈B.blk F gr A.cs.length S vs:=λy hy=>by
 simp only[BB.blk,ρ,τ] at hy ⊢;rcases hy with e|e|e|e
 ·exact Β (Β (Β (Β (Α (by rw[e];exact M.cells.mem)))))
 ·exact Β (Β (Α e))
 ·exact Β (Β (Β (Α e)))
 ·exact Β (Β (Β (Β (Β (Α e)))))
theorem GX(h:DL w p FF A st G)(q x:Nat)(k s:Int)(hk:-9223372036854775808<=k/\k<=9223372036854775807/\0<=s/\s<=18446744073709551615)(hB:rG A q x=true) :
  Calls prog 168 #[.pointer (some ⟨p,0,none⟩),.int .i64 (q:Int),.int .i64 (x:Int),.agg #[.int .i64 k,.int .u64 s]] w λe w'=>e=.returned (.bool true)/\
   Goes FF w w' (λBX=>DL w' p BX (aO A q x k s) (cK st (XN (aO A q x k s) q x G)) (Vg (aO A q x k s) q x G)):=by
 obtain⟨⟨B,F,gr,cr,lo,S,vs,rfl,rfl,M,eF⟩,I⟩:=h;have ok:=M.cells.ok;obtain⟨I2,_,t2,t3,t4,hcs⟩:=ZL (h:=q) (x:=x) k s I ok hB;have jd:(aO A q x k s).hs.length=A.hs.length:=by unfold aO;split;rfl;rfl
 have F9:=((fP _ _ _).1 hB).1;obtain⟨q',e,hq1,hqv⟩:=M.hq F9;obtain rfl:q=q':=ω;have u1:ae [] w (w.alloc (.cells #[.int .i64 k,.int .u64 s] 97)):=(ae.refl _ _).alloc _;have kp:=λW (hW:ae [] (w.alloc (.cells #[.int .i64 k,.int .u64 s] 97)) W)=>og (M.cells.ag (u1.trans hW)) q x k s hk hB;have h0:=M.h0;have wN:B.n0∉F:=M.d1.1;have hsz:w.heap.size∉F:=λhm=>by have:=M.cells.lt _ hm;omega
 have r0:∀W,ae F (w.alloc (.cells #[.int .i64 k,.int .u64 s] 97)) W->W.cell? ⟨B.n0,0,none⟩=some (.pointer (some ⟨B.c,0,none⟩)):=λW hW=>hW.kept (u1.was h0) wN;have r1:∀W,ae F (w.alloc (.cells #[.int .i64 k,.int .u64 s] 97)) W->W.cell? ⟨w.heap.size,0,none⟩=some (.int .i64 k):=λW h=>h.kept σ hsz;have r2:∀W,ae F (w.alloc (.cells #[.int .i64 k,.int .u64 s] 97)) W->W.cell? ⟨w.heap.size,1,none⟩=some (.int .u64 s):=λW h=>h.kept σ hsz;have hrow:=I.rh.row q
 have ka:=λ(W:World) (hM:iK W B F gr cr lo (aO A q x k s) st S vs G.R) (vl:Value) (hvl:j6 W (B.c::B.ba::S.blk (aO A q x k s).cs.length) vl [(x:Int)])=>BM hM (by rw[hcs,eF];exact I.fh.f) q hqv hvl (by rw[hcs,eF];exact hrow) (by rw[hcs,eF];exact t2) t3 t4;have HM:=χ M;have HI:=χ (ψ I2 (ψ eF (ψ hcs jd)));clear M I ok I2 t2 t3 t4 hcs jd eF hrow h0 hB;generalize hA':aO A q x k s=A' at *
 go_enter func168,ntmps168
 go_wp2
 go_region_held3 (ae F (w.alloc (.cells #[.int .i64 k,.int .u64 s] 97))) (exact ν)
  (first
   | ((go_at_call 138;(with_reducible refine (kp _ β).mono ?_));rintro e w1 ⟨rfl,gG,hu1⟩;(have hu2:ae F (w.alloc (.cells #[.int .i64 k,.int .u64 s] 97)) w1:=ν)))
 have uF:ae F w w1:=(u1.mono σ).trans hu2;have hM1:=HM.out.cB uF gG (λy hy=>Α hy) HI.out.2.2.1 HI.out.2.2.2;have hsz1:=uF.size;have hlt1:∀y,y∈B.c::B.ba::S.blk A'.cs.length->y<w1.heap.size:=λy hy=>by
  simp only[ρ] at hy;rcases hy with e|e|e
  ·subst e;exact hM1.cells.lt _ hM1.cells.mem
  ·subst e;exact hM1.jm.row.lt
  ·exact(hM1.jm.oG e).2
 have Yu:=λ(W:World) (hW:ae [] w1 W) (vl:Value)=>ka W (hM1.ag hW) vl;have HL:=χ hlt1;clear kp r0 r1 r2 hM1 hlt1 ka
 go_wp2_with (first
  |((go_at_call 177;(with_reducible refine(Yu _ β _ ((bF.lit w1 0 (x:Int) (Nat.zero_le _)).sl (λg hg hm=>by have:=HL.out g hm;simp[Value.ownBlock] at hg;omega))).mono ?_));rintro e w2 ⟨S2,vo,rfl,hS2,hM2,hu3,hb2,hx2⟩)
  | fail)
 go_ret;have eF:=HI.out.2.1;have hcs:=HI.out.2.2.1;have uw:ae (B.blk F gr A.cs.length S vs) w w2:=by
  refine((uF.mono tF).alloc _).trans (hu3.mono (λy hy=>?_));rw[hcs] at hy;exact YB HM.out y hy
 refine⟨rfl,B.blk F gr A'.cs.length S2 (vs.set q vo),⟨⟨B,F,gr,cr,lo,S2,_,rfl,rfl,by unfold XN Vg wh;rw[←eF];exact hM2,by rw[hS2,eF];rfl⟩,HI.out.1⟩,uw,λy hy=>?_⟩;rw[hcs] at hy hb2;exact FT (w:=w) (λ_ h=>h) (λg hg=>(hb2 g hg).imp id (λh=>by simp at h;omega)) (λg hg=>by have:=hx2 g hg;simp at this;omega) y hy
theorem Pm(h:DL w p FF A st G)(a b:Nat)(hB:gJ A a b=true) :
  Calls prog 170 #[.pointer (some ⟨p,0,none⟩),.int .i64 (a:Int),.int .i64 (b:Int)] w λe w'=>e=.returned (.bool true)/\
   Goes FF w w' (λBX=>DL w' p BX (az A a b) (cK st (NU (az A a b) a b G)) (AY (az A a b) a b G)):=by
 obtain⟨⟨B,F,gr,cr,lo,S,vs,rfl,rfl,M,eF⟩,I⟩:=h;have ok:=M.cells.ok;obtain⟨I2,_,t3,t4⟩:=Wp I ok hB;have hcs:=eY A (a:Int) (b:Int);have jd:(az A (a:Int) (b:Int)).hs.length=A.hs.length:=by unfold az;split<;>simp
 obtain⟨j1,j2,j3⟩:=(dG _ _ _).1 hB;obtain⟨a',e,ha1,hav⟩:=M.hq j1;obtain rfl:a=a':=ω;obtain⟨b',e',hb1,hbv⟩:=M.hq j2;obtain rfl:b=b':=ω;have hab:a≠b:=λe=>j3 (by rw[e]);have kj:=mf M.cells a b hB;have h0:=M.h0;obtain⟨ab,capb,hvb,_⟩:=M.shape hbv;have hrow:=I.rh.row
 have ka:=λ(W:World) (hM:iK W B F gr cr lo (az A a b) st S vs G.R)=>BM hM (by rw [hcs,eF];exact I.fh.f) a hav (vl:=vs.getD b undef) ((hM.each b hbv).sl (λg hg hm=>by
   have:=hM.d4 b g hbv hg;simp only[ρ] at hm;rcases hm with e|e|e
   ·exact this.2.2.2.2.1 (e▸hM.cells.mem)
   ·exact this.2.2.1 e
   ·exact this.2.2.2.2.2 e)) (by rw [hcs,eF];exact hrow a) (by rw [hcs,eF];exact hrow b) t3 t4
 rw[hvb] at ka;have hbI:(b:Int)<(vs.length:Int):=ω;have hb0:(0:Int)<=(b:Int):=ω;have HM:=χ M;have HI:=χ (ψ I2 (ψ eF (ψ hcs (ψ jd hvb))));clear M I ok I2 t3 t4 hcs jd eF hrow hB j1 j2 j3 e e' hvb;generalize hA':az A (a:Int) (b:Int)=A' at *;generalize hrb:(G.R b).length=rb at *
 go_enter func170,ntmps170
 go_wp2_with (first
  |((go_at_call 141;(with_reducible refine(kj).mono ?_));rintro e w1 ⟨rfl,gG,hu1⟩;(have hM1:=HM.out.cB hu1 gG (λy hy=>Α hy) HI.out.2.2.1 HI.out.2.2.2.1);(have Yu:=ka _ hM1);(have h21:=hM1.h2);(have d1:=hM1.OC hbv);rw[HI.out.2.2.2.2] at d1;clear hM1 ka)
  |((go_at_call 177;(with_reducible refine(Yu).mono ?_));rintro e w2 ⟨S2,vo,rfl,hS2,hM2,hu2,hb2,hx2⟩;(have h22:=hM2.h2);rw[Ι] at h22;(have f22:=hM2.Zq b);(have d22:=hM2.OC (q:=b) (by rw[Ι];exact hbv)))
  | fail)
 go_ret;have eF:=HI.out.2.1;have hcs:=HI.out.2.2.1;have jo:=hM2.AJ b (by rw[Ι];exact hbv) (.slice none 0 0) [] (bF.nil _ _) (λg hg=>by cases hg);have eR:(uB G b).R a=G.R a:=by unfold uB cO;simp only[Γ hab]
 have e1:cO (cO G.R a (jK (dA A') A'.cs.length S.f (G.R a) (G.R b)).O) b []=(AY A' a b G).R:=by
  unfold AY wh;rw[eR,O9 hab,eF]
  rfl
 rw[e1] at jo;have uw:ae (B.blk F gr A.cs.length S vs) w w2:=by
  refine(hu1.mono tF).trans (hu2.mono (λy hy=>?_));rw[hcs] at hy;exact YB HM.out y hy
 have hsz:=hu1.size;refine⟨rfl,B.blk F gr A'.cs.length S2 ((vs.set a vo).set b (.slice none 0 0)),⟨⟨B,F,gr,cr,lo,S2,_,rfl,rfl,by unfold NU;rw[←eF];exact jo,by rw[hS2,eF];unfold AY wh;rw[eR];rfl⟩,HI.out.1⟩,uw.setCell (Α (by simp[BB.blk])) _,λy hy=>?_⟩;rw[hcs] at hy hb2;rcases FT (w:=w) (λ_ h=>h) (λg hg=>Α hg) (λg hg=>by cases hg) y hy with h'|h'
 ·exact FT (w:=w) (λ_ h=>h) (λg hg=>(hb2 g hg).imp id (λh=>ω)) (λg hg=>by have:=hx2 g hg;omega) y h'
 ·exact Β h'
end
end Go.Proofs.YtnpdakpagnpanaaGreat
namespace Go.Proofs.YtnpdakpagnpanaaGreat
open Tryz
def iQ(hp:Nat->Bool)(ct x:Nat):Nat->BG->BG×Nat
 |0,G=>(G,0)
 |f+1,G=>if G.F.u x=-1 then(G,0) else if hp (G.F.u x).toNat then((iQ hp ct x f (su G x (G.F.u x).toNat)).1,(iQ hp ct x f (su G x (G.F.u x).toNat)).2+ct) else(G,ct)
theorem wE{hp:Nat->Bool}{ct x f:Nat}{G:BG}(h:G.F.u x=-1):iQ hp ct x f G=(G,0):=by
 cases f with
 |zero=>rfl
 |succ f=>rw[iQ,Δ h]
theorem BA{hp:Nat->Bool}{ct x f p:Nat}{G:BG}(h:G.F.u x=p)(hh:hp p=false):iQ hp ct x (f+1) G=(G,ct):=by
 rw[iQ,Γ ω,h,π,hh];rfl
theorem yJ{hp:Nat->Bool}{ct x f p:Nat}{G:BG}(h:G.F.u x=p)(hh:hp p=true):iQ hp ct x (f+1) G=((iQ hp ct x f (su G x p)).1,(iQ hp ct x f (su G x p)).2+ct):=by
 rw[iQ,Γ ω,h,π,hh];rfl
section
variable{A:NS}{G:BG}{x:Nat}{hp:Nat->Bool}{ct:Nat}
theorem DU{p:Nat}(B:EY A G x)(hx:x<A.cs.length)(hu:G.F.u x=p):(G.F.k x).length<((su G x p).F.k x).length:=by
 have:=B.fh.f.O6 hx hu
 show _<((tN G.F x p (G.F.u p)).k x).length
 rw[uZ,Δ rfl];exact this
theorem AA(hx:x<A.cs.length):∀(f:Nat) {G:BG},EY A G x->A.cs.length<=f+(G.F.k x).length->EY A (iQ hp ct x f G).1 x/\((iQ hp ct x f G).1.F.u x=-1\/∃p:Nat,(iQ hp ct x f G).1.F.u x=p/\hp p=false)
 |0,G,B,hf=>by have:=B.fh.f.len hx;omega
 |f+1,G,B,hf=>by
  rcases B.fh.f.up x hx with h1|⟨p,hp1,h1,h2⟩
  ·rw[wE h1];exact⟨B,Α h1⟩
  ·cases hh:hp p with
   |false=>rw[BA h1 hh];exact⟨B,Β ⟨p,h1,hh⟩⟩
   |true=>
    rw[yJ h1 hh];have:=DU B hx h1;exact AA hx f (BK B hx h1) ω
theorem zZ(hx:x<A.cs.length)(hl:∀p:Nat,p<A.cs.length->hp p=true->dB A x p):∀(f:Nat) {G:BG},EY A G x->(∀c:Nat,c<A.cs.length->G.F.u c=x->dB A x c)->∀c:Nat,c<A.cs.length->(iQ hp ct x f G).1.F.u c=x->dB A x c
 |0,G,B,hk=>hk
 |f+1,G,B,hk=>by
  rcases B.fh.f.up x hx with h1|⟨p,hp1,h1,h2⟩
  ·rw[wE h1];exact hk
  ·cases hh:hp p with
   |false=>rw[BA h1 hh];exact hk
   |true=>
    rw[yJ h1 hh];exact zZ hx hl f (BK B hx h1) (Qd B hx h1 hk (hl p hp1 hh))
theorem PZ{p h:Nat}(B:EY A G x)(hx:x<A.cs.length)(hu:G.F.u x=p)(hh:(A.c x).i=h):(su G x p).R=if G.F.u p=-1 then cO G.R h (setAt (G.R h) p x) else G.R:=by
 obtain⟨hp1,hm⟩:=B.fh.f.above hx hu;have bX:(A.c x).i=(A.c p).i/\0<(A.c x).i:=B.fh.home x p hx hu
 funext k
 show(G.R k).map (KX x p (G.F.u p))=_
 by_cases e:G.F.u p=-1
 ·rw[Δ e];unfold cO
  by_cases ek:k=h
  ·rw[Δ ek,ek];have hpR:(p:Int)∈G.R h:=(B.rh.mem h p).2 ⟨ω,hp1,e,by show(A.c p).i=_;omega⟩;rw[←zU (B.rh.row h).nodup p x hpR];unfold Qk KX
   exact List.map_congr_left (λz _=>by
    by_cases ez:z=p
    ·rw[Δ ⟨ez,e⟩,Δ ez]
    ·rw [Γ (λh=>ez h.1),Γ ez])
  ·rw[Γ ek];have:∀z,z∈G.R k->KX x p (G.F.u p) z=z:=λz hz=>by
    unfold KX;rw[Γ (λh=>?_)];rw[h.1] at hz;have h4:(A.c p).i=(k:Int):=((B.rh.mem k p).1 hz).2.2.2;omega
   rw[List.map_congr_left this];simp
 ·rw[Γ e];have:∀z,z∈G.R k->KX x p (G.F.u p) z=z:=λz hz=>by
   unfold KX;rw[Γ (λh=>e h.2)]
  rw[List.map_congr_left this];simp
end
end Go.Proofs.YtnpdakpagnpanaaGreat
namespace Go.Proofs.YtnpdakpagnpanaaGreat
open Tryz
open Go Go.RowKit
theorem bF.set{w:World}{base g off n cap:Nat}{xs:List Int}(h:bF w base (.slice (some ⟨g,off,none⟩) n cap) xs)(i:Nat)(hi:i<xs.length)(y:Int):bF (w.setCell ⟨g,off+i,none⟩ (.int .i64 y)) base (.slice (some ⟨g,off,none⟩) n cap) (xs.set i y):=by
 rcases h with⟨e,_⟩|⟨g',off',cap',cur,e,hb,hg,h1,h2,h3,h4⟩
 ·cases e
 ·cases e;refine Β ⟨g,off,cap,cur.setIfInBounds (off+i) (.int .i64 y),by rw[Ι],hb,?_,by rw[Ι];exact h1,h2,ζ,λj u hj=>?_⟩
  ·simp[World.setCell,Array.getElem?_modify,hg]
  ·have hjl:j<xs.length:=by have:=(List.getElem?_eq_some_iff.1 hj).1;simpa using this
   rw[Array.getElem?_setIfInBounds]
   by_cases e:i=j
   ·subst e;rw[ώ hi] at hj;cases hj;rw[Δ rfl,Δ ω]
   ·rw[Γ ω];rw[Ϗ e] at hj;exact h4 j u hj
theorem bF.free{w:World}{base:Nat}{v:Value}{xs:List Int}(h:bF w base v xs){g:Nat}(hg:v.ownBlock=some g)(j:Nat):w.frozen? ⟨g,j,none⟩=false:=by
 rcases h with⟨rfl,_⟩|⟨g',off',cap',cur,rfl,hb,hh,h1,h2,h3,h4⟩
 ·cases hg
 ·simp[Value.ownBlock] at hg;subst hg;simp[World.frozen?,hh]
theorem PD{n:Nat}(S:CS){x p:Nat}(above:Int)(hx:x<n)(hp:p<n):∀g,g∈(ik S x p above).blk n->g∈S.blk n:=λg hg=>by
 obtain⟨y,hy,e⟩:=(CS.jQ _ n g).1 hg;have e:(if y=x then S.v p else if y=p then S.v x else S.v y).ownBlock=some g:=e;rw[CS.jQ]
 split at e
 ·exact⟨p,hp,e⟩
 ·split at e
  ·exact⟨x,hx,e⟩
  ·exact⟨y,hy,e⟩
section
variable{w:World}{B:BB}{F:List Nat}{gr cr lo:Nat}{A:NS}{st:Nat}{S:CS}{vs:List Value}{R:Nat->List Int}
theorem iK.setX{w1:World}(h:iK w B F gr cr lo A st S vs R)(q:Nat)(hq:q<vs.length)(hu1:ae (vs.getD q undef).ownBlock.toList w w1)(X:List Int)(hv:bF w1 0 (vs.getD q undef) X):iK w1 B F gr cr lo A st S vs (cO R q X):=by
 have hK:∀g,g∈(vs.getD q undef).ownBlock.toList->(vs.getD q undef).ownBlock=some g:=λg hg=>by simpa using hg
 have kk:∀g,g∈(vs.getD q undef).ownBlock.toList->g≠B.n0/\g≠B.bt/\g≠B.ba/\g≠gr/\g∉F/\g∉S.blk A.cs.length:=λg hg=>h.d4 q g hq (hK g hg)
 refine ⟨h.head.upd hu1 (λhm=>(kk _ hm).1 rfl),h.cells.upd hu1 (λx hx=>(kk x hx).2.2.2.2.1),
  h.jm.upd hu1 (λhm=>(kk _ hm).2.1 rfl) (λhm=>(kk _ hm).2.2.1 rfl) (λg hg hm=>(kk g hm).2.2.2.2.2 hg),
  ak h.rows hu1 (λg hg hm=>by simp [Value.ownBlock] at hg;subst hg;exact (kk _ hm).2.2.2.1 rfl),h.len,λk hk=>?_,h.d1,h.d2,h.d3,h.d4,h.d5⟩
 unfold cO
 by_cases ek:k=q
 ·rw[Δ ek,ek];exact hv
 ·rw[Γ ek];exact(h.each k hk).upd hu1 (λg hg2 hm=>h.d5 k q g hk hq ek hg2 (hK g hm))
end
structure Rz(w:World)(K:List Nat)(B:BB)(F:List Nat)(A:NS)(ct:Nat)(hp:Nat->Bool)(f:FuncId)(Xp:Array Value):Prop where
 enters:Enters f
 calls:∀(W:World) (st above:Nat),ae K w W->W.cell? ⟨B.n0,0,none⟩=some (.pointer (some ⟨B.c,0,none⟩))->B.n0≠B.c->aF W B.c F A st->bY A (above:Int)=true->
  Calls prog f (#[.int .i64 (above:Int)]++Xp) W λe w'=>e=.returned (.bool (hp above))/\aF w' B.c F A (cK st ct)/\ae [B.c] W w'
section
variable{w:World}{B:BB}{F:List Nat}{gr cr lo:Nat}{A:NS}{st:Nat}{S:CS}{vs:List Value}{G:BG}
theorem Di(M:iK w B F gr cr lo A st S vs G.R)(eF:S.f=G.F){x h ct:Nat}{hp:Nat->Bool}{f:FuncId}{Xp:Array Value}(X:EY A G x)(hx:x<A.cs.length)(hin:0<(A.c x).i)(hh:(A.c x).i=h)(hq:h<vs.length)(H:Rz w (B.blk F gr A.cs.length S vs) B F A ct hp f Xp) :
  Calls prog 173 #[.pointer (some ⟨B.n0,0,none⟩),.int .i64 (h:Int),.int .i64 (x:Int),.func (Fn.func f) #[] Xp] w λe w'=>e=.returned (.tuple #[])/\
   ∃S',iK w' B F gr cr lo A (cK st (iQ hp ct x A.cs.length G).2) S' vs (iQ hp ct x A.cs.length G).1.R/\S'.f=(iQ hp ct x A.cs.length G).1.F/\ae (B.blk F gr A.cs.length S vs) w w'/\∀g,g∈S'.blk A.cs.length->g∈S.blk A.cs.length:=by
 have hz:=fF M.cells.nH;have hcl:=H.calls;have hen:=H.enters;unfold Enters at hen;have HM:=χ M;have HX:=χ (ψ X eF);have HC:=χ hcl;clear M X eF hcl H
 go_enter func173,ntmps173
 go_wp2
 go_loopg [8,9,10,11] A.cs.length (λfu _ _ _ _ wr=>∃(c:Nat) (G':BG) (S':CS),iK wr B F gr cr lo A (cK st c) S' vs G'.R/\S'.f=G'.F/\EY A G' x/\(∀g,g∈S'.blk A.cs.length->g∈S.blk A.cs.length)/\ae (B.blk F gr A.cs.length S vs) w wr/\A.cs.length<=fu+(G'.F.k x).length/\(iQ hp ct x fu G').1=(iQ hp ct x A.cs.length G).1/\(iQ hp ct x fu G').2+c=(iQ hp ct x A.cs.length G).2)
 case atStart=>exact⟨0,G,S,by rw[hz];exact HM.out,HX.out.2,HX.out.1,λg hg=>hg,ae.refl _ _,ω,rfl,rfl⟩
 case round=>
  rename Nat=>fu;obtain⟨c,G',S',hM,eF,X,hSb,hu,hfu,hl1,hl2⟩:=hrel;rename World=>wr;have hlen:=X.fh.f.len hx;obtain⟨fv,rfl⟩:∃fv,fu=fv+1:=⟨fu-1,ω⟩;have ku:=xZ B.bt B.ba lo A.cs.length S' (x:Int) wr hM.jm;have h1:=hM.h1;have eux:S'.u x=G'.F.u x:=by rw[←eF];rfl
  have kb:∀y,y∈B.blk F gr A.cs.length S' vs->y∈B.blk F gr A.cs.length S vs:=λy hy=>by
   simp only[BB.blk,ρ,τ] at hy ⊢;rcases hy with e|e|e|e|e|e|e
   ·exact Α e
   ·exact Β (Α e)
   ·exact Β (Β (Α e))
   ·exact Β (Β (Β (Α e)))
   ·exact Β (Β (Β (Β (Α e))))
   ·exact Β (Β (Β (Β (Β (Α (hSb y e))))))
   ·exact Β (Β (Β (Β (Β (Β e)))))
  have HR:=χ (ψ hM (ψ eF (ψ X (ψ hSb (ψ hu (ψ hl1 (ψ hl2 kb)))))));rcases X.fh.f.up x hx with e1|⟨p,hp1,e1,e2⟩
  ·have eu:JY A.cs.length S' (x:Int)=none:=by unfold JY;rw[Δ ω,π,eux,Δ e1]
   rw[eu] at ku;have E1:=χ e1;clear hM X hl1 hl2 eu e1 eux kb hSb hfu
   go_wp2_with ((go_at_call 179;(with_reducible refine aT (ku) ?_)))
   refine bodyPost_ret (v:=.tuple #[]) (by simp[results,results173,go_sem]) rfl ?_;obtain⟨hM,eF,X,hSb,hu,hl1,hl2,kb⟩:=HR.out;rw[wE E1.out] at hl1 hl2;refine⟨rfl,S',?_,by rw[←hl1];exact eF,hu,hSb⟩;rw[←hl1,←hl2,show(((G',0):BG×Nat)).2+c=c by simp];exact hM
  ·have eu:JY A.cs.length S' (x:Int)=some (p:Int):=by unfold JY;rw[Δ ω,π,eux,e1,Γ ω]
   rw[eu] at ku;simp only[ov,ob,Option.getD_some,Option.isSome_some] at ku;have bX:(A.c x).i=(A.c p).i:=(X.fh.home x p hx e1).1;have hip:bY A (p:Int)=true:=(aj _ _).2 ⟨hp1,ω⟩;have kh:=HC.out wr (cK st c) p hu hM.h0 hM.cn.1 hM.cells hip;rw[iN] at kh;cases hhp:hp p with
   |false=>
    rw[hhp] at kh;have E1:=χ (ψ e1 hhp);clear hM X hl1 hl2 eu e1 eux kb hSb hfu hhp
    go_wp2_with (first
     |(go_at_call 179;(with_reducible refine aT (ku) ?_))
     | ((with_reducible refine (kh).mono ?_);rintro e w2 ⟨rfl,hC2,hu2⟩))
    refine bodyPost_ret (v:=.tuple #[]) (by simp[results,results173,go_sem]) rfl ?_;obtain⟨hM,eF,X,hSb,hu,hl1,hl2,kb⟩:=HR.out;rw[BA E1.out.1 E1.out.2] at hl1 hl2;refine⟨rfl,S',?_,by rw[←hl1];exact eF,hu.trans (hu2.mono (λy hy=>by simp at hy;subst hy;exact tF _ HM.out.cells.mem)),hSb⟩;rw[←hl1,←hl2,show(((G',ct):BG×Nat)).2+c=c+ct by simp;omega];exact hM.setSt hu2 hC2
   |true=>
    rw[hhp] at kh;have okL:=Nz (S:=S') (by rw[eF];exact X.fh.f) hx hp1 (by rw[eux];exact e1) (show(x:Int)∈S'.f.k p by rw[eF];exact e2);have eup:S'.u p=G'.F.u p:=by rw[←eF];rfl
    have hfL:=BK X hx e1;have hmL:=DU X hx e1;have hrR:=PZ X hx e1 hh;have E1:=χ (ψ e1 (ψ hhp (ψ hfL (ψ hmL (ψ hrR (ψ hfu eup))))))
    have FIN:=χ (show ∀ (W w3:World),iK W B F gr cr lo A (cK st (c+ct)) S' vs (su G' x p).R->ae (B.blk F gr A.cs.length S vs) w W->bA w3 B.bt B.ba lo A.cs.length (ik S' x p (S'.u p))->ae (B.ba::S'.blk A.cs.length) W w3->
      ∃(c2:Nat) (G2:BG) (S2:CS),iK w3 B F gr cr lo A (cK st c2) S2 vs G2.R/\S2.f=G2.F/\EY A G2 x/\(∀g,g∈S2.blk A.cs.length->g∈S.blk A.cs.length)/\ae (B.blk F gr A.cs.length S vs) w w3/\A.cs.length<=fv+(G2.F.k x).length/\(iQ hp ct x fv G2).1=(iQ hp ct x A.cs.length G).1/\(iQ hp ct x fv G2).2+c2=(iQ hp ct x A.cs.length G).2 from λW w3 jq VF YX hu3=>by
     have hb3:=PD S' (S'.u p) hx hp1
     have jo:=jq.fG (hu3.mono (λy hy=>Λ _ hy)) (jq.cells.upd hu3 (λy hy hm=>by
      rcases ρ.1 hy with e|e
      ·subst e;exact jq.d1.2.2.1 hm
      ·exact (jq.d3 y e).2.2 hm)) YX (λg hg=>Α (hb3 g hg))
     rw[yJ e1 hhp] at hl1 hl2;refine⟨c+ct,su G' x p,ik S' x p (S'.u p),jo,by rw[aaa,eF,eup];rfl,hfL,λg hg=>hSb g (hb3 g hg),VF.trans (hu3.mono (λy hy=>?_)),ω,hl1,by simp only at hl2;omega⟩;rcases ρ.1 hy with e|e
     ·subst e;simp[BB.blk]
     ·have:=hSb y e;simp only[BB.blk,ρ,τ]
      exact Β (Β (Β (Β (Β (Α this))))))
    have kM:=χ (show ∀w2,aF w2 B.c F A (cK st (c+ct))->ae [B.c] wr w2->iK w2 B F gr cr lo A (cK st (c+ct)) S' vs G'.R/\ae (B.blk F gr A.cs.length S vs) w w2 from λw2 hC2 hu2=>⟨hM.setSt hu2 hC2,hu.trans (hu2.mono (λy hy=>by simp at hy;subst hy;exact tF _ HM.out.cells.mem))⟩);have hup:=X.fh.f.up p hp1;have hpR:G'.F.u p=-1->(p:Int)∈G'.R h:=λe=>(X.rh.mem h p).2 ⟨ω,hp1,e,by show(A.c p).i=_;omega⟩;have hnd:=(X.rh.row h).nodup;clear hM X hl1 hl2 eu e1 eux kb hSb hfu hhp hfL hmL hrR e2 hu;rcases hup with e3|⟨q,hq1,e3,_⟩
    ·have Zw:JY A.cs.length S' (p:Int)=none:=by unfold JY;rw[Δ ω,π,eup,Δ e3]
     have hpm:=hpR e3;obtain⟨i,hi,hidx,hix⟩:=xe (G'.R h) (p:Int) hpm;have E3:=χ (ψ e3 (ψ hpm hnd));clear e3 hpR eup hpm hnd
     go_wp2_with (first
      |(go_at_call 179;(with_reducible refine aT (ku) ?_))
      |((with_reducible refine(kh).mono ?_);rintro e w2 ⟨rfl,hC2,hu2⟩;obtain⟨hM2,hu3⟩:=kM.out w2 hC2 hu2;(have h2:=hM2.h1);(have YT:=xZ B.bt B.ba lo A.cs.length S' (p:Int) w2 hM2.jm);rw[Zw] at YT;simp only[ov,ob,Option.getD_none,Option.isSome_none] at YT;(have oQ:=χ hM2);clear hM2)
      | (go_at_call 179;(with_reducible refine aT (YT) ?_)))
     have hsl:j6 w2 [] (vs.getD h undef) (G'.R h):=(oQ.out.each h hq).sl (λg _=>σ);have kix:=λW (hW:ae [] w2 W)=>Hq W [] (vs.getD h undef) (G'.R h) (p:Int) (hsl.upd hW σ);rw[hidx] at kix;obtain⟨a0,cap,hv,hlc,hcp,hcs⟩:=(oQ.out.each h hq).shape;obtain⟨g,off,rfl,hci⟩:=hcs i (p:Int) hix;have hfi:w2.frozen? ⟨g,off+i,none⟩=false:=(oQ.out.each h hq).free (by rw[hv];rfl) _;have hR2:=oQ.out.h2;have hrc:=oQ.out.OC hq;rw[hv] at kix hrc;have hib0:(0:Int)<=(h:Int):=ω;have BF:(h:Int)<(vs.length:Int):=ω;have CB:(0:Int)<=(i:Int):=ω;have hib3:(i:Int)<((G'.R h).length:Int):=ω
     have hfin:=χ (show iK (w2.setCell ⟨g,off+i,none⟩ (.int .i64 (x:Int))).drew B F gr cr lo A (cK st (c+ct)) S' vs (cO G'.R h (setAt (G'.R h) (p:Int) (x:Int)))/\ae (B.blk F gr A.cs.length S vs) w (w2.setCell ⟨g,off+i,none⟩ (.int .i64 (x:Int))).drew from by
      have u1:ae (vs.getD h undef).ownBlock.toList w2 (w2.setCell ⟨g,off+i,none⟩ (.int .i64 (x:Int))).drew:=by
       rw[hv];exact((ae.refl _ _).setCell (Α (by simp[Value.ownBlock])) _).drew
      have o1:bF (w2.setCell ⟨g,off+i,none⟩ (.int .i64 (x:Int))).drew 0 (vs.getD h undef) (setAt (G'.R h) (p:Int) (x:Int)):=by
       have:=oQ.out.each h hq;rw[hv] at this ⊢;have o2:=this.set i hi (x:Int);unfold setAt;rw[hidx,π];exact o2.upd ((ae.refl [] _).drew) σ
      refine⟨oQ.out.setX h hq u1 _ o1,hu3.trans (u1.mono (λy hy=>?_))⟩;simp only[BB.blk,ρ,τ]
      exact Β (Β (Β (Β (Β (Β (jy.2 ⟨h,hq,by simpa using hy⟩)))))))
     clear hi hidx hix hcs hv hsl;generalize hrlq:(G'.R h).length=rl at *
     go_cut [55] (λs55 wx=>iK wx B F gr cr lo A (cK st (c+ct)) S' vs (cO G'.R h (setAt (G'.R h) (p:Int) (x:Int)))/\ae (B.blk F gr A.cs.length S vs) w wx)
     case first=>
      go_region_law
       (first
        | (go_simp;go_at_call 180;(with_reducible refine aT (kix _ β) ?_)))
      all_goals
       go_wp2
       go_meet
       exact hfin.out
     case rest=>
      obtain⟨jo,fU⟩:=hcut;have h3:=jo.h1;have kl:=Ja B.bt B.ba lo A.cs.length S' x p (S'.u p) wc jo.jm okL;have Dt:=χ jo;clear jo hfin ku kh YT kix hR2 hrc hci hfi
      go_wp2_with ((go_at_call 181;(with_reducible refine(kl).mono ?_));rintro e w3 ⟨rfl,YX,bW⟩)
      go_roundg fv
      case measure=>omega
      case rel=>
       have hR2:=E1.out.2.2.2.2.1;rw[E3.out.1,Δ rfl] at hR2;exact FIN.out wc w3 (by rw[hR2];exact Dt.out) fU YX bW
    ·have Zw:JY A.cs.length S' (p:Int)=some (q:Int):=by unfold JY;rw[Δ ω,π,eup,e3,Γ ω]
     have E3:=χ e3;clear e3 hpR eup
     go_wp2_with (first
      |(go_at_call 179;(with_reducible refine aT (ku) ?_))
      |((with_reducible refine(kh).mono ?_);rintro e w2 ⟨rfl,hC2,hu2⟩;obtain⟨hM2,hu3⟩:=kM.out w2 hC2 hu2;(have h2:=hM2.h1);(have YT:=xZ B.bt B.ba lo A.cs.length S' (p:Int) w2 hM2.jm);rw[Zw] at YT;simp only[ov,ob,Option.getD_some,Option.isSome_some] at YT;(have kl:=Ja B.bt B.ba lo A.cs.length S' x p (S'.u p) w2 hM2.jm okL);(have oQ:=χ hM2);clear hM2)
      |(go_at_call 179;(with_reducible refine aT (YT) ?_))
      | ((go_at_call 181;(with_reducible refine (kl).mono ?_));rintro e w3 ⟨rfl,YX,fU⟩))
     go_roundg fv
     case measure=>omega
     case rel=>
      have hR2:=E1.out.2.2.2.2.1;rw[E3.out,Γ ω] at hR2;exact FIN.out w2 w3 (by rw[hR2];exact oQ.out) hu3 YX fU
end
theorem PT(W:World)(n0 c b3 b4:Nat)(F:List Nat)(A:NS)(st x y:Nat)(h3:W.cell? ⟨b3,0,none⟩=some (.pointer (some ⟨n0,0,none⟩)))(h4:W.cell? ⟨b4,0,none⟩=some (.int .i64 (x:Int)))(h0:W.cell? ⟨n0,0,none⟩=some (.pointer (some ⟨c,0,none⟩)))
  (hC:aF W c F A st) (hx:bY A (x:Int)=true) (hy:bY A (y:Int)=true) (e3:b3≠c) (e4:b4≠c) (e0:n0≠c) :
  Calls prog 174 #[.int .i64 (y:Int),.pointer (some ⟨b3,0,none⟩),.pointer (some ⟨b4,0,none⟩)] W λe w'=>e=.returned (.bool (decide (dB A x y)))/\aF w' c F A (cK st 1)/\ae [c] W w':=by
 have ka:=λW' (hW:ae [] W W')=>fB (hC.ag hW) x y hx hy;have r3:∀W',ae [c] W W'->W'.cell? ⟨b3,0,none⟩=some (.pointer (some ⟨n0,0,none⟩)):=λW' hW=>hW.kept h3 (by simpa using e3);have r4:∀W',ae [c] W W'->W'.cell? ⟨b4,0,none⟩=some (.int .i64 (x:Int)):=λW' hW=>hW.kept h4 (by simpa using e4);have r0:∀W',ae [c] W W'->W'.cell? ⟨n0,0,none⟩=some (.pointer (some ⟨c,0,none⟩)):=λW' hW=>hW.kept h0 (by simpa using e0);clear hC hx hy h3 h4 h0;generalize decide (dB A x y)=b at *
 go_enter func174,ntmps174
 go_wp2
 go_region_held3 (ae [c] W) (exact ν)
  (first
   | ((go_at_call 164;(with_reducible refine (ka _ β).mono ?_));rintro e w1 ⟨rfl,gG,hu1⟩;(have hu2:ae [c] W w1:=ae.trans ν hu1)))
 go_wp2;go_ret;exact⟨rfl,gG.ag β,ν⟩
theorem Kc(W:World)(y:Int):Calls prog 175 #[.int .i64 y] W λe w'=>e=.returned (.bool true)/\w'=W:=by
 go_enter func175,ntmps175
 go_wp2;go_ret;exact⟨rfl,rfl⟩
theorem Om(w:World)(K:List Nat)(B:BB)(F:List Nat)(A:NS):Rz w K B F A 0 (λ_=>true) 175 #[]:=by
 refine⟨λ_ _=>by kernel_rfl,λW st above hu h0 hne hC hin=>?_⟩;refine(Kc W above).mono ?_;rintro e w' ⟨rfl,rfl⟩;exact⟨rfl,by rw[fF hC.nH];exact hC,ae.refl _ _⟩
theorem J7(w:World)(K:List Nat)(B:BB)(F:List Nat)(A:NS)(b3 b4 x:Nat)(h3:w.cell? ⟨b3,0,none⟩=some (.pointer (some ⟨B.n0,0,none⟩)))(h4:w.cell? ⟨b4,0,none⟩=some (.int .i64 (x:Int)))(hx:bY A (x:Int)=true)(k3:b3∉K)(k4:b4∉K)(hc:B.c∈K) :
  Rz w K B F A 1 (λy=>decide (dB A x y)) 174 #[.pointer (some ⟨b3,0,none⟩),.pointer (some ⟨b4,0,none⟩)]:=by
 refine⟨λ_ _=>by kernel_rfl,λW st above hu h0 hne hC hin=>?_⟩;exact PT W B.n0 B.c b3 b4 F A st x above (hu.kept h3 k3) (hu.kept h4 k4) h0 hC hx hin (λe=>k3 (e▸hc)) (λe=>k4 (e▸hc)) hne
section
variable{w:World}{p:Nat}{FF:List Nat}{A:NS}{st:Nat}{G:BG}
def K4(A':NS)(x:Nat)(G:BG):BG×Nat:=iQ (λy=>decide (dB A' x y)) 1 x A'.cs.length G
theorem aaz{x:Nat}{k s:Int}(I:zY A G)(hB:jf A x k s=true)(hx:x<A.cs.length):zY (aA A x k s) (K4 (aA A x k s) x G).1:=by
 obtain⟨X,hk⟩:=Da I hB hx;have hn:=gD A x k s;have hx':x<(aA A x k s).cs.length:=by rw[hn];exact hx
 have E:=AA (hp:=λy=>decide (dB (aA A x k s) x y)) (ct:=1) hx' (aA A x k s).cs.length X ω;have K:=zZ (hp:=λy=>decide (dB (aA A x k s) x y)) (ct:=1) hx' (λp _ h=>ϣ h) (aA A x k s).cs.length X (by rw[hn];exact hk);refine E.1.done hx' K (λp hp=>?_);rcases E.2 with h|⟨p',h1,h2⟩
 ·have hp:(K4 (aA A x k s) x G).1.F.u x=p:=hp;have h:(K4 (aA A x k s) x G).1.F.u x=-1:=h;omega
 ·have hp:(K4 (aA A x k s) x G).1.F.u x=p:=hp;have h1:(K4 (aA A x k s) x G).1.F.u x=p':=h1;obtain rfl:p=p':=ω;have hne:x≠p:=λe=>by
   subst e;exact E.1.fh.f.self hx' (E.1.fh.f.above hx' h1).2
  exact(jc hne).resolve_left (of_decide_eq_false h2)
theorem Si(h:DL w p FF A st G)(x:Nat)(k s:Int)(hk:-9223372036854775808<=k/\k<=9223372036854775807/\0<=s/\s<=18446744073709551615)(hB:jf A x k s=true) :
  Calls prog 165 #[.pointer (some ⟨p,0,none⟩),.int .i64 (x:Int),.agg #[.int .i64 k,.int .u64 s]] w λe w'=>e=.returned (.bool true)/\
   Goes FF w w' (λBX=>DL w' p BX (aA A x k s) (cK st (K4 (aA A x k s) x G).2) (K4 (aA A x k s) x G).1):=by
 obtain⟨⟨B,F,gr,cr,lo,S,vs,rfl,rfl,M,eF⟩,I⟩:=h;have hin:=ry hB;obtain⟨hx,hhome⟩:=(aj _ _).1 hin;obtain⟨X, -⟩:=Da I hB hx;have I2:=aaz I hB hx;have hcs:=gD A (x:Int) k s;have jd:=lQ A (x:Int) k s;have hix:=iH hB hx x;have hin2:bY (aA A x k s) (x:Int)=true:=(aj _ _).2 ⟨ω,ω⟩;have F9:=iL M.cells.ok hin;rw[π] at F9;obtain⟨q,hq0,hq1,hqv⟩:=M.hq F9;obtain⟨w3,hw3⟩:∃w3,w3=((w.alloc (.cells #[.pointer (some ⟨B.n0,0,none⟩)] 126)).alloc (.cells #[.int .i64 (x:Int)] 3)).alloc (.cells #[.int .i64 k,.int .u64 s] 97):=⟨_,rfl⟩;have u3:ae [] w w3:=by rw[hw3];exact β
 have b3:w3.cell? ⟨w.heap.size,0,none⟩=some (.pointer (some ⟨B.n0,0,none⟩)):=by rw[hw3];go_simp
 have b4:w3.cell? ⟨w.heap.size+1,0,none⟩=some (.int .i64 (x:Int)):=by rw[hw3];go_simp
 have b5:w3.cell? ⟨w.heap.size+1+1,0,none⟩=some (.int .i64 k):=by rw[hw3];go_simp
 have b6:w3.cell? ⟨w.heap.size+1+1,1,none⟩=some (.int .u64 s):=by rw[hw3];go_simp
 have nF:∀j,w.heap.size+j∉F:=λj hm=>by have:=M.cells.lt _ hm;omega
 have kl:=λW (hW:ae [] w3 W)=>iD (M.cells.ag (u3.trans hW)) x k s hk hB;have h0:=u3.was M.h0;have wN:=M.d1.1;have r0:∀W,ae F w3 W->W.cell? ⟨B.n0,0,none⟩=some (.pointer (some ⟨B.c,0,none⟩)):=λW hW=>hW.kept h0 wN;have r3:∀W,ae F w3 W->W.cell? ⟨w.heap.size,0,none⟩=some (.pointer (some ⟨B.n0,0,none⟩)):=λW hW=>hW.kept b3 (nF 0);have r4:∀W,ae F w3 W->W.cell? ⟨w.heap.size+1,0,none⟩=some (.int .i64 (x:Int)):=λW hW=>hW.kept b4 (nF 1);have r5:∀W,ae F w3 W->W.cell? ⟨w.heap.size+1+1,0,none⟩=some (.int .i64 k):=λW hW=>hW.kept b5 (nF 2)
 have r6:∀W,ae F w3 W->W.cell? ⟨w.heap.size+1+1,1,none⟩=some (.int .u64 s):=λW hW=>hW.kept b6 (nF 2);have HM:=χ M;have HI:=χ (ψ X (ψ I2 (ψ eF (ψ hcs (ψ jd hin2)))));have HW:=χ hw3;clear M I X I2 eF hcs jd hin F9 h0 b3 b4 b5 b6 hB nF hw3;generalize hA':aA A (x:Int) k s=A' at *;rw[hq0] at hix
 go_enter func165,ntmps165
 go_wp2;rw[←HW.out]
 go_region_held3 (ae F w3) (exact ν)
  (first
   | ((go_at_call 131;(with_reducible refine (kl _ β).mono ?_));rintro e w4 ⟨rfl,TH,fU⟩;(have aaF:ae F w3 w4:=ae.trans ν fU)))
 have kh:=λW (hW:ae [] w4 W)=>bV (TH.ag hW) x HI.out.2.2.2.2.2;rw[hix] at kh;go_wp2
 go_region_held3 (ae F w3) (exact ν)
  (first
   | ((go_at_call 124;(with_reducible refine (kh _ β).mono ?_));rintro e w5 ⟨rfl,Q3,bW⟩;(have Lj:ae F w3 w5:=ae.trans ν bW)))
 have vQ:=(HM.out.ag u3).cB Lj Q3 (λy hy=>Α hy) HI.out.2.2.2.1 (by rw[HI.out.2.2.2.2.1]);have g3:=r3 w5 Lj;have g4:=r4 w5 Lj;have hlt:=HM.out.lt;have hcs:=HI.out.2.2.2.1;have hKK:∀j,w.heap.size+j∉B.blk F gr A'.cs.length S vs:=λj hm=>by rw[hcs] at hm;have:=hlt _ hm;omega
 have H5:=λ(W:World) (hW:ae [] w5 W)=>J7 W (B.blk F gr A'.cs.length S vs) B F A' w.heap.size (w.heap.size+1) x (hW.was g3) (hW.was g4) HI.out.2.2.2.2.2 (hKK 0) (hKK 1) (tF _ HM.out.cells.mem);have kL:=λW (hW:ae [] w5 W)=>Di (vQ.ag hW) HI.out.2.2.1 HI.out.1 ω (by rw[hix];omega) hix hqv (H5 W hW);clear vQ Q3 TH kh kl r0 r5 r6 hlt hKK r3 r4
 go_wp2_with (first
  |((go_at_call 173;(with_reducible refine(kL _ β).mono ?_));rintro e w6 ⟨rfl,S6,vE,hF6,iX,hb6⟩)
  | fail)
 go_ret;have hcs:=HI.out.2.2.2.1;have uw:ae (B.blk F gr A.cs.length S vs) w w6:=by
  rw[hcs] at iX;exact((u3.mono σ).trans (Lj.mono tF)).trans (ae.trans ν iX)
 refine⟨rfl,B.blk F gr A'.cs.length S6 vs,⟨⟨B,F,gr,cr,lo,S6,vs,rfl,rfl,vE,hF6⟩,HI.out.2.1⟩,uw,λy hy=>Α ?_⟩;rw[hcs] at hy hb6;simp only[BB.blk,ρ,τ] at hy ⊢;rcases hy with e|e|e|e|e|e|e
 ·exact Α e
 ·exact Β (Α e)
 ·exact Β (Β (Α e))
 ·exact Β (Β (Β (Α e)))
 ·exact Β (Β (Β (Β (Α e))))
 ·exact Β (Β (Β (Β (Β (Α (hb6 y e))))))
 ·exact Β (Β (Β (Β (Β (Β e)))))
def II(A:NS)(x:Nat)(G:BG):BG×Nat:=iQ (λ_=>true) 0 x A.cs.length G
def delG(A:NS)(x:Nat)(G:BG):BG:=qF A (A.c x).i.toNat x (II A x G).1
def delQ(A:NS)(x:Nat)(G:BG):Nat:=(II A x G).2+xE A (A.c x).i.toNat x (II A x G).1
theorem WX{x:Nat}(I:zY A G)(hx:x<A.cs.length):EY A (II A x G).1 x/\(II A x G).1.F.u x=-1:=by
 have E:=AA (hp:=λ_=>true) (ct:=0) hx A.cs.length (I.x hx) ω;refine⟨E.1,?_⟩;rcases E.2 with h|⟨p,_,h⟩
 ·exact h
 ·cases h
theorem Rm(h:DL w p FF A st G)(x:Nat)(hin:bY A (x:Int)=true) :
  Calls prog 166 #[.pointer (some ⟨p,0,none⟩),.int .i64 (x:Int)] w λe w'=>e=.returned (.bool true)/\
   Goes FF w w' (λBX=>DL w' p BX (bg A x) (cK st (delQ A x G)) (delG A x G)):=by
 obtain⟨⟨B,F,gr,cr,lo,S,vs,rfl,rfl,M,eF⟩,I⟩:=h;obtain⟨hx,hhome⟩:=(aj _ _).1 hin;obtain⟨X1,hr1⟩:=WX I hx;have F9:=iL M.cells.ok hin;rw[π] at F9;obtain⟨q,hq0,hq1,hqv⟩:=M.hq F9;have T:=(F7 X1 M.cells.ok hx hr1 hhome hq0).1;have eq:(A.c x).i.toNat=q:=ω;have kh:=bV M.cells x hin;rw[hq0] at kh;have h0:=M.h0;have kL:=λW (hM:iK W B F gr cr lo A st S vs G.R)=>Di hM eF (I.x hx) hx hhome hq0 hqv (Om W (B.blk F gr A.cs.length S vs) B F A);have kT:=λW S' (hM:iK W B F gr cr lo A (cK st (II A x G).2) S' vs (II A x G).1.R) (e:S'.f=(II A x G).1.F)=>Db hM e X1 hx hr1 hhome hq0 hqv;have HM:=χ M
 have HI:=χ (ψ T eq);clear M I X1 hr1 F9 T eF eq hin
 go_enter func166,ntmps166
 go_wp2_with (first
  |((go_at_call 124;(with_reducible refine(kh).mono ?_));rintro e w1 ⟨rfl,gG,hu1⟩;(have hM1:=HM.out.cB hu1 gG (λy hy=>Α hy) rfl rfl);(have kL1:=kL _ hM1);(have hs1:=hu1.size);clear hM1)
  |((go_at_call 173;(with_reducible refine(kL1).mono ?_));rintro e w2 ⟨rfl,S2,hM2,hF2,hu2,hb2⟩;(have kT2:=kT _ S2 hM2 hF2);(have hs2:=hu2.size))
  |((go_at_call 176;(with_reducible refine(kT2).mono ?_));rintro e w3 ⟨rfl,FF3,hK3,hu3,hf3⟩)
  | fail)
 go_ret;have kb:∀y,y∈B.blk F gr A.cs.length S2 vs->y∈B.blk F gr A.cs.length S vs:=λy hy=>by
  simp only[BB.blk,ρ,τ] at hy ⊢;rcases hy with e|e|e|e|e|e|e
  ·exact Α e
  ·exact Β (Α e)
  ·exact Β (Β (Α e))
  ·exact Β (Β (Β (Α e)))
  ·exact Β (Β (Β (Β (Α e))))
  ·exact Β (Β (Β (Β (Β (Α (hb2 y e))))))
  ·exact Β (Β (Β (Β (Β (Β e)))))
 rw[iN] at hK3;refine⟨rfl,FF3,?_,((hu1.mono tF).trans hu2).trans (hu3.mono kb),λy hy=>?_⟩
 ·unfold delQ delG;rw[HI.out.2];exact⟨hK3,HI.out.1⟩
 ·rcases hf3 y hy with h'|h'
  ·exact Α (kb y h')
  ·exact Β ω
end
theorem Wi:(prog.info? 77).map (λi=>(i.zero,i.size,i.bytes))=some (some (.slice none 0 0),1,24):=by kernel_rfl
theorem aao{A:NS}{G:BG}(I:zY A G)(ok:A.Ok):G.R A.hs.length=[]:=by
 cases e:G.R A.hs.length with
 |nil=>rfl
 |cons x t=>
  have hx:x∈G.R A.hs.length:=by rw[e];simp
  obtain⟨y,_,hy,_,hh,_⟩:=Uc I hx;have:=ok.nat y hy;omega
theorem Es(vs:List Value)(v:Value)(k:Nat):(vs++[v]).getD k undef=if k<vs.length then vs.getD k undef else if k=vs.length then v else undef:=by
 simp only[φ]
 by_cases e:k<vs.length
 ·rw[Ρ e,Δ e]
 ·rw[ϊ ω,Γ e]
  by_cases e2:k=vs.length
  ·subst e2;simp
  ·rw[Γ e2,List.getElem?_eq_none ζ];rfl
section
variable{w:World}{p:Nat}{FF:List Nat}{A:NS}{st:Nat}{G:BG}
theorem PN(h:DL w p FF A st G) :
  Calls prog 169 #[.pointer (some ⟨p,0,none⟩)] w λe w'=>e=.returned (.int .i64 (dJ A))/\Goes FF w w' (λBX=>DL w' p BX (aU A) st G):=by
 obtain⟨⟨B,F,gr,cr,lo,S,vs,rfl,rfl,M,eF⟩,I⟩:=h;have k:=iP M.cells;have h0:=M.h0;have I2:=Ws I
 by_cases hl:65536<A.hs.length
 ·have e1:dJ A=0:=by unfold dJ;rw[Δ hl]
  have e2:aU A=A:=by unfold aU;rw[Δ hl]
  rw[e1,e2] at k;rw[e1,e2];have HM:=χ M;have HI:=χ (ψ I eF);clear M I eF e1 e2 I2
  go_enter func169,ntmps169
  go_wp2_with ((go_at_call 140;(with_reducible refine(k).mono ?_));rintro e w1 ⟨rfl,F1,hC,hu,hF⟩)
  go_ret;refine⟨rfl,B.blk F1 gr A.cs.length S vs,⟨⟨B,F1,gr,cr,lo,S,vs,rfl,rfl,HM.out.cB hu hC hF rfl rfl,HI.out.2⟩,HI.out.1⟩,hu.mono tF,λy hy=>?_⟩;simp only[BB.blk,ρ,τ] at hy ⊢;rcases hy with e|e|e|e|e|e|e
  ·exact Α (Α e)
  ·exact Α (Β (Α e))
  ·exact Α (Β (Β (Α e)))
  ·exact Α (Β (Β (Β (Α e))))
  ·rcases hF y e with h'|h'
   ·exact Α (Β (Β (Β (Β (Α h')))))
   ·exact Β h'
  ·exact Α (Β (Β (Β (Β (Β (Α e))))))
  ·exact Α (Β (Β (Β (Β (Β (Β e))))))
 ·have e1:dJ A=A.hs.length:=by unfold dJ;rw[Γ hl]
  rw[e1] at k;rw[e1];have hcs:(aU A).cs.length=A.cs.length:=by rw[NT]
  have jd:(aU A).hs.length=A.hs.length+1:=by unfold aU;rw[Γ hl];simp
  have hh0:=M.cells.ok.h0;have hvl:vs.length<=65536:=by rw[M.len];omega
  have hlen:=M.len;have HM:=χ M;have HI:=χ (ψ I2 (ψ eF (ψ (aao I M.cells.ok) hlen)));clear M I e1 I2 eF hlen
  go_enter func169,ntmps169
  go_wp2_with (first
   |((go_at_call 140;(with_reducible refine(k).mono ?_));rintro e w1 ⟨rfl,F1,hC,hu,hF⟩;(have d3:=hu.kept HM.out.h2 HM.out.d1.1);(have f3:=hu.aM HM.out.h2 HM.out.d1.1 (HM.out.head.free 2));(have ho1:=ak HM.out.rows hu (λg hg=>by simp[Value.ownBlock] at hg;subst hg;exact HM.out.d1.2.2.2));(have g0:B.n0≠gr:=HM.out.d2.2.2.1);(have gl:=Ψ HM.out.Jp hu.size))
   | ((at_builtin;refine bI rfl _ _ 183 rfl 0 77 (.slice none 0 0) 1 24 underlying183 Wi rfl δ _ _ _ rfl (ho1) [.slice none 0 0] rfl (by simp [Value.oneCell']) (by first|rfl|(rw [Κ];rfl)) μ ω ω ?_;intro v2 w2 ho2 hu2 nC);(have hu2:ae [gr] w1 w2:=hu2);obtain ⟨Gn,cr1,ev,_⟩:=fQ ho2 ω;subst ev;(have d4:=hu2.kept d3 ζ);(have f4:=hu2.aM d3 ζ f3)))
  go_ret;have hM:=HM.out;have hlt:=hM.lt;have f:=hM.d1;have q:=hM.d2;have hws:=hu.size;have hw3:ae [B.n0] w2 (w2.setCell ⟨B.n0,2,none⟩ (.slice (some ⟨Gn,0,none⟩) (vs.length+1) cr1)):=β;have hg1:Gn=gr\/w1.heap.size<Gn:=by
   rcases nC with h|h
   ·exact Α (Option.some.inj h)
   ·exact Β (h Gn rfl)
  have gG:=hC.lt;have l0:=hlt B.n0 (by simp[BB.blk]);have l1:=hlt B.bt (by simp[BB.blk]);have l2:=hlt B.ba (by simp[BB.blk]);have l4:=hM.Jp;have hnF:∀y,y<w.heap.size->y∉F->y∉F1:=λy hy hn hm=>by rcases hF y hm with h'|h';exact hn h';omega
  have wy:Gn∉F1:=by
   rcases hg1 with e|e
   ·rw[e];exact hnF gr l4 f.2.2.2
   ·exact λhm=>by have:=gG Gn hm;omega
  have hgn:∀y,y<w.heap.size->y≠gr->y≠Gn:=λy hy hn e=>by
   rcases hg1 with e2|e2
   ·exact hn (e.trans e2)
   ·omega
  have hcs:=hcs;have hv:(vs++[Value.slice none 0 0]).length=vs.length+1:=σ;have hin:=HI.out.2.2.1;have hhd:=((hM.head.upd hu f.1).upd hu2 ζ).set 2 (.slice (some ⟨Gn,0,none⟩) (vs.length+1) cr1);have XV:∀j,j<vs.length+1->∀g,((vs++[Value.slice none 0 0]).getD j undef).ownBlock=some g->j<vs.length/\(vs.getD j undef).ownBlock=some g:=λj hj g hg=>by
   rw[Es] at hg
   by_cases e:j<vs.length
   ·rw[Δ e] at hg;exact⟨e,hg⟩
   ·rw[Γ e,Δ ω] at hg;cases hg
  have hBM:iK (w2.setCell ⟨B.n0,2,none⟩ (.slice (some ⟨Gn,0,none⟩) (vs.length+1) cr1)) B F1 Gn cr1 lo (aU A) st S (vs++[.slice none 0 0]) G.R:=by
   refine⟨?_,?_,?_,?_,by rw[hv,jd,HI.out.2.2.2],λj hj=>?_,⟨hnF _ l0 f.1,hnF _ l1 f.2.1,hnF _ l2 f.2.2.1,wy⟩,⟨q.1,q.2.1,hgn _ l0 q.2.2.1,hgn _ l1 q.2.2.2.1,hgn _ l2 q.2.2.2.2⟩,λg hg=>?_,λj g hj hg=>?_,λj k g hj hk hne hg=>?_⟩
   ·rw[hv];refine hhd.ext (λj hj=>?_);rcases(ω:j=0\/j=1\/j=2) with rfl|rfl|rfl<;>rfl
   ·exact(hC.upd hu2 (λy hy=>by simp at hy;rw[hy];exact hnF gr l4 f.2.2.2)).upd hw3 (λy hy=>by simp at hy;rw[hy];exact hnF _ l0 f.1)
   ·rw[hcs];exact((hM.jm.upd hu f.2.1 f.2.2.1 (λg hg=>(hM.d3 g hg).2.2)).upd hu2 (by simp;exact q.2.2.2.1) (by simp;exact q.2.2.2.2) (λg hg hm=>by simp at hm;exact(hM.d3 g hg).2.1 hm)).upd hw3 (by simp;exact Ne.symm q.1) (by simp;exact Ne.symm q.2.1) (λg hg hm=>by simp at hm;exact(hM.d3 g hg).1 hm)
   ·rw[hv];refine ak (nN ho2 (Nat.zero_le _)) hw3 (λg hg hm=>?_);simp[Value.ownBlock] at hg hm;exact hgn _ l0 q.2.2.1 ω
   ·rw[hv] at hj;rw[Es]
    by_cases e:j<vs.length
    ·rw[Δ e];exact(((hM.each j e).upd hu (λg hg=>(hM.d4 j g e hg).2.2.2.2.1)).upd hu2 (λg hg hm=>by simp at hm;exact(hM.d4 j g e hg).2.2.2.1 hm)).upd hw3 (λg hg hm=>by simp at hm;exact(hM.d4 j g e hg).1 hm)
    ·obtain rfl:j=vs.length:=ω;rw[Γ e,Δ rfl,HI.out.2.2.2,hin];exact bF.nil _ _
   ·rw[hcs] at hg;have:=hM.d3 g hg;have hgl:=(hM.jm.oG hg).2;exact⟨this.1,hgn g hgl this.2.1,hnF g hgl this.2.2⟩
   ·rw[hv] at hj;obtain⟨e,hg⟩:=XV j hj g hg;have:=hM.d4 j g e hg;have hgl:=hM.yx e hg;rw[hcs];exact⟨this.1,this.2.1,this.2.2.1,hgn g hgl this.2.2.2.1,hnF g hgl this.2.2.2.2.1,this.2.2.2.2.2⟩
   ·rw[hv] at hj hk;obtain⟨e,hg⟩:=XV j hj g hg;intro h2;obtain⟨e2,h2⟩:=XV k hk g h2;exact hM.d5 j k g e e2 hne hg h2
  refine⟨rfl,B.blk F1 Gn (aU A).cs.length S (vs++[.slice none 0 0]),⟨⟨B,F1,Gn,cr1,lo,S,_,rfl,rfl,hBM,HI.out.2.1⟩,HI.out.1⟩,((hu.mono tF).trans (hu2.mono (λy hy=>by simp at hy;subst hy;simp[BB.blk]))).trans (hw3.mono (λy hy=>by simp at hy;subst hy;simp[BB.blk])),λy hy=>?_⟩;rw[hcs] at hy;simp only[BB.blk,ρ,τ] at hy ⊢;rcases hy with e|e|e|e|e|e|e
  ·exact Α (Α e)
  ·exact Α (Β (Α e))
  ·exact Α (Β (Β (Α e)))
  ·rcases hg1 with e2|e2
   ·exact Α (Β (Β (Β (Α (e.trans e2)))))
   ·exact Β ω
  ·rcases hF y e with h'|h'
   ·exact Α (Β (Β (Β (Β (Α h')))))
   ·exact Β h'
  ·exact Α (Β (Β (Β (Β (Β (Α e))))))
  ·obtain⟨j,hj,hg⟩:=jy.1 e;rw[hv] at hj;obtain⟨e3,hg⟩:=XV j hj y hg;exact Α (Β (Β (Β (Β (Β (Β (jy.2 ⟨j,e3,hg⟩)))))))
end
theorem Tn(n:Nat)(w:World)(h:n<=65536) :
  Calls prog 60 #[.int .i64 (n:Int)] w λe w'=>∃p FF,e=.returned (.tuple #[.pointer (some ⟨p,0,none⟩),.int .i64 0])/\DL w' p FF (NS.new n) 0 BG.none/\ae [] w w'/\∀x,x∈FF->w.heap.size<=x:=by
 have k:=oH n w h;have kc:=λW=>FE n W h
 go_enter func60,ntmps60
 go_wp2_with (first
  |((go_at_call 84;(with_reducible refine(k).mono ?_));rintro e w1 ⟨c,F,rfl,hC,hu1,hF⟩)
  | ((go_at_call 86;(with_reducible refine (kc _).mono ?_));rintro e w2 ⟨bt,ba,rfl,hFo,hu2,hbt,Ra⟩))
 go_ret2;have hn:(NS.new n).cs.length=n:=by simp[NS.new]
 obtain⟨w3,hw3⟩:∃w3,w3=w2.alloc (.cells #[.slice none 0 0] 77):=⟨_,rfl⟩;have hs3:w3.heap.size=w2.heap.size+1:=by rw[hw3];simp
 have u3:ae [] w2 w3:=by rw[hw3];exact(ae.refl _ _).alloc _
 have o3:w3.ownsRow 0 77 1 (.slice (some ⟨w2.heap.size,0,none⟩) 1 1) 1 [.slice none 0 0]:=by rw[hw3];exact rZ w2 [.slice none 0 0] 77 0 1 1 rfl (Nat.zero_le _) μ
 rw[←hw3];have hR:=eZ w3 [Value.pointer (some ⟨c,0,none⟩),.pointer (some ⟨bt,0,none⟩),.slice (some ⟨w2.heap.size,0,none⟩) 1 1] 185;rw[hs3] at hR;have u4:ae [] w3 (w3.alloc (.cells #[.pointer (some ⟨c,0,none⟩),.pointer (some ⟨bt,0,none⟩),.slice (some ⟨w2.heap.size,0,none⟩) 1 1] 185)):=(ae.refl _ _).alloc _;have z1:=hu1.size;have z2:=hu2.size;have Gq:=hC.lt;have hb1:=hFo.head.lt;have hb2:=hFo.row.lt;have hFn:∀y,w1.heap.size<=y->y∉F:=λy hy hm=>by have:=Gq y hm;omega
 have hno:∀m g,g∉CS.none.blk m:=λm g hg=>by
  obtain⟨y,_,e⟩:=(CS.jQ _ m g).1 hg;cases e
 have hv0:∀h,h < [Value.slice none 0 0].length->[Value.slice none 0 0].getD h undef=Value.slice none 0 0:=λh hh=>by
  have:h=0:=by simp at hh;omega
  subst this;rfl
 have hBM:iK (w3.alloc (.cells #[.pointer (some ⟨c,0,none⟩),.pointer (some ⟨bt,0,none⟩),.slice (some ⟨w2.heap.size,0,none⟩) 1 1] 185)) ⟨w2.heap.size+1,c,bt,ba⟩ F w2.heap.size 1 w2.heap.size (NS.new n) 0 CS.none [.slice none 0 0] BG.none.R:=by
  refine⟨hR,hC.ag (hu2.trans (u3.trans u4)),by rw[hn];exact hFo.ag (u3.trans u4),ak o3 u4 σ,rfl,λh hh=>by rw[hv0 h hh];exact bF.nil _ _,⟨hFn _ (by simp only;omega),hFn _ (by simp only;omega),hFn _ (by simp only;omega),hFn _ ω⟩,⟨?_,?_,?_,?_,?_⟩,λg hg=>absurd hg (hno _ g),λh g hh hg=>(by rw[hv0 h hh] at hg;cases hg),λh k g hh hk _ hg=>(by rw[hv0 h hh] at hg;cases hg)⟩
  all_goals simp only;omega
 refine⟨w2.heap.size+1,_,by simp[hs3],⟨⟨⟨w2.heap.size+1,c,bt,ba⟩,F,w2.heap.size,1,w2.heap.size,CS.none,[.slice none 0 0],rfl,rfl,hBM,rfl⟩,aaE n⟩,hu1.trans (hu2.trans (u3.trans u4)),λy hy=>?_⟩;simp only[BB.blk,ρ,τ] at hy;rcases hy with e|e|e|e|e|e|e
 ·omega
 ·omega
 ·omega
 ·omega
 ·exact hF y e
 ·exact absurd e (hno _ y)
 ·obtain⟨j,hj,hg⟩:=jy.1 e;rw[hv0 j hj] at hg;cases hg
theorem IU:VI 126 "Has" 123:=by intro p c W h;unfold method;obtain⟨m,h1,h2,h3,h4⟩:=wC Tryz.t126.methods "Has" [⟨185,0,true⟩] 123 (by kernel_rfl);exact vZ
theorem Co:VI 126 "Entry" 121:=by intro p c W h;unfold method;obtain⟨m,h1,h2,h3,h4⟩:=wC Tryz.t126.methods "Entry" [⟨185,0,true⟩] 121 (by kernel_rfl);exact vZ
theorem Sb:MI 126 "Make" 169:=λ_ _=>by kernel_rfl
theorem LJ:MI 126 "Insert" 168:=λ_ _=>by kernel_rfl
theorem XC:MI 126 "Min" 171:=λ_ _=>by kernel_rfl
theorem JP:MI 126 "Extract" 167:=λ_ _=>by kernel_rfl
theorem EZ:MI 126 "Decrease" 165:=λ_ _=>by kernel_rfl
theorem ug{w w':World}{p:Nat}{F S:List Nat}{A:NS}{st:Nat}{G:BG}(h:DL w p F A st G)(hu:ae S w w')(hS:∀x,x∈S->x∉F):DL w' p F A st G:=by
 obtain⟨⟨B,F1,gr,cr,lo,S1,vs,rfl,rfl,M,eF⟩,I⟩:=h;exact⟨⟨B,F1,gr,cr,lo,S1,vs,rfl,rfl,M.upd hu hS,eF⟩,I⟩
theorem adk{w:World}{p:Nat}{F:List Nat}{A:NS}{st:Nat}{G:BG}(h:DL w p F A st G):∀x,x∈F->x<w.heap.size:=by
 obtain⟨⟨B,F1,gr,cr,lo,S1,vs,rfl,rfl,M,eF⟩,I⟩:=h;exact M.lt
theorem abZ{w:World}{p:Nat}{F:List Nat}{A:NS}{st:Nat}{G:BG}(h:DL w p F A st G):A.Ok:=by
 obtain⟨⟨B,F1,gr,cr,lo,S1,vs,rfl,rfl,M,eF⟩,I⟩:=h;exact M.cells.ok
theorem Nv{w:World}{p:Nat}{F:List Nat}{A:NS}{st:Nat}{G:BG}(h:DL w p F A st G):∃c F1,w.cell? ⟨p,0,none⟩=some (.pointer (some ⟨c,0,none⟩))/\aF w c F1 A st:=by
 obtain⟨⟨B,F1,gr,cr,lo,S1,vs,rfl,rfl,M,eF⟩,I⟩:=h;exact⟨B.c,F1,M.h0,M.cells⟩
def BnQ(w:World)(p:Nat)(F:List Nat)(A:NS):Prop:=∃st G,DL w p F A st G
noncomputable def xS:NestQ where
 ty:=126
 at_:=BnQ
 upd:=λh hu hS=>by
  obtain⟨st,G,hL⟩:=h;exact⟨st,G,ug hL hu hS⟩
 lt:=λh=>by
  obtain⟨st,G,hL⟩:=h;exact adk hL
 ok:=λh=>by
  obtain⟨st,G,hL⟩:=h;exact abZ hL
 make:=λ{w p F A} h=>by
  obtain⟨st,G,hL⟩:=h;refine aJ 169 (λ_ _=>by kernel_rfl) (Sb _) (λW hW=>?_);refine(PN (ug hL hW σ)).mono ?_;rintro e w' ⟨rfl,F',hA,hu,hf⟩;exact⟨rfl,F',⟨_,_,hA⟩,hu,hf⟩
 insert:=λ{w p F A} g y k s hk hB h=>by
  obtain⟨st,G,hL⟩:=h;refine aJ 168 (λ_ _=>by kernel_rfl) (LJ _) (λW hW=>?_);refine(GX (ug hL hW σ) g y k s hk hB).mono ?_;rintro e w' ⟨rfl,F',hA,hu,hf⟩;exact⟨rfl,F',⟨_,_,hA⟩,hu,hf⟩
 min:=λ{w p F A} y hB h=>by
  obtain⟨st,G,hL⟩:=h;refine aJ 171 (λ_ _=>by kernel_rfl) (XC _) (λW hW=>?_);have jG:=ug hL hW σ;obtain⟨⟨B,F1,gr,cr,lo,S1,vs,rfl,rfl,M,eF⟩,I⟩:=jG;refine(I1 M I (y:Int)).mono ?_;rintro e w' ⟨rfl,hM2,hu⟩;exact⟨rfl,Goes.stay ⟨_,_,⟨B,F1,gr,cr,lo,S1,vs,rfl,rfl,hM2,eF⟩,I⟩ (hu.mono (λy hy=>by simp at hy;subst hy;exact tF _ M.cells.mem))⟩
 extract:=λ{w p F A} y m hm h=>by
  obtain⟨st,G,hL⟩:=h;refine aJ 167 (λ_ _=>by kernel_rfl) (JP _) (λW hW=>?_);have jG:=ug hL hW σ;have e2:sH A (y:Int)=bg A (m:Int):=by unfold sH;rw[hm]
  have k:=Fz jG (y:Int);rw[e2,hm] at k;refine k.mono ?_;rintro e w' ⟨rfl,F',hA,hu,hf⟩;exact⟨rfl,F',⟨_,_,hA⟩,hu,hf⟩
 mJ:=λ{w p F A} y k s hk hB h=>by
  obtain⟨st,G,hL⟩:=h;refine aJ 165 (λ_ _=>by kernel_rfl) (EZ _) (λW hW=>?_);have jG:=ug hL hW σ;refine(Si jG y k s hk hB).mono ?_;rintro e w' ⟨rfl,F',hA,hu,hf⟩;exact⟨rfl,F',⟨_,_,hA⟩,hu,hf⟩
 has:=λx h=>by
  obtain⟨st,G,hL⟩:=h;obtain⟨c,F1,h0,hC⟩:=Nv hL;exact dQ 123 (λ_ _=>by kernel_rfl) h0 (IU _ _) (λW hW=>jr (hC.ag hW) x)
 entry:=λ{w p F A} x h=>by
  obtain⟨st,G,hL⟩:=h;obtain⟨c,F1,h0,hC⟩:=Nv hL;refine dQ 121 (λ_ _=>by kernel_rfl) h0 (Co _ _) (λW hW=>?_);cases hin:bY A x with
  |false=>simpa using l9 (hC.ag hW) x hin
  |true=>
   obtain⟨y,rfl⟩:=rC hin;simpa using jT (hC.ag hW) y hin
theorem J6(p:Nat)(w:World):Calls prog 59 #[.pointer (some ⟨p,0,none⟩),.int .i64 0] w λe w'=>e=.returned (.tuple #[.iface 126 (.pointer (some ⟨p,0,none⟩)),.int .i64 0])/\w'=w:=by
 go_enter func59,ntmps59
 go_wp2;go_ret2;exact⟨rfl,rfl⟩
theorem Jf(n:Nat)(hn:n<=65536):o9 xS 3 0 n:=by
 intro w;have kn:=λW=>Tn n W hn;have km:=J6;have hty:xS.ty=126:=rfl;have hat:∀w' p FF,DL w' p FF (NS.new n) 0 BG.none->xS.at_ w' p FF (NS.new n)/\Ih w' p n:=λw' p FF h=>⟨⟨_,_,h⟩,Nv h⟩
 generalize xS=K at *;rw[hty]
 go_enter func35,ntmps35
 go_wp2_with (first
  |((go_at_call 60;(with_reducible refine(kn _).mono ?_));rintro e w1 ⟨pn,FF,rfl,hS,hu1,hf⟩)
  |((go_at_call 59;(with_reducible refine(km _ _).mono ?_));rintro e w2 ⟨rfl,rfl⟩)
  | fail)
 go_ret2;exact⟨pn,FF,rfl,(hat _ _ _ hS).1,(hat _ _ _ hS).2,ae.trans β hu1,λx hx=>by have:=hf x hx;simp at this;omega⟩
end Go.Proofs.YtnpdakpagnpanaaGreat
