/-
  Lemmas.
-/
import Derived.Lib.SliceRun
import Derived.IntWalk
import Derived.Deep.LoopGhost
import Derived.Test.YtnpdakpagnpanaaGreatE09
set_option linter.all false
set_option maxHeartbeats 8000000
set_option maxRecDepth 10000
namespace Go.Proofs.YtnpdakpagnpanaaGreat
open Tryz
def TL(A':NS)(h x:Nat)(G:BG):BG:=xG (bW A') A'.cs.length h [(x:Int)] G
def Yr(A':NS)(h x:Nat)(G:BG):Nat:=(kE (bW A') A'.cs.length G.F (G.R h) [(x:Int)]).q
def uH(G:BG)(b:Nat):BG:=⟨G.F,dm G.R b []⟩
def Bg(A':NS)(a b:Nat)(G:BG):BG:=xG (bW A') A'.cs.length a (G.R b) (uH G b)
def OX(A':NS)(a b:Nat)(G:BG):Nat:=(kE (bW A') A'.cs.length G.F (G.R a) (G.R b)).q
def JM(n:Nat)(F:CF):mq n F []:=⟨λx a=>(by cases a),List.Pairwise.nil⟩
def abS(n:Nat):CZ (NS.new n) BG.none:=by
 have d:=λy=>NS.uK n y;have f:(NS.new n).cs.length=n:=by simp[NS.new]
 refine⟨⟨by rw[f];exact VC n,λy p e b=>?_,λy p e b=>?_,λy e g=>⟨rfl,rfl⟩⟩,⟨λh=>JM _ _,λh y=>⟨λc=>(by cases c),λc=>?_⟩⟩,λh g=>?_⟩
 .have:(-1:Int)=p:=b;omega
 .have:(-1:Int)=p:=b;omega
 .have a:=c.2.2.2;rw[d] at a;simp[Cl.z] at a;omega
 .have:¬0<cZ (NS.new n) (h:Int):=λhp=>by
   obtain⟨y,_,a,i⟩:=fO.1 hp;rw[d] at a;simp[Cl.z] at a;omega
  show(0:Nat)=_
  omega
def aa3(A:NS)(y:Nat):(aO A).c y=A.c y:=by unfold aO;split<;>rfl
def OW(A:NS):(aO A).cs=A.cs:=by unfold aO;split<;>rfl
section
variable{A:NS}{G:BG}
def Yq(B:CZ A G):CZ (aO A) G:=by
 have a:=aa3 A;have hs:(aO A).cs.length=A.cs.length:=by rw[OW]
 refine ⟨⟨by rw [hs];exact B.fh.f,λy p b c=>by rw [a,a];exact B.fh.home y p (by rw [←hs];exact b) c,λy p b c=>(fC (a p) (a y)).2 (B.fh.ord y p (by rw [←hs];exact b) c),λy b d=>B.fh.alone y (by rw [←hs];exact b) (by rw [←a];exact d)⟩,
  ⟨λh=>by rw [hs];exact B.rh.row h,λh y=>by rw [hs,a];exact B.rh.mem h y⟩,λh d=>by rw [hs,PZ];exact B.w h d⟩
def acT{h x:Nat}(k s:Int)(B:CZ A G)(Y:A.Ok)(J:oF A h x=true):
  CZ (aN A h x k s) (TL (aN A h x k s) h x G)/\Yr (aN A h x k s) h x G+((TL (aN A h x k s) h x G).R h).length=(G.R h).length+1/\
   mq A.cs.length G.F [(x:Int)]/\(∀z,z∈G.R h->z∉[(x:Int)])/\(∀z,z∈G.R h\/z∈[(x:Int)]->bY (aN A h x k s) z=true)/\(aN A h x k s).cs.length=A.cs.length:=by
 obtain⟨L,M,D⟩:=(fB _ _ _).1 J;have Z:=(aF _ _).1 L;have m:x<A.cs.length:=by have:=(il _ _).1 M;omega
 have R:1<=h:=ω;have S:¬0<(A.c x).i:=λhp=>by rw[(aj _ _).2 ⟨m,hp⟩] at D;cases D
 have u:aN A h x k s=gu A x ⟨h,k,s⟩:=by unfold aN;rw[Δ J,π]
 have d:(aN A h x k s).cs.length=A.cs.length:=by rw[u];exact fM _ _ _
 have i:∀y,(aN A h x k s).c y=if y=x then⟨h,k,s⟩ else A.c y:=λy=>by
  rw[u,mg]
  grind
 have v:=B.fh.alone x m S
 have f:∀y p:Nat,y<A.cs.length->G.F.u y=p->y≠x/\p≠x:=λy p b g=>⟨λe=>by subst e;rw [v.1] at g;omega,λe=>by
  subst e;have:=(B.fh.f.above b g).2
  grind⟩
 have T:FH A.cs.length G.F (λy=>((aN A h x k s).c y).i) (dA (aN A h x k s)):=by
  refine⟨B.fh.f,λy p b g=>?_,λy p b g=>?_,λy b H=>?_⟩
  .obtain⟨n,o⟩:=f y p b g;rw[i,i,Γ n,Γ o];exact B.fh.home y p b g
  .obtain⟨n,o⟩:=f y p b g;exact(fC (by rw[i,Γ o]) (by rw[i,Γ n])).2 (B.fh.ord y p b g)
  .by_cases e:y=x
   .grind
   .rw[i,Γ e] at H;exact B.fh.alone y b H
 have j:∀y:Nat,y<A.cs.length->((aN A h x k s).c y).i=(h:Int)->bY (aN A h x k s) (y:Int)=true:=λy b e=>(aj _ _).2 ⟨ω,ω⟩;have E:mq A.cs.length G.F [(x:Int)]:=⟨λz c=>by simp at c;subst c;exact⟨ω,ω,by simpa using v.1⟩,List.pairwise_singleton _ _⟩;have F:∀z,z∈G.R h->z∉[(x:Int)]:=λz c l=>by
  simp at l;subst l;have:=((B.rh.mem h x).1 c).2.2.2;omega
 have l:∀y:Nat,y<A.cs.length/\G.F.u y=-1/\((aN A h x k s).c y).i=(h:Int)↔(y:Int)∈G.R h\/(y:Int)∈[(x:Int)]:=λy=>by
  rw[B.rh.mem h y]
  grind
 obtain ⟨N,O,P,Q⟩:=zQ (G:=G) (lt:=bW (aN A h x k s)) (h:=h) T Y.c1 (nH _) (λy p b hp r t f X=>yO (j y b r) (j p hp t) f X) R B.rh.row (λq y I=>by
  rw[B.rh.mem q y]
  by_cases e:y=x
  .subst e;rw[i,Δ rfl];constructor
   .rintro⟨K,_,_,C⟩;omega
   .rintro⟨K,_,_,C⟩;simp only at C;omega
  .rw [i,Γ e]) l E F
 unfold TL Yr;rw[d];refine⟨⟨by rw[d];exact N,by rw[d];exact O,λq I=>?_⟩,by simpa using Q,E,F,λz c=>?_,rfl⟩
 .rw[d,P q];have a:=oH A x ⟨h,k,s⟩ (q:Int) m;rw[←u] at a;rw[Γ ω] at a;have U:wt A.cs.length G.F [(x:Int)]=1:=by
   unfold wt;simp only[List.map_cons,List.map_nil,List.sum_cons,List.sum_nil];rw[fP _ _ m,v.2];rfl
  have wq:=B.w q I
  by_cases e:q=h
  .subst e;rw[Δ ⟨rfl,ω⟩] at a;rw[Δ rfl,U];omega
  .rw[Γ (λh=>e (by have:=h.1;simp only at this;omega))] at a;rw[Γ e];omega
 .have w:∃y:Nat,z=y/\y<A.cs.length/\((aN A h x k s).c y).i=(h:Int):=by
   rcases c with c|c
   .have W:=(B.rh.row h).1 z c;obtain⟨y,rfl⟩:=Int.eq_ofNat_of_zero_le W.1;have:=(l y).2 (Α c);exact⟨y,rfl,this.1,this.2.2⟩
   .simp at c;subst c;have:=(l x).2 (Β σ);exact⟨x,rfl,this.1,this.2.2⟩
  obtain⟨y,rfl,r,t⟩:=w;exact j y r t
def YK{a b:Nat}(B:CZ A G)(I:A.Ok)(r:fQ A a b=true):
  CZ (az A a b) (Bg (az A a b) a b G)/\OX (az A a b) a b G+((Bg (az A a b) a b G).R a).length=(G.R a).length+(G.R b).length/\
   (∀z,z∈G.R a->z∉G.R b)/\(∀z,z∈G.R a\/z∈G.R b->bY (az A a b) z=true):=by
 obtain⟨J,K,L⟩:=(dI _ _ _).1 r;have X:=(aF _ _).1 J;have Y:=(aF _ _).1 K;have u:a≠b:=λe=>L (by rw[e]);have m:1<=a:=ω;have f:=eU A (a:Int) (b:Int);have v:∀y:Nat,y<A.cs.length->((az A a b).c y).i=if(A.c y).i=b then(a:Int) else(A.c y).i:=λy d=>by
  rw[pO r]
  grind
 have P:FH A.cs.length G.F (λy=>((az A a b).c y).i) (dA (az A a b)):=by
  refine⟨B.fh.f,λy p d o=>?_,λy p d o=>?_,λy d C=>?_⟩
  .have hp:=(B.fh.f.above d o).1;have e:(A.c y).i=(A.c p).i/\0<(A.c y).i:=B.fh.home y p d o
   grind
  .exact(oW r p y).2 (B.fh.ord y p d o)
  .rw[v y d] at C
   split at C
   .omega
   .exact B.fh.alone y d C
 have i:∀y:Nat,y<A.cs.length->((az A a b).c y).i=(a:Int)->bY (az A a b) (y:Int)=true:=λy d e=>(aj _ _).2 ⟨ω,ω⟩;have g:(uH G b).R a=G.R a:=by unfold uH dm;simp only[Γ u]
 have F:∀z,z∈G.R a->z∉G.R b:=λz c n=>by
  have Q:=(B.rh.row a).1 z c;obtain⟨y,rfl⟩:=Int.eq_ofNat_of_zero_le Q.1;have Z:=((B.rh.mem a y).1 c).2.2.2;have w:=((B.rh.mem b y).1 n).2.2.2;omega
 have n:∀y:Nat,y<A.cs.length/\G.F.u y=-1/\((az A a b).c y).i=(a:Int)↔(y:Int)∈G.R a\/(y:Int)∈G.R b:=λy=>by
  rw[B.rh.mem a y,B.rh.mem b y]
  grind
 obtain⟨M,N,O,E⟩:=zQ (G:=uH G b) (lt:=bW (az A a b)) (h:=a) (l:=G.R b) P I.c1 (nH _) (λy p d hp T U D W=>yO (i y d T) (i p hp U) D W) m
  (λq=>by
   unfold uH dm;simp only
   split
   .exact JM _ _
   .exact B.rh.row q) (λq y H=>by
   unfold uH dm;simp only
   by_cases e:q=b
   .grind
   .rw[Γ e,B.rh.mem q y];constructor
    .rintro⟨s,j,t,k⟩;exact⟨s,j,t,by rw[v y j,Γ ω];exact k⟩
    .rintro⟨s,j,t,k⟩;rw[v y j] at k
     split at k
     .omega
     .exact ⟨s,j,t,k⟩) (λy=>by rw [g];exact n y) (B.rh.row b) (λz c=>by rw [g] at c;exact F z c)
 rw[g] at E;unfold Bg OX;rw[f];refine⟨⟨by rw[f];exact M,by rw[f];exact N,λq H=>?_⟩,E,F,λz c=>?_⟩
 .rw[f,O q,Fp I r (q:Int)];have R:=B.w q H;have wa:=B.w a m;have wb:=B.w b ω;have S:(uH G b).F=G.F:=rfl;rw[g,S]
  by_cases e:q=a
  .rw[Δ e,Δ ω];omega
  .rw[Γ e,Γ ω]
   by_cases w:q=b
   .subst w;rw[Δ rfl];unfold uH dm;simp only[if_true]
    rfl
   .rw[Γ ω];unfold uH dm;simp only[Γ w];exact R
 .have x:∃y:Nat,z=y:=by
   rcases c with c|c
   .exact⟨z.toNat,by have:=(B.rh.row a).1 z c;omega⟩
   .exact⟨z.toNat,by have:=(B.rh.row b).1 z c;omega⟩
  obtain⟨y,rfl⟩:=x;have:=(n y).2 c;exact i y this.1 this.2.2
def WX(B:CZ A G):∀(m y:Nat),A.cs.length<=m+(G.F.k y).length->y<A.cs.length->0<(A.c y).i->∃T,T<A.cs.length/\G.F.u T=-1/\(A.c T).i=(A.c y).i/\(T=y\/dA A T y)
 |m,y,hm,hy,hh=>by
  rcases B.fh.f.up y hy with h1|⟨p,hp,h1,h2⟩
  .exact⟨y,hy,h1,rfl,Α rfl⟩
  .have hd:=B.fh.f.P7 hy h1;have hl:=B.fh.f.len hp;have ho:(A.c y).i=(A.c p).i/\0<(A.c y).i:=B.fh.home y p hy h1
   match m,hm with
   |0,hm=>omega
   |m+1,hm=>
    obtain⟨T,t1,t2,t3,t4⟩:=WX B m p ω hp ω;refine⟨T,t1,t2,by rw[t3,ho.1],Β ?_⟩;have hl:=B.fh.ord y p hy h1;rcases t4 with e|e
    .rw[e];exact hl
    .exact dH e hl
def nK(lt:Int->Int->Bool):Int->List Int->Int
 |b,[]=>b
 |b,x::t=>nK lt (if lt x b then x else b) t
def BJ(lt:Int->Int->Bool):∀(l:List Int) (b:Int),nK lt b l∈b::l
 | [],b=>by simp[nK]
 |x::t,b=>by
  have key:∀c,nK lt c t∈c::t:=λc=>BJ lt t c;unfold nK;cases e:lt x b with
  |true=>
   rw[Δ rfl];exact Λ _ (key x)
  |false=>
   rw[Γ σ];rcases ρ.1 (key b) with h|h
   .rw[h];simp
   .exact Λ _ (Λ _ h)
def Ao{lt:Int->Int->Bool}{P:Int->Prop}(tr:∀a b c,P a->P b->P c->lt a b=true->lt b c=true->lt a c=true)(k:∀a b,P a->P b->a≠b->lt a b=false->lt b a=true):
  ∀(l:List Int) (b:Int),P b->(∀x,x∈l->P x)->∀x,x∈b::l->x=nK lt b l\/lt (nK lt b l) x=true
 | [],b,_,_,x,d=>by simp at d;subst d;exact Α rfl
 |y::t,b,hb,hl,x,d=>by
  have m:=hl y σ;have q:=λz p=>hl z (Λ _ p);unfold nK;have n:P (if lt y b then y else b):=by split;exact m;exact hb
  have g:=Ao tr k t (if lt y b then y else b) n q;have o:P (nK lt (if lt y b then y else b) t):=by
   rcases ρ.1 (BJ lt t (if lt y b then y else b)) with e|e
   .rw[e];exact n
   .exact q _ e
  have f:∀z,P z->lt (if lt y b then y else b) z=true->z=nK lt (if lt y b then y else b) t\/lt (nK lt (if lt y b then y else b) t) z=true:=λz p h=>by
   rcases g _ (List.mem_cons_self) with e|e
   .rw[←e];exact Β h
   .exact Β (tr _ _ _ o n p e h)
  by_cases e:lt y b=true
  .rw[Δ e] at g f ⊢;rcases ρ.1 d with i|d
   .subst i;exact f x hb e
   .exact g x d
  .rw[Γ e] at g f ⊢;have e:lt y b=false:=by simpa using e
   rcases ρ.1 d with i|d
   .subst i;exact g x σ
   .rcases ρ.1 d with i|d
    .subst i
     by_cases j:x=b
     .subst j;exact g x σ
     .exact f x m (k x b m hb j e)
    .exact g x (Λ _ d)
def Xl(B:CZ A G){h:Nat}{z:Int}(a:z∈G.R h):∃y:Nat,z=y/\y<A.cs.length/\bY A z=true/\(A.c y).i=h/\G.F.u y=-1:=by
 have b:=(B.rh.row h).1 z a;obtain⟨y,rfl⟩:=Int.eq_ofNat_of_zero_le b.1;have:=(B.rh.mem h y).1 a;have c:(A.c y).i=h:=this.2.2.2;exact⟨y,rfl,this.2.1,(aj _ _).2 ⟨this.2.1,ω⟩,c,this.2.2.1⟩
def Us(B:CZ A G){h:Nat}(d:1<=h){x:Int}{t:List Int}(w:G.R h=x::t):∃m:Nat,nK (bW A) x t=m/\dB A (h:Int)=some m/\m<A.cs.length/\G.F.u m=-1/\(A.c m).i=h:=by
 have f:∀z,z∈x::t->∃y:Nat,z=y/\y<A.cs.length/\bY A z=true/\(A.c y).i=h/\G.F.u y=-1:=λz l=>Xl B (by rw[w];exact l);obtain⟨m,e,r,N,s,C⟩:=f _ (BJ (bW A) t x);refine⟨m,e,(jB ω).2 ⟨r,s,λy K L=>?_⟩,r,C,s⟩
 have F:=Ao (lt:=bW A) (P:=λz=>∃y:Nat,z=y/\bY A z=true) (λa b c n o M d k=>by
  obtain⟨a,rfl,_⟩:=n;obtain⟨b,rfl,_⟩:=o;obtain⟨c,rfl,_⟩:=M;rw[mZ] at d k ⊢;simp only[Τ,Ο] at d k ⊢;exact⟨⟨d.1.1,k.1.2⟩,dH d.2 k.2⟩) (λa b n o p d=>by
  obtain⟨a,rfl,u⟩:=n;obtain⟨b,rfl,v⟩:=o;have:=yO u v (λe=>p (by rw[e])) d;rw[mZ,u,v]
  simpa using this) t x (by obtain ⟨y,e,_,i,_⟩:=f x σ;exact ⟨y,e,i⟩) (λz l=>by obtain ⟨y,e,_,i,_⟩:=f z (Λ _ l);exact ⟨y,e,i⟩)
 obtain⟨T,D,E,H,I⟩:=WX B A.cs.length y ω K ω;have J:(T:Int)∈x::t:=by rw[←w];exact(B.rh.mem h T).2 ⟨d,D,E,by rw[H];exact L⟩
 have g:T=m\/dA A m T:=by
  rcases F _ J with j|j
  .grind
  .rw[e,mZ] at j
   grind
 rcases I with q|q
 .subst q;exact g
 .rcases g with j|j
  .grind
  .exact Β (dH j q)
def OE(B:CZ A G){h:Nat}(a:1<=h)(b:G.R h=[]):dB A (h:Int)=none:=by
 have:=B.w h a;rw[b] at this;exact(jV ω).2 this.symm
end


open Go Go.RowKit

def GD:VI 126 "Ahead" 164:=by intro p c W h;unfold method;obtain⟨m,h1,h2,h3,h4⟩:=xA Tryz.t126.methods "Ahead" [⟨185,0,true⟩] 164 (by kernel_rfl);exact xD
def bnO(A:NS)(p c:Nat)(F:List Nat)(st:Nat):wS where
 ty:=126
 p:=p
 rd:=p::c::F
 wr:=[c]
 lt:=bW A
 dom:=λx=>bY A x=true
 at_:=λw q=>p<w.heap.size/\p∉c::F/\w.cell? p=some (c:V)/\aD w c F A (dw st q)
 sub:=λx hx=>by simp at hx;subst hx;simp
 low:=λ{w q} h x hx=>by
  obtain⟨h1,h2,h3,h4⟩:=h;rcases ρ.1 hx with rfl|hx
  .exact h1
  .rcases ρ.1 hx with rfl|hx
   .exact h4.lt _ h4.mem
   .exact h4.lt _ hx
 upd:=λ{w w' S q} h hu hS=>by
  obtain⟨h1,h2,h3,h4⟩:=h;exact⟨Ψ h1 hu.size,h2,hu.kept h3 (λhm=>hS _ hm σ),h4.upd hu (λx hx hm=>hS x hx (by simp[hm]))⟩
 asym:=nH A
 ahead:=λ{w q} x y h hx hy hq=>by
  obtain⟨h1,h2,h3,h4⟩:=h;obtain⟨a,rfl⟩:=sO hx;obtain⟨b,rfl⟩:=sO hy;refine dQ 164 (λ_ _=>by kernel_rfl) h3 (GD p c) (λW hW=>?_);refine(fA (h4.ag hW) a b hx hy).mono ?_;rintro e w' ⟨rfl,hC,hu⟩;refine⟨by rw[mZ,hx,hy];simp,⟨Ψ h1 (Χ hW.size hu.size),h2,hu.kept (hW.was h3) (λhm=>h2 (by simp at hm;simp[hm])),by rw[←je];exact hC⟩,hu⟩
structure BB where
 n0:Nat
 c:Nat
 bt:Nat
 ba:Nat
structure iZ(w:World)(B:BB)(F:List Nat)(gr cr lo:Nat)(A:NS)(st:Nat)(S:CS)(vs:List Value)(R:Nat->List Int):Prop where
 head:aQ w B.n0 185 3 (λj=>[Value.pointer (some B.c),.pointer (some B.bt),.slice (some gr) vs.length cr].getD j undef)
 cells:aD w B.c F A st
 jG:bu w B.bt B.ba lo A.cs.length S
 rows:w.ownsRow 0 77 1 (.slice (some gr) vs.length cr) vs.length vs
 len:vs.length=A.hs.length
 each:∀h,h<vs.length->bB w 0 (vs.getD h undef) (R h)
 d1:B.n0∉F/\B.bt∉F/\B.ba∉F/\gr∉F
 d2:B.n0≠B.bt/\B.n0≠B.ba/\B.n0≠gr/\B.bt≠gr/\B.ba≠gr
 d3:∀g,g∈S.blk A.cs.length->g≠B.n0/\g≠gr/\g∉F
 d4:∀h g,h<vs.length->(vs.getD h undef).ownBlock=some g->g≠B.n0/\g≠B.bt/\g≠B.ba/\g≠gr/\g∉F/\g∉S.blk A.cs.length
 d5:∀h k g,h<vs.length->k<vs.length->h≠k->(vs.getD h undef).ownBlock=some g->(vs.getD k undef).ownBlock≠some g
def aci(vs:List Value):List Nat:=vs.filterMap Value.ownBlock
def jN{vs:List Value}{g:Nat}:g∈aci vs↔∃h,h<vs.length/\(vs.getD h undef).ownBlock=some g:=by
 unfold aci;rw[List.mem_filterMap];constructor
 .rintro⟨v,a,e⟩;obtain⟨i,b,rfl⟩:=List.getElem_of_mem a;exact⟨i,b,by grind⟩
 .grind
def BB.blk(B:BB)(F:List Nat)(gr n:Nat)(S:CS)(vs:List Value):List Nat:=B.n0::B.bt::B.ba::gr::(F++(S.blk n++aci vs))
def zI(vs:List Value)(h k:Nat)(v:Value):(vs.set h v).getD k undef=if k=h/\h<vs.length then v else vs.getD k undef:=by
 grind
section
variable{w:World}{B:BB}{F:List Nat}{gr cr lo:Nat}{A:NS}{st:Nat}{S:CS}{vs:List Value}{R:Nat->List Int}
def iZ.Jj(h:iZ w B F gr cr lo A st S vs R):gr<w.heap.size:=(h.rows.lt gr rfl).2
def iZ.zw(h:iZ w B F gr cr lo A st S vs R){q g:Nat}(a:q<vs.length)(e:(vs.getD q undef).ownBlock=some g):g<w.heap.size:=((h.each q a).lt g e).2
def iZ.lt(h:iZ w B F gr cr lo A st S vs R):∀x,x∈B.blk F gr A.cs.length S vs->x<w.heap.size:=by
 intro x a;have c:=h.head.lt;have d:=h.jG.head.lt;have f:=h.jG.row.lt;have g:=h.Jj;simp only[BB.blk,ρ,τ] at a;rcases a with rfl|rfl|rfl|rfl|a|a|a
 .exact c
 .exact d
 .exact f
 .exact g
 .exact h.cells.lt x a
 .exact(h.jG.pq a).2
 .obtain⟨q,b,e⟩:=jN.1 a;exact h.zw b e
def iZ.h0(h:iZ w B F gr cr lo A st S vs R):w.cell? B.n0=some (B.c:V):=h.head.cellAt 0 ω rfl
def iZ.h1(h:iZ w B F gr cr lo A st S vs R):w.cell? ⟨B.n0,1,none⟩=some (B.bt:V):=h.head.cellAt 1 ω rfl
def iZ.h2(h:iZ w B F gr cr lo A st S vs R):w.cell? ⟨B.n0,2,none⟩=some (.slice (some (gr:Nat)) vs.length cr):=h.head.cellAt 2 ω rfl
def iZ.Pz(h:iZ w B F gr cr lo A st S vs R){q:Nat}(a:q<vs.length):w.cell? ⟨gr,q,none⟩=some (vs.getD q undef):=by
 rw[h.rows.cellAt q ω]
 grind
def iZ.acr(h:iZ w B F gr cr lo A st S vs R)(q:Nat):w.frozen? ⟨gr,q,none⟩=false:=h.rows.frozenAt q
def iZ.vlen(h:iZ w B F gr cr lo A st S vs R):vs.length<=65537:=by rw[h.len];exact h.cells.ok.h1
def iZ.cn(h:iZ w B F gr cr lo A st S vs R):B.n0≠B.c/\gr≠B.c/\B.bt≠B.c/\B.ba≠B.c:=by
 have a:=h.cells.mem;exact⟨λe=>h.d1.1 (e▸a),λe=>h.d1.2.2.2 (e▸a),λe=>h.d1.2.1 (e▸a),λe=>h.d1.2.2.1 (e▸a)⟩
def iZ.upd{w':World}{G:List Nat}(h:iZ w B F gr cr lo A st S vs R)(b:ae G w w')(e:∀x,x∈G->x∉B.blk F gr A.cs.length S vs):iZ w' B F gr cr lo A st S vs R:=by
 have k:∀x,x∈B.blk F gr A.cs.length S vs->x∉G:=λx c a=>e x a c;refine⟨h.head.upd b (k _ (by simp[BB.blk])),h.cells.upd b (λx c f=>e x c (by simp[BB.blk,f])),h.jG.upd b (k _ (by simp[BB.blk])) (k _ (by simp[BB.blk])) (λg a=>k _ (by simp[BB.blk,a])),au h.rows b (λg a=>by simp[Value.ownBlock] at a;subst a;exact k _ (by simp[BB.blk])),h.len,λq d=>(h.each q d).upd b (λg a=>k _ ?_),h.d1,h.d2,h.d3,h.d4,h.d5⟩;simp only[BB.blk,ρ,τ];exact Β (Β (Β (Β (Β (Β (jN.2 ⟨q,d,a⟩))))))
def iZ.ag{w':World}(h:iZ w B F gr cr lo A st S vs R)(a:ae [] w w'):iZ w' B F gr cr lo A st S vs R:=h.upd a σ
def iZ.cK{w':World}{F':List Nat}{A':NS}{d:Nat}(h:iZ w B F gr cr lo A st S vs R)(i:ae F w w')(s:aD w' B.c F' A' d)(t:∀x,x∈F'->x∈F\/w.heap.size<=x)(j:A'.cs.length=A.cs.length)(u:A'.hs.length=A.hs.length):iZ w' B F' gr cr lo A' d S vs R:=by
 have f:=h.d1;have g:=h.lt;have b:∀x,x<w.heap.size->x∉F->x∉F':=λx a p r=>by rcases t x r with k|k;exact p k;omega
 have l:=g B.n0 (by simp[BB.blk]);have m:=g B.bt (by simp[BB.blk]);have n:=g B.ba (by simp[BB.blk]);have o:=g gr (by simp[BB.blk])
 refine ⟨h.head.upd i f.1,s,by rw [j];exact h.jG.upd i f.2.1 f.2.2.1 (λx a=>(h.d3 x a).2.2),au h.rows i (λg e=>by simp [Value.ownBlock] at e;subst e;exact f.2.2.2),by rw [u];exact h.len,
  λq c=>(h.each q c).upd i (λg e=>(h.d4 q g c e).2.2.2.2.1),⟨b _ l f.1,b _ m f.2.1,b _ n f.2.2.1,b _ o f.2.2.2⟩,h.d2,λx a=>?_,λq x c a=>?_,h.d5⟩
 .rw[j] at a;have:=h.d3 x a;exact⟨this.1,this.2.1,b x (h.jG.pq a).2 this.2.2⟩
 .have:=h.d4 q x c a;rw[j];exact⟨this.1,this.2.1,this.2.2.1,this.2.2.2.1,b x (h.zw c a) this.2.2.2.2.1,this.2.2.2.2.2⟩
def iZ.fH{w':World}{l:CS}{i:Nat}(h:iZ w B F gr cr lo A st S vs R)(m:ae (B.c::B.ba::S.blk A.cs.length) w w')(o:aD w' B.c F A i)(p:bu w' B.bt B.ba lo A.cs.length l)(n:∀g,g∈l.blk A.cs.length->g∈S.blk A.cs.length\/w.heap.size<=g):iZ w' B F gr cr lo A i l vs R:=by
 have d:=h.cn;have g:=h.lt;have r:=g B.n0 (by simp[BB.blk]);have s:=g gr (by simp[BB.blk]);have k:∀x,x≠B.c->x≠B.ba->x∉S.blk A.cs.length->x∉B.c::B.ba::S.blk A.cs.length:=λx t u v b=>by
  grind
 have f:∀q x,q<vs.length->(vs.getD q undef).ownBlock=some x->x∉B.c::B.ba::S.blk A.cs.length:=λq x c a=>by
  have:=h.d4 q x c a;exact k x (λe=>this.2.2.2.2.1 (e▸h.cells.mem)) this.2.2.1 this.2.2.2.2.2
 refine⟨h.head.upd m (k _ d.1 h.d2.2.1 (λb=>(h.d3 _ b).1 rfl)),o,p,au h.rows m (λx a=>by simp[Value.ownBlock] at a;subst a;exact k _ d.2.1 (Ne.symm h.d2.2.2.2.2) (λb=>(h.d3 _ b).2.1 rfl)),h.len,λq c=>(h.each q c).upd m (λx a=>f q x c a),h.d1,h.d2,λx a=>?_,λq x c a=>?_,h.d5⟩
 .rcases n x a with j|j
  .exact h.d3 x j
  .exact⟨ω,ω,λb=>by have:=h.cells.lt x b;omega⟩
 .have:=h.d4 q x c a;refine⟨this.1,this.2.1,this.2.2.1,this.2.2.2.1,this.2.2.2.2.1,λb=>?_⟩;rcases n x b with j|j
  .grind
  .have:=h.zw c a;omega
def iZ.aaa{p:World}{K:List Nat}(h:iZ w B F gr cr lo A st S vs R)(q:Nat)(t:q<vs.length)(c:ae K w p)(u:∀g,g∈K->(vs.getD q undef).ownBlock=some g)(v:Value)(X:List Int)(y:bB p 0 v X)
  (f:∀g,v.ownBlock=some g->(g≠B.n0/\g≠B.bt/\g≠B.ba/\g≠gr/\g∉F/\g∉S.blk A.cs.length)/\∀k,k<vs.length->k≠q->(vs.getD k undef).ownBlock≠some g):
  iZ (p.setCell ⟨gr,q,none⟩ v) B F gr cr lo A st S (vs.set q v) (dm R q X):=by
 have o:ae [gr] p (p.setCell ⟨gr,q,none⟩ v):=β;have l:∀g,g∈K->g≠B.n0/\g≠B.bt/\g≠B.ba/\g≠gr/\g∉F/\g∉S.blk A.cs.length:=λg f=>h.d4 q g t (u g f);have e:∀k,k<vs.length->(vs.set q v).getD k undef=if k=q then v else vs.getD k undef:=λk b=>by
  grind
 refine ⟨by rw [Ι];exact (h.head.upd c (λa=>(l _ a).1 rfl)).upd o (by simp;exact h.d2.2.2.1),(h.cells.upd c (λx m=>(l x m).2.2.2.2.1)).upd o (λx m a=>by simp at m;subst m;exact h.d1.2.2.2 a),
  (h.jG.upd c (λa=>(l _ a).2.1 rfl) (λa=>(l _ a).2.2.1 rfl) (λg f a=>(l g a).2.2.2.2.2 f)).upd o (by simp;exact h.d2.2.2.2.1) (by simp;exact h.d2.2.2.2.2) (λx m a=>by simp at a;exact(h.d3 x m).2.1 a),
  by rw [Ι];exact kQ (au h.rows c (λg f a=>by simp [Value.ownBlock] at f;subst f;exact (l _ a).2.2.2.1 rfl)) q v,by rw [Ι];exact h.len,λk b=>?_,h.d1,h.d2,h.d3,λk g b i=>?_,λk j g b r s i=>?_⟩
 .rw[Ι] at b;rw[e k b];unfold dm
  by_cases n:k=q
  .rw[Δ n,Δ n];exact y.upd o (λg d a=>by grind)
  .rw[Γ n,Γ n];exact((h.each k b).upd c (λg d a=>h.d5 k q g b t n d (u g a))).upd o (λg d a=>by simp at a;exact(h.d4 k g b d).2.2.2.1 a)
 .rw[Ι] at b;rw[e k b] at i
  split at i
  .exact(f g i).1
  .exact h.d4 k g b i
 .rw[Ι] at b r;rw[e k b] at i;rw[e j r]
  split at i
  .grind
  .rename_i n
   split
   .grind
   .exact h.d5 k j g b r s i
def iZ.Da(h:iZ w B F gr cr lo A st S vs R)(q:Nat)(a:q<vs.length)(v:Value)(X:List Int)(b:bB w 0 v X)
  (c:∀g,v.ownBlock=some g->(g≠B.n0/\g≠B.bt/\g≠B.ba/\g≠gr/\g∉F/\g∉S.blk A.cs.length)/\∀k,k<vs.length->k≠q->(vs.getD k undef).ownBlock≠some g):
  iZ (w.setCell ⟨gr,q,none⟩ v) B F gr cr lo A st S (vs.set q v) (dm R q X):=h.aaa (K:=[]) q a (ae.refl _ _) σ v X b c
def iZ.af2{b:World}(h:iZ w B F gr cr lo A st S vs R)(q:Nat)(c:q<vs.length)(i:ae (vs.getD q undef).ownBlock.toList w b)(v:Value)(X:List Int)(j:bB b 0 v X)(l:v.ownBlock=(vs.getD q undef).ownBlock):
  iZ (b.setCell ⟨gr,q,none⟩ v) B F gr cr lo A st S (vs.set q v) (dm R q X):=
 h.aaa q c i (λg d=>by grind) v X j (λg d=>⟨h.d4 q g c (by grind),λk f a e=>h.d5 k q g f c a e (by grind)⟩)
end
def bB.sl{w:World}{base:Nat}{F:List Nat}{v:Value}{xs:List Int}(h:bB w base v xs)(i:∀g,v.ownBlock=some g->g∉F):lS w F v xs:=by
 obtain⟨a,cap,rfl,b,c,d⟩:=h.shape;refine⟨a,cap,rfl,b,c,λj u f=>?_⟩;obtain⟨g,off,rfl,e⟩:=d j u f;exact⟨g,off,rfl,(h.lt g rfl).2,i g rfl,e⟩
section
variable{w:World}{B:BB}{F:List Nat}{gr cr lo:Nat}{A:NS}{st:Nat}{S:CS}{vs:List Value}{R:Nat->List Int}
def iZ.shape(h:iZ w B F gr cr lo A st S vs R){q:Nat}(b:q<vs.length):∃a cap,vs.getD q undef=.slice a (R q).length cap/\(R q).length<=cap/\cap<=9223372036854775807:=by
 obtain⟨a,cap,e,c,d,_⟩:=(h.each q b).shape
 grind
def iZ.hq(h:iZ w B F gr cr lo A st S vs R){q:Int}(a:aW A q=true):∃k:Nat,q=k/\1<=k/\k<vs.length:=by
 have:=(aF _ _).1 a;have e:=h.len
 grind
def Vu(M:iZ w B F gr cr lo A st S vs R)(q:Nat)(b:aW A q=true){a:Option Addr}{n cap:Nat}(c:vs.getD q undef=.slice a n cap):
  Calls prog 178 #[B.n0,(q:Int)] w λe w'=>e=.returned (.slice a n cap)/\w'=w:=by
 have k:=jQ M.cells (q:Int);rw[b] at k;have h:=M.h0;have i:=M.h2;obtain⟨f,e,_,g⟩:=M.hq b;obtain rfl:q=f:=ω;have d:=M.Pz g;rw[c] at d;have j:(0:Int)<=(q:Int):=ω;have l:(q:Int)<(vs.length:Int):=ω;clear M b c e
 go_enter func178,ntmps178
 go_wp2_with (((with_reducible refine aP k ?_)))
 go_ret;exact⟨rfl,rfl⟩
def Ya(M:iZ w B F gr cr lo A st S vs R)(q:Int)(a:aW A q=false):
  Calls prog 178 #[B.n0,q] w λe w'=>e=.returned (.slice none 0 0)/\w'=w:=by
 have k:=jQ M.cells q;rw[a] at k;have b:=M.h0;clear M a
 go_enter func178,ntmps178
 go_wp2_with (((with_reducible refine aP k ?_)))
 go_ret;exact⟨rfl,rfl⟩
def iZ.ord(M:iZ w B F gr cr lo A st S vs R):(bnO A B.n0 B.c F st).at_ w 0:=by
 have h:=M.cells.oG;refine⟨M.head.lt,?_,M.h0,by rw[fG h];exact M.cells⟩;simp only[ρ,not_or];exact⟨M.cn.1,M.d1.1⟩
def iZ.apart(M:iZ w B F gr cr lo A st S vs R):Apart (bnO A B.n0 B.c F st) B.bt B.ba A.cs.length S:=by
 have a:=M.cn;refine⟨?_,?_,λg b=>?_⟩
 .show B.bt∉B.n0::B.c::F
  simp only[ρ,not_or];exact⟨Ne.symm M.d2.1,a.2.2.1,M.d1.2.1⟩
 .show B.ba∉B.n0::B.c::F
  simp only[ρ,not_or];exact⟨Ne.symm M.d2.2.1,a.2.2.2,M.d1.2.2.1⟩
 .show g∉B.n0::B.c::F
  have:=M.d3 g b;simp only[ρ,not_or];exact⟨this.1,λe=>this.2.2 (e▸M.cells.mem),this.2.2⟩
def Mv(M:iZ w B F gr cr lo A st S vs R)(y:qD A.cs.length S.f){m vl:Value}{X L:List Int}(o:lS w (B.c::B.ba::S.blk A.cs.length) m X)(p:lS w (B.c::B.ba::S.blk A.cs.length) vl L)
  (C:mq A.cs.length S.f X) (D:mq A.cs.length S.f L) (E:∀x,x∈X->x∉L) (h:∀z,z∈X\/z∈L->bY A z=true):
  Calls prog 185 #[B.bt,.iface 126 (.pointer (some B.n0)),m,vl] w λe w'=>
   ∃b c,e=.returned (.tuple #[c,true])/\b.f=(kE (bW A) A.cs.length S.f X L).F/\iZ w' B F gr cr lo A (dw st (kE (bW A) A.cs.length S.f X L).q) b vs R/\bB w' w.heap.size c (kE (bW A) A.cs.length S.f X L).O/\
    ae (B.c::B.ba::S.blk A.cs.length) w w'/\(∀g,g∈b.blk A.cs.length->g∈S.blk A.cs.length\/w.heap.size<=g)/\(∀g,c.ownBlock=some g->g∉b.blk A.cs.length)/\∃a n cap,c=.slice a n cap:=by
 refine(SE (bnO A B.n0 B.c F st) B.bt B.ba lo A.cs.length S m vl X L 0 w ⟨M.jG,M.ord,M.apart,M.jG.head.lt,y⟩ o p C D E (Nat.zero_le _) (λx f=>h x (Α f)) (λx f=>h x (Β f))).mono ?_;rintro e w' ⟨b,c,O,t,rfl,d,i,u,q,G,r,s,f⟩;obtain⟨j,k,l⟩:=abA u (nH A) M.jG.le i;have j:(kE (bW A) A.cs.length S.f X L).F=b.f:=j;have k:(kE (bW A) A.cs.length S.f X L).O=O:=k;have l:(kE (bW A) A.cs.length S.f X L).q=t:=l;rw[j,k,l];obtain⟨a,cap,v,_⟩:=q.shape;exact⟨b,c,rfl,rfl,M.fH r d.l.2.2.2 d.f s,q,r,s,f,a,_,cap,v⟩
def Ck(M:iZ w B F gr cr lo A st S vs R)(ok:qD A.cs.length S.f)(q:Nat)(j:q<vs.length){vl:Value}{L:List Int}(l:lS w (B.c::B.ba::S.blk A.cs.length) vl L)
  (Q:mq A.cs.length S.f (R q)) (T:mq A.cs.length S.f L) (U:∀x,x∈R q->x∉L) (m:∀z,z∈R q\/z∈L->bY A z=true):
  Calls prog 177 #[B.n0,(q:Int),vl] w λe w'=>
   ∃H o,e=.returned (.tuple #[])/\H.f=(kE (bW A) A.cs.length S.f (R q) L).F/\iZ w' B F gr cr lo A (dw st (kE (bW A) A.cs.length S.f (R q) L).q) H (vs.set q o) (dm R q (kE (bW A) A.cs.length S.f (R q) L).O)/\
    ae (B.c::B.ba::gr::S.blk A.cs.length) w w'/\(∀g,g∈H.blk A.cs.length->g∈S.blk A.cs.length\/w.heap.size<=g)/\(∀g,o.ownBlock=some g->w.heap.size<=g):=by
 have c:lS w (B.c::B.ba::S.blk A.cs.length) (vs.getD q undef) (R q):=(M.each q j).sl (λg f b=>by
  have:=M.d4 q g j f;simp only[ρ] at b;rcases b with e|e|e
  .exact this.2.2.2.2.1 (e▸M.cells.mem)
  .exact this.2.2.1 e
  .grind)
 have K:=λW (h:ae [] w W)=>Mv (M.ag h) ok (c.upd h σ) (l.upd h σ) Q T U m;obtain⟨a,cap,u,_⟩:=M.shape j;obtain⟨a2,cap2,v,_⟩:=l;subst v;rw[u] at K;have h1:=M.h1;have N:=M.h2;have d:=M.Pz j;rw[u] at d;have df:=M.acr q;have i:=M.cn;have D:∀x,x≠B.c->x≠B.ba->x∉S.blk A.cs.length->x∉B.c::B.ba::S.blk A.cs.length:=λx h1 N h3 b=>by
  grind
 have n0:B.n0∉B.c::B.ba::S.blk A.cs.length:=D _ i.1 M.d2.2.1 (λb=>(M.d3 _ b).1 rfl);have O:gr∉B.c::B.ba::S.blk A.cs.length:=D _ i.2.1 (Ne.symm M.d2.2.2.2.2) (λb=>(M.d3 _ b).2.1 rfl);have r2:∀W,ae (B.c::B.ba::S.blk A.cs.length) w W->W.cell? ⟨B.n0,2,none⟩=some (.slice (some (gr:Nat)) vs.length cr):=λW h=>h.kept N n0;have r3:∀W,ae (B.c::B.ba::S.blk A.cs.length) w W->W.cell? ⟨gr,q,none⟩=some (.slice a (R q).length cap)/\W.frozen? ⟨gr,q,none⟩=false:=λW h=>⟨h.kept d O,h.ay d O df⟩
 have Cq:(0:Int)<=(q:Int):=ω;have DV:(q:Int)<(vs.length:Int):=ω;have hgl:=M.Jj;have E:=χ M;clear M c Q T U m u i D;generalize hC:kE (bW A) A.cs.length S.f (R q) L=C at *;generalize I:(R q).length=rl at *;generalize J:L.length=n at *;clear hC I J
 go_enter func177,ntmps177
 go_wp2
 go_region_law
  (first
   | (go_simp;(with_reducible refine (K _ β).mono ?_);rintro e X ⟨Y,o,rfl,p,Z,r,qP,s,t,a5,n5,c5,rfl⟩;(have P:ae (B.c::B.ba::S.blk A.cs.length) w X:=ae.trans β qP);obtain ⟨q3,q4⟩:=r3 _ P))
 all_goals
  go_wp2;go_end0;refine⟨Y,_,rfl,p,Z.Da q j _ C.O (r.mono (Nat.zero_le _)) (λg f=>?_),(P.mono (λy hy=>?_)).setCell (Α σ) _,λg f=>?_,λg f=>?_⟩
  .have G:=(r.lt g f).1;have n:=E.out.lt;have hw:w.heap.size<=g:=G;refine⟨⟨?_,?_,?_,?_,λb=>?_,t g f⟩,λk hk hne e=>?_⟩
   .have:=n B.n0 (by simp[BB.blk]);omega
   .have:=n B.bt (by simp[BB.blk]);omega
   .have:=n B.ba (by simp[BB.blk]);omega
   .omega
   .have:=E.out.cells.lt g b;omega
   .have:=E.out.zw hk e;omega
  .grind
  .exact s g f
  .exact(r.lt g f).1
end
def bB.row{w:World}{base:Nat}{v:Value}{xs:List Int}(h:bB w base v xs)(b:xs≠[]):∃g off cap m f,v=.slice (some ⟨g,off,none⟩) xs.length cap/\base<=g/\aQ w g 3 m f/\xs.length<=cap/\cap<=9223372036854775807/\off+cap<=m/\∀j u,xs[j]?=some u->f (off+j)=.int .i64 u:=by
 rcases h with⟨_,e⟩|⟨g,off,cap,cur,rfl,hb,hg,h1,h2,h3,h4⟩
 .exact absurd e b
 .refine⟨g,off,cap,cur.size,λj=>cur.getD j undef,rfl,hb,⟨cur,hg,rfl,λj a=>by simp[a]⟩,h1,h2,h3,λj u a=>?_⟩;have:=h4 j u a;simp[Array.getD_eq_getD_getElem?,this]
def aQ.off{w:World}{base g off cap m:Nat}{f:Nat->Value}{ys:List Int}(h:aQ w g 3 m f)(e:base<=g)(i:ys.length<=cap)(k:cap<=9223372036854775807)(o:off+cap<=m)(p:∀j u,ys[j]?=some u->f (off+j)=.int .i64 u):bB w base (.slice (some ⟨g,off,none⟩) ys.length cap) ys:=by
 obtain⟨a,b,l,n⟩:=h;refine Β ⟨g,off,cap,a,rfl,e,b,i,k,ω,λj u d=>?_⟩;have c:j<ys.length:=(List.getElem?_eq_some_iff.1 d).1
 grind
def E8(w:World)(b:Nat)(x y:Int)(h:w.cell? b=some (x:V)):
  Calls prog 183 #[y,b] w λe w'=>e=.returned (.bool (x == y))/\w'=w:=by
 go_enter func183,ntmps183
 go_wp2;go_ret;exact⟨rfl,rfl⟩
def LG(w:World)(F:List Nat)(b:Nat)(v:Value)(c g:List Int)(x:Int)(h:lS w F v (c++x::g))(A:x∉c)(B:w.cell? b=some (x:V)):
  Calls prog 188 #[v,.func (Fn.func 183) #[] #[b]] w λe w'=>e=.returned (c.length:Int)/\w'=w:=by
 obtain⟨a,cap,rfl,C,D,hp⟩:=h;have s:=χ hp;clear hp;have t:∀q,q<c.length->(c++x::g)[q]?=c[q]?:=λq r=>Ρ r;have u:(c++x::g)[c.length]?=some x:=by rw[ϊ (Θ _)];simp
 have J:c.length<(c++x::g).length:=σ;generalize c++x::g=xs at *;generalize o:xs.length=p at *;have m:=χ (ψ A (ψ t u));have j:=λy=>E8 w b x y B;clear A t u B o;generalize z:c.length=k at *;have H:=χ z;clear z
 go_enter func188,ntmps188
 go_wp2
 go_loop [8] (λi=>∃q:Nat,q<=k/\i=.int .i64 (q:Int)) (λi=>k+1-(intOf i).toNat)
 case atStart=>exact⟨0,ω,rfl⟩
 case round=>
  obtain⟨q,r,rfl⟩:=hrel;have I:(q:Int)<(p:Int):=ω
  by_cases f:q<k
  .obtain⟨y,l⟩:∃y,c[q]?=some y:=⟨c[q]'(by rw[H.out];exact f),σ⟩;obtain⟨E,off,rfl,_,_,G⟩:=s.out q y (by rw[m.out.2.1 q f];exact l);have d:=j y;have n:(x == y)=false:=by
    have:x≠y:=λe=>m.out.1 (by rw[e];exact Η l);simpa using this
   rw[n] at d;clear l j
   go_wp2_with (((with_reducible refine aP d ?_)))
   go_round
   case rel=>exact⟨q+1,ω,by go_num⟩
   case measure=>simp[intOf];omega
  .obtain rfl:q=k:=ω;obtain⟨E,off,rfl,_,_,G⟩:=s.out q x m.out.2.2;have d:=j x;rw[show(x == x)=true by simp] at d;clear j
   go_wp2_with (((with_reducible refine aP d ?_)))
   go_ret;exact⟨rfl,rfl⟩
def Vs(w:World):(zeroValue 3).run prog w=.ok (.int .i64 0) w:=by kernel_rfl
def WN(w:World)(b base:Nat)(v:Value)(d i:List Int)(x:Int)(h:bB w base v (d++x::i))(P:x∉d)(Q:x∉i)(hb:w.cell? b=some (x:V))(R:v.ownBlock≠some b)(p:(d++x::i).length<=1000000):
  Calls prog 182 #[v,.func (Fn.func 183) #[] #[b]] w λe w'=>∃v',e=.returned v'/\bB w' base v' (d++i)/\v'.ownBlock=v.ownBlock/\ae v.ownBlock.toList w w'/\∃a n c,v'=.slice a n c:=by
 have ki:=LG w [] b v d i x (by
  obtain⟨a,cap,rfl,h1,h2,U⟩:=h.shape;refine⟨a,cap,rfl,h1,h2,λj u s=>?_⟩;obtain⟨g,off,rfl,hc⟩:=U j u s
  exact ⟨g,off,rfl,(h.lt g rfl).2,σ,hc⟩) P hb
 obtain⟨g,off,cap,m,f,rfl,W,hR,X,Y,E,hf⟩:=h.row σ;have G:b≠g:=λe=>R (by rw[e];rfl);have H:∀j,j<d.length->(d++x::i)[j]?=d[j]?:=λj s=>Ρ s;have I:∀j,d.length<j->(d++x::i)[j]?=i[j-(d.length+1)]?:=λj s=>by
  rw[ϊ ω,show j-d.length=(j-(d.length+1))+1 by omega,List.getElem?_cons_succ]
 have J:(d++x::i).length=d.length+i.length+1:=ζ;simp only[J] at X p ki ⊢;have K:∀j,j<d.length->(d++i)[j]?=d[j]?:=λj s=>Ρ s;have L:∀j,d.length<=j->(d++i)[j]?=i[j-d.length]?:=λj s=>ϊ s;have M:(d++i).length=d.length+i.length:=σ;have C:=χ (ψ hf (ψ H (ψ I (ψ K (ψ L M)))));have HR:=χ hR;have HN:=χ Q;clear h hf H I K L M P Q hR;generalize hk:d.length=k at *;generalize hl:i.length=l at *;have HK:=χ (ψ hk hl);have hkm1:((k:Int) == -1)=false:=beq_eq_false_iff_ne.2 ω
 have hwr0:IntKind.i64.wrap ((k:Int)+1)=((k+1:Nat):Int):=by rw[Μ _ ω];omega
 clear hk hl J p R
 go_enter func182,ntmps182
 go_wp2_with (((with_reducible refine aP ki ?_)))
 clear ki
 go_loopw [5,6,7] (λs5 s6 _ wr=>∃(j:Nat) (F:Nat->Value),s5=.int .i64 ((k+j:Nat):Int)/\s6=.int .i64 ((k+j+1:Nat):Int)/\j<=l/\aQ wr g 3 m F/\(∀q,q<off+k->F q=f q)/\(∀q u,q<j->i[q]?=some u->F (off+k+q)=.int .i64 u)/\(∀q,off+k+j<=q->F q=f q)/\ae [g] w wr) (λ_ s6 _ _=>k+l+1-(intOf s6).toNat)
 case atStart=>exact⟨0,f,σ,σ,ω,HR.out,λq r=>rfl,λq u r=>ω,λq r=>rfl,ae.refl _ _⟩
 case round=>
  obtain⟨j,F,rfl,rfl,s,o,A,B,z,Z⟩:=hrel;rename World=>wr;have N:=χ (ψ A (ψ B z));have HRj:=χ o;have HJR:=χ o;have O:=Z.kept hb (by simp;exact G)
  by_cases hjl:j<l
  .obtain⟨y,S⟩:∃y,i[j]?=some y:=⟨i[j]'(by rw[HK.out.2];exact hjl),σ⟩;have c0:=o.cellAt (off+(k+j+1)) ω ((z _ ω).trans (C.out.1 (k+j+1) y (by rw[C.out.2.2.1 _ ω,show k+j+1-(k+1)=j by omega];exact S)));have c1:=o.cell (off+(k+j)) ω;have f1:=o.free (off+(k+j));have hxy:(x == y)=false:=by
    have:x≠y:=λe=>HN.out (by rw[e];exact Η S);simpa using this
   have kc:=E8 wr b x y O;rw[hxy] at kc;have hi1:((k+j+1:Nat):Int)<((k+l+1:Nat):Int):=ω;have hi2:((k+j:Nat):Int)<((k+l+1:Nat):Int):=ω;have hw1:IntKind.i64.wrap (((k+j:Nat):Int)+1)=((k+(j+1):Nat):Int):=by rw[Μ _ ω];omega
   have hw2:IntKind.i64.wrap (((k+j+1:Nat):Int)+1)=((k+(j+1)+1:Nat):Int):=by rw[Μ _ ω];omega
   have HY:=χ S;clear A B z o S;generalize hA:k+j+1=ja at *;generalize hB:k+j=T at *;generalize hL:k+l+1=jl at *
   go_wp2_with (((with_reducible refine aP kc ?_)))
   go_roundw
   case rel=>
    refine⟨j+1,_,by go_num,by go_num,ω,HRj.out.set (off+T) _,λq r=>?_,λq u r D=>?_,λq r=>?_,Z.setCell (Α σ) _⟩
    .rw[Γ ω];exact N.out.1 q r
    .by_cases e:q=j
     .subst e;rw[Δ ω];rw[HY.out] at D;cases D;rfl
     .rw[Γ ω];exact N.out.2.1 q u ω D
    .rw[Γ ω];exact N.out.2.2 q ω
   case measure=>simp[intOf];omega
  .obtain rfl:j=l:=ω;have c1:=o.cell (off+(k+j)) ω;have f1:=o.free (off+(k+j));have hcl:∀ty,(Builtin.clear_ #[77] ty #[.slice (some ⟨g,off+(k+j),none⟩) 1 (cap-(k+j))]).run prog wr=.ok (.tuple #[]) (wr.setCell ⟨g,off+(k+j),none⟩ (.int .i64 0)):=λty=>by
    have:=Lib.run_clear_slice wr 77 3 ty (.int .i64 0) underlying77 Vs rfl rfl g (off+(k+j)) 1 (cap-(k+j)) ω (λt ht=>by rw[show off+(k+j)+t=off+(k+j) by omega,c1];rfl) (λt ht=>by rw[show off+(k+j)+t=off+(k+j) by omega];exact f1);rw[this]
    rfl
   have HCM:=χ E;clear A B z o c1 E O hb;generalize hB:k+j=T at *;go_wp2;go_ret;have hR2:=HJR.out.set (off+T) (.int .i64 0);have hk1:=HK.out.1;have hk2:=HK.out.2;have p:(d++i).length=T:=by have:=C.out.2.2.2.2.2;omega
   have hO:=hR2.off (base:=base) (ys:=d++i) (off:=off) (cap:=cap) W ω Y HCM.out (λq u r=>by
    have hql:q<(d++i).length:=(List.getElem?_eq_some_iff.1 r).1;rw[Γ ω]
    by_cases e:q<k
    .rw[N.out.1 (off+q) ω];exact C.out.1 q u (by rw[C.out.2.1 q ω];rw[C.out.2.2.2.1 q ω] at r;exact r)
    .have U:=C.out.2.2.2.2.1 q ω;have h5:i[q-k]?=some u:=by rw[←r,U]
     have:=N.out.2.1 (q-k) u ω h5;rw[show off+k+(q-k)=off+q by omega] at this
     exact this)
   rw[p] at hO;exact⟨_,rfl,hO,rfl,Z.setCell (Α σ) _,_,_,_,rfl⟩
def BnAt(w:World)(p:Nat)(FF:List Nat)(A:NS)(st:Nat)(G:BG):Prop:=∃B F gr cr lo S vs,p=B.n0/\FF=B.blk F gr A.cs.length S vs/\iZ w B F gr cr lo A st S vs G.R/\S.f=G.F
def Ud{l:List Int}{x:Int}(d:l.Nodup)(m:x∈l):∃b c,l=b++x::c/\x∉b/\x∉c/\l.filter (λz=>z != x)=b++c:=by
 obtain⟨b,c,rfl⟩:=List.append_of_mem m;rw[θ,Ζ] at d;have i:x∉b:=λh=>d.2.2 x h x σ rfl;have j:x∉c:=d.2.1.1;refine⟨b,c,rfl,i,j,?_⟩;have f:∀l:List Int,x∉l->l.filter (λz=>z != x)=l:=λl k=>by
  rw[List.filter_eq_self];intro a g;simp;intro e;subst e;exact k g
 grind
section
variable{w:World}{B:BB}{F:List Nat}{gr cr lo:Nat}{A:NS}{st:Nat}{S:CS}{vs:List Value}{G:BG}
def FD(M:iZ w B F gr cr lo A st S vs G.R)(n:S.f=G.F){x h:Nat}(X:Hu A G x)(hx:x<A.cs.length)(hr:G.F.u x=-1)(hin:0<(A.c x).i)(hh:(A.c x).i=h)(s:h<vs.length):
  Calls prog 176 #[B.n0,(h:Int),(x:Int)] w λe w'=>e=.returned true/\
   Goes (B.blk F gr A.cs.length S vs) w w' (λFF=>BnAt w' B.n0 FF (aS A x) (dw st (yu A h x G)) (rD A h x G)):=by
 have ok:=M.cells.ok;obtain⟨Y,T2,mx,L,N,O,Z,P⟩:=Ig X ok hx hr hin hh;have nd:=(X.rh.row h).nodup;obtain⟨l,m,eR,n1,n2,u⟩:=Ud nd mx;have hrl:(G.R h).length<=65536:=Χ (uU A.cs.length _ nd (λz p=>⟨((X.rh.row h).1 z p).1,((X.rh.row h).1 z p).2.1⟩)) ok.c1;obtain⟨w0,v⟩:∃w0,w0=w.alloc (.cells #[(x:Int)] 3):=⟨_,rfl⟩;have Q:ae [] w w0:=by rw[v];exact(ae.refl _ _).alloc _
 have E:w0.cell? w.heap.size=some ((x:Int):V):=by rw[v];simp
 have hlt:=M.lt;have H:∀g,(vs.getD h undef).ownBlock=some g->g≠w.heap.size:=λg hg e=>by have:=M.zw s hg;omega
 have kd:=λW (b:ae [] w0 W)=>WN W w.heap.size 0 (vs.getD h undef) l m x (by rw[←eR];exact(M.each h s).upd (Q.trans b) σ) n1 n2 (b.was E) (λe=>H _ e rfl) (by rw[←eR];omega);obtain⟨a,cap,hv,_⟩:=M.shape s;have h2:=M.h2;have d:=M.Pz s;rw[hv] at d;have df:=M.acr h;have n0:B.n0∉(vs.getD h undef).ownBlock.toList:=λj=>(M.d4 h _ s (by simpa using j)).1 rfl;have ng:gr∉(vs.getD h undef).ownBlock.toList:=λj=>(M.d4 h _ s (by simpa using j)).2.2.2.1 rfl;have nb:w.heap.size∉(vs.getD h undef).ownBlock.toList:=λj=>H _ (by simpa using j) rfl
 have r2:∀W,ae (vs.getD h undef).ownBlock.toList w0 W->W.cell? ⟨B.n0,2,none⟩=some (.slice (some (gr:Nat)) vs.length cr):=λW b=>b.kept (Q.was h2) n0;have r3:∀W,ae (vs.getD h undef).ownBlock.toList w0 W->W.cell? ⟨gr,h,none⟩=some (.slice a (G.R h).length cap)/\W.frozen? ⟨gr,h,none⟩=false:=λW b=>⟨b.kept (Q.was d) ng,b.ay (Q.was d) ng (Q.ay d σ df)⟩
 have r4:∀W,ae (vs.getD h undef).ownBlock.toList w0 W->W.cell? w.heap.size=some ((x:Int):V):=λW b=>b.kept E nb;have Cq:(0:Int)<=(h:Int):=ω;have DV:(h:Int)<(vs.length:Int):=ω;have hgl:=M.Jj;have o:=χ M;have HX:=χ (ψ Y (ψ L (ψ N (ψ O (ψ Z (ψ P (ψ u (ψ n X))))))));rw[hv] at kd r2 r3 r4;clear M X Y T2 mx L N O Z P nd u H ok h2 d df n0 ng nb n1 n2 n hlt;have HV:=χ hv;clear eR hrl;generalize (G.R h).length=rl at *
 go_enter func176,ntmps176
 go_wp2;rw[←v];clear v E
 go_cut [20] (λs20 wx=>∃t,iZ wx B F gr cr lo A st S (vs.set h t) (dm G.R h (l++m))/\wx.cell? w.heap.size=some ((x:Int):V)/\ae (gr::(Value.slice a rl cap).ownBlock.toList) w wx/\t.ownBlock=(Value.slice a rl cap).ownBlock)
 case first=>
  have p2:=r2 _ (ae.refl _ _);obtain⟨p3,p4⟩:=r3 _ (ae.refl _ _)
  go_region_law
   (first
    | (go_simp;(with_reducible refine (kd _ β).mono ?_);rintro e w1 ⟨t,rfl,sF,R,T,a1,n1,c1,rfl⟩;(have hu1:ae (Value.slice a rl cap).ownBlock.toList w0 w1:=ae.trans β T);obtain ⟨q3,q4⟩:=r3 _ hu1))
  all_goals
   go_wp2
   go_meet
   have q:ae (Value.slice a rl cap).ownBlock.toList w w1:=(Q.mono σ).trans hu1;exact⟨_,o.out.af2 h s (by rw[hv];exact q) _ _ sF (by rw[hv];exact R),γ,(q.mono (by simp +contextual)).setCell (Α σ) _,R⟩
 case rest=>
  obtain⟨t,i,hb2,q,ho2⟩:=hcut;obtain⟨Y,L,N,O,Z,P,u,n,X⟩:=HX.out;have hvs2:(vs.set h t).length=vs.length:=Ι;have hfs:qD A.cs.length S.f:=by rw[n];exact X.fh.f
  have hSk:S.k x=G.F.k x:=by rw[←n];rfl
  have I:=λW (b:ae [] wc W)=>Q3 B.bt B.ba lo A.cs.length S x W (i.jG.ag b) hx (by unfold qJ;rw[Ν ω];have e:S.u x=-1:=(by rw[←hr,←n];rfl);simp[e]) (λk hk=>by have:=hfs.xP x hx k hk;omega);have h1:=i.h1;have hbn:w.heap.size∉B.c::B.ba::gr::S.blk A.cs.length:=λj=>by
   have hl:=o.out.lt;simp only[ρ] at j;rcases j with e|e|e|e
   .have:=o.out.cells.lt B.c o.out.cells.mem;omega
   .have:=hl B.ba (by simp[BB.blk]);omega
   .omega
   .have:=(o.out.jG.pq e).2;omega
  have hn0:B.n0∉B.c::B.ba::gr::S.blk A.cs.length:=λj=>by
   have hcn:=o.out.cn;simp only[ρ] at j;rcases j with e|e|e|e
   .exact hcn.1 e
   .exact o.out.d2.2.1 e
   .exact o.out.d2.2.2.1 e
   .exact(o.out.d3 _ e).1 rfl
  have r1:∀W,ae (B.c::B.ba::gr::S.blk A.cs.length) wc W->W.cell? ⟨B.n0,1,none⟩=some (B.bt:V):=λW b=>b.kept h1 hn0;have r0:∀W,ae (B.c::B.ba::gr::S.blk A.cs.length) wc W->W.cell? w.heap.size=some ((x:Int):V):=λW b=>b.kept hb2 hbn
  have ka:=λ(W:World) (vl:Value) (hM:iZ W B F gr cr lo A st (iE S x) (vs.set h t) (dm G.R h (l++m))) (hvl:lS W (B.c::B.ba::(iE S x).blk A.cs.length) vl (G.F.k x))=>Ck hM (by rw[AO,n];exact X.fh.f.Wt hx hr) h (by rw[hvs2];exact s) hvl (by rw[AO,n,show dm G.R h (l++m) h=l++m by simp[dm],←u];exact L) (by rw[AO,n];exact N) (λz p=>by rw[show dm G.R h (l++m) h=l++m by simp[dm],←u] at p;exact O z p) (λz p=>by rw[show dm G.R h (l++m) h=l++m by simp[dm],←u] at p;exact P z (by rcases p with p|p;exact Α (List.mem_filter.1 p).1;exact Β p))
  have pW:=χ i;have HB:=χ (show ∀W:World,ae [B.ba] wc W->bu W B.bt B.ba lo A.cs.length (iE S x)->iZ W B F gr cr lo A st (iE S x) (vs.set h t) (dm G.R h (l++m)) from λW hu hF=>pW.out.fH (hu.mono σ) (pW.out.cells.upd hu (λy f j=>by simp at f;subst f;exact pW.out.d1.2.2.1 j)) hF (λg hg=>Α (tF S x _ g hg)))
  have HSUB:=χ (show ∀y,y∈B.c::B.ba::gr::(iE S x).blk A.cs.length->y∈B.c::B.ba::gr::S.blk A.cs.length from λy f=>by
   simp only[ρ] at f ⊢;rcases f with e|e|e|e
   .exact Α e
   .grind
   .grind
   .exact Β (Β (Β (tF S x _ y e))))
  have HLT:=χ (show ∀y,y∈B.c::B.ba::(iE S x).blk A.cs.length->y<wc.heap.size from λy f=>by
   simp only[ρ] at f;rcases f with e|e|e
   .subst e;exact i.cells.lt _ i.cells.mem
   .subst e;exact i.jG.row.lt
   .exact (i.jG.pq (tF S x _ y e)).2)
  clear i Y L N O Z P u hfs X h1 hb2 n;rw[hSk] at I;go_wp2
  go_region_held3 (ae (B.c::B.ba::gr::S.blk A.cs.length) wc) (exact ν)
   (first
    |(((with_reducible refine(I _ β).mono ?_));rintro e w3 ⟨v3,rfl,D,U,hu3⟩;(have ZY:ae [B.ba] wc w3:=ae.trans β hu3);(have C:ae (B.c::B.ba::gr::S.blk A.cs.length) wc w3:=ZY.mono σ);(have jH:=HB.out _ ZY U);obtain⟨a3,c3,hv3,hl3,hc3⟩:=(show ∃a c,v3=.slice a (G.F.k x).length c/\True/\True from(by obtain⟨a,c,e,_⟩:=D.open;exact⟨a,c,e,trivial,trivial⟩));subst hv3;(have ka3:=λW (b:ae [] w3 W)=>ka W _ (jH.ag b) (lS.upd (lS.aaW (F:=B.c::B.ba::(iE S x).blk A.cs.length) D (λg hg=>Ψ (HLT.out g hg) (ae.size (S:=[]) (w:=wc) β))) b σ)))
    | (((with_reducible refine (ka3 _ β).mono ?_));rintro e K ⟨S4,vo,rfl,hS4,uD,iK,hb4,hx4⟩;(have acD:ae (B.c::B.ba::gr::S.blk A.cs.length) wc K:=ae.trans ν (iK.mono HSUB.out))))
  have h04:=uD.h0;have hnF:=o.out.d1.1;have wC:w.heap.size∉F:=λj=>by have:=o.out.cells.lt _ j;omega
  have r5:∀W,ae F K W->W.cell? B.n0=some (B.c:V):=λW b=>b.kept h04 hnF;have r6:∀W,ae F K W->W.cell? w.heap.size=some ((x:Int):V):=λW b=>b.kept (r0 _ acD) wC;have WW:=λW (b:ae [] K W)=>ik (uD.cells.ag b) x ((aj _ _).2 ⟨hx,hin⟩);have Ms:=χ uD;clear uD h04 r0 r1 ka I ka3 jH D U;go_wp2
  go_region_held3 (ae F K) (exact ν)
   (first
    | (((with_reducible refine (WW _ β).mono ?_));rintro e w5 ⟨rfl,Td,dD⟩;(have Nh:ae F K w5:=ae.trans ν dD)))
  go_wp2;go_ret;obtain⟨Y,L,N,O,Z,P,u,n,X⟩:=HX.out;have dl:=fF A (x:Int);have dh:=jm A (x:Int);have wY:=Ms.out.cK Nh Td (λy f=>Α f) dl (by rw[dh]);have eT:(iO G h x).R=dm G.R h (l++m):=by unfold iO;rw[u]
  have J:(iO G h x).F=(iE S x).f:=by rw[AO,n];rfl
  have e1:(rD A h x G).R=dm (dm G.R h (l++m)) h (kE (bW A) A.cs.length (iE S x).f (dm G.R h (l++m) h) (G.F.k x)).O:=by unfold rD xG;rw[eT,J]
  have e2:(rD A h x G).F=S4.f:=by rw[hS4];unfold rD xG;rw[eT,J]
  have e3:yu A h x G=(kE (bW A) A.cs.length (iE S x).f (dm G.R h (l++m) h) (G.F.k x)).q:=by unfold yu;rw[eT,J]
  have uw:ae (B.blk F gr A.cs.length S vs) w w5:=by
   have m1:∀y,y∈gr::(Value.slice a rl cap).ownBlock.toList->y∈B.blk F gr A.cs.length S vs:=λy f=>by
    simp only[BB.blk,ρ,τ] at f ⊢;rcases f with e|e
    .grind
    .exact Β (Β (Β (Β (Β (Β (jN.2 ⟨h,s,by rw[HV.out];simpa using e⟩))))))
   have m2:∀y,y∈B.c::B.ba::gr::S.blk A.cs.length->y∈B.blk F gr A.cs.length S vs:=λy f=>by
    simp only[BB.blk,ρ,τ] at f ⊢;rcases f with e|e|e|e
    .exact Β (Β (Β (Β (Α (by rw[e];exact o.out.cells.mem)))))
    .grind
    .grind
    .grind
   have m3:∀y,y∈F->y∈B.blk F gr A.cs.length S vs:=λy f=>by simp[BB.blk,f]
   exact((q.mono m1).trans (acD.mono m2)).trans (Nh.mono m3)
  refine⟨rfl,B.blk F gr (aS A x).cs.length S4 ((vs.set h t).set h vo),⟨B,F,gr,cr,lo,S4,(vs.set h t).set h vo,rfl,rfl,by rw[e1,e3];exact wY,e2.symm⟩,uw,λy f=>?_⟩;have hsz:=q.size;rw[dl] at f;simp only[BB.blk,ρ,τ] at f ⊢;rcases f with e|e|e|e|e|e|e
  .grind
  .grind
  .grind
  .grind
  .grind
  .rcases hb4 y e with h'|h'
   .exact Α (Β (Β (Β (Β (Β (Α (tF S x _ y h')))))))
   .right;have:=C.size;omega
  .obtain⟨k,hk,r⟩:=jN.1 e;rw[Ι,Ι] at hk;rw[zI,zI] at r
   by_cases ek:k=h
   .rw[Δ ⟨ek,by rw[Ι];exact s⟩] at r;right;have:=hx4 y r;have:=C.size;omega
   .rw[Γ (λh=>ek h.1),Γ (λh=>ek h.1)] at r;exact Α (Β (Β (Β (Β (Β (Β (jN.2 ⟨k,hk,r⟩)))))))
end
section
variable{w:World}{B:BB}{F:List Nat}{gr cr lo:Nat}{A:NS}{st:Nat}{S:CS}{vs:List Value}{G:BG}{R:Nat->List Int}
def iZ.setSt{w':World}{a:Nat}(h:iZ w B F gr cr lo A st S vs R)(c:ae [B.c] w w')(d:aD w' B.c F A a):iZ w' B F gr cr lo A a S vs R:=
 h.cK (c.mono (λx b=>by simp at b;subst b;exact h.cells.mem)) d (λx b=>Α b) rfl rfl
def GX(A:NS)(G:BG)(h:Int):Nat:=if aW A h then(G.R h.toNat).length-1 else 0
def J6(M:iZ w B F gr cr lo A st S vs G.R)(I:CZ A G)(h:Int):
  Calls prog 171 #[B.n0,h] w λe w'=>e=.returned (.tuple #[(og (dB A h):Int),.bool (dB A h).isSome])/\iZ w' B F gr cr lo A (dw st (GX A G h)) S vs G.R/\ae [B.c] w w':=by
 have v:=M.cells.oG;cases o:aW A h with
 |false=>
  have e:dB A h=none:=by
   by_cases h1:0<h
   .exact(jV h1).2 (R5 M.cells.ok o)
   .exact rX h1
  have J:GX A G h=0:=by unfold GX;rw[o];rfl
  rw[e,J,fG v];have r:=Ya M h o;have R:=χ M;clear M I o e J
  go_enter func171,ntmps171
  go_wp2_with (((with_reducible refine aP r ?_)))
  go_ret2;exact⟨rfl,R.out,ae.refl _ _⟩
 |true=>
  obtain⟨q,rfl,L,hq⟩:=M.hq o;have J:GX A G (q:Int)=(G.R q).length-1:=by unfold GX;rw[o];simp
  obtain⟨a,cap,hv,N,hl2⟩:=M.shape hq;have r:=Vu M q o hv;have c:lS w [B.c] (vs.getD q undef) (G.R q):=(M.each q hq).sl (λg hg O=>by simp at O;subst O;exact(M.d4 q _ hq hg).2.2.2.2.1 M.cells.mem);rw[hv] at c;rw[J];cases E:G.R q with
  |nil=>
   rw[OE I L E];rw[E] at r c;simp only[List.length_nil] at r ⊢;rw[fG v];have R:=χ M;clear M I o E J hv c
   go_enter func171,ntmps171
   go_wp2_with (((with_reducible refine aP r ?_)))
   go_ret2;exact⟨rfl,R.out,ae.refl _ _⟩
  |cons x t=>
   obtain⟨m,hb,O,_⟩:=Us I L E;rw[O];rw[E] at r c N;simp only[Ω] at r c N ⊢;have T:∀z,z∈x::t->∃y:Nat,z=y/\bY A z=true:=λz hz=>by
    obtain⟨y,e,_,i,_⟩:=Xl I (h:=q) (z:=z) (by rw[E];exact hz);exact⟨y,e,i⟩
   obtain⟨g,off,rfl,hgl,xm,hc0⟩:=c.head;have Di:=(show lS w [B.c] (.slice (some ⟨g,off,none⟩) (t.length+1) cap) (x::t) from c).tail;have U:=λW=>yA W (some ⟨g,off,none⟩) (t.length+1) cap ω ω;obtain⟨a3,Cw⟩:=tT (some ⟨g,off,none⟩) (t.length+1) cap;rw[Cw] at U Di;simp only[Nat.add_sub_cancel] at U Di ⊢;have h0:=M.h0;have hn0:B.n0∉[B.c]:=by simp;exact M.cn.1
   have R:=χ M;have HT:=χ Di;have HI:=χ (ψ T hb);have hC:=M.cells;have hz:dw st 0=st:=fG v;clear M I o E J hv c Di T hb O Cw;generalize htl:t.length=K at *;have X:=χ htl;have hne0:((K:Int)+1 == 0)=false:=beq_eq_false_iff_ne.2 ω;clear htl
   go_enter func171,ntmps171
   go_wp2_with (((with_reducible refine aP r ?_)))
   go_loopw [7,22] (λs7 D wr=>∃(j:Nat) (b:Int),j<=K/\D=.int .i64 (j:Int)/\s7=.int .i64 b/\nK (bW A) b (t.drop j)=nK (bW A) x t/\(∃y:Nat,b=y/\bY A b=true)/\aD wr B.c F A (dw st j)/\ae [B.c] w wr) (λ_ D _=>K-(intOf D).toNat)
   case atStart=>exact⟨0,x,ω,rfl,rfl,σ,HI.out.1 x σ,by rw[hz];exact hC,ae.refl _ _⟩
   case round=>
    obtain⟨j,b,hj,rfl,rfl,d,P,k,H⟩:=hrel;rename World=>wr
    by_cases hjt:j<K
    .obtain⟨y,rJ⟩:∃y,t[j]?=some y:=⟨t[j]'(by rw[X.out];exact hjt),σ⟩;have hd:t.drop j=y::t.drop (j+1):=by
      obtain⟨hl,e⟩:=List.getElem?_eq_some_iff.1 rJ;rw[Ϝ hl,e]
     obtain⟨a4,c4,e4,_,_,h4⟩:=HT.out;have ea:a3=a4:=by injection e4
     subst ea;obtain⟨g4,o4,rfl,_,hg4,Q⟩:=h4 j y rJ;have hc5:=H.kept Q hg4;obtain⟨p,rfl,l⟩:=HI.out.1 y (Λ _ (Η rJ));obtain⟨bn,rfl,n⟩:=P;have Y:=fA k p bn l n;have h05:=H.kept h0 hn0;have Gr:(j:Int)<(K:Int):=ω;have hw1:IntKind.i64.wrap ((j:Int)+1)=(j:Int)+1:=Μ _ ω;have Z:bW A (p:Int) (bn:Int)=decide (dA A p bn):=by rw[mZ,l,n];simp
     have hnx:∀b':Int,b'=(if bW A (p:Int) (bn:Int) then(p:Int) else(bn:Int))->nK (bW A) b' (t.drop (j+1))=nK (bW A) x t:=λb' e=>by rw[←d,hd,e];rfl
     have HN:=χ (ψ hnx (ψ l n));have hse:dw (dw st j) 1=dw st (j+1):=je st j 1;rw[←Z] at Y;clear k d hd h4 rJ Q l n Z hnx e4;cases f:bW A (p:Int) (bn:Int) with
     |true=>
      rw[f] at Y;have C:=χ f;clear f
      go_wp2_with (((with_reducible refine Y.mono ?_));rintro e w2 ⟨rfl,s,u⟩)
      go_roundw
      case rel=>exact⟨j+1,p,ω,by go_num,rfl,HN.out.1 _ (by rw[C.out];rfl),⟨p,rfl,HN.out.2.1⟩,by rw[←hse];exact s,H.trans u⟩
      case measure=>simp[intOf];omega
     |false=>
      rw[f] at Y;have C:=χ f;clear f
      go_wp2_with (((with_reducible refine Y.mono ?_));rintro e w2 ⟨rfl,s,u⟩)
      go_roundw
      case rel=>exact⟨j+1,bn,ω,by go_num,rfl,HN.out.1 _ (by rw[C.out];rfl),⟨bn,rfl,HN.out.2.2⟩,by rw[←hse];exact s,H.trans u⟩
      case measure=>simp[intOf];omega
    .obtain rfl:j=K:=ω;have hbf:b=(m:Int):=by
      rw[List.drop_of_length_le (by rw[X.out];omega)] at d;have e:nK (bW A) b []=b:=rfl;rw[e,HI.out.2] at d;exact d
     have HB:=χ hbf;have HC:=χ k;clear d P hbf k;go_wp2;go_ret2;exact⟨by rw[HB.out];rfl,R.out.setSt H HC.out,H⟩
end
def FC(w:World)(p:Nat)(FF:List Nat)(A:NS)(st:Nat)(G:BG):Prop:=BnAt w p FF A st G/\CZ A G
def WR{A:NS}{G:BG}(I:CZ A G)(e:A.Ok){q:Int}{m:Nat}(a:dB A q=some m):∃k:Nat,q=k/\1<=k/\aW A q=true/\m<A.cs.length/\G.F.u m=-1/\(A.c m).i=k:=by
 have d:0<q:=by
  apply Ϙ;intro h;rw[rX h] at a;cases a
 obtain⟨k,rfl⟩:∃k:Nat,q=k:=⟨q.toNat,ω⟩;have b:=(jB d).1 a;have n:aW A (k:Int)=true:=by
  have:=iH e ((aj A m).2 ⟨b.1,by rw[b.2.1];omega⟩);rw[π,b.2.1] at this;exact this
 cases c:G.R k with
 |nil=>rw[OE I ω c] at a;cases a
 |cons x t=>
  obtain⟨f,_,g,i,j,l⟩:=Us I (show 1<=k by omega) c
  grind
def TA(A:NS)(q:Int)(G:BG):Nat:=GX A G q+(match dB A q with|some m=>yu A q.toNat m G|none=>0)
def Vw(A:NS)(q:Int)(G:BG):BG:=match dB A q with|some m=>rD A q.toNat m G|none=>G
section
variable{w:World}{p:Nat}{FF:List Nat}{A:NS}{st:Nat}{G:BG}
def GU(h:FC w p FF A st G)(q:Int):
  Calls prog 167 #[(p:Nat),q] w λe w'=>e=.returned (.tuple #[(og (dB A q):Int),.bool (dB A q).isSome])/\Goes FF w w' (λQ=>FC w' p Q (uh A q) (dw st (TA A q G)) (Vw A q G)):=by
 obtain⟨⟨B,F,gr,cr,lo,S,vs,rfl,rfl,M,o⟩,I⟩:=h;have d:=J6 M I q;have s:∀y,y∈[B.c]->y∈B.blk F gr A.cs.length S vs:=λy t=>by
  simp at t;subst t;simp[BB.blk,M.cells.mem]
 cases a:dB A q with
 |none=>
  rw[a] at d;simp only[og,Option.isSome_none] at d ⊢;have j:TA A q G=GX A G q:=by unfold TA;rw[a];rfl
  have l:Vw A q G=G:=by unfold Vw;rw[a]
  have n:uh A q=A:=by unfold uh;rw[a]
  rw[j,l,n];have f:=χ (ψ I (ψ o s));clear M I a j l n o s
  go_enter func167,ntmps167
  go_wp2_with (((with_reducible refine d.mono ?_));rintro e K ⟨rfl,c,b⟩)
  go_ret2;exact⟨rfl,Goes.stay ⟨⟨B,F,gr,cr,lo,S,vs,rfl,rfl,c,f.out.2.1⟩,f.out.1⟩ (b.mono f.out.2.2)⟩
 |some m=>
  rw[a] at d;simp only[og,Option.isSome_some] at d ⊢;obtain⟨k,rfl,L,H,r,z,i⟩:=WR I M.cells.ok a;have j:TA A (k:Int) G=GX A G (k:Int)+yu A k m G:=by unfold TA;rw[a];simp
  have l:Vw A (k:Int) G=rD A k m G:=by unfold Vw;rw[a];simp
  have n:uh A (k:Int)=aS A (m:Int):=by unfold uh;rw[a]
  rw[j,l,n];obtain⟨N,C,_,D⟩:=M.hq H;obtain rfl:k=N:=ω;have X:=I.x r;have O:=λW (R:iZ W B F gr cr lo A (dw st (GX A G (k:Int))) S vs G.R)=>FD R o X r z (by rw[i];omega) i D;have T:=(Ig X M.cells.ok r z (by rw[i];omega) i).1;have f:=χ (ψ T s);clear M I a j l n o s X T r z i H C
  go_enter func167,ntmps167
  go_wp2_with (first
   |(((with_reducible refine d.mono ?_));rintro e K ⟨rfl,c,b⟩;(have E:=O _ c);(have P:=b.size))
   | (((with_reducible refine E.mono ?_));rintro e U ⟨rfl,u,g,v,x⟩))
  go_ret2;rw[je] at g;refine⟨rfl,u,⟨g,f.out.1⟩,(b.mono f.out.2).trans v,λy t=>?_⟩;rcases x y t with J|J
  .exact Α J
  .grind
def uQ{B:BB}{F:List Nat}{gr n:Nat}{S:CS}{vs:List Value}:∀y,y∈F->y∈B.blk F gr n S vs:=λy a=>by simp[BB.blk,a]
def QE{R:Nat->List Int}{a b:Nat}(h:a≠b)(O X:List Int):dm (dm R a O) b X=dm (dm R b X) a O:=by
 funext k
 unfold dm
 grind
def Ie{w:World}{B:BB}{F F':List Nat}{gr n:Nat}{S h:CS}{vs:List Value}{q:Nat}{i:Value}(j:∀y,y∈F'->y∈F)(l:∀g,g∈h.blk n->g∈S.blk n\/w.heap.size<=g)(m:∀g,i.ownBlock=some g->w.heap.size<=g):
  ∀y,y∈B.blk F' gr n h (vs.set q i)->y∈B.blk F gr n S vs\/w.heap.size<=y:=λy d=>by
 simp only[BB.blk,ρ,τ] at d ⊢;rcases d with e|e|e|e|e|e|e
 .exact Α (Α e)
 .exact Α (Β (Α e))
 .exact Α (Β (Β (Α e)))
 .exact Α (Β (Β (Β (Α e))))
 .exact Α (Β (Β (Β (Β (Α (j y e))))))
 .rcases l y e with b|b
  .exact Α (Β (Β (Β (Β (Β (Α b))))))
  .exact Β b
 .obtain⟨k,c,a⟩:=jN.1 e;rw[Ι] at c;rw[zI] at a
  by_cases f:k=q/\q<vs.length
  .rw[Δ f] at a;exact Β (m y a)
  .rw[Γ f] at a;exact Α (Β (Β (Β (Β (Β (Β (jN.2 ⟨k,c,a⟩)))))))
def aag{w:World}{B:BB}{F:List Nat}{gr cr lo:Nat}{S:CS}{vs:List Value}{R:Nat->List Int}(M:iZ w B F gr cr lo A st S vs R):∀y,y∈B.c::B.ba::gr::S.blk A.cs.length->y∈B.blk F gr A.cs.length S vs:=λy a=>by
 simp only[BB.blk,ρ,τ] at a ⊢;rcases a with e|e|e|e
 .exact Β (Β (Β (Β (Α (by rw[e];exact M.cells.mem)))))
 .exact Β (Β (Α e))
 .exact Β (Β (Β (Α e)))
 .exact Β (Β (Β (Β (Β (Α e)))))
def Kw(h:FC w p FF A st G)(q x:Nat)(k s:Int)(hk:-9223372036854775808<=k/\k<=9223372036854775807/\0<=s/\s<=18446744073709551615)(t:oF A q x=true):
  Calls prog 168 #[(p:Nat),(q:Int),(x:Int),.agg #[k,.int .u64 s]] w λe w'=>e=.returned true/\
   Goes FF w w' (λCr=>FC w' p Cr (aN A q x k s) (dw st (Yr (aN A q x k s) q x G)) (TL (aN A q x k s) q x G)):=by
 obtain⟨⟨B,F,gr,cr,lo,S,vs,rfl,rfl,M,d⟩,I⟩:=h;have T:=M.cells.ok;obtain⟨O,_,P,Q,R,a⟩:=acT (h:=q) (x:=x) k s I T t;have U:(aN A q x k s).hs.length=A.hs.length:=by unfold aN;split;rfl;rfl
 have GI:=((fB _ _ _).1 t).1;obtain⟨q',e,hq1,D⟩:=M.hq GI;obtain rfl:q=q':=ω;have E:ae [] w (w.alloc (.cells #[k,.int .u64 s] 97)):=(ae.refl _ _).alloc _;have X:=λW (o:ae [] (w.alloc (.cells #[k,.int .u64 s] 97)) W)=>oQ (M.cells.ag (E.trans o)) q x k s hk t;have Y:=M.h0;have wC:B.n0∉F:=M.d1.1;have m:w.heap.size∉F:=λL=>by have:=M.cells.lt _ L;omega
 have r0:∀W,ae F (w.alloc (.cells #[k,.int .u64 s] 97)) W->W.cell? B.n0=some (B.c:V):=λW o=>o.kept (E.was Y) wC;have r1:∀W,ae F (w.alloc (.cells #[k,.int .u64 s] 97)) W->W.cell? w.heap.size=some (k:V):=λW h=>h.kept σ m;have r2:∀W,ae F (w.alloc (.cells #[k,.int .u64 s] 97)) W->W.cell? ⟨w.heap.size,1,none⟩=some (.int .u64 s):=λW h=>h.kept σ m;have f:=I.rh.row q
 have Z:=λ(W:World) (hM:iZ W B F gr cr lo (aN A q x k s) st S vs G.R) (vl:Value) (N:lS W (B.c::B.ba::S.blk (aN A q x k s).cs.length) vl [(x:Int)])=>Ck hM (by rw[a,d];exact I.fh.f) q D N (by rw[a,d];exact f) (by rw[a,d];exact P) Q R;have HM:=χ M;have n:=χ (ψ O (ψ d (ψ a U)));clear M I T O P Q R a U d f Y t;generalize hA':aN A q x k s=A' at *
 go_enter func168,ntmps168
 go_wp2
 go_region_held3 (ae F (w.alloc (.cells #[k,.int .u64 s] 97))) (exact ν)
  (first
   | (((with_reducible refine (X _ β).mono ?_));rintro e j ⟨rfl,gK,hu1⟩;(have H:ae F (w.alloc (.cells #[k,.int .u64 s] 97)) j:=ν)))
 have J:ae F w j:=(E.mono σ).trans H;have b:=HM.out.cK J gK (λy c=>Α c) n.out.2.2.1 n.out.2.2.2;have hsz1:=J.size;have i:∀y,y∈B.c::B.ba::S.blk A'.cs.length->y<j.heap.size:=λy c=>by
  simp only[ρ] at c;rcases c with e|e|e
  .subst e;exact b.cells.lt _ b.cells.mem
  .subst e;exact b.jG.row.lt
  .exact(b.jG.pq e).2
 have K:=λ(W:World) (o:ae [] j W) (vl:Value)=>Z W (b.ag o) vl;have HL:=χ i;clear X r0 r1 r2 b i Z
 go_wp2_with ((((with_reducible refine(K _ β _ ((bB.lit j 0 (x:Int) (Nat.zero_le _)).sl (λg r L=>by have:=HL.out g L;simp[Value.ownBlock] at r;omega))).mono ?_));rintro e w2 ⟨S2,vo,rfl,u,v,z,l,C⟩))
 go_ret;have d:=n.out.2.1;have a:=n.out.2.2.1;have uw:ae (B.blk F gr A.cs.length S vs) w w2:=by
  refine((J.mono uQ).alloc _).trans (z.mono (λy c=>?_));rw[a] at c;exact aag HM.out y c
 refine⟨rfl,B.blk F gr A'.cs.length S2 (vs.set q vo),⟨⟨B,F,gr,cr,lo,S2,_,rfl,rfl,by unfold Yr TL xG;rw[←d];exact v,by rw[u,d];rfl⟩,n.out.1⟩,uw,λy c=>?_⟩;rw[a] at c l;exact Ie (w:=w) (λ_ h=>h) (λg r=>(l g r).imp id (λh=>by simp at h;omega)) (λg r=>by have:=C g r;simp at this;omega) y c
def RX(h:FC w p FF A st G)(a b:Nat)(v:fQ A a b=true):
  Calls prog 170 #[(p:Nat),(a:Int),(b:Int)] w λe w'=>e=.returned true/\
   Goes FF w w' (λCr=>FC w' p Cr (az A a b) (dw st (OX (az A a b) a b G)) (Bg (az A a b) a b G)):=by
 obtain⟨⟨B,F,gr,cr,lo,S,vs,rfl,rfl,M,k⟩,I⟩:=h;have U:=M.cells.ok;obtain⟨L,_,N,O⟩:=YK I U v;have c:=eU A (a:Int) (b:Int);have X:(az A (a:Int) (b:Int)).hs.length=A.hs.length:=by unfold az;split<;>simp
 obtain⟨P,Q,R⟩:=(dI _ _ _).1 v;obtain⟨a',e,ha1,D⟩:=M.hq P;obtain rfl:a=a':=ω;obtain⟨b',e',hb1,d⟩:=M.hq Q;obtain rfl:b=b':=ω;have t:a≠b:=λe=>R (by rw[e]);have kj:=mO M.cells a b v;have h0:=M.h0;obtain⟨ab,T,n,_⟩:=M.shape d;have f:=I.rh.row
 have E:=λ(W:World) (u:iZ W B F gr cr lo (az A a b) st S vs G.R)=>Ck u (by rw [c,k];exact I.fh.f) a D (vl:=vs.getD b undef) ((u.each b d).sl (λg i hm=>by
   have:=u.d4 b g d i;simp only[ρ] at hm;rcases hm with e|e|e
   .exact this.2.2.2.2.1 (e▸u.cells.mem)
   .exact this.2.2.1 e
   .exact this.2.2.2.2.2 e)) (by rw [c,k];exact f a) (by rw [c,k];exact f b) N O
 rw[n] at E;have hbI:(b:Int)<(vs.length:Int):=ω;have hb0:(0:Int)<=(b:Int):=ω;have Y:=χ M;have r:=χ (ψ L (ψ k (ψ c (ψ X n))));clear M I U L N O c X k f v P Q R e e' n;generalize hA':az A (a:Int) (b:Int)=A' at *;generalize hrb:(G.R b).length=rb at *
 go_enter func170,ntmps170
 go_wp2_with (first
  |(((with_reducible refine kj.mono ?_));rintro e w1 ⟨rfl,gK,m⟩;(have l:=Y.out.cK m gK (λy o=>Α o) r.out.2.2.1 r.out.2.2.2.1);(have H:=E _ l);(have h21:=l.h2);(have d1:=l.Pz d);rw[r.out.2.2.2.2] at d1;clear l E)
  | (((with_reducible refine H.mono ?_));rintro e w2 ⟨S2,vo,rfl,x,j,z,s,C⟩;(have J:=j.h2);rw [Ι] at J;(have f22:=j.acr b);(have d22:=j.Pz (q:=b) (by rw [Ι];exact d))))
 go_ret;have k:=r.out.2.1;have c:=r.out.2.2.1;have Z:=j.Da b (by rw[Ι];exact d) (.slice none 0 0) [] (bB.nil _ _) (λg i=>by cases i);have eR:(uH G b).R a=G.R a:=by unfold uH dm;simp only[Γ t]
 have e1:dm (dm G.R a (kE (bW A') A'.cs.length S.f (G.R a) (G.R b)).O) b []=(Bg A' a b G).R:=by
  unfold Bg xG;rw[eR,QE t,k]
  rfl
 rw[e1] at Z;have uw:ae (B.blk F gr A.cs.length S vs) w w2:=by
  refine(m.mono uQ).trans (z.mono (λy o=>?_));rw[c] at o;exact aag Y.out y o
 have hsz:=m.size;refine⟨rfl,B.blk F gr A'.cs.length S2 ((vs.set a vo).set b (.slice none 0 0)),⟨⟨B,F,gr,cr,lo,S2,_,rfl,rfl,by unfold OX;rw[←k];exact Z,by rw[x,k];unfold Bg xG;rw[eR];rfl⟩,r.out.1⟩,uw.setCell (Α (by simp[BB.blk])) _,λy o=>?_⟩;rw[c] at o s;rcases Ie (w:=w) (λ_ h=>h) (λg i=>Α i) (λg i=>by cases i) y o with K|K
 .exact Ie (w:=w) (λ_ h=>h) (λg i=>(s g i).imp id (λh=>ω)) (λg i=>by have:=C g i;omega) y K
 .exact Β K
end
end Go.Proofs.YtnpdakpagnpanaaGreat
namespace Go.Proofs.YtnpdakpagnpanaaGreat
open Tryz
def ji(hp:Nat->Bool)(ct x:Nat):Nat->BG->BG×Nat
 |0,G=>(G,0)
 |f+1,G=>if G.F.u x=-1 then(G,0) else if hp (G.F.u x).toNat then((ji hp ct x f (tX G x (G.F.u x).toNat)).1,(ji hp ct x f (tX G x (G.F.u x).toNat)).2+ct) else(G,ct)
def xq{hp:Nat->Bool}{ct x f:Nat}{G:BG}(h:G.F.u x=-1):ji hp ct x f G=(G,0):=by
 cases f with
 |zero=>rfl
 |succ f=>rw[ji,Δ h]
def Bp{hp:Nat->Bool}{ct x f p:Nat}{G:BG}(h:G.F.u x=p)(a:hp p=false):ji hp ct x (f+1) G=(G,ct):=by
 rw[ji,Γ ω,h,π,a];rfl
def zV{hp:Nat->Bool}{ct x f p:Nat}{G:BG}(h:G.F.u x=p)(a:hp p=true):ji hp ct x (f+1) G=((ji hp ct x f (tX G x p)).1,(ji hp ct x f (tX G x p)).2+ct):=by
 rw[ji,Γ ω,h,π,a];rfl
section
variable{A:NS}{G:BG}{x:Nat}{hp:Nat->Bool}{ct:Nat}
def EZ{p:Nat}(B:Hu A G x)(a:x<A.cs.length)(b:G.F.u x=p):(G.F.k x).length<((tX G x p).F.k x).length:=by
 have:=B.fh.f.P7 a b
 show _<((vF G.F x p (G.F.u p)).k x).length
 rw[wL,Δ rfl];exact this
def Bd(hx:x<A.cs.length):∀(f:Nat) {G:BG},Hu A G x->A.cs.length<=f+(G.F.k x).length->Hu A (ji hp ct x f G).1 x/\((ji hp ct x f G).1.F.u x=-1\/∃p:Nat,(ji hp ct x f G).1.F.u x=p/\hp p=false)
 |0,G,B,hf=>by have:=B.fh.f.len hx;omega
 |f+1,G,B,hf=>by
  rcases B.fh.f.up x hx with h1|⟨p,hp1,h1,h2⟩
  .rw[xq h1];exact⟨B,Α h1⟩
  .cases hh:hp p with
   |false=>rw[Bp h1 hh];exact⟨B,Β ⟨p,h1,hh⟩⟩
   |true=>
    rw[zV h1 hh];have:=EZ B hx h1;exact Bd hx f (Dg B hx h1) ω
def BD(hx:x<A.cs.length)(hl:∀p:Nat,p<A.cs.length->hp p=true->dA A x p):∀(f:Nat) {G:BG},Hu A G x->(∀c:Nat,c<A.cs.length->G.F.u c=x->dA A x c)->∀c:Nat,c<A.cs.length->(ji hp ct x f G).1.F.u c=x->dA A x c
 |0,G,B,hk=>hk
 |f+1,G,B,hk=>by
  rcases B.fh.f.up x hx with h1|⟨p,hp1,h1,h2⟩
  .rw[xq h1];exact hk
  .cases hh:hp p with
   |false=>rw[Bp h1 hh];exact hk
   |true=>
    rw[zV h1 hh];exact BD hx hl f (Dg B hx h1) (QC B hx h1 hk (hl p hp1 hh))
def Qf{p h:Nat}(B:Hu A G x)(f:x<A.cs.length)(g:G.F.u x=p)(l:(A.c x).i=h):(tX G x p).R=if G.F.u p=-1 then dm G.R h (setAt (G.R h) p x) else G.R:=by
 obtain⟨a,i⟩:=B.fh.f.above f g;have bZ:(A.c x).i=(A.c p).i/\0<(A.c x).i:=B.fh.home x p f g
 funext k
 show(G.R k).map (Ma x p (G.F.u p))=_
 by_cases e:G.F.u p=-1
 .rw[Δ e];unfold dm
  by_cases d:k=h
  .rw[Δ d,d];have b:(p:Int)∈G.R h:=(B.rh.mem h p).2 ⟨ω,a,e,by grind⟩;rw[←Ba (B.rh.row h).nodup p x b];unfold Q4 Ma
   grind
  .rw[Γ d];have:∀z,z∈G.R k->Ma x p (G.F.u p) z=z:=λz c=>by
    unfold Ma;rw[Γ (λh=>?_)];rw[h.1] at c;have j:(A.c p).i=(k:Int):=((B.rh.mem k p).1 c).2.2.2;omega
   rw[List.map_congr_left this];simp
 .rw[Γ e];have:∀z,z∈G.R k->Ma x p (G.F.u p) z=z:=λz c=>by
   unfold Ma
   grind
  rw[List.map_congr_left this];simp
end


open Go Go.RowKit

def bB.set{w:World}{base g off n cap:Nat}{xs:List Int}(h:bB w base (.slice (some ⟨g,off,none⟩) n cap) xs)(i:Nat)(b:i<xs.length)(y:Int):bB (w.setCell ⟨g,off+i,none⟩ (.int .i64 y)) base (.slice (some ⟨g,off,none⟩) n cap) (xs.set i y):=by
 rcases h with⟨e,_⟩|⟨g',off',cap',cur,e,hb,hg,h1,h2,h3,h4⟩
 .cases e
 .cases e;refine Β ⟨g,off,cap,cur.setIfInBounds (off+i) (.int .i64 y),by grind,hb,?_,by grind,h2,ζ,λj u a=>?_⟩
  .simp[World.setCell,Array.getElem?_modify,hg]
  .grind
def bB.free{w:World}{base:Nat}{v:Value}{xs:List Int}(h:bB w base v xs){g:Nat}(a:v.ownBlock=some g)(j:Nat):w.frozen? ⟨g,j,none⟩=false:=by
 rcases h with⟨rfl,_⟩|⟨g',off',cap',cur,rfl,hb,hh,h1,h2,h3,h4⟩
 .cases a
 .simp[Value.ownBlock] at a;subst a;simp[World.frozen?,hh]
def QN{n:Nat}(S:CS){x p:Nat}(a:Int)(d:x<n)(hp:p<n):∀g,g∈(iI S x p a).blk n->g∈S.blk n:=λg c=>by
 obtain⟨y,b,e⟩:=(CS.kS _ n g).1 c;have e:(if y=x then S.v p else if y=p then S.v x else S.v y).ownBlock=some g:=e;rw[CS.kS]
 split at e
 .exact⟨p,hp,e⟩
 .split at e
  .exact⟨x,d,e⟩
  .exact⟨y,b,e⟩
section
variable{w:World}{B:BB}{F:List Nat}{gr cr lo:Nat}{A:NS}{st:Nat}{S:CS}{vs:List Value}{R:Nat->List Int}
def iZ.setX{f:World}(h:iZ w B F gr cr lo A st S vs R)(q:Nat)(m:q<vs.length)(b:ae (vs.getD q undef).ownBlock.toList w f)(X:List Int)(o:bB f 0 (vs.getD q undef) X):iZ f B F gr cr lo A st S vs (dm R q X):=by
 have i:∀g,g∈(vs.getD q undef).ownBlock.toList->(vs.getD q undef).ownBlock=some g:=λg c=>by simpa using c
 have d:∀g,g∈(vs.getD q undef).ownBlock.toList->g≠B.n0/\g≠B.bt/\g≠B.ba/\g≠gr/\g∉F/\g∉S.blk A.cs.length:=λg c=>h.d4 q g m (i g c)
 refine ⟨h.head.upd b (λa=>(d _ a).1 rfl),h.cells.upd b (λx n=>(d x n).2.2.2.2.1),
  h.jG.upd b (λa=>(d _ a).2.1 rfl) (λa=>(d _ a).2.2.1 rfl) (λg c a=>(d g a).2.2.2.2.2 c),
  au h.rows b (λg c a=>by simp [Value.ownBlock] at c;subst c;exact (d _ a).2.2.2.1 rfl),h.len,λk j=>?_,h.d1,h.d2,h.d3,h.d4,h.d5⟩
 unfold dm
 by_cases l:k=q
 .grind
 .rw[Γ l];exact(h.each k j).upd b (λg e a=>h.d5 k q g j m l e (i g a))
end
structure UI(w:World)(K:List Nat)(B:BB)(F:List Nat)(A:NS)(ct:Nat)(hp:Nat->Bool)(f:FuncId)(X6:Array Value):Prop where
 enters:Enters f
 calls:∀(W:World) (st above:Nat),ae K w W->W.cell? ⟨B.n0,0,none⟩=some (.pointer (some ⟨B.c,0,none⟩))->B.n0≠B.c->aD W B.c F A st->bY A (above:Int)=true->
  Calls prog f (#[.int .i64 (above:Int)]++X6) W λe w'=>e=.returned (.bool (hp above))/\aD w' B.c F A (dw st ct)/\ae [B.c] W w'
section
variable{w:World}{B:BB}{F:List Nat}{gr cr lo:Nat}{A:NS}{st:Nat}{S:CS}{vs:List Value}{G:BG}
def Fs(M:iZ w B F gr cr lo A st S vs G.R)(eF:S.f=G.F){x h ct:Nat}{hp:Nat->Bool}{f:FuncId}{X6:Array Value}(X:Hu A G x)(hx:x<A.cs.length)(hin:0<(A.c x).i)(hh:(A.c x).i=h)(hq:h<vs.length)(H:UI w (B.blk F gr A.cs.length S vs) B F A ct hp f X6):
  Calls prog 173 #[B.n0,(h:Int),(x:Int),.func (Fn.func f) #[] X6] w λe w'=>e=.returned (.tuple #[])/\
   ∃S',iZ w' B F gr cr lo A (dw st (ji hp ct x A.cs.length G).2) S' vs (ji hp ct x A.cs.length G).1.R/\S'.f=(ji hp ct x A.cs.length G).1.F/\ae (B.blk F gr A.cs.length S vs) w w'/\∀g,g∈S'.blk A.cs.length->g∈S.blk A.cs.length:=by
 have hz:=fG M.cells.oG;have hcl:=H.calls;have hen:=H.enters;unfold Enters at hen;have HM:=χ M;have HX:=χ (ψ X eF);have HC:=χ hcl;clear M X eF hcl H
 go_enter func173,ntmps173
 go_wp2
 go_loopg [8,9,10,11] A.cs.length (λfu _ _ _ _ wr=>∃(c:Nat) (G':BG) (S':CS),iZ wr B F gr cr lo A (dw st c) S' vs G'.R/\S'.f=G'.F/\Hu A G' x/\(∀g,g∈S'.blk A.cs.length->g∈S.blk A.cs.length)/\ae (B.blk F gr A.cs.length S vs) w wr/\A.cs.length<=fu+(G'.F.k x).length/\(ji hp ct x fu G').1=(ji hp ct x A.cs.length G).1/\(ji hp ct x fu G').2+c=(ji hp ct x A.cs.length G).2)
 case atStart=>exact⟨0,G,S,by rw[hz];exact HM.out,HX.out.2,HX.out.1,λg hg=>hg,ae.refl _ _,ω,rfl,rfl⟩
 case round=>
  rename Nat=>fu;obtain⟨c,G',S',hM,eF,X,hSb,hu,hfu,hl1,hl2⟩:=hrel;rename World=>wr;have hlen:=X.fh.f.len hx;obtain⟨fv,rfl⟩:∃fv,fu=fv+1:=⟨fu-1,ω⟩;have ku:=yL B.bt B.ba lo A.cs.length S' (x:Int) wr hM.jG;have h1:=hM.h1;have eux:S'.u x=G'.F.u x:=by rw[←eF];rfl
  have kb:∀y,y∈B.blk F gr A.cs.length S' vs->y∈B.blk F gr A.cs.length S vs:=λy hy=>by
   simp only[BB.blk,ρ,τ] at hy ⊢
   grind
  have HR:=χ (ψ hM (ψ eF (ψ X (ψ hSb (ψ hu (ψ hl1 (ψ hl2 kb)))))));rcases X.fh.f.up x hx with e1|⟨p,hp1,e1,e2⟩
  .have eu:La A.cs.length S' (x:Int)=none:=by unfold La;rw[Δ ω,π,eux,Δ e1]
   rw[eu] at ku;have E1:=χ e1;clear hM X hl1 hl2 eu e1 eux kb hSb hfu
   go_wp2_with (((with_reducible refine aP ku ?_)))
   refine bodyPost_ret (v:=.tuple #[]) (by simp[results,results173,go_sem]) rfl ?_;obtain⟨hM,eF,X,hSb,hu,hl1,hl2,kb⟩:=HR.out;rw[xq E1.out] at hl1 hl2
   grind
  .have eu:La A.cs.length S' (x:Int)=some (p:Int):=by unfold La;rw[Δ ω,π,eux,e1,Γ ω]
   rw[eu] at ku;simp only[ov,ob,Option.getD_some,Option.isSome_some] at ku;have bZ:(A.c x).i=(A.c p).i:=(X.fh.home x p hx e1).1;have hip:bY A (p:Int)=true:=(aj _ _).2 ⟨hp1,ω⟩;have kh:=HC.out wr (dw st c) p hu hM.h0 hM.cn.1 hM.cells hip;rw[je] at kh;cases hhp:hp p with
   |false=>
    rw[hhp] at kh;have E1:=χ (ψ e1 hhp);clear hM X hl1 hl2 eu e1 eux kb hSb hfu hhp
    go_wp2_with (first
     |((with_reducible refine aP ku ?_))
     | ((with_reducible refine kh.mono ?_);rintro e w2 ⟨rfl,hC2,hu2⟩))
    refine bodyPost_ret (v:=.tuple #[]) (by simp[results,results173,go_sem]) rfl ?_;obtain⟨hM,eF,X,hSb,hu,hl1,hl2,kb⟩:=HR.out;rw[Bp E1.out.1 E1.out.2] at hl1 hl2;refine⟨rfl,S',?_,by rw[←hl1];exact eF,hu.trans (hu2.mono (λy hy=>by simp at hy;subst hy;exact uQ _ HM.out.cells.mem)),hSb⟩;rw[←hl1,←hl2,show(((G',ct):BG×Nat)).2+c=c+ct by simp;omega];exact hM.setSt hu2 hC2
   |true=>
    rw[hhp] at kh;have okL:=Pe (S:=S') (by rw[eF];exact X.fh.f) hx hp1 (by rw[eux];exact e1) (show(x:Int)∈S'.f.k p by rw[eF];exact e2);have eup:S'.u p=G'.F.u p:=by rw[←eF];rfl
    have hfL:=Dg X hx e1;have hmL:=EZ X hx e1;have hrR:=Qf X hx e1 hh;have E1:=χ (ψ e1 (ψ hhp (ψ hfL (ψ hmL (ψ hrR (ψ hfu eup))))))
    have FIN:=χ (show ∀ (W w3:World),iZ W B F gr cr lo A (dw st (c+ct)) S' vs (tX G' x p).R->ae (B.blk F gr A.cs.length S vs) w W->bu w3 B.bt B.ba lo A.cs.length (iI S' x p (S'.u p))->ae (B.ba::S'.blk A.cs.length) W w3->
      ∃(c2:Nat) (G2:BG) (S2:CS),iZ w3 B F gr cr lo A (dw st c2) S2 vs G2.R/\S2.f=G2.F/\Hu A G2 x/\(∀g,g∈S2.blk A.cs.length->g∈S.blk A.cs.length)/\ae (B.blk F gr A.cs.length S vs) w w3/\A.cs.length<=fv+(G2.F.k x).length/\(ji hp ct x fv G2).1=(ji hp ct x A.cs.length G).1/\(ji hp ct x fv G2).2+c2=(ji hp ct x A.cs.length G).2 from λW w3 jI XB hF3 hu3=>by
     have hb3:=QN S' (S'.u p) hx hp1
     have jH:=jI.fH (hu3.mono (λy hy=>Λ _ hy)) (jI.cells.upd hu3 (λy hy hm=>by
      rcases ρ.1 hy with e|e
      .subst e;exact jI.d1.2.2.1 hm
      .exact (jI.d3 y e).2.2 hm)) hF3 (λg hg=>Α (hb3 g hg))
     rw[zV e1 hhp] at hl1 hl2;refine⟨c+ct,tX G' x p,iI S' x p (S'.u p),jH,by rw[aaU,eF,eup];rfl,hfL,λg hg=>hSb g (hb3 g hg),XB.trans (hu3.mono (λy hy=>?_)),ω,hl1,by simp only at hl2;omega⟩;rcases ρ.1 hy with e|e
     .subst e;simp[BB.blk]
     .have:=hSb y e;simp only[BB.blk,ρ,τ]
      grind)
    have kM:=χ (show ∀w2,aD w2 B.c F A (dw st (c+ct))->ae [B.c] wr w2->iZ w2 B F gr cr lo A (dw st (c+ct)) S' vs G'.R/\ae (B.blk F gr A.cs.length S vs) w w2 from λw2 hC2 hu2=>⟨hM.setSt hu2 hC2,hu.trans (hu2.mono (λy hy=>by simp at hy;subst hy;exact uQ _ HM.out.cells.mem))⟩);have hup:=X.fh.f.up p hp1;have hpR:G'.F.u p=-1->(p:Int)∈G'.R h:=λe=>(X.rh.mem h p).2 ⟨ω,hp1,e,by show(A.c p).i=_;omega⟩;have hnd:=(X.rh.row h).nodup;clear hM X hl1 hl2 eu e1 eux kb hSb hfu hhp hfL hmL hrR e2 hu;rcases hup with e3|⟨q,hq1,e3,_⟩
    .have eu2:La A.cs.length S' (p:Int)=none:=by unfold La;rw[Δ ω,π,eup,Δ e3]
     have hpm:=hpR e3;obtain⟨i,hi,hidx,hix⟩:=yT (G'.R h) (p:Int) hpm;have E3:=χ (ψ e3 (ψ hpm hnd));clear e3 hpR eup hpm hnd
     go_wp2_with (first
      |((with_reducible refine aP ku ?_))
      |((with_reducible refine kh.mono ?_);rintro e w2 ⟨rfl,hC2,hu2⟩;obtain⟨hM2,hu3⟩:=kM.out w2 hC2 hu2;(have h2:=hM2.h1);(have ku2:=yL B.bt B.ba lo A.cs.length S' (p:Int) w2 hM2.jG);rw[eu2] at ku2;simp only[ov,ob,Option.getD_none,Option.isSome_none] at ku2;(have pW:=χ hM2);clear hM2)
      | ((with_reducible refine aP ku2 ?_)))
     have hsl:lS w2 [] (vs.getD h undef) (G'.R h):=(pW.out.each h hq).sl (λg _=>σ);have kix:=λW (hW:ae [] w2 W)=>I1 W [] (vs.getD h undef) (G'.R h) (p:Int) (hsl.upd hW σ);rw[hidx] at kix;obtain⟨a0,cap,hv,hlc,hcp,hcs⟩:=(pW.out.each h hq).shape;obtain⟨g,off,rfl,hci⟩:=hcs i (p:Int) hix;have hfi:w2.frozen? ⟨g,off+i,none⟩=false:=(pW.out.each h hq).free (by rw[hv];rfl) _;have hR2:=pW.out.h2;have hrc:=pW.out.Pz hq;rw[hv] at kix hrc;have hib0:(0:Int)<=(h:Int):=ω;have Cq:(h:Int)<(vs.length:Int):=ω;have DV:(0:Int)<=(i:Int):=ω;have hib3:(i:Int)<((G'.R h).length:Int):=ω
     have hfin:=χ (show iZ (w2.setCell ⟨g,off+i,none⟩ (.int .i64 (x:Int))).drew B F gr cr lo A (dw st (c+ct)) S' vs (dm G'.R h (setAt (G'.R h) (p:Int) (x:Int)))/\ae (B.blk F gr A.cs.length S vs) w (w2.setCell ⟨g,off+i,none⟩ (.int .i64 (x:Int))).drew from by
      have u1:ae (vs.getD h undef).ownBlock.toList w2 (w2.setCell ⟨g,off+i,none⟩ (.int .i64 (x:Int))).drew:=by
       rw[hv];exact((ae.refl _ _).setCell (Α (by simp[Value.ownBlock])) _).drew
      have o1:bB (w2.setCell ⟨g,off+i,none⟩ (.int .i64 (x:Int))).drew 0 (vs.getD h undef) (setAt (G'.R h) (p:Int) (x:Int)):=by
       have:=pW.out.each h hq;rw[hv] at this ⊢;have o2:=this.set i hi (x:Int);unfold setAt;rw[hidx,π];exact o2.upd ((ae.refl [] _).drew) σ
      refine⟨pW.out.setX h hq u1 _ o1,hu3.trans (u1.mono (λy hy=>?_))⟩;simp only[BB.blk,ρ,τ]
      exact Β (Β (Β (Β (Β (Β (jN.2 ⟨h,hq,by simpa using hy⟩)))))))
     clear hi hidx hix hcs hv hsl;generalize hrlq:(G'.R h).length=rl at *
     go_cut [55] (λs55 wx=>iZ wx B F gr cr lo A (dw st (c+ct)) S' vs (dm G'.R h (setAt (G'.R h) (p:Int) (x:Int)))/\ae (B.blk F gr A.cs.length S vs) w wx)
     case first=>
      go_region_law
       (first
        | (go_simp;(with_reducible refine aP (kix _ β) ?_)))
      all_goals
       go_wp2
       go_meet
       exact hfin.out
     case rest=>
      obtain⟨jH,iK⟩:=hcut;have h3:=jH.h1;have kl:=J7 B.bt B.ba lo A.cs.length S' x p (S'.u p) wc jH.jG okL;have Es:=χ jH;clear jH hfin ku kh ku2 kix hR2 hrc hci hfi
      go_wp2_with (((with_reducible refine kl.mono ?_));rintro e w3 ⟨rfl,hF3,dD⟩)
      go_roundg fv
      case measure=>omega
      case rel=>
       have hR2:=E1.out.2.2.2.2.1;rw[E3.out.1,Δ rfl] at hR2;exact FIN.out wc w3 (by rw[hR2];exact Es.out) iK hF3 dD
    .have eu2:La A.cs.length S' (p:Int)=some (q:Int):=by unfold La;rw[Δ ω,π,eup,e3,Γ ω]
     have E3:=χ e3;clear e3 hpR eup
     go_wp2_with (first
      |((with_reducible refine aP ku ?_))
      |((with_reducible refine kh.mono ?_);rintro e w2 ⟨rfl,hC2,hu2⟩;obtain⟨hM2,hu3⟩:=kM.out w2 hC2 hu2;(have h2:=hM2.h1);(have ku2:=yL B.bt B.ba lo A.cs.length S' (p:Int) w2 hM2.jG);rw[eu2] at ku2;simp only[ov,ob,Option.getD_some,Option.isSome_some] at ku2;(have kl:=J7 B.bt B.ba lo A.cs.length S' x p (S'.u p) w2 hM2.jG okL);(have pW:=χ hM2);clear hM2)
      |((with_reducible refine aP ku2 ?_))
      | (((with_reducible refine kl.mono ?_));rintro e w3 ⟨rfl,hF3,iK⟩))
     go_roundg fv
     case measure=>omega
     case rel=>
      have hR2:=E1.out.2.2.2.2.1;rw[E3.out,Γ ω] at hR2;exact FIN.out w2 w3 (by rw[hR2];exact pW.out) hu3 hF3 iK
end
def RG(W:World)(f c g h:Nat)(F:List Nat)(A:NS)(st x y:Nat)(j:W.cell? g=some (f:V))(k:W.cell? h=some ((x:Int):V))(l:W.cell? f=some (c:V))
  (m:aD W c F A st) (n:bY A (x:Int)=true) (o:bY A (y:Int)=true) (t:g≠c) (u:h≠c) (v:f≠c):
  Calls prog 174 #[(y:Int),g,h] W λe w'=>e=.returned (.bool (decide (dA A x y)))/\aD w' c F A (dw st 1)/\ae [c] W w':=by
 have r:=λa (d:ae [] W a)=>fA (m.ag d) x y n o;have w:∀a,ae [c] W a->a.cell? g=some (f:V):=λa d=>d.kept j (by simpa using t);have z:∀a,ae [c] W a->a.cell? h=some ((x:Int):V):=λa d=>d.kept k (by simpa using u);have B:∀a,ae [c] W a->a.cell? f=some (c:V):=λa d=>d.kept l (by simpa using v);clear m n o j k l;generalize decide (dA A x y)=b at *
 go_enter func174,ntmps174
 go_wp2
 go_region_held3 (ae [c] W) (exact ν)
  (first
   | (((with_reducible refine (r _ β).mono ?_));rintro e p ⟨rfl,q,i⟩;(have s:ae [c] W p:=ae.trans ν i)))
 go_wp2;go_ret;exact⟨rfl,q.ag β,ν⟩
def Lx(W:World)(y:Int):Calls prog 175 #[y] W λe w'=>e=.returned true/\w'=W:=by
 go_enter func175,ntmps175
 go_wp2;go_ret;exact⟨rfl,rfl⟩
def Sv(w:World)(K:List Nat)(B:BB)(F:List Nat)(A:NS):UI w K B F A 0 (λ_=>true) 175 #[]:=by
 refine⟨λ_ _=>by kernel_rfl,λW st above hu h0 hne hC hin=>?_⟩;refine(Lx W above).mono ?_;rintro e w' ⟨rfl,rfl⟩;exact⟨rfl,by rw[fG hC.oG];exact hC,ae.refl _ _⟩
def NN(w:World)(K:List Nat)(B:BB)(F:List Nat)(A:NS)(b3 b4 x:Nat)(h3:w.cell? b3=some (B.n0:V))(h4:w.cell? b4=some ((x:Int):V))(hx:bY A (x:Int)=true)(k3:b3∉K)(k4:b4∉K)(hc:B.c∈K):
  UI w K B F A 1 (λy=>decide (dA A x y)) 174 #[b3,b4]:=by
 refine⟨λ_ _=>by kernel_rfl,λW st above hu h0 hne hC hin=>?_⟩;exact RG W B.n0 B.c b3 b4 F A st x above (hu.kept h3 k3) (hu.kept h4 k4) h0 hC hx hin (λe=>k3 (e▸hc)) (λe=>k4 (e▸hc)) hne
section
variable{w:World}{p:Nat}{FF:List Nat}{A:NS}{st:Nat}{G:BG}
def VR(A':NS)(x:Nat)(G:BG):BG×Nat:=ji (λy=>decide (dA A' x y)) 1 x A'.cs.length G
def acP{x:Nat}{k s:Int}(I:CZ A G)(f:iX A x k s=true)(g:x<A.cs.length):CZ (aA A x k s) (VR (aA A x k s) x G).1:=by
 obtain⟨X,i⟩:=Fj I f g;have j:=gD A x k s;have a:x<(aA A x k s).cs.length:=by grind
 have E:=Bd (hp:=λy=>decide (dA (aA A x k s) x y)) (ct:=1) a (aA A x k s).cs.length X ω;have K:=BD (hp:=λy=>decide (dA (aA A x k s) x y)) (ct:=1) a (λp _ h=>ϟ h) (aA A x k s).cs.length X (by grind);refine E.1.done a K (λp hp=>?_);rcases E.2 with h|⟨p',c,d⟩
 .grind
 .have hp:(VR (aA A x k s) x G).1.F.u x=p:=hp;have c:(VR (aA A x k s) x G).1.F.u x=p':=c;obtain rfl:p=p':=ω;have b:x≠p:=λe=>by
   grind
  exact(jA b).resolve_left (of_decide_eq_false d)
def WG(h:FC w p FF A st G)(x:Nat)(k s:Int)(hk:-9223372036854775808<=k/\k<=9223372036854775807/\0<=s/\s<=18446744073709551615)(m:iX A x k s=true):
  Calls prog 165 #[(p:Nat),(x:Int),.agg #[k,.int .u64 s]] w λe w'=>e=.returned true/\
   Goes FF w w' (λCr=>FC w' p Cr (aA A x k s) (dw st (VR (aA A x k s) x G).2) (VR (aA A x k s) x G).1):=by
 obtain⟨⟨B,F,gr,cr,lo,S,vs,rfl,rfl,M,Z⟩,I⟩:=h;have i:=tN m;obtain⟨H,J⟩:=(aj _ _).1 i;obtain⟨X, -⟩:=Fj I m H;have I2:=acP I m H;have d:=gD A (x:Int) k s;have jw:=mX A (x:Int) k s;have f:=iW m H x;have o:bY (aA A x k s) (x:Int)=true:=(aj _ _).2 ⟨ω,ω⟩;have N:=iH M.cells.ok i;rw[π] at N;obtain⟨q,K,hq1,L⟩:=M.hq N;obtain⟨b,c⟩:∃b,b=((w.alloc (.cells #[B.n0] 126)).alloc (.cells #[(x:Int)] 3)).alloc (.cells #[k,.int .u64 s] 97):=⟨_,rfl⟩;have u:ae [] w b:=by rw[c];exact β
 have b3:b.cell? w.heap.size=some (B.n0:V):=by rw[c];go_simp
 have b4:b.cell? (w.heap.size+1:Nat)=some ((x:Int):V):=by rw[c];go_simp
 have b5:b.cell? (w.heap.size+1+1:Nat)=some (k:V):=by rw[c];go_simp
 have b6:b.cell? ⟨w.heap.size+1+1,1,none⟩=some (.int .u64 s):=by rw[c];go_simp
 have r:∀j,w.heap.size+j∉F:=λj z=>by have:=M.cells.lt _ z;omega
 have kl:=λW (a:ae [] b W)=>iR (M.cells.ag (u.trans a)) x k s hk m;have h0:=u.was M.h0;have wC:=M.d1.1;have r0:∀W,ae F b W->W.cell? B.n0=some (B.c:V):=λW a=>a.kept h0 wC;have r3:∀W,ae F b W->W.cell? w.heap.size=some (B.n0:V):=λW a=>a.kept b3 (r 0);have r4:∀W,ae F b W->W.cell? (w.heap.size+1:Nat)=some ((x:Int):V):=λW a=>a.kept b4 (r 1);have r5:∀W,ae F b W->W.cell? (w.heap.size+1+1:Nat)=some (k:V):=λW a=>a.kept b5 (r 2)
 have r6:∀W,ae F b W->W.cell? ⟨w.heap.size+1+1,1,none⟩=some (.int .u64 s):=λW a=>a.kept b6 (r 2);have O:=χ M;have g:=χ (ψ X (ψ I2 (ψ Z (ψ d (ψ jw o)))));have HW:=χ c;clear M I X I2 Z d jw i N h0 b3 b4 b5 b6 m r c;generalize hA':aA A (x:Int) k s=A' at *;rw[K] at f
 go_enter func165,ntmps165
 go_wp2;rw[←HW.out]
 go_region_held3 (ae F b) (exact ν)
  (first
   | (((with_reducible refine (kl _ β).mono ?_));rintro e Q ⟨rfl,R,iK⟩;(have acD:ae F b Q:=ae.trans ν iK)))
 have P:=λW (a:ae [] Q W)=>bX (R.ag a) x g.out.2.2.2.2.2;rw[f] at P;go_wp2
 go_region_held3 (ae F b) (exact ν)
  (first
   | (((with_reducible refine (P _ β).mono ?_));rintro e n ⟨rfl,T,dD⟩;(have v:ae F b n:=ae.trans ν dD)))
 have wY:=(O.out.ag u).cK v T (λy C=>Α C) g.out.2.2.2.1 (by rw[g.out.2.2.2.2.1]);have g3:=r3 n v;have g4:=r4 n v;have t:=O.out.lt;have d:=g.out.2.2.2.1;have l:∀j,w.heap.size+j∉B.blk F gr A'.cs.length S vs:=λj z=>by rw[d] at z;have:=t _ z;omega
 have H5:=λ(W:World) (a:ae [] n W)=>NN W (B.blk F gr A'.cs.length S vs) B F A' w.heap.size (w.heap.size+1) x (a.was g3) (a.was g4) g.out.2.2.2.2.2 (l 0) (l 1) (uQ _ O.out.cells.mem);have kL:=λW (a:ae [] n W)=>Fs (wY.ag a) g.out.2.2.1 g.out.1 ω (by rw[f];omega) f L (H5 W a);clear wY T R P kl r0 r5 r6 t l r3 r4
 go_wp2_with ((((with_reducible refine(kL _ β).mono ?_));rintro e w6 ⟨rfl,U,wR,D,Y,E⟩))
 go_ret;have d:=g.out.2.2.2.1;have uw:ae (B.blk F gr A.cs.length S vs) w w6:=by
  rw[d] at Y;exact((u.mono σ).trans (v.mono uQ)).trans (ae.trans ν Y)
 refine⟨rfl,B.blk F gr A'.cs.length U vs,⟨⟨B,F,gr,cr,lo,U,vs,rfl,rfl,wR,D⟩,g.out.2.1⟩,uw,λy C=>Α ?_⟩;rw[d] at C E;simp only[BB.blk,ρ,τ] at C ⊢
 grind
def JQ(A:NS)(x:Nat)(G:BG):BG×Nat:=ji (λ_=>true) 0 x A.cs.length G
def delG(A:NS)(x:Nat)(G:BG):BG:=rD A (A.c x).i.toNat x (JQ A x G).1
def delQ(A:NS)(x:Nat)(G:BG):Nat:=(JQ A x G).2+yu A (A.c x).i.toNat x (JQ A x G).1
def XW{x:Nat}(I:CZ A G)(a:x<A.cs.length):Hu A (JQ A x G).1 x/\(JQ A x G).1.F.u x=-1:=by
 have E:=Bd (hp:=λ_=>true) (ct:=0) a A.cs.length (I.x a) ω;refine⟨E.1,?_⟩;rcases E.2 with h|⟨p,_,h⟩
 .exact h
 .cases h
def VS(h:FC w p FF A st G)(x:Nat)(c:bY A (x:Int)=true):
  Calls prog 166 #[(p:Nat),(x:Int)] w λe w'=>e=.returned true/\
   Goes FF w w' (λCr=>FC w' p Cr (aS A x) (dw st (delQ A x G)) (delG A x G)):=by
 obtain⟨⟨B,F,gr,cr,lo,S,vs,rfl,rfl,M,D⟩,I⟩:=h;obtain⟨j,a⟩:=(aj _ _).1 c;obtain⟨t,f⟩:=XW I j;have u:=iH M.cells.ok c;rw[π] at u;obtain⟨q,b,P,k⟩:=M.hq u;have T:=(Ig t M.cells.ok j f a b).1;have E:(A.c x).i.toNat=q:=ω;have H:=bX M.cells x c;rw[b] at H;have h0:=M.h0;have Q:=λW (C:iZ W B F gr cr lo A st S vs G.R)=>Fs C D (I.x j) j a b k (Sv W (B.blk F gr A.cs.length S vs) B F A);have R:=λW K (C:iZ W B F gr cr lo A (dw st (JQ A x G).2) K vs (JQ A x G).1.R) (e:K.f=(JQ A x G).1.F)=>FD C e t j f a b k;have U:=χ M
 have J:=χ (ψ T E);clear M I t f u T D E c
 go_enter func166,ntmps166
 go_wp2_with (first
  |(((with_reducible refine H.mono ?_));rintro e w1 ⟨rfl,L,d⟩;(have l:=U.out.cK d L (λy m=>Α m) rfl rfl);(have v:=Q _ l);(have X:=d.size);clear l)
  |(((with_reducible refine v.mono ?_));rintro e w2 ⟨rfl,S2,n,o,g,N⟩;(have z:=R _ S2 n o);(have Y:=g.size))
  | (((with_reducible refine z.mono ?_));rintro e w3 ⟨rfl,r,i,s,O⟩))
 go_ret;have Z:∀y,y∈B.blk F gr A.cs.length S2 vs->y∈B.blk F gr A.cs.length S vs:=λy m=>by
  simp only[BB.blk,ρ,τ] at m ⊢
  grind
 rw[je] at i;refine⟨rfl,r,?_,((d.mono uQ).trans g).trans (s.mono Z),λy m=>?_⟩
 .unfold delQ delG;rw[J.out.2];exact⟨i,J.out.1⟩
 .grind
