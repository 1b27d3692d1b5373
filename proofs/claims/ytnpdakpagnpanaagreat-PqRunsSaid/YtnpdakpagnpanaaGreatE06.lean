/-
  Lemmas.
-/
import Derived.Test.YtnpdakpagnpanaaGreatE05
set_option linter.all false
set_option maxHeartbeats 8000000
set_option maxRecDepth 10000
namespace Go.Proofs.YtnpdakpagnpanaaGreat
open Tryz
open Go Go.RowKit
section
variable{K:mE}{w:World}{p pa pn:Nat}{Fa Fn F:List Nat}{kd d:Int}{R:AR}{A:NS}{q:Nat}
def yK{x:Nat}(a:R.v x=true):gL R (x:Int) (R.g x:Int)=true:=by
 have b:=AR.Dq a;unfold gL
 grind
def nA{x g:Int}(h:gL R x g=true):∃y:Nat,x=y/\g=(R.g y:Int)/\R.v y=true:=by
 unfold gL at h
 grind
def Un(h:bR K.toNestQ w p F kd d R A q)(x:Nat)(c:R.v x=true):
  Calls prog 30 #[(p:Nat),.agg #[(x:Int),.int .u32 (R.g x:Int)]] w λe w'=>e=.returned (.tuple #[.int .i64 (A.c x).k,(0:Int)])/\ae [] w w':=by
 have g:=λW (i:ae [] w W)=>pQ (h.ag i) x c;clear h c;generalize R.g x=j at *;generalize A.c x=k at *
 go_enter func30,ntmps30
 go_wp2_with ((((with_reducible refine(g _ β).mono ?_));rintro e f ⟨rfl,a⟩;(have b:ae [] w f:=ae.trans β a)))
 go_ret2;exact⟨rfl,b.trans ((ae.refl _ _).alloc _)⟩
def Y4(h:bR K.toNestQ w p F kd d R A q)(x g:Int)(k:0<=g/\g<=4294967295)(c:gL R x g=false):
  Calls prog 30 #[(p:Nat),.agg #[x,.int .u32 g]] w λe w'=>e=.returned (.tuple #[(0:Int),(33:Int)])/\ae [] w w':=by
 have i:=λW (j:ae [] w W)=>zB (h.ag j) x g k c;clear h c
 go_enter func30,ntmps30
 go_wp2_with ((((with_reducible refine(i _ β).mono ?_));rintro e f ⟨rfl,a⟩;(have b:ae [] w f:=ae.trans β a)))
 go_ret2;exact⟨rfl,b.trans ((ae.refl _ _).alloc _)⟩
def ZT(h:bR K.toNestQ w p F kd d R A q)(x g k:Int)(l:0<=g/\g<=4294967295)(c:gL R x g=false):
  Calls prog 31 #[(p:Nat),.agg #[x,.int .u32 g],k] w λe w'=>e=.returned (33:Int)/\ae [] w w':=by
 have i:=λW (j:ae [] w W)=>zB (h.ag j) x g l c;clear h c
 go_enter func31,ntmps31
 go_wp2_with ((((with_reducible refine(i _ β).mono ?_));rintro e f ⟨rfl,a⟩;(have b:ae [] w f:=ae.trans β a)))
 go_ret;exact⟨rfl,b.trans ((ae.refl _ _).alloc _)⟩
def X9(h:bR K.toNestQ w p F kd d R A q)(x:Nat)(k:Int)(c:R.v x=true)(l:(A.c x).k<k):
  Calls prog 31 #[(p:Nat),.agg #[(x:Int),.int .u32 (R.g x:Int)],k] w λe w'=>e=.returned (173:Int)/\ae [] w w':=by
 have g:=λW (i:ae [] w W)=>pQ (h.ag i) x c;clear h c;generalize R.g x=j at *;generalize (A.c x).k=ck at *;generalize (A.c x).s=cs at *
 go_enter func31,ntmps31
 go_wp2_with ((((with_reducible refine(g _ β).mono ?_));rintro e f ⟨rfl,a⟩;(have b:ae [] w f:=ae.trans β a)))
 go_ret;exact⟨rfl,b.trans ((ae.refl _ _).alloc _)⟩
def ZZ(h:bR K.toNestQ w p F kd d R A q)(x g:Int)(k:0<=g/\g<=4294967295)(c:gL R x g=false):
  Calls prog 44 #[(p:Nat),.agg #[x,.int .u32 g]] w λe w'=>e=.returned (.tuple #[(0:Int),(33:Int)])/\ae [] w w':=by
 have i:=λW (j:ae [] w W)=>zB (h.ag j) x g k c;clear h c
 go_enter func44,ntmps44
 go_wp2_with ((((with_reducible refine(i _ β).mono ?_));rintro e f ⟨rfl,a⟩;(have b:ae [] w f:=ae.trans β a)))
 go_ret2;exact⟨rfl,b.trans ((ae.refl _ _).alloc _)⟩
def Xt(h:bR K.toNestQ w p F kd d R A q)(x:Nat)(t:R.v x=true):
  Calls prog 44 #[(p:Nat),.agg #[(x:Int),.int .u32 (R.g x:Int)]] w λe w'=>e=.returned (.tuple #[.int .i64 (A.c x).k,(0:Int)])/\Goes F w w' (λF'=>bR K.toNestQ w' p F' kd d (iB R x) (aS A x) q):=by
 have O:=λW (b:ae [] w W)=>pQ (h.ag b) x t;have l:bY A (x:Int)=true:=by rw[←h.ok.2.2.2];exact t
 have D:=h.lt;obtain⟨pa,pn,Fa,Fn,rfl,h⟩:=h;have P:=h.c2;have Q:=h.c3;have s:=χ (ψ h (ψ l t));clear h t l;generalize r:R.g x=M at *;have E:=χ r;clear r;generalize (A.c x).k=ck at *;generalize (A.c x).s=cs at *
 go_enter func44,ntmps44
 go_upto_region 4 with((((with_reducible refine(O _ β).mono ?_));rintro e g ⟨rfl,a⟩;(have S:g.cell? w.heap.size=some ((x:Int):V):=a.was γ);(have x1:g.cell? ⟨w.heap.size,1,none⟩=some (.int .u32 (M:Int)):=a.was γ);(have k:ae [] w g:=ae.trans β a)))
 have G:=Ε g _ S;refine aU (λW=>W.cell? w.heap.size=some ((x:Int):V)/\W.cell? ⟨w.heap.size,1,none⟩=some (.int .u32 (M:Int))/\W.cell? g.heap.size=some ((ck:Int):V)/\ae [] w W) ⟨γ,γ,γ,k.trans ((ae.refl _ _).alloc _)⟩ ?_;rintro W ⟨y0,y1,y2,b⟩;have H:=k.size;have z2:=b.was P;have z3:=b.was Q;have i:=s.out.1.upd b σ;obtain⟨f,fv,B,C⟩:=K.delete x s.out.2.1 i.nest;unfold Enters at B;have T:=(C W.drew ((ae.refl _ _).drew)).1;have hc:=(C W.drew ((ae.refl _ _).drew)).2;have I:w.heap.size∉p::(Fa++Fn):=λe=>by have:=D _ e;omega
 have m:g.heap.size∉p::(Fa++Fn):=λe=>by have:=D _ e;omega
 have U:w.heap.size∉Fn:=λe=>I (by simp[e]);have n:g.heap.size∉Fn:=λe=>m (by simp[e]);have o:g.heap.size∉Fa:=λe=>m (by simp[e]);have J:=i.s2;have Y:∀(j:World) (c:ae Fn W j) (X:World) (Z:ae [] j X),Calls prog 43 #[(pa:Nat),.agg #[(x:Int),.int .u32 (M:Int)]] X λe w'=>e=.returned (0:Int)/\Goes Fa X w' (λF'=>qi w' pa F' (iB R x)):=λj c X Z=>by
  have:=CQ ((i.ar.upd c (λx hx T=>i.s3 x T hx)).upd Z σ) x s.out.2.2;rw[E.out] at this;exact this
 have HZ:=χ (ψ i b);clear i b C S x1 k a G O P Q D H
 go_region_law
  (first
   | (go_simp;(with_reducible refine hc.mono ?_);rintro e j ⟨rfl,xn,KQ,qP,u⟩;(have c:ae Fn W j:=((ae.refl Fn W).drew).trans qP);(have v0:=c.kept y0 U);(have v1:=c.kept y1 U);(have v2:=c.kept y2 n);(have v3:=c.kept z2 J)))
 all_goals
  have L:=Y j c j.drew ((ae.refl _ _).drew);clear Y
  go_upto_region 5 with(fail)
  go_region_law
   (first
    | (go_simp;(with_reducible refine L.mono ?_);rintro e w6 ⟨rfl,OH,v,N,y⟩;(have r2:=N.kept v2 o)))
  all_goals
   go_wp2;go_ret2;obtain⟨i,b⟩:=HZ.out;exact⟨rfl,(bR.out i s.out.2.1 KQ c (λz hz=>by rcases u z hz with e|e;exact Α e;exact Β e) ((ae.refl _ _).drew) v N y).after b⟩
def Wm(h:bR K.toNestQ w p F kd d R A q)(x g:Int)(t:0<=g/\g<=4294967295)(k:gL R x g=false):
  Calls prog 45 #[(p:Nat),.agg #[x,.int .u32 g]] w λe w'=>e=.returned (.tuple #[(0:Int),(33:Int)])/\ae [] w w':=by
 obtain⟨pa,pn,Fa,Fn,rfl,h⟩:=h;have f:=λW (r:ae [] w W)=>pI (h.ar.upd r σ) x g t;rw[k] at f;have a:=h.c2;clear h k
 go_enter func45,ntmps45
 go_upto_region 1 with(fail)
 refine aU (λW=>W.cell? w.heap.size=some (x:V)/\W.cell? ⟨w.heap.size,1,none⟩=some (.int .u32 g)/\ae [] w W) ⟨γ,γ,β⟩ ?_;rintro W ⟨i,j,b⟩;have m:=λX (s:ae [] W X)=>f X (b.trans s);have u:∀X,ae [] W X->X.cell? w.heap.size=some (x:V):=λX h=>h.was i;have v:∀X,ae [] W X->X.cell? ⟨w.heap.size,1,none⟩=some (.int .u32 g):=λX h=>h.was j;have y:∀X,ae [] W X->X.cell? ⟨p,2,none⟩=some ((pa:Nat):V):=λX h=>h.was (b.was a);have n:=χ b;clear b i j f a
 go_region_held3 (ae [] W) (exact ν)
  (first
   | (((with_reducible refine (m _ ν).mono ?_));rintro e l ⟨rfl,c⟩;(have o:ae [] W l:=ae.trans ν c)))
 all_goals
  go_wp2;go_ret2;exact⟨rfl,n.out.trans ν⟩
def Qx(h:bR K.toNestQ w p F kd d R A q)(x:Nat)(y:R.v x=true):
  Calls prog 45 #[(p:Nat),.agg #[(x:Int),.int .u32 (R.g x:Int)]] w λe w'=>e=.returned (.tuple #[.int .i64 (A.c x).i,(0:Int)])/\Goes F w w' (λF'=>bR K.toNestQ w' p F' kd d R A q):=by
 have j:bY A (x:Int)=true:=by rw[←h.ok.2.2.2];exact y
 have J:=h.ok.2.1.gm x;have L:=h.ok.2.1.WE;have k:=yK y;obtain⟨pa,pn,Fa,Fn,rfl,h⟩:=h;have u:=λW (T:ae [] w W)=>pI (h.ar.upd T σ) (x:Int) (R.g x:Int) ω;rw[k] at u;have l:=h.c2;have m:=h.c3;have B:=χ (ψ h j);clear h k y j;generalize R.g x=E at *;generalize n:(A.c x).i=ix at *;have v:=χ n;clear n
 go_enter func45,ntmps45
 go_upto_region 1 with(fail)
 refine aU (λW=>W.cell? w.heap.size=some ((x:Int):V)/\W.cell? ⟨w.heap.size,1,none⟩=some (.int .u32 (E:Int))/\ae [] w W) ⟨γ,γ,β⟩ ?_;rintro W ⟨b,z,a⟩;have C:=λX (g:ae [] W X)=>u X (a.trans g);have M:∀X,ae [] W X->X.cell? w.heap.size=some ((x:Int):V):=λX h=>h.was b;have N:∀X,ae [] W X->X.cell? ⟨w.heap.size,1,none⟩=some (.int .u32 (E:Int)):=λX h=>h.was z;have O:∀X,ae [] W X->X.cell? ⟨p,2,none⟩=some ((pa:Nat):V):=λX h=>h.was (a.was l);have P:=χ (ψ a b);clear a b z u l
 go_region_held3 (ae [] W) (exact ν)
  (first
   | (((with_reducible refine (C _ ν).mono ?_));rintro e G ⟨rfl,o⟩;(have Q:ae [] W G:=ae.trans ν o)))
 go_upto_region 3 with(fail)
 obtain⟨a,b⟩:=P.out;refine aU (λX=>ae [] W X) ν ?_;intro X g;have y0:=g.was b;have c:=a.trans g;have z3:=c.was m;have i:=B.out.1.upd c σ;obtain⟨f,Z,s,t⟩:=K.home x B.out.2 i.nest;unfold Enters at s;have hm:=(t X.drew ((ae.refl _ _).drew)).1;have D:=(t X.drew ((ae.refl _ _).drew)).2;rw[v.out] at D;have S:=χ (ψ i c);clear i c t a b g C M N O m
 go_region_law
  (first
   | (go_simp;(with_reducible refine D.mono ?_);rintro e U ⟨rfl,Y,H,I,r⟩))
 all_goals
  go_wp2;go_ret2;obtain⟨i,c⟩:=S.out;exact⟨rfl,(i.moved H (((ae.refl Fn X).drew).trans I) r).after c⟩
end
structure St where
 R:AR
 A:NS
 q:Nat
structure Rp where
 c:Int
 h:Int
 s:Int
 g:Int
 k:Int
 n:Int
def Rp.v(r:Rp):Value:=.agg #[r.c,r.h,r.s,.int .u32 r.g,r.k,r.n]
def xR(c:Int):Rp:=⟨c,0,0,0,0,0⟩
def uJ(S:St):St×Rp:=(⟨S.R,aO S.A,S.q⟩,⟨if dF S.A=0 then 32 else 0,dF S.A,0,0,0,0⟩)
def mF(S:St)(h k:Int):St×Rp:=if aW S.A h=true then(match jF S.R with|some y=>(⟨y.2,aN S.A h (y.1:Int) k ((S.q:Int)+1),S.q+1⟩,⟨0,0,(y.1:Int),(S.R.g y.1:Int)+1,0,0⟩)|none=>(S,xR 32)) else(S,xR 171)
def lW(S:St)(h:Int):St×Rp:=(S,match dB S.A h with|some m=>⟨0,0,(m:Int),(S.R.g m:Int),(S.A.c m).k,0⟩|none=>xR (nO S.A h))
def lD(S:St)(h:Int):St×Rp:=match dB S.A h with|some m=>(⟨iB S.R m,aS S.A (m:Int),S.q⟩,⟨0,0,(m:Int),(S.R.g m:Int),(S.A.c m).k,0⟩)|none=>(S,xR (nO S.A h))
def vg(S:St)(x g k:Int):St×Rp:=if gL S.R x g=true then(if(S.A.c x.toNat).k<k then(S,xR 173) else(⟨S.R,aA S.A x k (S.A.c x.toNat).s,S.q⟩,xR 0)) else(S,xR 33)
def ow(S:St)(x g:Int):St×Rp:=if gL S.R x g=true then(⟨iB S.R x.toNat,aS S.A x,S.q⟩,⟨0,0,0,0,(S.A.c x.toNat).k,0⟩) else(S,xR 33)
def ql(S:St)(a b:Int):St×Rp:=if fQ S.A a b=true then(⟨S.R,az S.A a b,S.q⟩,xR 0) else(S,xR (if aW S.A a=false\/aW S.A b=false then 171 else 174))
def qH(S:St)(a:Int):St×Rp:=(S,if aW S.A a=true then⟨0,0,0,0,0,(cZ S.A a:Int)⟩ else xR 171)
def qK(S:St)(x g:Int):St×Rp:=(S,if gL S.R x g=true then⟨0,0,0,0,(S.A.c x.toNat).k,0⟩ else xR 33)
def qI(S:St)(x g:Int):St×Rp:=(S,if gL S.R x g=true then⟨0,(S.A.c x.toNat).i,0,0,0,0⟩ else xR 33)
structure Ac where
 op:Int
 a:Int
 b:Int
 s:Int
 g:Int
 o:Int
 k:Int
def Ac.v(a:Ac):Value:=.agg #[a.op,a.a,a.b,a.s,.int .u32 a.g,.int .u8 a.o,a.k]
def Ac.run(a:Ac)(S:St)(x g:Int):St×Rp:=
 if a.op=1 then uJ S else if a.op=2 then mF S a.a a.k else if a.op=3 then lW S a.a else if a.op=4 then lD S a.a else if a.op=5 then vg S x g a.k else if a.op=6 then ow S x g
 else if a.op=7 then ql S a.a a.b else if a.op=8 then qH S a.a else if a.op=9 then qK S x g else if a.op=10 then qI S x g else(S,xR 0)
def Xk(x:Int):Prop:=-9223372036854775808<=x/\x<=9223372036854775807
structure Ac.Ok(a:Ac):Prop where
 wa:Xk a.a
 wb:Xk a.b
 ws:Xk a.s
 wk:Xk a.k
 wg:0<=a.g/\a.g<=4294967295
 wo:0<=a.o/\a.o<=255
def oz(K:mE)(w:World)(p:Nat)(F:List Nat)(kd d:Int)(S:St):Prop:=bR K.toNestQ w p F kd d S.R S.A S.q
section
variable{K:mE}{w:World}{p:Nat}{F:List Nat}{kd d:Int}{S:St}
def oz.same(h:oz K w p F kd d S){w':World}(a:ae [] w w'):Goes F w w' (λF'=>oz K w' p F' kd d S):=Goes.stay (bR.ag h a) (a.mono σ)
def SK(h:oz K w p F kd d S):Calls prog 18 #[(p:Nat)] w λe w'=>e=.returned (.tuple #[.int .i64 (uJ S).2.h,.int .i64 (uJ S).2.c])/\Goes F w w' (λF'=>oz K w' p F' kd d (uJ S).1):=yC h
def PH(h:oz K w p F kd d S)(a k:Int)(i:Xk k)(j:S.q+1<=18446744073709551615):Calls prog 17 #[(p:Nat),a,k] w λe w'=>e=.returned (.tuple #[.agg #[.int .i64 (mF S a k).2.s,.int .u32 (mF S a k).2.g],.int .i64 (mF S a k).2.c])/\Goes F w w' (λF'=>oz K w' p F' kd d (mF S a k).1):=by
 unfold mF
 by_cases b:aW S.A a=true
 .rw[Δ b];cases g:jF S.R with
  |none=>exact(Hl h a k b g).mono λe w' ⟨c,f⟩=>⟨c,h.same f⟩
  |some y=>exact uO h a k b i j (x:=y.1) (R':=y.2) g
 .rw[Γ b];exact(DN h a k (by simpa using b)).mono λe w' ⟨c,f⟩=>⟨c,h.same f⟩
def Qi(h:oz K w p F kd d S)(a:Int)(c:Xk a):Calls prog 19 #[(p:Nat),a] w λe w'=>e=.returned (.tuple #[.agg #[.int .i64 (lW S a).2.s,.int .u32 (lW S a).2.g],.int .i64 (lW S a).2.k,.int .i64 (lW S a).2.c])/\Goes F w w' (λF'=>oz K w' p F' kd d (lW S a).1):=by
 unfold lW;cases b:dB S.A a with
 |none=>exact Ju h a c b
 |some m=>exact zU h a b
def QG(h:oz K w p F kd d S)(a:Int)(c:Xk a):Calls prog 22 #[(p:Nat),a] w λe w'=>e=.returned (.tuple #[.agg #[.int .i64 (lD S a).2.s,.int .u32 (lD S a).2.g],.int .i64 (lD S a).2.k,.int .i64 (lD S a).2.c])/\Goes F w w' (λF'=>oz K w' p F' kd d (lD S a).1):=by
 unfold lD;cases b:dB S.A a with
 |none=>exact Wy h a c b
 |some m=>exact Rj h a b
def PV(h:oz K w p F kd d S)(x g k:Int)(j:0<=g/\g<=4294967295)(l:Xk k):Calls prog 31 #[(p:Nat),.agg #[x,.int .u32 g],k] w λe w'=>e=.returned (.int .i64 (vg S x g k).2.c)/\Goes F w w' (λF'=>oz K w' p F' kd d (vg S x g k).1):=by
 unfold vg;cases i:gL S.R x g with
 |false=>
  rw[Γ σ];exact(ZT h x g k j i).mono λe w' ⟨a,b⟩=>⟨a,h.same b⟩
 |true=>
  rw[Δ rfl];obtain⟨y,rfl,rfl,f⟩:=nA i;rw[π]
  by_cases c:(S.A.c y).k<k
  .rw[Δ c];exact(X9 h y k f c).mono λe w' ⟨a,b⟩=>⟨a,h.same b⟩
  .rw[Γ c];exact Wd h y k f ω l.1
def Rm(h:oz K w p F kd d S)(x g:Int)(i:0<=g/\g<=4294967295):Calls prog 44 #[(p:Nat),.agg #[x,.int .u32 g]] w λe w'=>e=.returned (.tuple #[.int .i64 (ow S x g).2.k,.int .i64 (ow S x g).2.c])/\Goes F w w' (λF'=>oz K w' p F' kd d (ow S x g).1):=by
 unfold ow;cases a:gL S.R x g with
 |false=>
  rw[Γ σ];exact(ZZ h x g i a).mono λe w' ⟨c,f⟩=>⟨c,h.same f⟩
 |true=>
  rw[Δ rfl];obtain⟨y,rfl,rfl,b⟩:=nA a;rw[π];exact Xt h y b
def Qw(h:oz K w p F kd d S)(a b:Int):Calls prog 20 #[(p:Nat),a,b] w λe w'=>e=.returned (.int .i64 (ql S a b).2.c)/\Goes F w w' (λF'=>oz K w' p F' kd d (ql S a b).1):=by
 unfold ql
 by_cases f:fQ S.A a b=true
 .rw[Δ f];have c:=(dI _ _ _).1 f;obtain⟨a,rfl⟩:∃n:Nat,a=n:=⟨a.toNat,by have:=(aF _ _).1 c.1;omega⟩;obtain⟨b,rfl⟩:∃n:Nat,b=n:=⟨b.toNat,by have:=(aF _ _).1 c.2.1;omega⟩;exact Sl h a b f
 .rw[Γ f];have j:aW S.A a=false\/aW S.A b=false\/a=b:=by
   by_cases c:aW S.A a=true
   .by_cases g:aW S.A b=true
    .by_cases i:a=b
     .exact Β (Β i)
     .exact absurd ((dI _ _ _).2 ⟨c,g,i⟩) f
    .exact Β (Α (by simpa using g))
   .exact Α (by simpa using c)
  exact(PY h a b j).mono λe w' ⟨c,g⟩=>⟨c,g▸h.same (ae.refl _ _)⟩
def Qd(h:oz K w p F kd d S)(x:Int)(c:Xk x):Calls prog 32 #[(p:Nat),x] w λe w'=>e=.returned (.tuple #[.int .i64 (qH S x).2.n,.int .i64 (qH S x).2.c])/\Goes F w w' (λF'=>oz K w' p F' kd d (qH S x).1):=by
 refine(UD h x c).mono λe w' ⟨a,b⟩=>⟨?_,b▸h.same (ae.refl _ _)⟩
 rw[a];unfold qH
 split<;>rfl
def PU(h:oz K w p F kd d S)(x g:Int)(i:0<=g/\g<=4294967295):Calls prog 30 #[(p:Nat),.agg #[x,.int .u32 g]] w λe w'=>e=.returned (.tuple #[.int .i64 (qK S x g).2.k,.int .i64 (qK S x g).2.c])/\Goes F w w' (λF'=>oz K w' p F' kd d (qK S x g).1):=by
 unfold qK;cases c:gL S.R x g with
 |false=>
  rw[Γ σ];exact(Y4 h x g i c).mono λe w' ⟨a,b⟩=>⟨a,h.same b⟩
 |true=>
  rw[Δ rfl];obtain⟨y,rfl,rfl,f⟩:=nA c;rw[π];exact(Un h y f).mono λe w' ⟨a,b⟩=>⟨a,h.same b⟩
def Rt(h:oz K w p F kd d S)(x g:Int)(i:0<=g/\g<=4294967295):Calls prog 45 #[(p:Nat),.agg #[x,.int .u32 g]] w λe w'=>e=.returned (.tuple #[.int .i64 (qI S x g).2.h,.int .i64 (qI S x g).2.c])/\Goes F w w' (λF'=>oz K w' p F' kd d (qI S x g).1):=by
 unfold qI;cases a:gL S.R x g with
 |false=>
  rw[Γ σ];exact(Wm h x g i a).mono λe w' ⟨c,f⟩=>⟨c,h.same f⟩
 |true=>
  rw[Δ rfl];obtain⟨y,rfl,rfl,b⟩:=nA a;rw[π];exact Qx h y b
end
def uY(kd d n m:Int):Int:=if xe kd d≠0 then xe kd d else if n<0\/65536<n\/m=0 then 31 else 0
def Xq(n m:Int)(w:World)(h:n<0\/65536<n\/m=0)(c:0<=m/\m<=4294967295):
  Calls prog 36 #[n,.int .u32 m] w λe w'=>e=.returned (.tuple #[.agg #[(0:Int),.int .u32 0,.slice none 0 0,.slice none 0 0],(31:Int)])/\ae [] w w':=by
 by_cases a:n<0
 .go_enter func36,ntmps36
  go_wp2;exact bodyPost_ret (v:=.tuple #[.agg #[(0:Int),.int .u32 0,.slice none 0 0,.slice none 0 0],(31:Int)]) (by simp[results,results36,go_sem]) rfl ⟨rfl,β⟩
 .by_cases b:65536<n
  .go_enter func36,ntmps36
   go_wp2;exact bodyPost_ret (v:=.tuple #[.agg #[(0:Int),.int .u32 0,.slice none 0 0,.slice none 0 0],(31:Int)]) (by simp[results,results36,go_sem]) rfl ⟨rfl,β⟩
  .obtain rfl:m=0:=ω
   go_enter func36,ntmps36
   go_wp2;exact bodyPost_ret (v:=.tuple #[.agg #[(0:Int),.int .u32 0,.slice none 0 0,.slice none 0 0],(31:Int)]) (by simp[results,results36,go_sem]) rfl ⟨rfl,β⟩
def FQ(n m:Int)(w:World)(h:0<=n/\n<=65536)(a:1<=m/\m<=4294967295):
  Calls prog 36 #[n,.int .u32 m] w λe w'=>e=.returned (.tuple #[.agg #[n,.int .u32 m,.slice none 0 0,.slice none 0 0],(0:Int)])/\ae [] w w':=by
 have b:¬n<0:=ω;have c:¬n > 65536:=ω;have d:(m == 0)=false:=ζ;clear h a
 go_enter func36,ntmps36
 go_wp2;exact bodyPost_ret (v:=.tuple #[.agg #[n,.int .u32 m,.slice none 0 0,.slice none 0 0],(0:Int)]) (by simp[results,results36,go_sem]) rfl ⟨rfl,β⟩
def PX(kd d n m:Int)(w:World)(hm:0<=m/\m<=4294967295):
  Calls prog 12 #[.agg #[kd,d],n,.int .u32 m] w λe w'=>∃(x0 x1 x6:Int) (a2:Option Addr) (n2 k2:Nat) (a3:Option Addr) (n3 k3:Nat) (a4:Option Addr) (n4 k4:Nat) (a5:Option Addr) (n5 k5:Nat),e=.returned (.tuple #[.agg #[x0,.int .u32 x1,.slice a2 n2 k2,.slice a3 n3 k3,.slice a4 n4 k4,.slice a5 n5 k5,.int .u64 x6],(uY kd d n m:Int)])/\ae [] w w':=by
 have r:=λW=>xH kd d W
 by_cases q:xe kd d=0
 .rw[q] at r
  by_cases H:n<0\/65536<n\/m=0
  .have e:uY kd d n m=31:=by unfold uY;rw[Γ (by simp[q]),Δ H]
   rw[e];have z:=λW=>Xq n m W H hm;clear e H q
   go_enter func12,ntmps12
   (go_upto_region 1 with(fail);refine aU (λW=>bH W (w.heap.size+1) 39 7/\W.cell? w.heap.size=some (kd:V)/\W.cell? ⟨w.heap.size,1,none⟩=some (d:V)/\ae [] w W) ⟨(by have h:=fE (w.alloc (.cells #[kd,d] 23)) [Value.int .i64 0,.int .u32 0,.slice none 0 0,.slice none 0 0,.slice none 0 0,.slice none 0 0,.int .u64 0] 39;rw[Κ] at h;exact h),γ,γ,β⟩ ?_;rintro W ⟨l,t,u,o⟩)
   go_upto_region 5 with (first
    |(((with_reducible refine(r _).mono ?_));rintro e x ⟨rfl,a⟩;(have g:ae [] w x:=o.trans a);(have b:=l.upd a σ))
    | (((with_reducible refine (z _).mono ?_));rintro e y ⟨rfl,f⟩))
   refine aU (λX=>bH X (w.heap.size+1) 39 7/\ae [] w X) ⟨(b.upd f σ).upd (S:=[]) β σ,(g.trans f).trans β⟩ ?_;rintro X ⟨c,s⟩
   ((have p:=(c).cell 0 ω);(have A:=(c).cell 1 ω);(have B:=(c).cell 2 ω);(have C:=(c).cell 3 ω);(have D:=(c).cell 4 ω);(have E:=(c).cell 5 ω);(have F:=(c).cell 6 ω);(have I:=(c).free 0);(have J:=(c).free 1);(have K:=(c).free 2);(have L:=(c).free 3);(have M:=(c).free 4);(have N:=(c).free 5);(have O:=(c).free 6);(have G:=Ε _ _ p))
   clear l b c a f g o t u r z;go_wp2;exact bodyPost_ret (v:=.tuple #[.agg #[(0:Int),.int .u32 0,.slice none 0 0,.slice none 0 0,.slice none 0 0,.slice none 0 0,.int .u64 0],(31:Int)]) (by simp[results,results12,go_sem,p,A,B,C,D,E,F]) rfl ⟨⟨_,_,_,_,_,_,_,_,_,_,_,_,_,_,_,rfl⟩,by(repeat(refine ae.setCell ?_ (Β (Nat.le_succ _)) _));exact s⟩
  .have e:uY kd d n m=0:=by unfold uY;rw[Γ (by simp[q]),Γ H]
   rw[e];obtain⟨k,rfl⟩:∃k:Nat,n=k:=⟨n.toNat,ω⟩;have z:=λW=>FQ (k:Int) m W ω ω;have P:=λW=>Iw k W [] σ ω;clear e H q
   go_enter func12,ntmps12
   (go_upto_region 1 with(fail);refine aU (λW=>bH W (w.heap.size+1) 39 7/\W.cell? w.heap.size=some (kd:V)/\W.cell? ⟨w.heap.size,1,none⟩=some (d:V)/\ae [] w W) ⟨(by have h:=fE (w.alloc (.cells #[kd,d] 23)) [Value.int .i64 0,.int .u32 0,.slice none 0 0,.slice none 0 0,.slice none 0 0,.slice none 0 0,.int .u64 0] 39;rw[Κ] at h;exact h),γ,γ,β⟩ ?_;rintro W ⟨l,t,u,o⟩)
   go_upto_region 7 with (first
    |(((with_reducible refine(r _).mono ?_));rintro e x ⟨rfl,a⟩;(have g:ae [] w x:=o.trans a);(have b:=l.upd a σ))
    | (((with_reducible refine (z _).mono ?_));rintro e y ⟨rfl,f⟩))
   refine aU (λX=>bH X (w.heap.size+1) 39 7/\X.cell? y.heap.size=some ((k:Int):V)/\X.cell? ⟨y.heap.size,1,none⟩=some (.int .u32 m)/\X.cell? ⟨y.heap.size,2,none⟩=some (.slice none 0 0)/\X.cell? ⟨y.heap.size,3,none⟩=some (.slice none 0 0)/\ae [] w X) ⟨(b.upd f σ).upd (S:=[]) β σ,γ,γ,γ,γ,(g.trans f).trans β⟩ ?_;rintro X ⟨c,T,U,Y,Z,s⟩;have Q:=P X.drew;have HX:=χ (ψ c s);clear l b c a f g o t u r z s P
   go_region_law
    (first
     | ((first|go_at_call 37|(go_simp;go_at_call 37));(with_reducible refine Q.mono ?_);rintro e w3 ⟨v3,rfl,⟨gh,oh,ch,gc,oc,cc,rfl, -⟩,j⟩;(unfold ic);(have y0:=j.was T);(have y1:=j.was U);(have y2:=j.was Y);(have y3:=j.was Z);(obtain ⟨c,s⟩:=HX.out);(have R:ae [] X w3:=((ae.refl [] X).drew).trans j);(have i:=c.upd R σ);((have p:=(i).cell 0 ω);(have A:=(i).cell 1 ω);(have B:=(i).cell 2 ω);(have C:=(i).cell 3 ω);(have D:=(i).cell 4 ω);(have E:=(i).cell 5 ω);(have F:=(i).cell 6 ω);(have I:=(i).free 0);(have J:=(i).free 1);(have K:=(i).free 2);(have L:=(i).free 3);(have M:=(i).free 4);(have N:=(i).free 5);(have O:=(i).free 6);(have G:=Ε _ _ p))))
   all_goals
    clear y0 y1 y2 y3 i Q;go_wp2;exact bodyPost_ret (v:=.tuple #[.agg #[(k:Int),.int .u32 m,.slice none 0 0,.slice none 0 0,.slice (some ⟨gh,oh,none⟩) (NS.new k).hs.length ch,.slice (some ⟨gc,oc,none⟩) (NS.new k).cs.length cc,.int .u64 0],(0:Int)]) (by simp[results,results12,go_sem,p,A,B,C,D,E,F]) rfl ⟨⟨_,_,_,_,_,_,_,_,_,_,_,_,_,_,_,rfl⟩,by(repeat(refine ae.setCell ?_ (Β (Nat.le_succ _)) _));exact s.trans R⟩
 .have e:uY kd d n m=xe kd d:=by unfold uY;rw[Δ q]
  rw[e];have hcb:(xe kd d != 0)=true:=by simpa using q
  clear e q;generalize xe kd d=v at *
  go_enter func12,ntmps12
  (go_upto_region 1 with(fail);refine aU (λW=>bH W (w.heap.size+1) 39 7/\W.cell? w.heap.size=some (kd:V)/\W.cell? ⟨w.heap.size,1,none⟩=some (d:V)/\ae [] w W) ⟨(by have h:=fE (w.alloc (.cells #[kd,d] 23)) [Value.int .i64 0,.int .u32 0,.slice none 0 0,.slice none 0 0,.slice none 0 0,.slice none 0 0,.int .u64 0] 39;rw[Κ] at h;exact h),γ,γ,β⟩ ?_;rintro W ⟨l,t,u,o⟩)
  go_upto_region 2 with((((with_reducible refine(r _).mono ?_));rintro e x ⟨rfl,a⟩;(have g:ae [] w x:=o.trans a);(have b:=l.upd a σ)))
  ((have p:=(b).cell 0 ω);(have A:=(b).cell 1 ω);(have B:=(b).cell 2 ω);(have C:=(b).cell 3 ω);(have D:=(b).cell 4 ω);(have E:=(b).cell 5 ω);(have F:=(b).cell 6 ω);(have I:=(b).free 0);(have J:=(b).free 1);(have K:=(b).free 2);(have L:=(b).free 3);(have M:=(b).free 4);(have N:=(b).free 5);(have O:=(b).free 6);(have G:=Ε _ _ p))
  clear l b a o t u r;go_wp2;exact bodyPost_ret (v:=.tuple #[.agg #[(0:Int),.int .u32 0,.slice none 0 0,.slice none 0 0,.slice none 0 0,.slice none 0 0,.int .u64 0],(v:Int)]) (by simp[results,results12,go_sem,p,A,B,C,D,E,F]) rfl ⟨⟨_,_,_,_,_,_,_,_,_,_,_,_,_,_,_,rfl⟩,by(repeat(refine ae.setCell ?_ (Β (Nat.le_succ _)) _));exact g⟩
def St.Ok(S:St):Prop:=S.A.Ok/\S.R.Ok/\S.R.sl.length=S.A.cs.length/\∀x:Nat,S.R.v x=bY S.A (x:Int)
def oz.ok{K:mE}{w:World}{p:Nat}{F:List Nat}{kd d:Int}{S:St}(h:oz K w p F kd d S):S.Ok:=bR.ok h
section
variable{S:St}
def Nr(h:S.A.Ok)(a:dF S.A=0):aO S.A=S.A:=by
 have b:=h.h0;unfold dF at a
 split at a
 .rename_i e;unfold aO;rw[Δ e]
 .exfalso;omega
def EF{P:St×Rp->Prop}(a:Ac)(x g:Int)(c:P (uJ S))(d:P (mF S a.a a.k))(f:P (lW S a.a))(h:P (lD S a.a))(i:P (vg S x g a.k))(j:P (ow S x g))(k:P (ql S a.a a.b))(l:P (qH S a.a))(m:P (qK S x g))(b:P (qI S x g))(n:P (S,xR 0)):P (a.run S x g):=by
 unfold Ac.run
 by_cases e:a.op=1
 .grind
 grind
def aeM(a:Ac)(x g:Int):(a.run S x g).1.q<=S.q+1:=by
 refine EF (P:=λr=>r.1.q<=S.q+1) a x g (Nat.le_succ _) ?_ (Nat.le_succ _) ?_ ?_ ?_ ?_ (Nat.le_succ _) (Nat.le_succ _) (Nat.le_succ _) (Nat.le_succ _)
 .unfold mF
  grind
 .unfold lD
  grind
 .unfold vg
  grind
 .unfold ow
  grind
 .unfold ql
  grind
end
def aaV{R R':AR}{x:Nat}(h:R.Ok)(hp:jF R=some (x,R'))(y:Nat):R'.g y=if y=x then R.g x+1 else R.g y:=by
 obtain⟨_,b,c,_,a,_⟩:=qw h hp;have e:R'.g y=(R.put x (R.g x+1,true)).g y:=by
  show(R'.sl.getD y (0,false)).1=((R.sl.set x (R.g x+1,true)).getD y (0,false)).1
  rw[a]
 rw[e,AR.Aj]
 grind
def abn{R:AR}(x z:Nat):(iB R x).g z=R.g z:=by
 show(R.put x (R.g x,false)).g z=_
 rw[AR.Aj]
 grind
def VD(R:AR)(x g:Nat):gL R (x:Int) (g:Int)=true↔R.v x=true/\R.g x=g:=by
 constructor
 .intro h;obtain⟨y,a,b,c⟩:=nA h
  grind
 .rintro⟨a,rfl⟩;exact yK a
structure Q7(W:World)(b:Nat)(p0 p1 p2 p3 p4 p5 p6:Int):Prop where
 c0:W.cell? b=some (p0:V):=by go_simp
 c1:W.cell? ⟨b,1,none⟩=some (p1:V):=by go_simp
 c2:W.cell? ⟨b,2,none⟩=some (p2:V):=by go_simp
 c3:W.cell? ⟨b,3,none⟩=some (p3:V):=by go_simp
 c4:W.cell? ⟨b,4,none⟩=some (.int .u32 p4):=by go_simp
 c5:W.cell? ⟨b,5,none⟩=some (.int .u8 p5):=by go_simp
 c6:W.cell? ⟨b,6,none⟩=some (p6:V):=by go_simp
def Q7.kept{W d:World}{S:List Nat}{b:Nat}{e f g i j k l:Int}(h:Q7 W b e f g i j k l)(a:ae S W d)(c:b∉S):Q7 d b e f g i j k l:=⟨a.kept h.c0 c,a.kept h.c1 c,a.kept h.c2 c,a.kept h.c3 c,a.kept h.c4 c,a.kept h.c5 c,a.kept h.c6 c⟩
def Q7.rules{W:World}{S:List Nat}{b:Nat}{d e f g i j k:Int}(h:Q7 W b d e f g i j k)(c:b∉S):(∀X,ae S W X->X.cell? b=some (d:V))/\(∀X,ae S W X->X.cell? ⟨b,1,none⟩=some (e:V))/\(∀X,ae S W X->X.cell? ⟨b,2,none⟩=some (f:V))/\(∀X,ae S W X->X.cell? ⟨b,3,none⟩=some (g:V))/\(∀X,ae S W X->X.cell? ⟨b,4,none⟩=some (.int .u32 i))/\(∀X,ae S W X->X.cell? ⟨b,5,none⟩=some (.int .u8 j))/\(∀X,ae S W X->X.cell? ⟨b,6,none⟩=some (k:V)):=⟨λX a=>a.kept h.c0 c,λX a=>a.kept h.c1 c,λX a=>a.kept h.c2 c,λX a=>a.kept h.c3 c,λX a=>a.kept h.c4 c,λX a=>a.kept h.c5 c,λX a=>a.kept h.c6 c⟩
structure Q2(W:World)(b:Nat)(p0 p1:Int):Prop where
 c0:W.cell? b=some (p0:V):=by go_simp
 c1:W.cell? ⟨b,1,none⟩=some (.int .u32 p1):=by go_simp
def Q2.kept{W a:World}{S:List Nat}{b:Nat}{c d:Int}(h:Q2 W b c d)(e:ae S W a)(f:b∉S):Q2 a b c d:=⟨e.kept h.c0 f,e.kept h.c1 f⟩
def Q2.rules{W:World}{S:List Nat}{b:Nat}{c d:Int}(h:Q2 W b c d)(e:b∉S):(∀X,ae S W X->X.cell? b=some (c:V))/\(∀X,ae S W X->X.cell? ⟨b,1,none⟩=some (.int .u32 d)):=⟨λX a=>a.kept h.c0 e,λX a=>a.kept h.c1 e⟩
structure Q6(W:World)(b:Nat)(p0 p1 p2 p3 p4 p5:Int):Prop where
 c0:W.cell? b=some (p0:V):=by go_simp
 c1:W.cell? ⟨b,1,none⟩=some (p1:V):=by go_simp
 c2:W.cell? ⟨b,2,none⟩=some (p2:V):=by go_simp
 c3:W.cell? ⟨b,3,none⟩=some (.int .u32 p3):=by go_simp
 c4:W.cell? ⟨b,4,none⟩=some (p4:V):=by go_simp
 c5:W.cell? ⟨b,5,none⟩=some (p5:V):=by go_simp
def Q6.kept{W d:World}{S:List Nat}{b:Nat}{e f g i j k:Int}(h:Q6 W b e f g i j k)(a:ae S W d)(c:b∉S):Q6 d b e f g i j k:=⟨a.kept h.c0 c,a.kept h.c1 c,a.kept h.c2 c,a.kept h.c3 c,a.kept h.c4 c,a.kept h.c5 c⟩
def Q6.rules{W:World}{S:List Nat}{b:Nat}{d e f g i j:Int}(h:Q6 W b d e f g i j)(c:b∉S):(∀X,ae S W X->X.cell? b=some (d:V))/\(∀X,ae S W X->X.cell? ⟨b,1,none⟩=some (e:V))/\(∀X,ae S W X->X.cell? ⟨b,2,none⟩=some (f:V))/\(∀X,ae S W X->X.cell? ⟨b,3,none⟩=some (.int .u32 g))/\(∀X,ae S W X->X.cell? ⟨b,4,none⟩=some (i:V))/\(∀X,ae S W X->X.cell? ⟨b,5,none⟩=some (j:V)):=⟨λX a=>a.kept h.c0 c,λX a=>a.kept h.c1 c,λX a=>a.kept h.c2 c,λX a=>a.kept h.c3 c,λX a=>a.kept h.c4 c,λX a=>a.kept h.c5 c⟩
structure Z6(W:World)(b:Nat):Prop where
 f0:W.frozen? b=false:=by go_simp
 f1:W.frozen? ⟨b,1,none⟩=false:=by go_simp
 f2:W.frozen? ⟨b,2,none⟩=false:=by go_simp
 f3:W.frozen? ⟨b,3,none⟩=false:=by go_simp
 f4:W.frozen? ⟨b,4,none⟩=false:=by go_simp
 f5:W.frozen? ⟨b,5,none⟩=false:=by go_simp
def Z6.kept{W e:World}{S:List Nat}{b:Nat}{f g i j k l:Int}(h:Z6 W b)(a:Q6 W b f g i j k l)(c:ae S W e)(d:b∉S):Z6 e b:=⟨c.ay a.c0 d h.f0,c.ay a.c1 d h.f1,c.ay a.c2 d h.f2,c.ay a.c3 d h.f3,c.ay a.c4 d h.f4,c.ay a.c5 d h.f5⟩
def oz.fin{K:mE}{w W c X:World}{p:Nat}{F e B:List Nat}{kd d:Int}{S:St}(f:ae [] w W)(m:∀x,x∈F->x<w.heap.size)(n:oz K c p e kd d S)(o:ae F W c)(g:∀x,x∈e->x∈F\/W.heap.size<=x)(i:ae B c X)(j:∀b,b∈B->w.heap.size<=b/\b<W.heap.size):Goes F w X (λF'=>oz K X p F' kd d S):=by
 have hs:=f.size;refine⟨e,bR.upd n i (λb a k=>?_),((f.mono σ).trans o).joined i (λb a=>Β (j b a).1),λx l=>?_⟩
 .have:=j b a;rcases g b k with h|h
  .have:=m b h;omega
  .omega
 .rcases g x l with h|h
  .exact Α h
  .exact Β ω
section
variable{K:mE}{w:World}{p:Nat}{F:List Nat}{kd d:Int}{S:St}
def Yk(S:St):(uJ S).2.v=.agg #[.int .i64 (uJ S).2.c,.int .i64 (uJ S).2.h,(0:Int),.int .u32 0,(0:Int),(0:Int)]:=rfl
def Y1(S:St)(a k:Int):(mF S a k).2.v=.agg #[.int .i64 (mF S a k).2.c,(0:Int),.int .i64 (mF S a k).2.s,.int .u32 (mF S a k).2.g,(0:Int),(0:Int)]:=by
 unfold mF
 split
 .cases jF S.R<;>rfl
 .rfl
def OJ(S:St)(a:Int):(lW S a).2.v=.agg #[.int .i64 (lW S a).2.c,(0:Int),.int .i64 (lW S a).2.s,.int .u32 (lW S a).2.g,.int .i64 (lW S a).2.k,(0:Int)]:=by
 unfold lW;cases dB S.A a<;>rfl
def ZW(S:St)(a:Int):(lD S a).2.v=.agg #[.int .i64 (lD S a).2.c,(0:Int),.int .i64 (lD S a).2.s,.int .u32 (lD S a).2.g,.int .i64 (lD S a).2.k,(0:Int)]:=by
 unfold lD;cases dB S.A a<;>rfl
def Za(S:St)(x y:Int):(ow S x y).2.v=.agg #[.int .i64 (ow S x y).2.c,(0:Int),(0:Int),.int .u32 0,.int .i64 (ow S x y).2.k,(0:Int)]:=by
 unfold ow
 split<;>rfl
def YV(S:St)(a b:Int):(ql S a b).2.v=.agg #[.int .i64 (ql S a b).2.c,(0:Int),(0:Int),.int .u32 0,(0:Int),(0:Int)]:=by
 unfold ql
 split<;>rfl
def Zi(S:St)(a:Int):(qH S a).2.v=.agg #[.int .i64 (qH S a).2.c,(0:Int),(0:Int),.int .u32 0,(0:Int),.int .i64 (qH S a).2.n]:=by
 unfold qH
 split<;>rfl
def XP(S:St)(x y:Int):(qK S x y).2.v=.agg #[.int .i64 (qK S x y).2.c,(0:Int),(0:Int),.int .u32 0,.int .i64 (qK S x y).2.k,(0:Int)]:=by
 unfold qK
 split<;>rfl
def XX(S:St)(x y:Int):(qI S x y).2.v=.agg #[.int .i64 (qI S x y).2.c,.int .i64 (qI S x y).2.h,(0:Int),.int .u32 0,(0:Int),(0:Int)]:=by
 unfold qI
 split<;>rfl
def qM(C:∀x,x∈F->x<w.heap.size)(h a b s g o k x y:Int){f:FuncId}{r:Array Value}{vl:Value}{i j l m rk n:Int}{S2:St}(L:(h=1/\f=18/\r=#[.pointer (some (p:Nat))]/\vl=.tuple #[j,i]/\l=0/\m=0/\rk=0/\n=0)\/(h=2/\f=17/\r=#[.pointer (some (p:Nat)),.int .i64 a,.int .i64 k]/\vl=.tuple #[.agg #[l,.int .u32 m],i]/\j=0/\rk=0/\n=0)\/(h=3/\f=19/\r=#[.pointer (some (p:Nat)),.int .i64 a]/\vl=.tuple #[.agg #[l,.int .u32 m],rk,i]/\j=0/\n=0)\/(h=4/\f=22/\r=#[.pointer (some (p:Nat)),.int .i64 a]/\vl=.tuple #[.agg #[l,.int .u32 m],rk,i]/\j=0/\n=0)\/(h=5/\f=31/\r=#[.pointer (some (p:Nat)),.agg #[.int .i64 x,.int .u32 y],.int .i64 k]/\vl=.int .i64 i/\j=0/\l=0/\m=0/\rk=0/\n=0)\/(h=6/\f=44/\r=#[.pointer (some (p:Nat)),.agg #[.int .i64 x,.int .u32 y]]/\vl=.tuple #[rk,i]/\j=0/\l=0/\m=0/\n=0)\/(h=7/\f=20/\r=#[.pointer (some (p:Nat)),.int .i64 a,.int .i64 b]/\vl=.int .i64 i/\j=0/\l=0/\m=0/\rk=0/\n=0)\/(h=8/\f=32/\r=#[.pointer (some (p:Nat)),.int .i64 a]/\vl=.tuple #[n,i]/\j=0/\l=0/\m=0/\rk=0)\/(h=9/\f=30/\r=#[.pointer (some (p:Nat)),.agg #[.int .i64 x,.int .u32 y]]/\vl=.tuple #[rk,i]/\j=0/\l=0/\m=0/\n=0)\/(h=10/\f=45/\r=#[.pointer (some (p:Nat)),.agg #[.int .i64 x,.int .u32 y]]/\vl=.tuple #[j,i]/\l=0/\m=0/\rk=0/\n=0))
  (J:∀W,ae [] w W->Calls prog f r W λe w'=>e=.returned vl/\Goes F W w' (λF'=>oz K w' p F' kd d S2)):
  Calls prog 26 #[(p:Nat),.agg #[h,a,b,s,.int .u32 g,.int .u8 o,k],.agg #[x,.int .u32 y]] w λe w'=>e=.returned (.agg #[i,j,l,.int .u32 m,rk,n])/\Goes F w w' (λF'=>oz K w' p F' kd d S2):=by
 have u:w.heap.size+1+1∉F:=λe=>by have:=C _ e;omega
 have z:w.heap.size+1+1+1∉F:=λe=>by have:=C _ e;omega
 have I:=χ (λ(W t X:World) (B:List Nat) (A:ae [] w W) (hP:oz K t p B kd d S2) (hu:ae F W t) (hf:∀x,x∈B->x∈F\/W.heap.size<=x) (hX:ae [w.heap.size+1+1,w.heap.size+1+1+1] t X) (hB:∀b,b∈[w.heap.size+1+1,w.heap.size+1+1+1]->w.heap.size<=b/\b<W.heap.size)=>oz.fin A C hP hu hf hX hB);clear C;rcases L with⟨ho,rfl,rfl,rfl,c⟩|⟨ho,rfl,rfl,rfl,c⟩|⟨ho,rfl,rfl,rfl,c⟩|⟨ho,rfl,rfl,rfl,c⟩|⟨ho,rfl,rfl,rfl,c⟩|⟨ho,rfl,rfl,rfl,c⟩|⟨ho,rfl,rfl,rfl,c⟩|⟨ho,rfl,rfl,rfl,c⟩|⟨ho,rfl,rfl,rfl,c⟩|⟨ho,rfl,rfl,rfl,c⟩
 all_goals
  go_enter func26,ntmps26
  (go_upto_region 2 with(fail);refine aU (λW=>Q7 W (w.heap.size) (h) a b s g o k/\Q2 W (w.heap.size+1) x y/\(Q6 W (w.heap.size+1+1) 0 0 0 0 0 0/\Z6 W (w.heap.size+1+1))/\(Q6 W (w.heap.size+1+1+1) 0 0 0 0 0 0/\Z6 W (w.heap.size+1+1+1))/\ae [] w W/\w.heap.size+4<=W.heap.size) ⟨{},{},⟨{},{}⟩,⟨{},{}⟩,β,σ⟩ ?_;rintro W ⟨⟨qo,qa,qb,qs,qg,qd,qk⟩,⟨qx,qy⟩,⟨M,D⟩,⟨N,E⟩,A,O⟩)
  subst ho;have J:=J W A;have HZ:=χ c;clear c
  go_wp2_with (((first|go_at_call 18|go_at_call 17|go_at_call 19|go_at_call 22|go_at_call 31|go_at_call 44|go_at_call 20|go_at_call 32|go_at_call 30|go_at_call 45);(with_reducible refine J.mono ?_);rintro e t ⟨rfl,B,G,q,H⟩;(obtain⟨P,Q,R,S,T,U⟩:=N.kept q z;obtain⟨Y,Z,fv2,fv3,fv4,fv5⟩:=E.kept N q z;obtain⟨u0,u1,u2,u3,u4,u5⟩:=M.kept q u;obtain⟨fu0,fu1,fu2,fu3,fu4,fu5⟩:=D.kept M q u)))
  have c:=HZ.out;exact bodyPost_ret (v:=.agg #[i,j,l,.int .u32 m,rk,n]) (by simp[results,results26,go_sem,P,Q,R,S,T,U,u0,u1,u2,u3,u4,u5,c]) rfl ⟨rfl,I.out W t _ B A G q H (by(repeat(refine ae.setCell ?_ (Α σ) _));exact ae.refl _ _) (λb hb=>by simp at hb;omega)⟩
def acg(h:oz K w p F kd d S)(c a b s g o k x y:Int)(l:c<1\/10<c):
  Calls prog 26 #[(p:Nat),.agg #[c,a,b,s,.int .u32 g,.int .u8 o,k],.agg #[x,.int .u32 y]] w λe w'=>e=.returned (xR 0).v/\Goes F w w' (λF'=>oz K w' p F' kd d S):=by
 have X:=χ (λW (j:ae [] w W)=>oz.same h j);have n1:(c == 1)=false:=ζ;have n2:(c == 2)=false:=ζ;have n3:(c == 3)=false:=ζ;have n4:(c == 4)=false:=ζ;have n5:(c == 5)=false:=ζ;have n6:(c == 6)=false:=ζ;have n7:(c == 7)=false:=ζ;have n8:(c == 8)=false:=ζ;have n9:(c == 9)=false:=ζ;have Y:(c == 10)=false:=ζ;clear h l
 go_enter func26,ntmps26
 (go_upto_region 2 with(fail);refine aU (λW=>Q7 W (w.heap.size) (c) a b s g o k/\Q2 W (w.heap.size+1) x y/\(Q6 W (w.heap.size+1+1) 0 0 0 0 0 0/\Z6 W (w.heap.size+1+1))/\(Q6 W (w.heap.size+1+1+1) 0 0 0 0 0 0/\Z6 W (w.heap.size+1+1+1))/\ae [] w W/\w.heap.size+4<=W.heap.size) ⟨{},{},⟨{},{}⟩,⟨{},{}⟩,β,σ⟩ ?_;rintro W ⟨⟨Z,qa,qb,qs,qg,qd,qk⟩,⟨qx,qy⟩,⟨m,f⟩,⟨n,i⟩,j,q⟩)
 obtain⟨r,t,u,z,A,B⟩:=n;obtain⟨IC,Ho,C,D,E,G⟩:=i;obtain⟨H,I,J,L,M,N⟩:=m;obtain⟨O,P,Q,R,T,U⟩:=f;go_wp2;exact bodyPost_ret (v:=.agg #[(0:Int),(0:Int),(0:Int),.int .u32 0,(0:Int),(0:Int)]) (by simp[results,results26,go_sem,r,t,u,z,A,B,H,I,J,L,M,N]) rfl ⟨rfl,X.out _ (by(iterate 6 (refine ae.setCell ?_ (Β (by show w.heap.size<=w.heap.size+1+1;omega)) _));exact j)⟩
def Um(h:oz K w p F kd d S)(a:Ac)(E:a.Ok)(x y:Int)(o:0<=y/\y<=4294967295)(G:S.q+1<=18446744073709551615):
  Calls prog 26 #[(p:Nat),a.v,.agg #[x,.int .u32 y]] w λe w'=>e=.returned (a.run S x y).2.v/\Goes F w w' (λF'=>oz K w' p F' kd d (a.run S x y).1):=by
 obtain⟨i,c,g,j,k,l,f⟩:=a;obtain⟨q,I,J,r,L,M⟩:=E;dsimp only at *;have H:=λW (b:ae [] w W)=>(bR.ag h b:oz K W p F kd d S)
 have m:=bR.lt h;unfold Ac.run Ac.v;dsimp only
 by_cases s:i=1
 .simp only[s,reduceIte,Int.reduceEq];exact qM m _ c g j k l f x y (Α ⟨rfl,rfl,rfl,rfl,⟨rfl,rfl,rfl,rfl⟩⟩) (λW b=>SK (H W b))
 rw[Γ s]
 by_cases t:i=2
 .simp only[t,reduceIte,Int.reduceEq];exact qM m _ c g j k l f x y (Β (Α ⟨rfl,rfl,rfl,rfl,by unfold mF;split;(cases jF S.R<;>exact⟨rfl,rfl,rfl⟩);exact⟨rfl,rfl,rfl⟩⟩)) (λW b=>PH (H W b) c f r G)
 rw[Γ t]
 by_cases u:i=3
 .simp only[u,reduceIte,Int.reduceEq];exact qM m _ c g j k l f x y (Β (Β (Α ⟨rfl,rfl,rfl,rfl,by unfold lW;cases dB S.A c<;>exact⟨rfl,rfl⟩⟩))) (λW b=>Qi (H W b) c q)
 rw[Γ u]
 by_cases v:i=4
 .simp only[v,reduceIte,Int.reduceEq];exact qM m _ c g j k l f x y (Β (Β (Β (Α ⟨rfl,rfl,rfl,rfl,by unfold lD;cases dB S.A c<;>exact⟨rfl,rfl⟩⟩)))) (λW b=>QG (H W b) c q)
 rw[Γ v]
 by_cases z:i=5
 .simp only[z,reduceIte,Int.reduceEq];exact qM m _ c g j k l f x y (Β (Β (Β (Β (Α ⟨rfl,rfl,rfl,rfl,by unfold vg;split;(split<;>exact⟨rfl,rfl,rfl,rfl,rfl⟩);exact⟨rfl,rfl,rfl,rfl,rfl⟩⟩))))) (λW b=>PV (H W b) x y f o r)
 rw[Γ z]
 by_cases A:i=6
 .simp only[A,reduceIte,Int.reduceEq];exact qM m _ c g j k l f x y (Β (Β (Β (Β (Β (Α ⟨rfl,rfl,rfl,rfl,by unfold ow;split<;>exact⟨rfl,rfl,rfl,rfl⟩⟩)))))) (λW b=>Rm (H W b) x y o)
 rw[Γ A]
 by_cases B:i=7
 .simp only[B,reduceIte,Int.reduceEq];exact qM m _ c g j k l f x y (Β (Β (Β (Β (Β (Β (Α ⟨rfl,rfl,rfl,rfl,by unfold ql;split<;>exact⟨rfl,rfl,rfl,rfl,rfl⟩⟩))))))) (λW b=>Qw (H W b) c g)
 rw[Γ B]
 by_cases C:i=8
 .simp only[C,reduceIte,Int.reduceEq];exact qM m _ c g j k l f x y (Β (Β (Β (Β (Β (Β (Β (Α ⟨rfl,rfl,rfl,rfl,by unfold qH;split<;>exact⟨rfl,rfl,rfl,rfl⟩⟩)))))))) (λW b=>Qd (H W b) c q)
 rw[Γ C]
 by_cases D:i=9
 .simp only[D,reduceIte,Int.reduceEq];exact qM m _ c g j k l f x y (Β (Β (Β (Β (Β (Β (Β (Β (Α ⟨rfl,rfl,rfl,rfl,by unfold qK;split<;>exact⟨rfl,rfl,rfl,rfl⟩⟩))))))))) (λW b=>PU (H W b) x y o)
 rw[Γ D]
 by_cases n:i=10
 .simp only[n,reduceIte,Int.reduceEq];exact qM m _ c g j k l f x y (Β (Β (Β (Β (Β (Β (Β (Β (Β (⟨rfl,rfl,rfl,rfl,by unfold qI;split<;>exact⟨rfl,rfl,rfl,rfl⟩⟩)))))))))) (λW b=>Rt (H W b) x y o)
 rw[Γ n];exact acg h i c g j k l f x y ω
