/-
  Lemmas.
-/
import Derived.Test.YtnpdakpagnpanaaGreatE22
import Derived.Test.YtnpdakpagnpanaaGreatE24
set_option linter.all false
set_option maxHeartbeats 8000000
set_option maxRecDepth 10000
namespace Go.Proofs.YtnpdakpagnpanaaGreat
open Tryz
open Go Go.RowKit
def BH(a:Ac)(l:List Hd):Hd:=if 0<a.o/\0<l.length then l.getD ((a.o.toNat-1) % l.length) (0,0) else(a.s,a.g)
def Uf(w:World)(v:Value)(l:List Hd)(a:Ac)(G:0<=a.o/\a.o<=255)(x:kY w [] v l)(H:l.length<=1000000):
  Calls prog 25 #[a.v,v] w λe w'=>e=.returned (.agg #[.int .i64 (BH a l).1,.int .u32 (BH a l).2])/\ae [] w w':=by
 obtain⟨y,cap,rfl,k,f,b⟩:=x;obtain⟨z,A,B,m,o,d,C⟩:=a;unfold BH Ac.v;dsimp only at *
 by_cases p:0<d
 .obtain⟨c,rfl⟩:∃c:Nat,d=(c:Int)+1:=⟨d.toNat-1,ω⟩
  by_cases j:0<l.length
  .rw[Δ ⟨p,j⟩,show((c:Int)+1).toNat-1=c by omega];have q:c % l.length<l.length:=Nat.mod_lt _ j;obtain⟨g,off,rfl,D, -,E,F⟩:=b (c % l.length) (l.getD (c % l.length) (0,0)) (by rw[φ,ε q];rfl);have r:((c:Int)).tmod (l.length:Int)=((c % l.length:Nat):Int):=by rw[Int.tmod_eq_emod_of_nonneg ω];exact(Int.natCast_emod _ _).symm
   have s:IntKind.i64.wrap ((c:Int)+1)=(c:Int)+1:=Μ _ ω;have t:IntKind.i64.wrap (c:Int)=(c:Int):=Μ _ ω;generalize l.getD (c % l.length) (0,0)=P at *;generalize u:c % l.length=i at *;clear u b;generalize l.length=n at *
   go_enter func25,ntmps25
   go_wp2;exact bodyPost_ret (v:=.agg #[P.1,.int .u32 P.2]) (by simp[results,results25,go_sem]) rfl ⟨rfl,β⟩
  .rw[Γ (λh=>j h.2)];have e:l.length=0:=ω;rw[e] at *;clear b
   go_enter func25,ntmps25
   go_wp2;exact bodyPost_ret (v:=.agg #[(m:Int),.int .u32 o]) (by simp[results,results25,go_sem]) rfl ⟨rfl,β⟩
 .obtain rfl:d=0:=ω;rw[Γ (λh=>p h.1)];clear b
  go_enter func25,ntmps25
  go_wp2;exact bodyPost_ret (v:=.agg #[(m:Int),.int .u32 o]) (by simp[results,results25,go_sem]) rfl ⟨rfl,β⟩
def BP(kd d m:Int):Bool:=decide (xe kd d=0) && decide (0<m)
def Y9(w:World)(kd d n m:Int):
  Calls prog 24 #[.agg #[kd,d,.int .u8 n,.int .u32 m]] w λe w'=>e=.returned (.bool (BP kd d m))/\ae [] w w':=by
 have h:=λW=>xH kd d W;unfold BP
 by_cases g:xe kd d=0
 .rw[Ν g];rw[g] at h;clear g
  by_cases i:0<m
  .have j:decide (m > 0)=true:=ζ;rw[Ν i]
   go_enter func24,ntmps24
   go_wp2_with ((((with_reducible refine(h _).mono ?_));rintro e f ⟨rfl,a⟩;(have k:f.cell? ⟨w.heap.size,3,none⟩=some (.int .u32 m):=a.was γ);(have b:ae [] w f:=ae.trans β a)))
   go_ret;exact⟨rfl,b⟩
  .have j:decide (m > 0)=false:=ζ;rw[Ξ i]
   go_enter func24,ntmps24
   go_wp2_with ((((with_reducible refine(h _).mono ?_));rintro e f ⟨rfl,a⟩;(have k:f.cell? ⟨w.heap.size,3,none⟩=some (.int .u32 m):=a.was γ);(have b:ae [] w f:=ae.trans β a)))
   go_ret;exact⟨rfl,b⟩
 .have l:(xe kd d == 0)=false:=by simpa using g
  rw[Ξ g];clear g;generalize xe kd d=c at *
  go_enter func24,ntmps24
  go_wp2_with ((((with_reducible refine(h _).mono ?_));rintro e f ⟨rfl,a⟩;(have b:ae [] w f:=ae.trans β a)))
  go_ret;exact⟨rfl,b⟩
def bE(w:World)(F:List Nat)(v:Value)(S:St):Prop:=∃(vT vG:Value) (gh oh ch gc oc cc:Nat) (T G:List Hd),v=.agg #[(S.R.sl.length:Int),.int .u32 (S.R.most:Int),vT,vG,.slice (some ⟨gh,oh,none⟩) S.A.hs.length ch,.slice (some ⟨gc,oc,none⟩) S.A.cs.length cc,.int .u64 (S.q:Int)]/\
 kY w F vT T/\kY w F vG G/\gQ w F gh oh ch gc oc cc S.A/\RA S.R T G/\T.length=S.q
def bE.fresh{w w':World}{F F':List Nat}{v:Value}{S:St}(h:bE w F v S)(a:ae F w w')(b:∀x,x∈F'->x∈F\/w.heap.size<=x):bE w' F' v S:=by
 obtain⟨vT,vG,c,d,f,g,i,j,T,G,e,k,l,m,n,o⟩:=h;exact⟨vT,vG,c,d,f,g,i,j,T,G,e,k.fresh a b,l.fresh a b,m.fresh a b,n,o⟩
def bE.ag{w w':World}{F:List Nat}{v:Value}{S:St}(h:bE w F v S)(b:ae [] w w'):bE w' F v S:=h.fresh (b.mono σ) (λx a=>Α a)
def YD(v:Value):Prop:=∃(x0 x1 x6:Int) (a2:Option Addr) (n2 k2:Nat) (a3:Option Addr) (n3 k3:Nat) (a4:Option Addr) (n4 k4:Nat) (a5:Option Addr) (n5 k5:Nat),v=.agg #[x0,.int .u32 x1,.slice a2 n2 k2,.slice a3 n3 k3,.slice a4 n4 k4,.slice a5 n5 k5,.int .u64 x6]
def bE.agg{w:World}{F:List Nat}{v:Value}{S:St}(h:bE w F v S):YD v:=by
 obtain⟨vT,vG,b,c,d,e,f,g,T,G,rfl,⟨a,k,rfl,_⟩,⟨i,j,rfl,_⟩,_⟩:=h;exact⟨_,_,_,_,_,_,_,_,_,_,_,_,_,_,_,rfl⟩
def Sg(kd d:Int)(k m:Nat)(w:World)(F:List Nat)(J:∀x,x∈F->x<w.heap.size)(hk:k<=65536)(hm:1<=m/\m<=4294967295)(K:xe kd d=0):
  Calls prog 12 #[.agg #[kd,d],(k:Int),.int .u32 (m:Int)] w λe w'=>∃v,e=.returned (.tuple #[v,(0:Int)])/\bE w' F v ⟨AR.new k m,NS.new k,0⟩/\ae [] w w':=by
 have q:=λW=>xH kd d W;rw[K] at q;have D:=λW=>FQ (k:Int) (m:Int) W ω ω;have Y:=χ J;clear K hm J;have Z:(AR.new k m).sl.length=k:=by simp[AR.new]
 go_enter func12,ntmps12
 (go_upto_region 1 with(fail);refine aU (λW=>bH W (w.heap.size+1) 39 7/\W.cell? w.heap.size=some (kd:V)/\W.cell? ⟨w.heap.size,1,none⟩=some (d:V)/\ae [] w W) ⟨(by have h:=fE (w.alloc (.cells #[kd,d] 23)) [Value.int .i64 0,.int .u32 0,.slice none 0 0,.slice none 0 0,.slice none 0 0,.slice none 0 0,.int .u64 0] 39;rw[Κ] at h;exact h),γ,γ,β⟩ ?_;rintro W ⟨r,L,M,s⟩)
 go_upto_region 7 with (first
  |(((with_reducible refine(q _).mono ?_));rintro e N ⟨rfl,c⟩;(have l:ae [] w N:=s.trans c);(have E:=r.upd c σ))
  | (((with_reducible refine (D _).mono ?_));rintro e p ⟨rfl,g⟩))
 refine aU (λX=>bH X (w.heap.size+1) 39 7/\X.cell? p.heap.size=some ((k:Int):V)/\X.cell? ⟨p.heap.size,1,none⟩=some (.int .u32 (m:Int))/\X.cell? ⟨p.heap.size,2,none⟩=some (.slice none 0 0)/\X.cell? ⟨p.heap.size,3,none⟩=some (.slice none 0 0)/\ae [] w X) ⟨(E.upd g σ).upd (S:=[]) β σ,γ,γ,γ,γ,(l.trans g).trans β⟩ ?_;rintro X ⟨i,O,P,Q,R,j⟩;have n:w.heap.size+1<X.drew.heap.size:=by obtain⟨f,U⟩:=i;exact U.lt
 have G:=Iw k X.drew ((w.heap.size+1)::F) (λx o=>by
  rcases ρ.1 o with rfl|o
  .exact n
  .exact Ψ (Y.out x o) j.size) ω
 have HX:=χ (ψ i j);clear r E i c g l s L M q D j n
 go_region_law
  (first
   | ((first|go_at_call 37|(go_simp;go_at_call 37));(with_reducible refine G.mono ?_);rintro e T ⟨v3,rfl,⟨t,u,y,z,A,B,rfl,C⟩,b⟩;(unfold ic);(have y0:=b.was O);(have y1:=b.was P);(have y2:=b.was Q);(have y3:=b.was R);(obtain ⟨i,j⟩:=HX.out);(have H:ae [] X T:=((ae.refl [] X).drew).trans b);(have a:=i.upd H σ);((have I:=(a).cell 0 ω);(have t1:=(a).cell 1 ω);(have t2:=(a).cell 2 ω);(have t3:=(a).cell 3 ω);(have t4:=(a).cell 4 ω);(have t5:=(a).cell 5 ω);(have t6:=(a).cell 6 ω);(have s0:=(a).free 0);(have s1:=(a).free 1);(have s2:=(a).free 2);(have s3:=(a).free 3);(have s4:=(a).free 4);(have s5:=(a).free 5);(have s6:=(a).free 6);(have hBl:=Ε _ _ I))))
 all_goals
  have Es:=χ C;clear y0 y1 y2 y3 a G C;go_wp2;refine bodyPost_ret (v:=.tuple #[.agg #[(k:Int),.int .u32 (m:Int),.slice none 0 0,.slice none 0 0,.slice (some ⟨t,u,none⟩) (NS.new k).hs.length y,.slice (some ⟨z,A,none⟩) (NS.new k).cs.length B,.int .u64 0],(0:Int)]) (by simp[results,results12,go_sem,I,t1,t2,t3,t4,t5,t6]) rfl ?_;refine⟨_,rfl,⟨_,_,t,u,y,z,A,B,[],[],by dsimp only;rw[Z];rfl,kY.nil _ _,kY.nil _ _,(Es.out.upd ?_).less (λx o=>Λ _ o),abh _ _,rfl⟩,by(repeat(refine ae.setCell ?_ (Β (Nat.le_succ _)) _));exact j.trans H⟩
  iterate 7 (refine ae.setCell ?_ (Α σ) _)
  exact ae.refl _ _
def Eo(w:World)(kd d:Int)(n m:Nat)(hn:n<=255)(q:1<=m/\m<=4294967295)(A:xe kd d=0){K:mE}(ko:qG K.toNestQ kd d (n % 30)):
  Calls prog 23 #[.agg #[kd,d,.int .u8 (n:Int),.int .u32 (m:Int)]] w λe w'=>∃p F v,e=.returned (.tuple #[(p:Nat),v,true])/\oz K w' p F kd d ⟨AR.new (n % 30) m,NS.new (n % 30),0⟩/\bE w' F v ⟨AR.new (n % 30) m,NS.new (n % 30),0⟩/\ae [] w w'/\∀x,x∈F->w.heap.size<=x:=by
 have k3:n % 30<30:=Nat.mod_lt _ ω;have l:=λW (hl:w.heap.size+1<W.heap.size)=>Sg kd d (n % 30) m W [w.heap.size+1] (λx g=>by simp at g;omega) ω q A;have kO:∀W:World,Calls prog 11 #[.agg #[kd,d],((n % 30:Nat):Int),.int .u32 (m:Int)] W λe w'=>∃p F,e=.returned (.tuple #[(p:Nat),(0:Int)])/\bR K.toNestQ w' p F kd d (AR.new (n % 30) m) (NS.new (n % 30)) 0/\ae [] W w'/\∀x,x∈F->W.heap.size<=x:=λW=>EP (n % 30) m W ω q A ko
 have hm1:((n:Int)).tmod 30=((n % 30:Nat):Int):=by rw[Int.tmod_eq_emod_of_nonneg ω];exact(Int.natCast_emod _ _).symm
 have hw2:IntKind.i64.wrap (n:Int)=(n:Int):=Μ _ ω;generalize n % 30=N at *;clear ko A q
 go_enter func23,ntmps23
 go_upto_region 1 with(fail)
 refine aU (λW=>bH W (w.heap.size+1) 39 7/\W.cell? w.heap.size=some (kd:V)/\W.cell? ⟨w.heap.size,1,none⟩=some (d:V)/\W.cell? ⟨w.heap.size,2,none⟩=some (.int .u8 (n:Int))/\W.cell? ⟨w.heap.size,3,none⟩=some (.int .u32 (m:Int))/\ae [] w W) ⟨(by have h:=fE (w.alloc (.cells #[kd,d,.int .u8 (n:Int),.int .u32 (m:Int)] 58)) [Value.int .i64 0,.int .u32 0,.slice none 0 0,.slice none 0 0,.slice none 0 0,.slice none 0 0,.int .u64 0] 39;rw[Κ] at h;exact h),γ,γ,γ,γ,β⟩ ?_;rintro W ⟨s,B,C,D,E,G⟩;have u:=Ε W _ (s.cell 0 ω);have l:=l W u
 go_upto_region 4 with((((with_reducible refine l.mono ?_));rintro e j ⟨v,rfl,t,b⟩;obtain⟨Q,R,T,U,Y,Z,a3,n3,e3,a4,n4,e4,a5,n5,e5,rfl⟩:=t.agg;(have qh:=s.upd b σ);(have p0:=b.was B);(have p1:=b.was C);(have p2:=b.was D);(have p3:=b.was E);(have k:=G.trans b)))
 have hs11:=b.size;have y:=χ t;clear s G B C D E b t;refine aU (λX=>X.cell? j.heap.size=some ((Q:Int):V)/\X.cell? ⟨j.heap.size,1,none⟩=some (.int .u32 R)/\X.cell? ⟨j.heap.size,2,none⟩=some (.slice U Y Z)/\X.cell? ⟨j.heap.size,3,none⟩=some (.slice a3 n3 e3)/\X.cell? ⟨j.heap.size,4,none⟩=some (.slice a4 n4 e4)/\X.cell? ⟨j.heap.size,5,none⟩=some (.slice a5 n5 e5)/\X.cell? ⟨j.heap.size,6,none⟩=some (.int .u64 T)/\ae [] j X/\j.heap.size<X.heap.size) ⟨γ,γ,γ,γ,γ,γ,γ,β,σ⟩ ?_;rintro X ⟨H,I,J,L,M,O,P,i,hXl⟩;have r0:=i.was p0;have r1:=i.was p1
 have r2:=i.was p2;have r3:=i.was p3;have o:=qh.upd i σ;clear p0 p1 p2 p3 qh
 go_upto_region 5 with((((with_reducible refine(kO _).mono ?_));rintro e w3 ⟨p,F,rfl,r,a,f⟩;(have c:=o.upd a σ);(have g0:=a.was H);(have g1:=a.was I);(have g2:=a.was J);(have g3:=a.was L);(have g4:=a.was M);(have g5:=a.was O);(have g6:=a.was P)))
 ((have t0:=(c).cell 0 ω);(have t1:=(c).cell 1 ω);(have t2:=(c).cell 2 ω);(have t3:=(c).cell 3 ω);(have t4:=(c).cell 4 ω);(have t5:=(c).cell 5 ω);(have t6:=(c).cell 6 ω);(have s0:=(c).free 0);(have s1:=(c).free 1);(have s2:=(c).free 2);(have s3:=(c).free 3);(have s4:=(c).free 4);(have s5:=(c).free 5);(have s6:=(c).free 6);(have hBl:=Ε _ _ t0))
 have HF:=χ (ψ r (ψ a (ψ f (ψ i k))));clear r a f c o i k H I J L M O P r0 r1 r2 r3 kO l
 go_region_law (fail)
 all_goals
  go_wp2;obtain⟨r,a,f,i,k⟩:=HF.out;refine bodyPost_ret (v:=.tuple #[(p:Nat),.agg #[(Q:Int),.int .u32 R,.slice U Y Z,.slice a3 n3 e3,.slice a4 n4 e4,.slice a5 n5 e5,.int .u64 T],true]) (by simp[results,results23,go_sem,t0,t1,t2,t3,t4,t5,t6]) rfl ?_
  have z:bE w3 ((w.heap.size+1)::F) _ _:=y.out.fresh ((i.trans a).mono σ) (λx g=>by
   rcases ρ.1 g with rfl|g
   .exact Α σ
   .exact Β (by have:=f x g;omega))
  refine⟨p,F,_,rfl,bR.upd (S:=[w.heap.size+1]) r ?_ (λx g q=>by simp at g;subst g;have:=f _ q;omega),z.fresh (ae.mono (S:=[w.heap.size+1]) ?_ σ) (λx g=>Α (Λ _ g)),?_,λx g=>by have:=f x g;omega⟩
  .refine ae.drew ?_
   iterate 7 (refine ae.setCell ?_ (Α σ) _)
   exact ae.refl _ _
  .refine ae.drew ?_
   iterate 7 (refine ae.setCell ?_ (Α σ) _)
   exact ae.refl _ _
  .refine ae.drew ?_
   iterate 7 (refine ae.setCell ?_ (Β (Nat.le_succ _)) _)
   exact(k.trans i).trans a
def U5(w:World)(kd d n m:Int)(hn:0<=n/\n<=255)(I:0<=m/\m<=4294967295)(i:BP kd d m=false):
  Calls prog 23 #[.agg #[kd,d,.int .u8 n,.int .u32 m]] w λe w'=>∃v,e=.returned (.tuple #[.pointer none,v,false])/\YD v/\ae [] w w':=by
 have f:=λW=>PX kd d (n % 30) m W I;have F:uY kd d (n % 30) m≠0:=by
  unfold BP at i;unfold uY
  by_cases h:xe kd d=0
  .rw[Γ (by simp[h])];have:m=0:=by simp[h] at i;omega
   rw[Δ (Β (Β this))]
   decide
  .rw[Δ h];exact h
 have P:(uY kd d (n % 30) m != 0)=true:=by simpa using F
 have Q:n.tmod 30=n % 30:=Int.tmod_eq_emod_of_nonneg ω;have R:IntKind.i64.wrap n=n:=Μ _ ω;generalize uY kd d (n % 30) m=E at *;generalize n % 30=N at *;clear i I F
 go_enter func23,ntmps23
 go_upto_region 1 with(fail)
 refine aU (λW=>bH W (w.heap.size+1) 39 7/\W.cell? w.heap.size=some (kd:V)/\W.cell? ⟨w.heap.size,1,none⟩=some (d:V)/\W.cell? ⟨w.heap.size,2,none⟩=some (.int .u8 n)/\W.cell? ⟨w.heap.size,3,none⟩=some (.int .u32 m)/\ae [] w W) ⟨(by have h:=fE (w.alloc (.cells #[kd,d,.int .u8 n,.int .u32 m] 58)) [Value.int .i64 0,.int .u32 0,.slice none 0 0,.slice none 0 0,.slice none 0 0,.slice none 0 0,.int .u64 0] 39;rw[Κ] at h;exact h),γ,γ,γ,γ,β⟩ ?_;rintro W ⟨j,J,K,L,M,k⟩
 go_upto_region 3 with((((with_reducible refine(f _).mono ?_));rintro e b ⟨l,o,p,q,r,s,t,u,x,y,z,A,B,C,D,rfl,c⟩;(have G:=j.upd c σ);(have g:=k.trans c)))
 refine aU (λX=>X.cell? b.heap.size=some ((l:Int):V)/\X.cell? ⟨b.heap.size,1,none⟩=some (.int .u32 o)/\X.cell? ⟨b.heap.size,2,none⟩=some (.slice q r s)/\X.cell? ⟨b.heap.size,3,none⟩=some (.slice t u x)/\X.cell? ⟨b.heap.size,4,none⟩=some (.slice y z A)/\X.cell? ⟨b.heap.size,5,none⟩=some (.slice B C D)/\X.cell? ⟨b.heap.size,6,none⟩=some (.int .u64 p)/\bH X (w.heap.size+1) 39 7/\ae [] w X) ⟨γ,γ,γ,γ,γ,γ,γ,G.upd (S:=[]) β σ,g.trans β⟩ ?_;rintro X ⟨z0,z1,z2,z3,z4,z5,z6,a,O⟩
 ((have H:=(a).cell 0 ω);(have T:=(a).cell 1 ω);(have U:=(a).cell 2 ω);(have Y:=(a).cell 3 ω);(have Z:=(a).cell 4 ω);(have t5:=(a).cell 5 ω);(have t6:=(a).cell 6 ω);(have s0:=(a).free 0);(have s1:=(a).free 1);(have s2:=(a).free 2);(have s3:=(a).free 3);(have s4:=(a).free 4);(have s5:=(a).free 5);(have s6:=(a).free 6);(have hBl:=Ε _ _ H))
 clear j G a k g c J K L M f
 go_region_law (fail)
 all_goals
  go_wp2;refine bodyPost_ret (v:=.tuple #[.pointer none,.agg #[(l:Int),.int .u32 o,.slice q r s,.slice t u x,.slice y z A,.slice B C D,.int .u64 p],false]) (by simp[results,results23,go_sem,H,T,U,Y,Z,t5,t6]) rfl ?_;refine⟨_,rfl,⟨_,_,_,_,_,_,_,_,_,_,_,_,_,_,_,rfl⟩,?_⟩;refine ae.drew ?_
  iterate 7 (refine ae.setCell ?_ (Β (Nat.le_succ _)) _)
  exact O
def YB(w:World)(kd d n m:Int)(j:0<=n/\n<=255)(l:0<=m/\m<=4294967295):
  Calls prog 23 #[.agg #[kd,d,.int .u8 n,.int .u32 m]] w λe w'=>∃o v,e=.returned (.tuple #[.pointer o,v,.bool (BP kd d m)])/\YD v/\ae [] w w':=by
 cases a:BP kd d m with
 |false=>exact(U5 w kd d n m j l a).mono λe w' ⟨v,b,f,c⟩=>⟨none,v,b,f,c⟩
 |true=>
  obtain⟨n,rfl⟩:∃k:Nat,n=k:=⟨n.toNat,ω⟩;obtain⟨m,rfl⟩:∃k:Nat,m=k:=⟨m.toNat,ω⟩;unfold BP at a;simp at a;have h:=Nat.mod_lt n (show 30 > 0 by omega);obtain⟨K,g⟩:=Df kd d (n % 30) a.1 ω;exact(Eo w kd d n m ω ω a.1 g).mono λe w' ⟨p,F,v,b,f,c,i,q⟩=>⟨_,v,b,c.agg,i⟩
def Zp{S:St}(b:S.Ok)(a:Ac)(x g:Int):0<=(a.run S x g).2.g/\(a.run S x g).2.g<=4294967295:=by
 have e:=b.2.1.gm;have f:=b.2.1.WE;have z:∀c,0<=(xR c).g/\(xR c).g<=4294967295:=λc=>by unfold xR;dsimp only;omega
 have o:(0:Int)<=0/\(0:Int)<=4294967295:=ω;refine EF (P:=λr=>0<=r.2.g/\r.2.g<=4294967295) a x g o ?_ ?_ ?_ ?_ ?_ ?_ ?_ ?_ ?_ o
 .unfold mF
  split
  .cases d:jF S.R with
   |none=>exact z 32
   |some y=>
    have:=(qw b.2.1 (x:=y.1) (R':=y.2) d).2.2.2.1;dsimp only;omega
  .exact z 171
 .unfold lW
  grind
 .unfold lD
  grind
 .unfold vg
  grind
 .unfold ow
  grind
 .unfold ql
  split<;>exact z _
 .unfold qH
  grind
 .unfold qK
  grind
 .unfold qI
  grind
def Qe(a:Ac)(b:a.Ok)(l:List Hd)(h:∀p,p∈l->0<=p.2/\p.2<=4294967295):0<=(BH a l).2/\(BH a l).2<=4294967295:=by
 unfold BH
 split
 .grind
 .exact b.wg
def Xw{w:World}{g:Nat}{e:TypeId}{base a:Nat}(h:w.heap[g]?=some (.cells #[] e (0,0)))(b:base<=g):w.ownsRow base e a (.slice (some g) 0 0) 0 []:=
 ⟨σ,Β ⟨g,0,#[],rfl,b,h,Θ _,by grind,σ,σ⟩⟩
def KT{w:World}{e:TypeId}{base a:Nat}(b:base<=w.heap.size):(w.alloc (.cells #[] e)).ownsRow base e a (.slice (some w.heap.size) 0 0) 0 []:=
 Xw (show(w.heap.push _)[w.heap.size]?=some _ by simp) b
def F8{c:Array Oper}{rest:List Oper}{o:Oper}{a:Act}{w:World}{Q:Exit->Act->World->Prop}(f:o.guard=none)(s x:Operand)
  (q:o.op=.call { callee:=.builtin .append,args:=#[s,x],argTypes:=#[77,77] })
  (base:Nat) (v:Value) (n:Nat) (l:List Int) (hs:a.eval s=v) (d:w.ownsRow base 3 1 v n (aZ l))
  (g:Nat) (p:Int) (r:a.eval x=.slice (some g) 1 1) (t:w.cell? g=some (p:V)) (y:n<=1000000) (b:base<=w.heap.size)
  (h:∀v' w',w'.ownsRow base 3 1 v' (n+1) (aZ (l++[p]))->ae v.ownBlock.toList w w'->(v'.ownBlock=v.ownBlock\/v'.ownBlock=some w.heap.size)->wpList prog c Q rest (a.put o.dst v') w'):
  wpList prog c Q (o::rest) a w:=
 rC f s x 77 q base 3 (.int .i64 0) 1 8 underlying77 gN rfl δ v n (aZ l) hs d g (aZ [p]) r rfl
  (λj u e=>by match j,e with|0,e=>(simp[aZ] at e;subst e;exact t)) (Fw _) μ ω b (λv' w' i k m=>h v' w' (by rw[dO];exact i) k m)
