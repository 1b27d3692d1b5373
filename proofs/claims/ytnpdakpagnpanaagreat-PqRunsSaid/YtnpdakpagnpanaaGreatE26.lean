/-
  Lemmas.
-/
import Derived.Deep.AppendLies
import Derived.Test.YtnpdakpagnpanaaGreatE25
set_option linter.all false
set_option maxHeartbeats 8000000
set_option maxRecDepth 10000
namespace Go.Proofs.YtnpdakpagnpanaaGreat
open Tryz
open Go Go.RowKit
def kY.open{w:World}{F:List Nat}{v:Value}{l:List Hd}(h:kY w F v l):∃a cap,v=.slice a l.length cap/\l.length<=cap/\cap<=9223372036854775807:=by
 obtain⟨a,cap,e,b,c,_⟩:=h;exact⟨a,cap,e,b,c⟩
section
variable{w:World}{F:List Nat}{v vT vG:Value}{l T G:List Hd}
def zx(h:kY w F v l)(hl:l.length<=1000000)(k m:Int):
  Calls prog 96 #[v,.agg #[k,.int .u32 m]] w λe w'=>e=.returned (.bool (decide ((k,m)∈l)))/\ae [] w w':=by
 obtain⟨x,o⟩:∃x,x=decide ((k,m)∈l):=⟨_,rfl⟩;rw[←o];have y:=χ o;clear o;obtain⟨a,cap,rfl,H,A,b⟩:=h;have S:=χ b;clear b;generalize P:l.length=n at *;have M:=χ P;clear P
 go_enter func96,ntmps96
 go_upto_region 1 with(fail)
 refine aU (λW=>W.cell? w.heap.size=some (k:V)/\W.cell? ⟨w.heap.size,1,none⟩=some (.int .u32 m)/\ae [] w W) ⟨γ,γ,β⟩ ?_;rintro W ⟨r,s,d⟩;have T:=χ (ψ r (ψ s d));clear r s d;go_wp2
 go_loopw [6,9] (λ_ E O=>∃j:Nat,j<=n/\E=.int .i64 (j:Int)/\ae [] W O/\∀i,i<j->l[i]?≠some (k,m)) (λ_ E _=>n-(intOf E).toNat)
 case atStart=>exact⟨0,Nat.zero_le _,rfl,ae.refl _ _,λi t=>absurd t (Nat.not_lt_zero _)⟩
 case round=>
  obtain⟨j,hj,rfl,f,c⟩:=hrel;rename World=>O;obtain⟨r,s,d⟩:=T.out
  by_cases q:j<n
  .have N:(j:Int)<(n:Int):=ω;have B:decide ((j:Int)<(n:Int))=true:=Ν N;have U:IntKind.i64.wrap ((j:Int)+1)=(j:Int)+1:=Μ _ ω;have C:j<l.length:=by rw[M.out];exact q
   have p:l[j]?=some l[j]:=ε C;obtain⟨g,off,rfl,R, -,I,J⟩:=S.out j _ p;generalize l[j]=Q at *;obtain⟨K,L⟩:=Q;have d0:=(d.trans f).was I;have d1:=(d.trans f).was J;have X:=f.was r;have z1:=f.was s;have Y:=Ε _ _ X;have u:=χ (ψ p (ψ c (d.trans f)));clear r s d I J p c
   by_cases z:K=k
   .by_cases G:L=m
    .subst z G;obtain rfl:x=true:=by rw[y.out];exact Ν (Η u.out.1)
     clear y;go_wp2;go_ret;exact⟨rfl,u.out.2.2.trans β⟩
    .subst z;have Z:(L == m)=false:=by simpa using G
     go_wp2
     go_roundw
     case rel=>
      refine⟨j+1,q,by go_num,f.trans β,λi t=>?_⟩;rcases ϕ i j with h|h
      .exact u.out.2.1 i h
      .obtain rfl:i=j:=ω;rw[u.out.1];intro e;simp only[ϖ,Prod.mk.injEq] at e;exact G e.2
     case measure=>simp[intOf];omega
   .have h1B:(K == k)=false:=by simpa using z
    go_wp2
    go_roundw
    case rel=>
     refine⟨j+1,q,by go_num,f.trans β,λi t=>?_⟩;rcases ϕ i j with h|h
     .exact u.out.2.1 i h
     .obtain rfl:i=j:=ω;rw[u.out.1];intro e;simp only[ϖ,Prod.mk.injEq] at e;exact z e.1
    case measure=>simp[intOf];omega
  .obtain rfl:n=j:=ω;have N:¬(n:Int)<(n:Int):=ω;have B:decide ((n:Int)<(n:Int))=false:=σ;have D:(k,m)∉l:=λhm=>by
    obtain⟨i,t⟩:=List.mem_iff_getElem?.1 hm;have:=(List.getElem?_eq_some_iff.1 t).1;exact c i (by rw[M.out] at this;exact this) t
   obtain rfl:x=false:=by rw[y.out];exact Ξ D
   clear c r s y;go_wp2;go_ret;exact⟨rfl,d.trans f⟩
def pU(j:kY w F vT T)(k:kY w F vG G)(C:T.length<=1000000)(l:G.length<=1000000)(c m d f:Int):
  Calls prog 81 #[.agg #[c,.int .u32 m,vT,vG],.agg #[d,.int .u32 f]] w λe w'=>e=.returned (.bool (CG T G (d,f)))/\ae [] w w':=by
 have v:=λW (b:ae [] w W)=>zx (j.ag b) C d f;have x:=λW (b:ae [] w W)=>zx (k.ag b) l d f;obtain⟨r,s,rfl, -, -⟩:=j.open;obtain⟨t,u,rfl, -, -⟩:=k.open;unfold CG;generalize decide ((d,f)∈T)=y at *;generalize decide ((d,f)∈G)=z at *;generalize T.length=A at *;generalize G.length=B at *;clear j k
 go_enter func81,ntmps81
 go_upto_region 1 with(fail)
 refine aU (λW=>W.cell? ⟨w.heap.size,2,none⟩=some (.slice r A s)/\W.cell? ⟨w.heap.size,3,none⟩=some (.slice t B u)/\W.cell? (w.heap.size+1:Nat)=some (d:V)/\W.cell? ⟨w.heap.size+1,1,none⟩=some (.int .u32 f)/\ae [] w W) ⟨γ,γ,γ,γ,β⟩ ?_;rintro W ⟨D,o,p,q,b⟩;have g:=v W b;cases y with
 |false=>
  go_wp2_with ((((with_reducible refine g.mono ?_));rintro e n ⟨rfl,a⟩))
  go_ret;exact⟨rfl,b.trans a⟩
 |true=>
  go_upto_region 1 with(fail)
  go_wp2_with (first
   |(((with_reducible refine g.mono ?_));rintro e n ⟨rfl,a⟩;(have H:=a.was o);(have I:=a.was p);(have J:=a.was q);(have i:=x n (b.trans a)))
   | (((with_reducible refine i.mono ?_));rintro e E ⟨rfl,h⟩))
  go_ret;exact⟨by cases z<;>rfl,(b.trans a).trans h⟩
def IQ(a:kY w F vT T)(b:kY w F vG G)(c m:Int)(k:Nat)(d:T.length=G.length+k)(o:T.length<=1000000):
  Calls prog 28 #[.agg #[c,.int .u32 m,vT,vG]] w λe w'=>e=.returned (k:Int)/\ae [] w w':=by
 obtain⟨f,g,rfl, -, -⟩:=a.open;obtain⟨h,i,rfl, -, -⟩:=b.open;have e:(T.length:Int)-(G.length:Int)=(k:Int):=ω;have j:IntKind.i64.wrap ((T.length:Int)-(G.length:Int))=(k:Int):=by rw[e];exact Μ _ ω
 generalize T.length=l at *;generalize G.length=n at *;clear a b d
 go_enter func28,ntmps28
 clear e;go_wp2;go_ret;exact⟨rfl,β⟩
def MU(j:Nat)(a:j<T.length)(s:Int):lastT (T.take (j+1)) s=if(T[j]).1=s then(T[j]).2 else lastT (T.take j) s:=by
 rw[ώ,ε a];exact zT _ _ _
def Jv(j:Nat)(a:j<T.length):jo (T.take (j+1))=jo (T.take j)+if(T[j]).2=1 then 1 else 0:=by
 rw[ώ,ε a];exact CL _ _
def C8(J:kY w F vT T)(S:T.length<=1000000)(c m s:Int)(K:Option Addr)(L M:Nat):
  Calls prog 92 #[.agg #[c,.int .u32 m,vT,.slice K L M],s] w λe w'=>e=.returned (.int .u32 (lastT T s))/\ae [] w w':=by
 obtain⟨A,B,rfl, -, -,a⟩:=J;have D:=χ a;clear a;generalize y:T.length=b at *;have u:=χ y;clear y
 go_enter func92,ntmps92
 (go_upto_region 1 with(fail);refine aU (λW=>W.cell? ⟨w.heap.size,2,none⟩=some (.slice A b B)/\ae [] w W) ⟨γ,β⟩ ?_;rintro W ⟨z,r⟩)
 have p:=χ r;go_wp2;clear z r
 go_loopw [5,7,11] (λI _ f x=>∃j:Nat,j<=b/\f=.int .i64 (j:Int)/\I=.int .u32 (lastT (T.take j) s)/\ae [] W x) (λ_ _ f _=>b-(intOf f).toNat)
 case atStart=>exact⟨0,Nat.zero_le _,rfl,rfl,ae.refl _ _⟩
 case round=>
  obtain⟨j,N,rfl,rfl,i⟩:=hrel;rename World=>x
  by_cases h:j<b
  .have E:(j:Int)<(b:Int):=ω;have G:IntKind.i64.wrap ((j:Int)+1)=(j:Int)+1:=Μ _ ω;have k:j<T.length:=by rw[u.out];exact h
   have d:=MU j k s;obtain⟨g,off,rfl,C, -,n,o⟩:=D.out j _ (ε k);generalize T[j]=Q at *;obtain⟨t,O⟩:=Q;dsimp only at n o d;have v:=χ d;have P:=(p.out.trans i).was n;have R:=(p.out.trans i).was o;clear n o d
   by_cases q:t=s
   .subst q;go_wp2
    go_roundw
    case rel=>exact⟨j+1,h,by go_num,by rw[v.out,Δ rfl],i.trans β⟩
    case measure=>simp[intOf];omega
   .have H:(t == s)=false:=by simpa using q
    go_wp2
    go_roundw
    case rel=>exact⟨j+1,h,by go_num,by rw[v.out,Γ q],i.trans β⟩
    case measure=>simp[intOf];omega
  .obtain rfl:b=j:=ω;have E:¬(b:Int)<(b:Int):=ω;have l:T.take b=T:=by rw[←u.out,List.take_length]
   rw[l] at *;clear l;go_wp2;go_ret;exact⟨rfl,p.out.trans i⟩
def K6(M:kY w F vT T)(Y:T.length<=1000000)(c m:Int)(N:Option Addr)(O P:Nat):
  Calls prog 91 #[.agg #[c,.int .u32 m,vT,.slice N O P]] w λe w'=>e=.returned (jo T:Int)/\ae [] w w':=by
 obtain⟨B,C,rfl, -, -,a⟩:=M;have E:=χ a;have i:∀j,jo (T.take j)<=1000000:=λj=>by
  unfold jo;refine Χ (List.length_filter_le _ _) ?_;rw[Ϗ];omega
 have p:=χ i;clear a i;generalize z:T.length=b at *;have v:=χ z;clear z
 go_enter func91,ntmps91
 (go_upto_region 1 with(fail);refine aU (λW=>W.cell? ⟨w.heap.size,2,none⟩=some (.slice B b C)/\ae [] w W) ⟨γ,β⟩ ?_;rintro W ⟨A,t⟩)
 have q:=χ t;go_wp2;clear A t
 go_loopw [3,5,9] (λL _ r y=>∃j:Nat,j<=b/\r=.int .i64 (j:Int)/\L=.int .i64 (jo (T.take j):Int)/\ae [] W y) (λ_ _ r _=>b-(intOf r).toNat)
 case atStart=>exact⟨0,Nat.zero_le _,rfl,rfl,ae.refl _ _⟩
 case round=>
  obtain⟨j,R,rfl,rfl,h⟩:=hrel;rename World=>y
  by_cases f:j<b
  .have G:(j:Int)<(b:Int):=ω;have H:IntKind.i64.wrap ((j:Int)+1)=(j:Int)+1:=Μ _ ω;have k:j<T.length:=by rw[v.out];exact f
   have d:=Jv j k;obtain⟨g,off,rfl,D, -,n,o⟩:=E.out j _ (ε k);generalize T[j]=Q at *;obtain⟨S,u⟩:=Q;dsimp only at n o d;have x:=χ d;have U:=(q.out.trans h).was n;have X:=(q.out.trans h).was o;have I:=p.out j;generalize jo (T.take j)=fr at *;have J:IntKind.i64.wrap ((fr:Int)+1)=(fr:Int)+1:=Μ _ ω;clear n o d
   by_cases s:u=1
   .subst s;go_wp2
    go_roundw
    case rel=>exact⟨j+1,f,by go_num,by rw[x.out,Δ rfl];rfl,h.trans β⟩
    case measure=>simp[intOf];omega
   .have K:(u == 1)=false:=by simpa using s
    go_wp2
    go_roundw
    case rel=>exact⟨j+1,f,by go_num,by rw[x.out,Γ s];rfl,h.trans β⟩
    case measure=>simp[intOf];omega
  .obtain rfl:b=j:=ω;have G:¬(b:Int)<(b:Int):=ω;have l:T.take b=T:=by rw[←v.out,List.take_length]
   rw[l] at *;clear l;go_wp2;go_ret;exact⟨rfl,q.out.trans h⟩
end
section
variable{w:World}{F:List Nat}{v vT vG:Value}{l T G:List Hd}
def TQ{s:Int}{p q:Hd}{j:Nat}(d:atT T G s=some p)(k:T[j]?=some q)(f:q.1=s/\q∉G)(c:∀i,i<j->∀r,T[i]?=some r->¬(r.1=s/\r∉G)):q=p:=by
 unfold atT at d;obtain⟨hp,i,l,e,b⟩:=List.find?_eq_some_iff_getElem.1 d;obtain⟨g,a⟩:=List.getElem?_eq_some_iff.1 k;simp only[Τ,Ο,Bool.not_eq_true',decide_eq_false_iff_not] at hp;rcases Nat.lt_trichotomy i j with h|h|h
 .exact absurd ⟨hp.1,hp.2⟩ (c i h p (by grind))
 .subst h;exact a.symm.trans e
 .have:=b j h;rw[a] at this;simp[f.1,f.2] at this
def Ur(hT:kY w F vT T)(hG:kY w F vG G)(hl:T.length<=1000000)(hl2:G.length<=1000000)(c m s:Int)(p:Hd)(M:atT T G s=some p):
  Calls prog 79 #[.agg #[c,.int .u32 m,vT,vG],s] w λe w'=>e=.returned (.tuple #[.agg #[p.1,.int .u32 p.2],true])/\ae [] w w':=by
 have kG:=λW (k:ae [] w W) q1 U=>zx (hG.ag k) hl2 q1 U;obtain⟨aG,cG,rfl, -, -⟩:=hG.open;obtain⟨aT,cT,rfl, -, -,d⟩:=hT;obtain⟨s1,s2⟩:=p;have Z:=χ (ψ d M);clear d M hG;generalize hn:T.length=x at *;have HN:=χ hn;clear hn;generalize G.length=nG at *
 go_enter func79,ntmps79
 go_upto_region 1 with(fail)
 refine aU (λW=>W.cell? ⟨w.heap.size,2,none⟩=some (.slice aT x cT)/\W.cell? ⟨w.heap.size,3,none⟩=some (.slice aG nG cG)/\W.cell? (w.heap.size+1:Nat)=some (.int .i64 0)/\W.cell? ⟨w.heap.size+1,1,none⟩=some (.int .u32 0)/\W.frozen? (w.heap.size+1:Nat)=false/\W.frozen? ⟨w.heap.size+1,1,none⟩=false/\ae [] w W) ⟨γ,γ,γ,γ,γ,γ,β⟩ ?_;rintro W ⟨U,D,y,z,E,H,k⟩;have HW:=χ (ψ D (ψ y (ψ z (ψ E (ψ H k)))));clear D y z E H k;go_wp2;clear U
 go_loopw [7,11] (λ_ t B=>∃j:Nat,j<=x/\t=.int .i64 (j:Int)/\ae [] W B/\∀i,i<j->∀r,T[i]?=some r->¬(r.1=s/\r∉G)) (λ_ t _=>x-(intOf t).toNat)
 case atStart=>exact⟨0,Nat.zero_le _,rfl,ae.refl _ _,λi I=>absurd I (Nat.not_lt_zero _)⟩
 case round=>
  obtain⟨j,hj,rfl,f,l⟩:=hrel;rename World=>B
  by_cases u:j<x
  .have Gr:(j:Int)<(x:Int):=ω;have hjD:decide ((j:Int)<(x:Int))=true:=Ν Gr;have hwj:IntKind.i64.wrap ((j:Int)+1)=(j:Int)+1:=Μ _ ω;have hjl:j<T.length:=by rw[HN.out];exact u
   have n:T[j]?=some T[j]:=ε hjl;obtain⟨g,off,rfl,hgl, -,c0,c1⟩:=Z.out.1 j _ n;obtain⟨D,y,z,E,H,k⟩:=HW.out;have J:(¬((T[j]).1=s/\T[j]∉G))->∀i,i<j+1->∀r,T[i]?=some r->¬(r.1=s/\r∉G):=λb i I r hr=>by
    rcases ϕ i j with h|h
    .exact l i h r hr
    .obtain rfl:i=j:=ω;rw[n] at hr;cases hr;exact b
   have K:=λhq=>TQ Z.out.2 n hq l;generalize T[j]=Q at *;obtain⟨A,R⟩:=Q;have d0:=(k.trans f).was c0;have d1:=(k.trans f).was c1;have z3:=f.was D;have y0:=f.was y;have y1:=f.was z;have g0:=f.ay y σ E;have g1:=f.ay z σ H;have q:=λX (hX:ae [] B X)=>kG X ((k.trans f).trans hX) A R;have hb1:=Ε _ _ y0;have hb0:=Ε _ _ z3;have S:=χ (ψ J (ψ K (k.trans f)));clear D y z E H k c0 c1 n l J K
   by_cases h1:A=s
   .subst h1
    go_upto_region 4 with(fail)
    refine aU (λY=>Y.cell? B.heap.size=some ((A:Int):V)/\Y.cell? ⟨B.heap.size,1,none⟩=some (.int .u32 R)/\Y.cell? ⟨w.heap.size,3,none⟩=some (.slice aG nG cG)/\Y.cell? (w.heap.size+1:Nat)=some (.int .i64 0)/\Y.cell? ⟨w.heap.size+1,1,none⟩=some (.int .u32 0)/\Y.frozen? (w.heap.size+1:Nat)=false/\Y.frozen? ⟨w.heap.size+1,1,none⟩=false/\ae [] B Y) ⟨γ,γ,γ,γ,γ,γ,γ,β⟩ ?_;rintro Y ⟨e0,e1,e3,N,O,t0,t1,P⟩;have o:=q Y P;clear d0 d1 z3 y0 y1 g0 g1 q
    by_cases C:(A,R)∈G
    .rw[Ν C] at o;have b:=S.out.1 (λh=>h.2 C);have HU:=χ (ψ b P);clear b C
     go_wp2_with ((((with_reducible refine o.mono ?_));rintro e w1 ⟨rfl,a⟩))
     go_roundw
     case rel=>exact⟨j+1,u,by go_num,(f.trans P).trans a,HU.out.1⟩
     case measure=>simp[intOf];omega
    .rw[Ξ C] at o;have L:=S.out.2.1 ⟨rfl,C⟩;have hU0:=S.out.2.2;simp only[Prod.mk.injEq] at L;obtain⟨rfl,rfl⟩:=L;clear C
     go_wp2_with ((((with_reducible refine o.mono ?_));rintro e w1 ⟨rfl,a⟩;(have t0:=a.ay N σ t0);(have t1:=a.ay O σ t1);(have N:=a.was N);(have O:=a.was O);(have e0:=a.was e0);(have e1:=a.was e1)))
     exact bodyPost_ret (v:=.tuple #[.agg #[(A:Int),.int .u32 R],true]) (by simp[results,results79,go_sem,N,O]) rfl ⟨rfl,by(iterate 2 (refine ae.setCell ?_ (Β (Nat.le_succ _)) _));exact hU0.trans (P.trans a)⟩
   .have h1B:(A == s)=false:=by simpa using h1
    have b:=χ (S.out.1 (λh=>h1 h.1));clear q;go_wp2
    go_roundw
    case rel=>exact⟨j+1,u,by go_num,f.trans β,b.out⟩
    case measure=>simp[intOf];omega
  .exfalso;obtain rfl:x=j:=ω;have M:=Z.out.2;unfold atT at M;obtain⟨hp,i,I,e,hlt⟩:=List.find?_eq_some_iff_getElem.1 M;simp only[Τ,Ο,Bool.not_eq_true',decide_eq_false_iff_not] at hp;exact l i (by rw[←HN.out];exact I) _ (by rw[ε I,e]) ⟨hp.1,hp.2⟩
end
def iv:Nat->Int
 |0=>-1
 |k+1=>(k:Int)
def PL(T G:List Hd)(m:Int)(j:Nat):List Int:=(((G.drop j).filter (okW T m)).map (·.1)).reverse
section
variable{w:World}{F:List Nat}{v vT vG:Value}{l T G:List Hd}
def Xa(m:Int)(k:Nat)(a:k<G.length):PL T G m k=PL T G m (k+1)++(if okW T m G[k]=true then[(G[k]).1] else[]):=by
 unfold PL;rw[Ϝ a,List.filter_cons]
 split
 .rw[List.map_cons,List.reverse_cons]
 .simp
def Y0(m:Int)(j:Nat):(PL T G m j).length<=G.length:=by
 unfold PL;rw[List.length_reverse,ϐ];refine Χ (List.length_filter_le _ _) ?_;rw[List.length_drop];omega
def JF(hT:kY w F vT T)(hG:kY w F vG G)(hl:T.length<=1000000)(hl2:G.length<=1000000)(c m:Int):
  Calls prog 90 #[.agg #[c,.int .u32 m,vT,vG]] w λe w'=>∃v,e=.returned v/\w'.ownsRow w.heap.size 3 1 v (qW T G m).length (aZ (qW T G m))/\ae [] w w':=by
 obtain⟨aG,S,rfl, -, -,p⟩:=hG;have kL:=λW (hW:ae [] w W) s=>C8 (hT.ag hW) hl c m s aG G.length S;obtain⟨aT,cT,rfl, -, -⟩:=hT.open;have HC:=χ p;have HWL:=χ (λk hk=>Xa (T:=T) (G:=G) m k hk);have HWN:=χ (λj=>Y0 (T:=T) (G:=G) m j);clear p hT;generalize hn:G.length=l at hl2 kL ⊢;have HN:=χ hn;clear hn;generalize T.length=nT at *
 go_enter func90,ntmps90
 go_upto_region 1 with(fail)
 refine aU (λW=>W.cell? w.heap.size=some (c:V)/\W.cell? ⟨w.heap.size,1,none⟩=some (.int .u32 m)/\W.cell? ⟨w.heap.size,2,none⟩=some (.slice aT nT cT)/\W.cell? ⟨w.heap.size,3,none⟩=some (.slice aG l S)/\ae [] w W) ⟨γ,γ,γ,γ,β⟩ ?_;rintro W ⟨C,M,N,J,hW⟩;have hsl0:w.heap.size<W.heap.size:=Ε _ _ C;have hw1:IntKind.i64.wrap ((l:Int)-1)=(l:Int)-1:=Μ _ ω
 go_upto_region 2 with(fail)
 refine aU (λX=>X.ownsRow (w.heap.size+1) 3 1 (.slice (some W.heap.size) 0 0) 0 []/\ae [] W X) ⟨KT ω,β⟩ ?_;rintro X ⟨d,O⟩;have HX:=χ (ψ (O.was C) (ψ (O.was M) (ψ (O.was N) (ψ (O.was J) (hW.trans O)))));have n:=O.was J;have hiv:((l:Int)-1)=iv l:=by cases l with|zero=>rfl|succ k=>show((k+1:Nat):Int)-1=(k:Int);omega
 rw[hiv] at hw1;have H0:=χ d;clear C M N J hW O d;go_wp2;clear hiv hw1 n
 go_loopw [3,4,5] (λv3 v4 _ f=>∃j:Nat,j<=l/\v4=.int .i64 (iv j)/\f.ownsRow (w.heap.size+1) 3 1 v3 (PL T G m j).length (aZ (PL T G m j))/\f.cell? w.heap.size=some (c:V)/\f.cell? ⟨w.heap.size,1,none⟩=some (.int .u32 m)/\f.cell? ⟨w.heap.size,2,none⟩=some (.slice aT nT cT)/\f.cell? ⟨w.heap.size,3,none⟩=some (.slice aG l S)/\ae [] w f) (λ_ v4 _ _=>(intOf v4+1).toNat)
 case atStart=>
  have e:PL T G m l=[]:=by unfold PL;rw[←HN.out,List.drop_length];rfl
  obtain⟨C,M,N,J,hwX⟩:=HX.out;exact⟨l,Θ _,rfl,by rw[e];exact H0.out,C,M,N,J,hwX⟩
 case round=>
  obtain⟨j,hj,rfl,d,C,M,N,J,A⟩:=hrel;rename World=>f;clear H0;have hb0:w.heap.size<f.heap.size:=Ε _ _ C;cases j with
  |zero=>
   have e:iv 0=-1:=rfl;rw[e];have hd:decide ((-1:Int)≥0)=false:=δ;obtain⟨a3,c3,rfl, -⟩:=bz d;have HO:=χ d;clear d C M N J;go_wp2;go_ret;exact⟨_,rfl,jX HO.out (Nat.le_succ _),A⟩
  |succ k=>
   have e:iv (k+1)=(k:Int):=rfl;rw[e];have hd:decide ((k:Int)≥0)=true:=σ;have hkl:k<G.length:=by rw[HN.out];omega
   have a:=HWL.out k ω;have K:=HWN.out (k+1);rw[HN.out] at K;have hwk:IntKind.i64.wrap ((k:Int)-1)=(k:Int)-1:=Μ _ ω;have E:(k:Int)-1=iv k:=by cases k with|zero=>rfl|succ k=>show((k+1:Nat):Int)-1=(k:Int);omega
   have hkn:(k:Int)<(l:Int):=ω;obtain⟨g,off,rfl,hgl, -,c0,c1⟩:=HC.out k _ (ε hkl);generalize G[k]=Q at *;obtain⟨q,B⟩:=Q;have d0:=A.was c0;have d1:=A.was c1;obtain⟨a3,c3,rfl, -⟩:=bz d;have P:=λY (o:ae [] f Y)=>kL Y (A.trans o) q;have HS:=χ (ψ a (ψ hwk (ψ E (ψ d A))));clear c0 c1 kL a d E;generalize hlw:(PL T G m (k+1)).length=lw at K ⊢;have H:=χ hlw;clear hlw
   go_upto_region 6 with(fail)
   refine aU (λY=>Y.cell? f.heap.size=some ((q:Int):V)/\Y.cell? ⟨f.heap.size,1,none⟩=some (.int .u32 B)/\Y.cell? w.heap.size=some (c:V)/\Y.cell? ⟨w.heap.size,1,none⟩=some (.int .u32 m)/\Y.cell? ⟨w.heap.size,2,none⟩=some (.slice aT nT cT)/\Y.cell? ⟨w.heap.size,3,none⟩=some (.slice (some ⟨g,off,none⟩) l S)/\ae [] f Y/\f.heap.size<Y.heap.size) ⟨γ,γ,γ,γ,γ,γ,β,σ⟩ ?_;clear d0 d1 C M N J;rintro Y ⟨e0,e1,u,y,z,n,o,hYl⟩;have HY:=χ (ψ e0 (ψ u (ψ y (ψ z (ψ n o)))))
   have L:Hid (∀Z,ae [] Y Z->okW T m (q,B)=false->∃j:Nat,j<=l/\Value.int .i64 ((k:Int)-1)=.int .i64 (iv j)/\Z.ownsRow (w.heap.size+1) 3 1 (.slice a3 lw c3) (PL T G m j).length (aZ (PL T G m j))/\Z.cell? w.heap.size=some (c:V)/\Z.cell? ⟨w.heap.size,1,none⟩=some (.int .u32 m)/\Z.cell? ⟨w.heap.size,2,none⟩=some (.slice aT nT cT)/\Z.cell? ⟨w.heap.size,3,none⟩=some (.slice (some ⟨g,off,none⟩) l S)/\ae [] w Z):=λZ b i=>by
    obtain⟨a, -,E,d,A⟩:=HS.out;obtain⟨-,u,y,z,n,o⟩:=HY.out;rw[i,Γ σ,Υ] at a;exact⟨k,ω,by rw[E],by rw[a,H.out];rw[H.out] at d;exact au d (o.trans b) σ,b.was u,b.was y,b.was z,b.was n,(A.trans o).trans b⟩
   by_cases h1:B<m
   .have h1D:decide (B<m)=true:=Ν h1;have k2:=λZ (b:ae [] Y Z)=>P Z (o.trans b);have p0:∀Z,ae [] Y Z->Z.cell? f.heap.size=some ((q:Int):V):=λZ h=>h.was e0;have p1:∀Z,ae [] Y Z->Z.cell? ⟨f.heap.size,1,none⟩=some (.int .u32 B):=λZ h=>h.was e1;have p2:∀Z,ae [] Y Z->Z.cell? w.heap.size=some (c:V):=λZ h=>h.was u;have p3:∀Z,ae [] Y Z->Z.cell? ⟨w.heap.size,1,none⟩=some (.int .u32 m):=λZ h=>h.was y;have p4:∀Z,ae [] Y Z->Z.cell? ⟨w.heap.size,2,none⟩=some (.slice aT nT cT):=λZ h=>h.was z
    have p5:∀Z,ae [] Y Z->Z.cell? ⟨w.heap.size,3,none⟩=some (.slice (some ⟨g,off,none⟩) l S):=λZ h=>h.was n;have hy0:ae [] Y Y:=ae.refl _ _;generalize hlv:lastT T q=lv at *;have HLV:=χ hlv;clear hlv P e0 e1 u y z n o
    by_cases h2:lv=B
    .subst h2
     go_region_held3 (ae [] Y) (exact ν)
      (first
       | (((with_reducible refine (k2 _ ν).mono ?_));rintro e w1 ⟨rfl,D⟩;(have t:ae [] Y w1:=ae.trans ν D)))
     go_upto_region 7 with(fail)
     refine aU (λZ=>Z.cell? f.heap.size=some ((q:Int):V)/\ae [] Y Z) ⟨p0 _ t,t⟩ ?_;rintro Z ⟨y0,b⟩;obtain⟨a, -,E,d,A⟩:=HS.out;obtain⟨-,u,y,z,n,o⟩:=HY.out;rw[H.out] at d;have r:=au d (o.trans b) σ;have hZs:=b.size;have HZ:=χ (ψ a (ψ E (ψ r (ψ (b.was u) (ψ (b.was y) (ψ (b.was z) (ψ (b.was n) ((A.trans o).trans b))))))));clear a E d A o b D t p0 p1 p2 p3 p4 p5 k2 hy0 u y z n
     go_wp2_with (first
      | (at_builtin;refine F8 rfl _ _ rfl (w.heap.size+1) _ _ (PL T G m (k+1)) rfl (au r ((ae.refl [] _).alloc _) σ) _ q rfl γ ω ζ ?_;intro v7 w8 ho8 U hb8))
     go_roundw
     case rel=>
      obtain⟨a,E,r,u,y,z,n,hu⟩:=HZ.out;rw[show okW T m (q,lv)=true by unfold okW;simp[HLV.out,h1],Δ rfl] at a;have I:w.heap.size∉(Value.slice a3 lw c3).ownBlock.toList:=λhm=>by have:=(r.lt _ (by simpa using hm)).1;omega
      refine⟨k,ω,by rw[E],by rw[a,υ,H.out];exact ho8,U.kept (((ae.refl [] _).alloc _).was u) I,U.kept (((ae.refl [] _).alloc _).was y) I,U.kept (((ae.refl [] _).alloc _).was z) I,U.kept (((ae.refl [] _).alloc _).was n) I,?_⟩;have y9:ae (Value.slice a3 lw c3).ownBlock.toList (Z.alloc (.cells #[(q:Int)] 3)) w8:=U;exact(hu.alloc _).joined y9 (λx hx=>Β (by have:=(r.lt x (by simpa using hx)).1;omega))
     case measure=>first|(simp[intOf];done)|(simp[intOf];omega)
    .have h2B:(lv == B)=false:=by simpa using h2
     have i:okW T m (q,B)=false:=by unfold okW;simp[HLV.out,h2]
     have R:=χ i;clear i h2
     go_region_held3 (ae [] Y) (exact ν)
      (first
       | (((with_reducible refine (k2 _ ν).mono ?_));rintro e w1 ⟨rfl,D⟩;(have t:ae [] Y w1:=ae.trans ν D)))
     go_upto_region 4 with(fail)
     refine aU (λZ=>ae [] Y Z) t ?_;rintro Z b;go_wp2
     go_roundw
     case rel=>exact L.out Z b R.out
     case measure=>first|(simp[intOf];done)|(simp[intOf];omega)
   .have h1D:decide (B<m)=false:=Ξ h1;have i:okW T m (q,B)=false:=by unfold okW;simp[h1]
    have R:=χ i;clear i P
    go_quiet (fail)
    go_upto_region 4 with(fail)
    refine aU (λZ=>ae [] Y Z) β ?_;rintro Z b;go_wp2
    go_roundw
    case rel=>exact L.out Z b R.out
    case measure=>first|(simp[intOf];done)|(simp[intOf];omega)
end
def yt{P:Program}{w:World}(base:Nat)(t h e:TypeId)(i:TypeInfo)(a:Nat)(d:P.underlying t=some (.slice e))(f:P.info? e=some i)(v:Value)(n:Nat)(xs:List Value)(b:w.ownsRow base e a v n xs)(c:Nat):
  (Builtin.append_ #[t,t] h #[v,.slice none 0 c]).run P w=.ok v w:=by
 rcases b.2 with⟨rfl,rfl⟩|⟨g,cap,cur,rfl,_,_,hnc,_⟩
 .simp[Builtin.append_,run_underlying d,sizeOf,typeInfo,f,Builtin.lenOf,Builtin.firstCells,storeCells]
 .simp[Builtin.append_,run_underlying d,sizeOf,typeInfo,f,Builtin.lenOf,hnc,Builtin.firstCells,storeCells]
def Wl{w:World}{g:Nat}:∀(l:List Hd) (off:Nat),(∀(j:Nat) (p:Hd),l[j]?=some p->w.cell? ⟨g,off+j*2,none⟩=some (p.1:V)/\w.cell? ⟨g,off+j*2+1,none⟩=some (.int .u32 p.2))->
  ∀j u,(uf l)[j]?=some u->w.cell? ⟨g,off+j,none⟩=some u
 | [],off,_,j,u,h=>by simp[uf] at h
 |p::l,off,hc,j,u,h=>by
  have a:=hc 0 p rfl;simp only[Nat.zero_mul,ϔ] at a
  match j,h with
  |0,h=>simp[uf] at h;subst h;exact a.1
  |1,h=>simp[uf] at h;subst h;exact a.2
  |j+2,h=>
   have b:(uf l)[j]?=some u:=by simpa[uf] using h
   have:=Wl l (off+2) (λk x c=>by
    have:=hc (k+1) x (by grind);rw[show off+2+k*2=off+(k+1)*2 by omega]
    exact this) j u b
   rw[show off+(j+2)=off+2+j by omega];exact this
def Dx{o:Oper}{a:Act}{w:World}{K:Act->World->Prop}{Q:Exit->Act->World->Prop}(s x:Operand)
  (M:o.op=.call { callee:=.builtin .append,args:=#[s,x],argTypes:=#[30,30] })
  (base:Nat) (v:Value) (n:Nat) (xs:List Value) (hs:a.eval s=v) (b:w.ownsRow base 46 2 v n xs)
  (F:List Nat) (N:Value) (l:List Hd) (E:a.eval x=N) (X:kY w F N l) (hn:n+l.length<=1000000) (f:base<=w.heap.size)
  (h:∀v' w',w'.ownsRow base 46 2 v' (n+l.length) (xs++uf l)->ae v.ownBlock.toList w w'->K (a.put o.dst v') w'):Oper.wp prog o a w K Q:=by
 obtain⟨i,G,p,r,z⟩:=info_parts Mf;obtain⟨O,c,rfl,Y,H,m⟩:=X;cases O with
 |none=>
  have C:l=[]:=by
   cases l with
   |nil=>rfl
   |cons y t=>obtain⟨g,off,A,_⟩:=m 0 y rfl;cases A
  subst C;have T:=yt (P:=prog) base 30 o.type 46 i 2 underlying30 G v n xs b c;unfold Oper.wp execOp;simp only[List.length_nil] at E;simp only[M,resolve,invoke,builtin,Sem.run_bind,Sem.run_pure,Result.andThen_ok,List.map_toArray,List.map_cons,List.map_nil,hs,E,T];exact(h v w (by simpa[uf] using b) (ae.refl _ _))
 |some L=>
  have d:∀j u,(uf l)[j]?=some u->w.cell? (L.add j)=some u:=λj u J=>by
   have D:0<l.length:=by
    rcases Nat.eq_zero_or_pos l.length with e|e
    .have:l=[]:=ϙ e;subst this;simp[uf] at J
    .exact e
   obtain⟨g,off,A,_⟩:=m 0 _ (ε D);cases A;rw[Addr.add_lit];refine Wl l off (λk q U=>?_) j u J;obtain⟨Z,I,B,_,_,R,S⟩:=m k q U;cases B;exact⟨R,S⟩
  exact wp_append_own w s x 30 M base 46 i (.agg #[(0:Int),.int .u32 0]) 2 16 underlying30 G p r z rfl δ v n xs hs b L l.length c (uf l) E (by rw[Po]) d (AP l) μ ω f (λv' w' H m _=>h v' w' H ((ae.refl _ _).grown m (λk W=>Α (by simp[W]))))
def tY{c:Array Oper}{o:Oper}{a:Act}{w:World}{K:Act->World->Prop}{Q:Exit->Act->World->Prop}{E:Prop}(e:o.guard=none)(s x:Operand)
  (i:o.op=.call { callee:=.builtin .append,args:=#[s,x],argTypes:=#[30,30] })
  (base:Nat) (v:Value) (n:Nat) (xs:List Value) (hs:a.eval s=v) (d:w.ownsRow base 46 2 v n xs)
  (F:List Nat) (f:Value) (l:List Hd) (j:a.eval x=f) (k:kY w F f l) (m:n+l.length<=1000000) (b:base<=w.heap.size)
  (h:∀v' w',w'.ownsRow base 46 2 v' (n+l.length) (xs++uf l)->ae v.ownBlock.toList w w'->K (a.put o.dst v') w'):
  if Region.wanted o (yielded c a.tmps)=true then Oper.wp prog o a w K Q else E:=by
 have g:Region.wanted o (yielded c a.tmps)=true:=by simp[Region.wanted,e]
 rw[Δ g];exact Dx s x i base v n xs hs d F f l j k m b h
section
variable{w:World}{F:List Nat}{v vT vG:Value}{l T G:List Hd}
theorem NM(hT:kY w F vT T)(hG:kY w F vG G)(hl:T.length<=1000000)(hl2:G.length<=1000 )(hF:∀x,x∈F->x<w.heap.size)(c m p1 p2:Int)(hlv:CG T G (p1,p2)=true):
  Calls prog 98 #[.agg #[.int .i64 c,.int .u32 m,vT,vG],.agg #[.int .i64 p1,.int .u32 p2]] w λe w'=>∃v',e=.returned (.tuple #[.agg #[.int .i64 c,.int .u32 m,vT,v'],.int .i64 0])/\kY w' F v' (G++[(p1,p2)])/\ae [] w w':=by
 have kl:=λW (hW:ae [] w W)=>pU (hT.ag hW) (hG.ag hW) hl ω c m p1 p2;rw[hlv] at kl;obtain⟨aT,cT,rfl, -, -⟩:=hT.open;obtain⟨aG,cG,e, -, -⟩:=hG.open;subst e;have HG:=χ (ψ hG hF);have HGl:=χ (show G.length<=1000 from hl2);generalize hn:G.length=nG at hl2 kl ⊢;have HN:=χ hn;generalize T.length=nT at hl kl ⊢;clear hT hG hlv hn hF
 go_enter func98,ntmps98
 go_upto_region 1 with(fail)
 refine aU (λW=>W.cell? ⟨w.heap.size,0,none⟩=some (.int .i64 c)/\W.cell? ⟨w.heap.size,1,none⟩=some (.int .u32 m)/\W.cell? ⟨w.heap.size,2,none⟩=some (.slice aT nT cT)/\W.cell? ⟨w.heap.size,3,none⟩=some (.slice aG nG cG)/\W.cell? ⟨w.heap.size+1,0,none⟩=some (.int .i64 p1)/\W.cell? ⟨w.heap.size+1,1,none⟩=some (.int .u32 p2)/\W.frozen? ⟨w.heap.size,3,none⟩=false/\bH W (w.heap.size+1+1) 32 4/\ae [] w W) ⟨γ,γ,γ,γ,γ,γ,γ,(by have h:=fE ((w.alloc (.cells #[.int .i64 c,.int .u32 m,.slice aT nT cT,.slice aG nG cG] 32)).alloc (.cells #[.int .i64 p1,.int .u32 p2] 46)) [Value.int .i64 0,.int .u32 0,.slice none 0 0,.slice none 0 0] 32;rw[Κ,Κ] at h;exact h),β⟩ ?_
 rintro W ⟨q0,q1,q2,q3,q4,q5,fq,hR,hW⟩;have Hy:=kl W hW
 go_upto_region 3 with((((with_reducible refine Hy.mono ?_));rintro e w1 ⟨rfl,hu1⟩))
 refine aU (λZ=>Z.cell? ⟨w.heap.size,0,none⟩=some (.int .i64 c)/\Z.cell? ⟨w.heap.size,1,none⟩=some (.int .u32 m)/\Z.cell? ⟨w.heap.size,2,none⟩=some (.slice aT nT cT)/\Z.cell? ⟨w.heap.size,3,none⟩=some (.slice aG nG cG)/\Z.cell? ⟨w.heap.size+1,0,none⟩=some (.int .i64 p1)/\Z.cell? ⟨w.heap.size+1,1,none⟩=some (.int .u32 p2)/\Z.frozen? ⟨w.heap.size,3,none⟩=false/\bH Z (w.heap.size+1+1) 32 4/\ae [] w Z) ⟨hu1.was q0,hu1.was q1,hu1.was q2,hu1.was q3,hu1.was q4,hu1.was q5,hu1.ay q3 σ fq,hR.upd hu1 σ,hW.trans hu1⟩ ?_;clear q0 q1 q2 q3 q4 q5 fq hR hW hu1 kl Hy;rintro Z ⟨q0,q1,q2,q3,q4,q5,fq,hR,hZ⟩
 have hRl:w.heap.size+1+1<Z.heap.size:=Ε _ _ (hR.cell 0 ω);have hb0:w.heap.size<Z.heap.size:=ω;have hb1:w.heap.size+1<Z.heap.size:=ω;have hGZ:kY Z F (.slice aG nG cG) G:=by
  have h:=HG.out.1.ag hZ;rw[HN.out] at h;exact h
 have HGZ:=χ hGZ;have HZ:=χ (ψ hR hZ);clear hGZ hR hZ
 go_region_law
  (first
   |(refine tY (o:=⟨some 14,_,_,_,_,_⟩) (by rfl) (.tmp 11) (.tmp 13) (by rfl) Z.heap.size _ 0 [] (by rfl) (rO (by first|exact nI σ|exact BK (nI σ)) (by first|omega|(simp;done)|(simp;omega))) F _ G (by rfl) (HGZ.out.ag ν) (by have:=HGl.out;omega) (by first|omega|(simp;done)|(simp;omega)) ?_;intro v2 w8 ho2 hu2;rw[ϓ,Ϛ] at ho2;have hz8:ae [] Z w8:=ae.joined (S:=[]) β hu2 (λy hy=>Β (by simp[Value.ownBlock] at hy;omega));have a4:=hz8.was q4;have a5:=hz8.was q5)
   | (refine De (o:=⟨some 17,_,_,_,_,_⟩) (by rfl) (.tmp 14) (.tmp 16) (by rfl) Z.heap.size v2 _ G (by rfl) (au ho2 (S:=[]) β σ) _ (p1,p2) (by rfl) (by first|(go_simp;done)|(refine hu2.kept γ ?_;simp [Value.ownBlock];done)|(refine hu2.kept γ ?_;simp [Value.ownBlock];omega)) (by first|(go_simp;done)|(refine hu2.kept γ ?_;simp [Value.ownBlock];done)|(refine hu2.kept γ ?_;simp [Value.ownBlock];omega)) (by have:=HGl.out;omega) (by have:=hz8.size;first|omega|(simp;done)|(simp;omega)) ?_;intro v3 w9 ho3 hu3 hb3;obtain ⟨a9,c9,rfl, -⟩:=bz ho3;have Dp:ae [] Z w9:=ae.joined (S:=[]) ν hu3 (λy hy=>Β ((ho2.lt y (by simpa using hy)).1));have b0:=Dp.was q0;have b1:=Dp.was q1;have b2:=Dp.was q2;have b3:=Dp.was q3;have bf:=Dp.ay q3 σ fq))
 all_goals
  have HO:=χ (ψ ho3 (ψ Dp HZ.out));clear ho3 hu3 hb3 ho2 hu2 hz8 Dp q0 q1 q2 q3 q4 q5 fq a4 a5
  go_upto_region 4 with(fail)
  refine aU (λV=>V.cell? ⟨w.heap.size,0,none⟩=some (.int .i64 c)/\V.cell? ⟨w.heap.size,1,none⟩=some (.int .u32 m)/\V.cell? ⟨w.heap.size,2,none⟩=some (.slice aT nT cT)/\V.cell? ⟨w.heap.size,3,none⟩=some (.slice a9 (G.length+1) c9)/\ae [w.heap.size] w9 V) ⟨γ,γ,γ,γ,by first|exact(ae.refl _ _).setCell (Α σ) _|exact((ae.refl _ _).setCell (Α σ) _).drew|exact(((ae.refl _ _).drew).setCell (Α σ) _)⟩ ?_;clear b0 b1 b2 b3 bf;rintro V ⟨q0,q1,q2,q3,hV⟩;obtain⟨ho3,Dp,hR,hZ⟩:=HO.out;have YL:=(hR.upd Dp σ).upd hV ζ;have t0:=YL.cell 0 ω;have t1:=YL.cell 1 ω;have t2:=YL.cell 2 ω;have t3:=YL.cell 3 ω
  have s0:=YL.free 0;have s1:=YL.free 1;have s2:=YL.free 2;have s3:=YL.free 3;have HF:Hid (∀X,ae [w.heap.size+1+1] V X->kY X F (.slice a9 (G.length+1) c9) (G++[(p1,p2)])/\ae [] w X):=λX hX=>by
   have hu2:ae [w.heap.size,w.heap.size+1+1] w9 X:=(hV.mono σ).trans (hX.mono σ);refine⟨kY.jd (base:=Z.heap.size) ?_ (λk hk hm=>?_),(hZ.trans Dp).joined hu2 (λx hx=>Β (by simp at hx;omega))⟩
   .have:=au ho3 hu2 (λk hk hm=>by have:=(ho3.lt k hk).1;simp at hm;omega);simpa using this
   .have h1:=(ho3.lt k hk).1;have h2:=HG.out.2 k hm;omega
  clear ho3 Dp hR hZ YL hV HO;go_wp2;exact bodyPost_ret (v:=.tuple #[.agg #[.int .i64 c,.int .u32 m,.slice aT nT cT,.slice a9 (G.length+1) c9],.int .i64 0]) (by simp[results,results98,go_sem,t0,t1,t2,t3]) rfl ⟨_,rfl,HF.out _ (by(iterate 4 (refine ae.setCell ?_ (Α σ) _));exact ae.refl _ _)⟩
end
def Tz(o:Option Hd)(c m:Int)(vT v' vG:Value):Value:=match o with
 |some p=>.tuple #[.agg #[c,.int .u32 m,v',vG],.agg #[p.1,.int .u32 p.2],(0:Int)]
 |none=>.tuple #[.agg #[c,.int .u32 m,vT,vG],.agg #[(0:Int),.int .u32 0],(32:Int)]
section
variable{w:World}{F:List Nat}{v vT vG:Value}{l T G:List Hd}
theorem Mw(hT:kY w F vT T)(hG:kY w F vG G)(hl:T.length<=1000)(hl2:G.length<=1000)(hF:∀x,x∈F->x<w.heap.size)(cap:Nat)(m:Int)(hb:∀p,si T G cap m=some p->0<=p.2/\p.2<=4294967295):
  Calls prog 76 #[.agg #[.int .i64 (cap:Int),.int .u32 m,vT,vG]] w λe w'=>∃v',e=.returned (Tz (si T G cap m) (cap:Int) m vT v' vG)/\(∀p,si T G cap m=some p->kY w' F v' (T++[p]))/\ae [] w w':=by
 have kW:=λW (hW:ae [] w W)=>JF (hT.ag hW) (hG.ag hW) ω ω (cap:Int) m;obtain⟨aG,cG,rfl, -, -⟩:=hG.open;have kF:=λW (hW:ae [] w W)=>K6 (hT.ag hW) ω (cap:Int) m aG G.length cG;have kL:=λW (hW:ae [] w W) s=>C8 (hT.ag hW) ω (cap:Int) m s aG G.length cG;obtain⟨aT,cT,e, -, -⟩:=hT.open;subst e;have HTF:=χ (ψ hT hF);have HTl:=χ (show T.length<=1000 from hl);have HBD:=χ hb;generalize hn:T.length=nT at hl kW kF kL ⊢;have HN:=χ hn;generalize G.length=nG at hl2 kW kF kL ⊢;clear hT hG hn hF hb;obtain⟨tk,htk⟩:∃tk,tk=si T G cap m:=⟨_,rfl⟩;rw[←htk];have HTK:=χ htk;clear htk
 go_enter func76,ntmps76
 go_upto_region 1 with(fail)
 refine aU (λW=>((W).cell? ⟨w.heap.size,0,none⟩=some (.int .i64 (cap:Int))/\(W).cell? ⟨w.heap.size,1,none⟩=some (.int .u32 m)/\(W).cell? ⟨w.heap.size,2,none⟩=some (.slice aT nT cT)/\(W).cell? ⟨w.heap.size,3,none⟩=some (.slice aG nG cG))/\W.frozen? ⟨w.heap.size,2,none⟩=false/\bH W (w.heap.size+1) 32 4/\bH W (w.heap.size+1+1) 46 2/\ae [] w W) ⟨⟨γ,γ,γ,γ⟩,γ,(by have h:=fE (w.alloc (.cells #[.int .i64 (cap:Int),.int .u32 m,.slice aT nT cT,.slice aG nG cG] 32)) [Value.int .i64 0,.int .u32 0,.slice none 0 0,.slice none 0 0] 32;rw[Κ] at h;exact h.upd (S:=[]) ((ae.refl _ _).alloc _) σ),(by have h:=fE ((w.alloc (.cells #[.int .i64 (cap:Int),.int .u32 m,.slice aT nT cT,.slice aG nG cG] 32)).alloc (.cells #[Value.int .i64 0,.int .u32 0,.slice none 0 0,.slice none 0 0] 32)) [Value.int .i64 0,.int .u32 0] 46;rw[Κ,Κ] at h;exact h),β⟩ ?_
 rintro W ⟨⟨q0,q1,q2,q3⟩,fq,hR,uA,hW⟩;have hRl:w.heap.size+1+1<W.heap.size:=Ε _ _ (uA.cell 0 ω);have hW0:w.heap.size+1+1<W.heap.size:=hRl;have kW':=kW W hW
 go_upto_region 2 with((((with_reducible refine(kW').mono ?_));rintro e w1 ⟨v5,rfl,Yt,hu1⟩;obtain⟨a5,c5,rfl, -⟩:=bz Yt;(have p0:=hu1.was q0);(have p1:=hu1.was q1);(have p2:=hu1.was q2);(have p3:=hu1.was q3)))
 have hw1:=hW.trans hu1;have kF1:=kF w1 hw1;have fq1:=hu1.ay q2 σ fq;have qh:=hR.upd hu1 σ;have hRh1:=uA.upd hu1 σ;have hs1:=hu1.size;clear q0 q1 q2 q3 fq hR uA kW kW' hu1
 go_upto_region 3 with((((with_reducible refine kF1.mono ?_));rintro e w2 ⟨rfl,hu2⟩))
 have hs2:=hu2.size;have hb5:∀k,(Value.slice a5 (qW T G m).length c5).ownBlock=some k->k<w2.heap.size:=λk hk=>Ψ (Yt.lt k hk).2 hu2.size
 refine aU (λY=>((Y).cell? ⟨w.heap.size,0,none⟩=some (.int .i64 (cap:Int))/\(Y).cell? ⟨w.heap.size,1,none⟩=some (.int .u32 m)/\(Y).cell? ⟨w.heap.size,2,none⟩=some (.slice aT nT cT)/\(Y).cell? ⟨w.heap.size,3,none⟩=some (.slice aG nG cG))/\Y.cell? ⟨w2.heap.size,0,none⟩=some (.int .i64 (jo T:Int))/\Y.cell? ⟨w2.heap.size,1,none⟩=some (.int .u32 1)/\Y.frozen? ⟨w2.heap.size,0,none⟩=false/\Y.frozen? ⟨w2.heap.size,1,none⟩=false/\Y.frozen? ⟨w.heap.size,2,none⟩=false/\bH Y (w.heap.size+1) 32 4/\bH Y (w.heap.size+1+1) 46 2/\Y.ownsRow W.heap.size 3 1 (.slice a5 (qW T G m).length c5) (qW T G m).length (aZ (qW T G m))/\ae [] w Y/\w2.heap.size<Y.heap.size) ⟨⟨((ae.refl [] _).alloc _).was (hu2.was p0),((ae.refl [] _).alloc _).was (hu2.was p1),((ae.refl [] _).alloc _).was (hu2.was p2),((ae.refl [] _).alloc _).was (hu2.was p3)⟩,γ,γ,γ,γ,((ae.refl [] _).alloc _).ay (hu2.was p2) σ (hu2.ay p2 σ fq1),(qh.upd hu2 σ).upd (S:=[]) ((ae.refl _ _).alloc _) σ,(hRh1.upd hu2 σ).upd (S:=[]) ((ae.refl _ _).alloc _) σ,au (au Yt hu2 σ) ((ae.refl [] _).alloc _) σ,(hw1.trans hu2).alloc _,σ⟩ ?_
 rintro Y ⟨⟨q0,q1,q2,q3⟩,e0,e1,f0,f1,fq,hR,uA,ho,hY,hYl⟩;have hwlt:w.heap.size<w2.heap.size:=ω;have hw1lt:w.heap.size+1<w2.heap.size:=ω;have hw2lt:w.heap.size+1+1<w2.heap.size:=ω;clear p0 p1 p2 p3 hu2 qh hRh1 kF1 fq1 Yt hw1 hW;generalize hb6:w2.heap.size=b6 at *;clear hb6;have HY:=χ (ψ hR (ψ uA hY));have k4:=λX (hX:ae [] Y X) s=>kL X (hY.trans hX) s;have k5:=λX (hX:ae [] Y X)=>kF X (hY.trans hX);clear kL kF hR uA hY;generalize hfr:jo T=fr at *;have HFR:=χ hfr;clear hfr;generalize hWL:qW T G m=WL at ho hb5 ⊢;have HWL:=χ hWL;clear hWL
 obtain⟨s,rest,rfl⟩|⟨rfl,hcf⟩|⟨rfl,hcf⟩:(∃s rest,WL=s::rest)\/(WL=[]/\¬cap<=fr)\/(WL=[]/\cap<=fr):=by
  cases WL with
  |cons s rest=>exact Α ⟨s,rest,rfl⟩
  |nil=>by_cases h:cap<=fr;exact Β (Β ⟨rfl,h⟩);exact Β (Α ⟨rfl,h⟩)
 case' inl=>
  have HTP:Hid (tk=some (s,lastT T s+1)):=by
   show tk=_
   rw[HTK.out];unfold si;rw[HWL.out]
   rfl
  have hbd:=HBD.out (s,lastT T s+1) (by rw[←HTK.out];exact HTP.out);dsimp only at hbd;have hcell0:∃g,a5=some ⟨g,0,none⟩/\Y.cell? ⟨g,0,none⟩=some (.int .i64 s):=by
   rcases ho.2 with⟨e1,e2⟩|⟨g,cap',cur,e1,hb,hg,hnc,hc,_⟩
   .cases e1
   .cases e1;refine⟨g,rfl,?_⟩;rw[ho.cellAt 0 σ];rfl
  obtain⟨g5,rfl,hcell0⟩:=hcell0;have hwl:IntKind.u32.wrap (lastT T s+1)=lastT T s+1:=IntWalk.u32_in _ ω;have hl0:(0:Int)<((s::rest).length:Int):=σ;have hg5n:g5≠b6:=Nat.ne_of_lt (hb5 g5 rfl);have k4s:=λX (hX:ae [] Y X)=>k4 X hX s;generalize lastT T s=la at *;generalize (s::rest).length=nW at *;have p0:∀X,ae [b6] Y X->X.cell? ⟨w.heap.size,0,none⟩=some (.int .i64 (cap:Int)):=λX h=>h.kept q0 ζ;have p1:∀X,ae [b6] Y X->X.cell? ⟨w.heap.size,1,none⟩=some (.int .u32 m):=λX h=>h.kept q1 ζ;have p2:∀X,ae [b6] Y X->X.cell? ⟨w.heap.size,2,none⟩=some (.slice aT nT cT):=λX h=>h.kept q2 ζ
  have p3:∀X,ae [b6] Y X->X.cell? ⟨w.heap.size,3,none⟩=some (.slice aG nG cG):=λX h=>h.kept q3 ζ;have p4:∀X,ae [b6] Y X->X.cell? ⟨g5,0,none⟩=some (.int .i64 s):=λX h=>h.kept hcell0 ζ;have p5:∀X,ae [] Y X->X.cell? ⟨b6,0,none⟩=some (.int .i64 (fr:Int)):=λX h=>h.was e0;have p6:∀X,ae [] Y X->X.cell? ⟨b6,1,none⟩=some (.int .u32 1):=λX h=>h.was e1;have hy0:ae [b6] Y Y:=ae.refl _ _;have HQ:=χ (ψ q0 (ψ q1 (ψ q2 (ψ q3 (ψ e0 (ψ e1 (ψ f0 (ψ f1 fq))))))));clear q0 q1 q2 q3 e0 e1 f0 f1 fq hcell0 ho hb5 k4 k5 hbd
  go_upto_region 4 with(fail)
  go_region_held3 (ae [b6] Y) (exact ν)
   (first
    | (((with_reducible refine (k4s _ ν).mono ?_));rintro e w3 ⟨rfl,hu3⟩;(have hv3:ae [] Y w3:=ae.trans ν hu3);(have hv3':ae [b6] Y w3:=hv3.mono σ);(have g0:=hv3.ay HQ.out.2.2.2.2.1 σ HQ.out.2.2.2.2.2.2.1);(have g1:=hv3.ay HQ.out.2.2.2.2.2.1 σ HQ.out.2.2.2.2.2.2.2.1)))
  have hfin:=λv1 v2=>(hv3'.setCell (p:=⟨b6,0,none⟩) (Α σ) v1).setCell (p:=⟨b6,1,none⟩) (Α σ) v2
  go_upto_region 7 with(fail)
  obtain⟨hR,uA,hY⟩:=HY.out;obtain⟨-, -,q2, -, -, -, -, -,fq⟩:=HQ.out
  refine aU (λV=>((V).cell? ⟨w.heap.size,0,none⟩=some (.int .i64 (cap:Int))/\(V).cell? ⟨w.heap.size,1,none⟩=some (.int .u32 m)/\(V).cell? ⟨w.heap.size,2,none⟩=some (.slice aT nT cT)/\(V).cell? ⟨w.heap.size,3,none⟩=some (.slice aG nG cG))/\V.cell? ⟨b6,0,none⟩=some (.int .i64 (s))/\V.cell? ⟨b6,1,none⟩=some (.int .u32 (la+1))/\V.frozen? ⟨w.heap.size,2,none⟩=false/\bH V (w.heap.size+1) 32 4/\bH V (w.heap.size+1+1) 46 2/\ae [] w V/\b6<V.heap.size) ⟨⟨p0 _ (hfin _ _),p1 _ (hfin _ _),p2 _ (hfin _ _),p3 _ (hfin _ _)⟩,γ,γ,(hfin _ _).ay q2 ζ fq,hR.upd (hfin _ _) ζ,uA.upd (hfin _ _) ζ,hY.joined (hfin _ _) (λx hx=>Β (by simp at hx;omega)),Ψ hYl (hfin (.int .i64 s) (.int .u32 (la+1))).size⟩ ?_
  clear hfin hv3 hv3' hu3 p0 p1 p2 p3 p4 p5 p6 hR uA hY q2 fq g0 g1 k4s hy0;rintro V ⟨⟨q0,q1,q2,q3⟩,e0,e1,fq,hR,uA,hV,hVl⟩;generalize la+1=P2 at *;generalize s=P1 at *
 case' inr.inl=>
  have HTP:Hid (tk=some ((fr:Int),1)):=by
   show tk=_
   rw[HTK.out];unfold si;rw[HWL.out]
   show(if cap<=jo T then none else some ((jo T:Int),1))=_
   rw[HFR.out,Γ hcf]
  have p0:∀X,ae [] Y X->X.cell? ⟨w.heap.size,0,none⟩=some (.int .i64 (cap:Int)):=λX h=>h.was q0;have p1:∀X,ae [] Y X->X.cell? ⟨w.heap.size,1,none⟩=some (.int .u32 m):=λX h=>h.was q1;have p2:∀X,ae [] Y X->X.cell? ⟨w.heap.size,2,none⟩=some (.slice aT nT cT):=λX h=>h.was q2;have p3:∀X,ae [] Y X->X.cell? ⟨w.heap.size,3,none⟩=some (.slice aG nG cG):=λX h=>h.was q3;have hy0:ae [] Y Y:=ae.refl _ _;have HQ:=χ (ψ q0 (ψ q1 (ψ q2 (ψ q3 (ψ e0 (ψ e1 (ψ f0 (ψ f1 fq))))))));clear q0 q1 q2 q3 e0 e1 f0 f1 fq ho hb5 k4
  go_upto_region 5 with(fail)
  go_region_held3 (ae [] Y) (exact ν)
   (first
    | (((with_reducible refine (k5 _ ν).mono ?_));rintro e w3 ⟨rfl,hu3⟩;(have hv3:ae [] Y w3:=ae.trans ν hu3)))
  go_upto_region 7 with(fail)
  obtain⟨hR,uA,hY⟩:=HY.out;obtain⟨-, -,q2, -,e0,e1, -, -,fq⟩:=HQ.out
  refine aU (λV=>((V).cell? ⟨w.heap.size,0,none⟩=some (.int .i64 (cap:Int))/\(V).cell? ⟨w.heap.size,1,none⟩=some (.int .u32 m)/\(V).cell? ⟨w.heap.size,2,none⟩=some (.slice aT nT cT)/\(V).cell? ⟨w.heap.size,3,none⟩=some (.slice aG nG cG))/\V.cell? ⟨b6,0,none⟩=some (.int .i64 (fr:Int))/\V.cell? ⟨b6,1,none⟩=some (.int .u32 (1))/\V.frozen? ⟨w.heap.size,2,none⟩=false/\bH V (w.heap.size+1) 32 4/\bH V (w.heap.size+1+1) 46 2/\ae [] w V/\b6<V.heap.size) ⟨⟨p0 _ hv3,p1 _ hv3,p2 _ hv3,p3 _ hv3⟩,hv3.was e0,hv3.was e1,hv3.ay q2 σ fq,hR.upd hv3 σ,uA.upd hv3 σ,hY.trans hv3,Ψ hYl hv3.size⟩ ?_
  clear hv3 hu3 p0 p1 p2 p3 hR uA hY q2 fq e0 e1 k5 hy0;rintro V ⟨⟨q0,q1,q2,q3⟩,e0,e1,fq,hR,uA,hV,hVl⟩;generalize (fr:Int)=P1 at *;generalize (1:Int)=P2 at e1 HTP
 case inr.inr=>
  have HTP:tk=none:=by
   rw[HTK.out];unfold si;rw[HWL.out]
   show(if cap<=jo T then none else some ((jo T:Int),1))=_
   rw[HFR.out,Δ hcf]
  subst HTP;have p0:∀X,ae [] Y X->X.cell? ⟨w.heap.size,0,none⟩=some (.int .i64 (cap:Int)):=λX h=>h.was q0;have p1:∀X,ae [] Y X->X.cell? ⟨w.heap.size,1,none⟩=some (.int .u32 m):=λX h=>h.was q1;have p2:∀X,ae [] Y X->X.cell? ⟨w.heap.size,2,none⟩=some (.slice aT nT cT):=λX h=>h.was q2;have p3:∀X,ae [] Y X->X.cell? ⟨w.heap.size,3,none⟩=some (.slice aG nG cG):=λX h=>h.was q3;have hy0:ae [] Y Y:=ae.refl _ _;have HQ:=χ (ψ q0 (ψ q1 (ψ q2 (ψ q3 (ψ e0 (ψ e1 (ψ f0 (ψ f1 fq))))))));clear q0 q1 q2 q3 e0 e1 f0 f1 fq ho hb5 k4
  go_upto_region 5 with(fail)
  go_region_held3 (ae [] Y) (exact ν)
   (first
    | (((with_reducible refine (k5 _ ν).mono ?_));rintro e w3 ⟨rfl,hu3⟩;(have hv3:ae [] Y w3:=ae.trans ν hu3)))
  go_upto_region 6 with(fail)
  obtain⟨hR,uA,hY⟩:=HY.out;refine aU (λV=>((V).cell? ⟨w.heap.size,0,none⟩=some (.int .i64 (cap:Int))/\(V).cell? ⟨w.heap.size,1,none⟩=some (.int .u32 m)/\(V).cell? ⟨w.heap.size,2,none⟩=some (.slice aT nT cT)/\(V).cell? ⟨w.heap.size,3,none⟩=some (.slice aG nG cG))/\bH V (w.heap.size+1) 32 4/\bH V (w.heap.size+1+1) 46 2/\ae [] w V) ⟨⟨p0 _ hv3,p1 _ hv3,p2 _ hv3,p3 _ hv3⟩,hR.upd hv3 σ,uA.upd hv3 σ,hY.trans hv3⟩ ?_;clear hv3 hu3 p0 p1 p2 p3 hR uA hY k5 hy0;rintro V ⟨⟨q0,q1,q2,q3⟩,hR,uA,hV⟩;have t0:=hR.cell 0 ω;have t1:=hR.cell 1 ω;have t2:=hR.cell 2 ω;have t3:=hR.cell 3 ω;have s0:=hR.free 0
  have s1:=hR.free 1;have s2:=hR.free 2;have s3:=hR.free 3;have u0:=uA.cell 0 ω;have u1:=uA.cell 1 ω;have v0:=uA.free 0;have v1:=uA.free 1;have HV:=χ hV;clear hR uA hV;go_wp2;exact bodyPost_ret (v:=.tuple #[.agg #[.int .i64 (cap:Int),.int .u32 m,.slice aT nT cT,.slice aG nG cG],.agg #[.int .i64 0,.int .u32 0],.int .i64 32]) (by simp[results,results76,go_sem,t0,t1,t2,t3,u0,u1]) rfl ⟨.slice aT nT cT,rfl,λp hp=>(by cases hp),by(iterate 2 (refine ae.setCell ?_ (Β (Nat.le_add_right _ 2)) _));(iterate 4 (refine ae.setCell ?_ (Β (Nat.le_succ _)) _));exact HV.out⟩
 all_goals
  have e:=HTP.out;subst e;clear HTP HBD HWL HFR;have hb0:w.heap.size<V.heap.size:=ω;have hTV:kY V F (.slice aT nT cT) T:=by
   have h:=HTF.out.1.ag hV;rw[HN.out] at h;exact h
  have HTV:=χ hTV;have HZ:=χ (ψ hR (ψ uA hV));clear hTV hR uA hV HY
  go_cut [] (λX=>∃a9 c9,X.cell? ⟨w.heap.size,0,none⟩=some (.int .i64 (cap:Int))/\X.cell? ⟨w.heap.size,1,none⟩=some (.int .u32 m)/\X.cell? ⟨w.heap.size,2,none⟩=some (.slice a9 (T.length+1) c9)/\X.cell? ⟨w.heap.size,3,none⟩=some (.slice aG nG cG)/\X.cell? ⟨b6,0,none⟩=some (.int .i64 P1)/\X.cell? ⟨b6,1,none⟩=some (.int .u32 P2)/\bH X (w.heap.size+1) 32 4/\bH X (w.heap.size+1+1) 46 2/\kY X ((w.heap.size+1)::(w.heap.size+1+1)::F) (.slice a9 (T.length+1) c9) (T++[(P1,P2)])/\ae [] w X)
  case first=>
   go_region_law
    (first
     |(refine tY (o:=⟨some 35,_,_,_,_,_⟩) (by rfl) (.tmp 32) (.tmp 34) (by rfl) V.heap.size _ 0 [] (by rfl) (rO (by first|exact nI σ|exact BK (nI σ)) (by first|omega|(simp;done)|(simp;omega))) F _ T (by rfl) (HTV.out.ag ν) (by have:=HTl.out;omega) (by first|omega|(simp;done)|(simp;omega)) ?_;intro v2 w8 ho2 hu2;rw[ϓ,Ϛ] at ho2;have hz8:ae [] V w8:=ae.joined (S:=[]) β hu2 (λy hy=>Β (by simp[Value.ownBlock] at hy;omega));have a4:=hz8.was e0;have a5:=hz8.was e1)
     | (refine De (o:=⟨some 38,_,_,_,_,_⟩) (by rfl) (.tmp 35) (.tmp 37) (by rfl) V.heap.size v2 _ T (by rfl) (au ho2 (S:=[]) β σ) _ (P1,P2) (by rfl) (by first|(go_simp;done)|(refine hu2.kept γ ?_;simp [Value.ownBlock];done)|(refine hu2.kept γ ?_;simp [Value.ownBlock];omega)) (by first|(go_simp;done)|(refine hu2.kept γ ?_;simp [Value.ownBlock];done)|(refine hu2.kept γ ?_;simp [Value.ownBlock];omega)) (by have:=HTl.out;omega) (by have:=hz8.size;first|omega|(simp;done)|(simp;omega)) ?_;intro v3 w9 ho3 hu3 hb3;obtain ⟨a9,c9,rfl, -⟩:=bz ho3;have Dp:ae [] V w9:=ae.joined (S:=[]) ν hu3 (λy hy=>Β ((ho2.lt y (by simpa using hy)).1));have b0:=Dp.was q0;have b1:=Dp.was q1;have b2:=Dp.was q2;have b3:=Dp.was q3;have b4:=Dp.was e0;have b5:=Dp.was e1;have bf:=Dp.ay q2 σ fq))
   all_goals
    go_wp2
    go_meet
    have hX:∀X,X=w9.setCell ⟨w.heap.size,2,none⟩ (.slice a9 (T.length+1) c9)->bH X (w.heap.size+1) 32 4/\bH X (w.heap.size+1+1) 46 2/\kY X ((w.heap.size+1)::(w.heap.size+1+1)::F) (.slice a9 (T.length+1) c9) (T++[(P1,P2)])/\ae [] w X:=λX e=>by
     have hu:ae [w.heap.size] w9 X:=by rw[e];exact(ae.refl _ _).setCell (Α σ) _
     obtain⟨hR,uA,hV⟩:=HZ.out;refine⟨(hR.upd Dp σ).upd hu σ,(uA.upd Dp σ).upd hu ζ,kY.jd (base:=V.heap.size) ?_ (λk hk hm=>?_),(hV.trans Dp).joined hu (λx hx=>Β (by simp at hx;omega))⟩
     .have:=au ho3 hu (λk hk hm=>by have:=(ho3.lt k hk).1;simp at hm;omega);simpa using this
     .have h1:=(ho3.lt k hk).1;simp only[ρ] at hm;rcases hm with h2|h2|h2
      .omega
      .omega
      .have h3:=HTF.out.2 k h2;omega
    obtain⟨x1,x2,x3,x4⟩:=hX _ rfl;exact⟨a9,c9,γ,γ,γ,γ,γ,γ,x1,x2,x3,x4⟩
  case rest=>
   clear q0 q1 q2 q3 e0 e1 fq hVl hb0 HTV HZ;rename World=>X0;obtain⟨a9,c9,q0,q1,q2,q3,e0,e1,hR,uA,hS,hX⟩:=hcut;have t0:=hR.cell 0 ω;have t1:=hR.cell 1 ω;have t2:=hR.cell 2 ω;have t3:=hR.cell 3 ω;have s0:=hR.free 0;have s1:=hR.free 1;have s2:=hR.free 2;have s3:=hR.free 3;have u0:=uA.cell 0 ω;have u1:=uA.cell 1 ω;have v0:=uA.free 0;have v1:=uA.free 1;have HF:Hid (∀Y2,ae [w.heap.size+1,w.heap.size+1+1] X0 Y2->kY Y2 F (.slice a9 (T.length+1) c9) (T++[(P1,P2)])/\ae [] w Y2):=λY2 hY2=>by
    refine⟨hS.fresh (hY2.mono (λx hx=>?_)) (λg hg=>Α (by simp[hg])),hX.joined hY2 (λx hx=>Β (by simp at hx;omega))⟩;simp at hx;rcases hx with rfl|rfl<;>simp
   clear hR uA hS hX
   go_upto_region 8 with(fail)
   go_region_law (fail)
   all_goals
    go_wp2;refine bodyPost_ret (v:=.tuple #[.agg #[.int .i64 (cap:Int),.int .u32 m,.slice a9 (T.length+1) c9,.slice aG nG cG],.agg #[.int .i64 P1,.int .u32 P2],.int .i64 0]) (by simp[results,results76,go_sem,t0,t1,t2,t3,u0,u1]) rfl ?_;refine⟨_,rfl,λp hp=>?_,?_⟩
    .cases hp;refine(HF.out _ ?_).1;refine ae.drew ?_
     iterate 6 (refine ae.setCell ?_ (Α σ) _)
     exact ae.refl _ _
    .refine(HF.out _ ?_).2;refine ae.drew ?_
     iterate 6 (refine ae.setCell ?_ (Α σ) _)
     exact ae.refl _ _
end
structure D7(W:World)(b:Nat)(x0 x1:Int)(v2 v3 v4 v5:Value)(x6:Int):Prop where
 c0:W.cell? b=some (x0:V):=by go_simp
 c1:W.cell? ⟨b,1,none⟩=some (.int .u32 x1):=by go_simp
 c2:W.cell? ⟨b,2,none⟩=some v2:=by go_simp
 c3:W.cell? ⟨b,3,none⟩=some v3:=by go_simp
 c4:W.cell? ⟨b,4,none⟩=some v4:=by go_simp
 c5:W.cell? ⟨b,5,none⟩=some v5:=by go_simp
 c6:W.cell? ⟨b,6,none⟩=some (.int .u64 x6):=by go_simp
def D7.kept{W d:World}{S:List Nat}{b:Nat}{e f g:Int}{i j k l:Value}(h:D7 W b e f i j k l g)(a:ae S W d)(c:b∉S):D7 d b e f i j k l g:=⟨a.kept h.c0 c,a.kept h.c1 c,a.kept h.c2 c,a.kept h.c3 c,a.kept h.c4 c,a.kept h.c5 c,a.kept h.c6 c⟩
def D7.rules{W:World}{S:List Nat}{b:Nat}{d e f:Int}{g i j k:Value}(h:D7 W b d e g i j k f)(c:b∉S):(∀X,ae S W X->X.cell? b=some (d:V))/\(∀X,ae S W X->X.cell? ⟨b,1,none⟩=some (.int .u32 e))/\(∀X,ae S W X->X.cell? ⟨b,2,none⟩=some g)/\(∀X,ae S W X->X.cell? ⟨b,3,none⟩=some i)/\(∀X,ae S W X->X.cell? ⟨b,4,none⟩=some j)/\(∀X,ae S W X->X.cell? ⟨b,5,none⟩=some k)/\(∀X,ae S W X->X.cell? ⟨b,6,none⟩=some (.int .u64 f)):=
 ⟨λX a=>a.kept h.c0 c,λX a=>a.kept h.c1 c,λX a=>a.kept h.c2 c,λX a=>a.kept h.c3 c,λX a=>a.kept h.c4 c,λX a=>a.kept h.c5 c,λX a=>a.kept h.c6 c⟩
def seven{w:World}{b:Nat}{e:TypeId}(h:bH w b e 7):w.cell? b=some (cv w ⟨b,0,none⟩)/\w.cell? ⟨b,1,none⟩=some (cv w ⟨b,1,none⟩)/\w.cell? ⟨b,2,none⟩=some (cv w ⟨b,2,none⟩)/\w.cell? ⟨b,3,none⟩=some (cv w ⟨b,3,none⟩)/\w.cell? ⟨b,4,none⟩=some (cv w ⟨b,4,none⟩)/\w.cell? ⟨b,5,none⟩=some (cv w ⟨b,5,none⟩)/\w.cell? ⟨b,6,none⟩=some (cv w ⟨b,6,none⟩)/\w.frozen? b=false/\w.frozen? ⟨b,1,none⟩=false/\w.frozen? ⟨b,2,none⟩=false/\w.frozen? ⟨b,3,none⟩=false/\w.frozen? ⟨b,4,none⟩=false/\w.frozen? ⟨b,5,none⟩=false/\w.frozen? ⟨b,6,none⟩=false/\b<w.heap.size:=
  ⟨h.cell 0 ω,h.cell 1 ω,h.cell 2 ω,h.cell 3 ω,h.cell 4 ω,h.cell 5 ω,h.cell 6 ω,h.free 0,h.free 1,h.free 2,h.free 3,h.free 4,h.free 5,h.free 6,Ε _ _ (h.cell 0 ω)⟩
def oV{w:World}{b:Nat}{e:TypeId}(h:bH w b e 6):w.cell? b=some (cv w ⟨b,0,none⟩)/\w.cell? ⟨b,1,none⟩=some (cv w ⟨b,1,none⟩)/\w.cell? ⟨b,2,none⟩=some (cv w ⟨b,2,none⟩)/\w.cell? ⟨b,3,none⟩=some (cv w ⟨b,3,none⟩)/\w.cell? ⟨b,4,none⟩=some (cv w ⟨b,4,none⟩)/\w.cell? ⟨b,5,none⟩=some (cv w ⟨b,5,none⟩)/\w.frozen? b=false/\w.frozen? ⟨b,1,none⟩=false/\w.frozen? ⟨b,2,none⟩=false/\w.frozen? ⟨b,3,none⟩=false/\w.frozen? ⟨b,4,none⟩=false/\w.frozen? ⟨b,5,none⟩=false/\b<w.heap.size:=
  ⟨h.cell 0 ω,h.cell 1 ω,h.cell 2 ω,h.cell 3 ω,h.cell 4 ω,h.cell 5 ω,h.free 0,h.free 1,h.free 2,h.free 3,h.free 4,h.free 5,Ε _ _ (h.cell 0 ω)⟩
def Eb(w:World)(o p:Obj)(l:List Value)(e:TypeId):bH (((w.alloc o).alloc (.cells l.toArray e)).alloc p) (w.heap.size+1) e l.length:=by
  have h:=fE (w.alloc o) l e;rw[Κ] at h;exact h.upd (S:=[]) ((ae.refl _ _).alloc _) σ
def EU(w:World)(o p:Obj)(l:List Value)(e:TypeId):bH (((w.alloc o).alloc p).alloc (.cells l.toArray e)) (w.heap.size+1+1) e l.length:=by
  have h:=fE ((w.alloc o).alloc p) l e;rw[Κ,Κ] at h;exact h
structure Gy(w:World)(x0 x1:Int)(v2 v3 v4 v5:Value)(x6:Int)(W:World):Prop where
  d0:D7 W w.heap.size x0 x1 v2 v3 v4 v5 x6:=by exact{}
  f4:W.frozen? ⟨w.heap.size,4,none⟩=false:=by go_simp
  f5:W.frozen? ⟨w.heap.size,5,none⟩=false:=by go_simp
  u0:ae [] w W:=by(repeat(first|assumption|exact ae.refl _ _|refine ae.alloc ?_ _|refine ae.drew ?_|refine ae.drewN ?_ _|refine ae.setCell ?_ ?_ _|focus(left;simp;done)|focus(right;simp;done)|focus(right;simp;omega)))
  r0:bH W (w.heap.size+1) 39 7:=by exact Eb _ _ _ _ _
  p0:bH W (w.heap.size+1+1) 67 6:=by exact EU _ _ _ _ _
def Eb2{w:World}{o p:Obj}{l:List Value}{e:TypeId}{b:Nat}(h:b=w.heap.size+1):bH (((w.alloc o).alloc (.cells l.toArray e)).alloc p) b e l.length:=h▸Eb w o p l e
def EU2{w:World}{o p:Obj}{l:List Value}{e:TypeId}{b:Nat}(h:b=w.heap.size+1+1):bH (((w.alloc o).alloc p).alloc (.cells l.toArray e)) b e l.length:=h▸EU w o p l e
structure TJ(w:World)(x0 x1:Int)(v2 v3 v4 v5:Value)(x6 x g:Int)(W:World):Prop where
  d0:D7 W w.heap.size x0 x1 v2 v3 v4 v5 x6:=by exact{}
  q0:Q2 W (w.heap.size+1) x g:=by exact{}
  f4:W.frozen? ⟨w.heap.size,4,none⟩=false:=by go_simp
  f5:W.frozen? ⟨w.heap.size,5,none⟩=false:=by go_simp
  u0:ae [] w W:=by(repeat(first|assumption|exact ae.refl _ _|refine ae.alloc ?_ _|refine ae.drew ?_|refine ae.drewN ?_ _|refine ae.setCell ?_ ?_ _|focus(left;simp;done)|focus(right;simp;done)|focus(right;simp;omega)))
  r0:bH W (w.heap.size+1+1) 39 7:=by exact Eb2 (by simp)
  p0:bH W (w.heap.size+1+1+1) 67 6:=by exact EU2 (by simp)
def bE.open{w:World}{F:List Nat}{v:Value}{S:St}(h:bE w F v S):∃(i k:Option Addr) (j l a b c d f g:Nat) (T G:List Hd),v=.agg #[(S.R.sl.length:Int),.int .u32 (S.R.most:Int),.slice i T.length j,.slice k G.length l,.slice (some ⟨a,b,none⟩) S.A.hs.length c,.slice (some ⟨d,f,none⟩) S.A.cs.length g,.int .u64 (S.q:Int)]/\
  kY w F (.slice i T.length j) T/\kY w F (.slice k G.length l) G/\gQ w F a b c d f g S.A/\RA S.R T G/\T.length=S.q:=by
 obtain⟨vT,vG,a,b,c,d,f,g,T,G,e,m,n,o,p,q⟩:=h;obtain⟨i,j,rfl, -, -⟩:=m.open;obtain⟨k,l,rfl, -, -⟩:=n.open;exact⟨i,k,j,l,a,b,c,d,f,g,T,G,e,m,n,o,p,q⟩
def RA.lens{R:AR}{T G:List Hd}(h:RA R T G):G.length<=T.length:=by have:=h.cnt;omega
section
variable{w:World}{F:List Nat}{v:Value}{S:St}
def P8(h:bE w F v S)(C:S.Ok)(x:Int):
  Calls prog 53 #[v,x] w λe w'=>e=.returned (qH S x).2.v/\ae [] w w':=by
 obtain⟨H,I,J,K,i,j,k,l,m,n,T,G,rfl,hT,hG,L,nz,M⟩:=h.open;have A:=λW (b:ae [] w W)=>(⟨i,j,k,l,m,n,rfl,L.ag b⟩:gM W F (ic i j k l m n S.A) S.A)
 have c:=λW (b:ae [] w W)=>lK (A W b) C.1 x;have o:=λW (b:ae [] w W)=>D9 (A W b) C.1 x;unfold ic at c o;rw[Zi];unfold qH;generalize S.A.hs.length=N at *;generalize S.A.cs.length=O at *;generalize S.R.sl.length=cap at *;generalize cZ S.A x=ln at *;clear h hT hG L nz A C;cases p:aW S.A x with
 |false=>
  rw[p] at c;rw[Γ σ];unfold xR;dsimp only;clear p M
  go_enter func53,ntmps53
  go_upto_region 1 with(fail)
  refine aU (λW=>D7 W w.heap.size cap S.R.most (.slice H T.length J) (.slice I G.length K) (.slice (some ⟨i,j,none⟩) N k) (.slice (some ⟨l,m,none⟩) O n) S.q/\Q6 W (w.heap.size+1) 0 0 0 0 0 0/\Z6 W (w.heap.size+1)/\ae [] w W) ⟨{},{},{},β⟩ ?_;rintro W ⟨⟨P,Q,R,U,X,Y,Z⟩,f,q,b⟩;have c:=c W b
  go_wp2_with ((((with_reducible refine c.mono ?_));rintro e D ⟨rfl,a⟩;obtain⟨r,s,t,u,y,z⟩:=f.kept a σ;obtain⟨f0,f1,f2,f3,f4,f5⟩:=q.kept f a σ))
  exact bodyPost_ret (v:=.agg #[(171:Int),(0:Int),(0:Int),.int .u32 0,(0:Int),(0:Int)]) (by simp[results,results53,go_sem,r,s,t,u,y,z]) rfl ⟨rfl,by(iterate 6 (refine ae.setCell ?_ (Β (Nat.le_succ _)) _));exact b.trans a⟩
 |true=>
  rw[p] at c;rw[Δ rfl];dsimp only;clear p M
  go_enter func53,ntmps53
  go_upto_region 1 with(fail)
  refine aU (λW=>D7 W w.heap.size cap S.R.most (.slice H T.length J) (.slice I G.length K) (.slice (some ⟨i,j,none⟩) N k) (.slice (some ⟨l,m,none⟩) O n) S.q/\Q6 W (w.heap.size+1) 0 0 0 0 0 0/\Z6 W (w.heap.size+1)/\ae [] w W) ⟨{},{},{},β⟩ ?_;rintro W ⟨E,f,q,b⟩;obtain⟨P,Q,R,U,X,Y,Z⟩:=id E;have c:=c W b
  go_wp2_with (first
   |(((with_reducible refine c.mono ?_));rintro e D ⟨rfl,a⟩;(have g:=f.kept a σ);(have B:=q.kept f a σ);(have o:=o D (b.trans a));obtain⟨e0,e1,e2,e3,e4,e5,e6⟩:=E.kept a σ)
   | (((with_reducible refine o.mono ?_));rintro e w2 ⟨rfl,d⟩;obtain ⟨r,s,t,u,y,z⟩:=g.kept d σ;obtain ⟨f0,f1,f2,f3,f4,f5⟩:=B.kept g d σ))
  exact bodyPost_ret (v:=.agg #[(0:Int),(0:Int),(0:Int),.int .u32 0,(0:Int),(ln:Int)]) (by simp[results,results53,go_sem,r,s,t,u,y,z]) rfl ⟨rfl,by(iterate 6 (refine ae.setCell ?_ (Β (Nat.le_succ _)) _));exact(b.trans a).trans d⟩
end
section
variable{w:World}{F:List Nat}{v:Value}{S:St}
def PS(h:bE w F v S)(m:S.Ok)(uB:S.q<=1000)(x g:Int):
  Calls prog 54 #[v,.agg #[x,.int .u32 g]] w λe w'=>e=.returned (qK S x g).2.v/\ae [] w w':=by
 obtain⟨O,P,Q,R,U,X,Y,o,p,Z,T,G,rfl,q,r,s,k,hq⟩:=h.open;have F6:=k.lens;have d:=λW (c:ae [] w W)=>pU (q.ag c) (r.ag c) ω ω (S.R.sl.length:Int) (S.R.most:Int) x g;rw[k.live m.2.1] at d;rw[XP];unfold qK;have b:∀y:Nat,x=y->S.R.v y=true->y<S.A.cs.length/\w.cell? ⟨o,p+y*3+1,none⟩=some (.int .i64 (S.A.c y).k):=λy e l=>by
  have E:y<S.A.cs.length:=by have:=AR.Dq l;have:=m.2.2.1;omega
  exact⟨E,s.c1 y E⟩
 have f:=λ(hh:gL S.R x g=true)=>nA hh;generalize gL S.R x g=lv at *;cases lv with
 |false=>
  rw[Γ σ];unfold xR;dsimp only;clear h q r s k m b f
  (generalize S.A.hs.length=H at *;generalize S.A.cs.length=I at *;generalize S.R.sl.length=cap at *;generalize S.R.most=J at *;generalize S.q=K at *;generalize T.length=L at *;generalize G.length=M at *)
  clear hq F6 uB
  go_enter func54,ntmps54
  go_upto_region 1 with(fail)
  refine aU (λW=>D7 (W) (w.heap.size) cap J (.slice O L Q) (.slice P M R) (.slice (some ⟨U,X,none⟩) H Y) (.slice (some ⟨o,p,none⟩) I Z) K/\Q2 W (w.heap.size+1) x g/\Q6 W (w.heap.size+1+1) 0 0 0 0 0 0/\Z6 W (w.heap.size+1+1)/\ae [] w W) ⟨{},{},{},{},β⟩ ?_;rintro W ⟨⟨d0,d1,d2,d3,d4,d5,d6⟩,⟨q0,q1⟩,i,n,c⟩;have d:=d W c
  go_wp2_with ((((with_reducible refine d.mono ?_));rintro e w1 ⟨rfl,a⟩;obtain⟨t,u,A,B,C,D⟩:=i.kept a σ;obtain⟨f0,f1,f2,f3,f4,f5⟩:=n.kept i a σ))
  exact bodyPost_ret (v:=.agg #[(33:Int),(0:Int),(0:Int),.int .u32 0,(0:Int),(0:Int)]) (by simp[results,results54,go_sem,t,u,A,B,C,D]) rfl ⟨rfl,by(iterate 6 (refine ae.setCell ?_ (Β (Nat.le_add_right _ 2)) _));exact c.trans a⟩
 |true=>
  rw[Δ rfl];dsimp only;obtain⟨y,rfl,rfl,l⟩:=f rfl;obtain⟨E,hc⟩:=b y rfl l;rw[π];have XN:(y:Int)<(S.A.cs.length:Int):=ω;generalize (S.A.c y).k=z at *;generalize S.R.g y=gy at *;clear h q r s k m b f l
  (generalize S.A.hs.length=H at *;generalize S.A.cs.length=I at *;generalize S.R.sl.length=cap at *;generalize S.R.most=J at *;generalize S.q=K at *;generalize T.length=L at *;generalize G.length=M at *)
  clear hq F6 uB
  go_enter func54,ntmps54
  go_upto_region 1 with(fail)
  refine aU (λW=>D7 (W) (w.heap.size) cap J (.slice O L Q) (.slice P M R) (.slice (some ⟨U,X,none⟩) H Y) (.slice (some ⟨o,p,none⟩) I Z) K/\Q2 W (w.heap.size+1) (y:Int) (gy:Int)/\Q6 W (w.heap.size+1+1) 0 0 0 0 0 0/\Z6 W (w.heap.size+1+1)/\ae [] w W) ⟨{},{},{},{},β⟩ ?_;rintro W ⟨N,j,i,n,c⟩;obtain⟨d0,d1,d2,d3,d4,d5,d6⟩:=id N;obtain⟨q0,q1⟩:=id j;have d:=d W c
  go_wp2_with ((((with_reducible refine d.mono ?_));rintro e w1 ⟨rfl,a⟩;obtain⟨t,u,A,B,C,D⟩:=i.kept a σ;obtain⟨f0,f1,f2,f3,f4,f5⟩:=n.kept i a σ;obtain⟨e0,e1,e2,e3,e4,e5,e6⟩:=N.kept a σ;obtain⟨x0,x1⟩:=j.kept a σ;(have hcc:=(c.trans a).was hc)))
  exact bodyPost_ret (v:=.agg #[(0:Int),(0:Int),(0:Int),.int .u32 0,(z:Int),(0:Int)]) (by simp[results,results54,go_sem,t,u,A,B,C,D]) rfl ⟨rfl,by(iterate 6 (refine ae.setCell ?_ (Β (Nat.le_add_right _ 2)) _));exact c.trans a⟩
def SA(h:bE w F v S)(m:S.Ok)(uB:S.q<=1000)(x g:Int):
  Calls prog 55 #[v,.agg #[x,.int .u32 g]] w λe w'=>e=.returned (qI S x g).2.v/\ae [] w w':=by
 obtain⟨O,P,Q,R,U,X,Y,o,p,Z,T,G,rfl,q,r,s,k,hq⟩:=h.open;have F6:=k.lens;have d:=λW (c:ae [] w W)=>pU (q.ag c) (r.ag c) ω ω (S.R.sl.length:Int) (S.R.most:Int) x g;rw[k.live m.2.1] at d;rw[XX];unfold qI;have b:∀y:Nat,x=y->S.R.v y=true->y<S.A.cs.length/\w.cell? ⟨o,p+y*3,none⟩=some (.int .i64 (S.A.c y).i):=λy e l=>by
  have E:y<S.A.cs.length:=by have:=AR.Dq l;have:=m.2.2.1;omega
  exact⟨E,s.c0 y E⟩
 have f:=λ(hh:gL S.R x g=true)=>nA hh;generalize gL S.R x g=lv at *;cases lv with
 |false=>
  rw[Γ σ];unfold xR;dsimp only;clear h q r s k m b f
  (generalize S.A.hs.length=H at *;generalize S.A.cs.length=I at *;generalize S.R.sl.length=cap at *;generalize S.R.most=J at *;generalize S.q=K at *;generalize T.length=L at *;generalize G.length=M at *)
  clear hq F6 uB
  go_enter func55,ntmps55
  go_upto_region 1 with(fail)
  refine aU (λW=>D7 (W) (w.heap.size) cap J (.slice O L Q) (.slice P M R) (.slice (some ⟨U,X,none⟩) H Y) (.slice (some ⟨o,p,none⟩) I Z) K/\Q2 W (w.heap.size+1) x g/\Q6 W (w.heap.size+1+1) 0 0 0 0 0 0/\Z6 W (w.heap.size+1+1)/\ae [] w W) ⟨{},{},{},{},β⟩ ?_;rintro W ⟨⟨d0,d1,d2,d3,d4,d5,d6⟩,⟨q0,q1⟩,i,n,c⟩;have d:=d W c
  go_wp2_with ((((with_reducible refine d.mono ?_));rintro e w1 ⟨rfl,a⟩;obtain⟨t,u,A,B,C,D⟩:=i.kept a σ;obtain⟨f0,f1,f2,f3,f4,f5⟩:=n.kept i a σ))
  exact bodyPost_ret (v:=.agg #[(33:Int),(0:Int),(0:Int),.int .u32 0,(0:Int),(0:Int)]) (by simp[results,results55,go_sem,t,u,A,B,C,D]) rfl ⟨rfl,by(iterate 6 (refine ae.setCell ?_ (Β (Nat.le_add_right _ 2)) _));exact c.trans a⟩
 |true=>
  rw[Δ rfl];dsimp only;obtain⟨y,rfl,rfl,l⟩:=f rfl;obtain⟨E,hc⟩:=b y rfl l;rw[π];have XN:(y:Int)<(S.A.cs.length:Int):=ω;generalize (S.A.c y).i=z at *;generalize S.R.g y=gy at *;clear h q r s k m b f l
  (generalize S.A.hs.length=H at *;generalize S.A.cs.length=I at *;generalize S.R.sl.length=cap at *;generalize S.R.most=J at *;generalize S.q=K at *;generalize T.length=L at *;generalize G.length=M at *)
  clear hq F6 uB
  go_enter func55,ntmps55
  go_upto_region 1 with(fail)
  refine aU (λW=>D7 (W) (w.heap.size) cap J (.slice O L Q) (.slice P M R) (.slice (some ⟨U,X,none⟩) H Y) (.slice (some ⟨o,p,none⟩) I Z) K/\Q2 W (w.heap.size+1) (y:Int) (gy:Int)/\Q6 W (w.heap.size+1+1) 0 0 0 0 0 0/\Z6 W (w.heap.size+1+1)/\ae [] w W) ⟨{},{},{},{},β⟩ ?_;rintro W ⟨N,j,i,n,c⟩;obtain⟨d0,d1,d2,d3,d4,d5,d6⟩:=id N;obtain⟨q0,q1⟩:=id j;have d:=d W c
  go_wp2_with ((((with_reducible refine d.mono ?_));rintro e w1 ⟨rfl,a⟩;obtain⟨t,u,A,B,C,D⟩:=i.kept a σ;obtain⟨f0,f1,f2,f3,f4,f5⟩:=n.kept i a σ;obtain⟨e0,e1,e2,e3,e4,e5,e6⟩:=N.kept a σ;obtain⟨x0,x1⟩:=j.kept a σ;(have hcc:=(c.trans a).was hc)))
  exact bodyPost_ret (v:=.agg #[(0:Int),(z:Int),(0:Int),.int .u32 0,(0:Int),(0:Int)]) (by simp[results,results55,go_sem,t,u,A,B,C,D]) rfl ⟨rfl,by(iterate 6 (refine ae.setCell ?_ (Β (Nat.le_add_right _ 2)) _));exact c.trans a⟩
end
def xZ{f:FuncId}{a:Array Value}{W:World}{F:List Nat}{A':NS}{b:Value}(h:Calls prog f a W λe w'=>∃v',e=.returned (.tuple #[v',b])/\gM w' F v' A'/\ae [] W w'):
  Calls prog f a W λe w'=>∃c d g i j k,e=.returned (.tuple #[.agg #[.slice (some ⟨c,d,none⟩) A'.hs.length g,.slice (some ⟨i,j,none⟩) A'.cs.length k],b])/\gQ w' F c d g i j k A'/\ae [] W w':=by
 refine h.mono ?_;rintro e w' ⟨v',rfl,⟨c,d,g,i,j,k,rfl,l⟩,m⟩;exact⟨c,d,g,i,j,k,rfl,l,m⟩
def kY.fin{w c X:World}{F B:List Nat}{v:Value}{l:List Hd}(h:kY w F v l)(e:ae [] w c)(i:∀b,b∈B->w.heap.size<=b)(f:ae B c X):kY X F v l:=
 (h.fresh (F':=B++F) (e.mono σ) (λg a=>by grind)).fresh (f.mono (λx d=>τ.2 (Α d))) (λg a=>Α (τ.2 (Β a)))
def gQ.beside{w a:World}{F B:List Nat}{c d e f i j:Nat}{A:NS}(h:gQ w F c d e f i j A)(k:ae [] w a)(m:∀b,b∈B->w.heap.size<=b):gQ a (B++F) c d e f i j A:=
 h.fresh (k.mono σ) (λg l=>by grind)
def gQ.fin{b X:World}{F B:List Nat}{c d e f g i:Nat}{A:NS}(h:gQ b (B++F) c d e f g i A)(j:ae B b X):gQ X F c d e f g i A:=
 (h.upd (j.mono (λx a=>τ.2 (Α a)))).less (λx a=>τ.2 (Β a))
section
variable{w:World}{F:List Nat}{v:Value}{S:St}
theorem Px(h:bE w F v S)(ok:S.Ok)(hF:∀x,x∈F->x<w.heap.size):
  Calls prog 46 #[v] w λe w'=>∃v',e=.returned (.tuple #[v',(uJ S).2.v])/\bE w' F v' (uJ S).1/\ae [] w w':=by
 obtain⟨aT,aG,cT,cG,gh,oh,ch,gc,oc,cc,T,G,rfl,hT,hG,hM,nz,hq⟩:=h.open
 have k1:=λW (hW:ae [] w W) (hl:w.heap.size+1+1<W.heap.size)=>xZ (RQ (⟨gh,oh,ch,gc,oc,cc,rfl,hM.beside (B:=[w.heap.size,w.heap.size+1,w.heap.size+1+1]) hW (λb hb=>by simp at hb;omega)⟩:gM W ([w.heap.size,w.heap.size+1,w.heap.size+1+1]++F) (ic gh oh ch gc oc cc S.A) S.A) ok.1 (λx hx=>by
  rcases τ.1 hx with hx|hx
  .simp at hx;omega
  .exact Ψ (hF x hx) hW.size))
 unfold ic at k1;rw[Yk];unfold uJ;dsimp only;have hz:=Nr ok.1;have HD:=χ (ψ hT (ψ hG (ψ hM (ψ nz hq))));have HZ:=χ hz;clear h hT hG hM nz ok hz hq;generalize hmv:dF S.A=mv at *;clear hmv;obtain⟨ec,hec⟩:∃ec:Int,ec=if mv=0 then 32 else 0:=⟨_,rfl⟩;rw[←hec]
 go_enter func46,ntmps46
 go_upto_region 1 with(fail)
 refine aU (λW=>D7 W w.heap.size S.R.sl.length S.R.most (.slice aT T.length cT) (.slice aG G.length cG) (.slice (some ⟨gh,oh,none⟩) S.A.hs.length ch) (.slice (some ⟨gc,oc,none⟩) S.A.cs.length cc) S.q/\W.frozen? ⟨w.heap.size,4,none⟩=false/\W.frozen? ⟨w.heap.size,5,none⟩=false/\ae [] w W/\bH W (w.heap.size+1) 39 7/\bH W (w.heap.size+1+1) 67 6) ⟨{},γ,γ,β,(by have h:=fE (w.alloc (.cells #[.int .i64 S.R.sl.length,.int .u32 S.R.most,.slice aT T.length cT,.slice aG G.length cG,.slice (some ⟨gh,oh,none⟩) S.A.hs.length ch,.slice (some ⟨gc,oc,none⟩) S.A.cs.length cc,.int .u64 S.q] 39)) [Value.int .i64 0,.int .u32 0,.slice none 0 0,.slice none 0 0,.slice none 0 0,.slice none 0 0,.int .u64 0] 39;rw[Κ] at h;exact h.upd (S:=[]) ((ae.refl _ _).alloc _) σ),(by have h:=fE ((w.alloc (.cells #[.int .i64 S.R.sl.length,.int .u32 S.R.most,.slice aT T.length cT,.slice aG G.length cG,.slice (some ⟨gh,oh,none⟩) S.A.hs.length ch,.slice (some ⟨gc,oc,none⟩) S.A.cs.length cc,.int .u64 S.q] 39)).alloc (.cells #[Value.int .i64 0,.int .u32 0,.slice none 0 0,.slice none 0 0,.slice none 0 0,.slice none 0 0,.int .u64 0] 39)) [Value.int .i64 0,.int .i64 0,.int .i64 0,.int .u32 0,.int .i64 0,.int .i64 0] 67;rw[Κ,Κ] at h;exact h)⟩ ?_
 rintro W ⟨hd,f4,f5,hW,hR,hRr⟩;have hl2:w.heap.size+1+1<W.heap.size:=Ε _ _ (hRr.cell 0 ω);have k1:=k1 W hW hl2;obtain⟨d0,d1,d2,d3,d4,d5,d6⟩:=id hd
 go_upto_region 2 with((((with_reducible refine k1.mono ?_));rintro e w1 ⟨zf,uG,zg,y8,ze,zh,rfl,hM1,hu1⟩))
 refine aU (λY=>D7 Y w.heap.size S.R.sl.length S.R.most (.slice aT T.length cT) (.slice aG G.length cG) (.slice (some ⟨gh,oh,none⟩) S.A.hs.length ch) (.slice (some ⟨gc,oc,none⟩) S.A.cs.length cc) S.q/\Y.frozen? ⟨w.heap.size,4,none⟩=false/\Y.frozen? ⟨w.heap.size,5,none⟩=false/\bH Y (w.heap.size+1) 39 7/\bH Y (w.heap.size+1+1) 67 6/\Y.cell? ⟨w1.heap.size,0,none⟩=some (.slice (some ⟨zf,uG,none⟩) (aO S.A).hs.length zg)/\Y.cell? ⟨w1.heap.size,1,none⟩=some (.slice (some ⟨y8,ze,none⟩) (aO S.A).cs.length zh)/\ae [] w1 Y/\w1.heap.size<Y.heap.size) ⟨(hd.kept hu1 σ).kept (S:=[]) ((ae.refl _ _).alloc _) σ,((ae.refl [] _).alloc _).ay (hu1.was d4) σ (hu1.ay d4 σ f4),((ae.refl [] _).alloc _).ay (hu1.was d5) σ (hu1.ay d5 σ f5),(hR.upd hu1 σ).upd (S:=[]) ((ae.refl _ _).alloc _) σ,(hRr.upd hu1 σ).upd (S:=[]) ((ae.refl _ _).alloc _) σ,γ,γ,(ae.refl _ _).alloc _,σ⟩ ?_
 have HW:=χ (ψ hM1 (hW.trans hu1));clear hd f4 f5 hW hR hRr d0 d1 d2 d3 d4 d5 d6 hM1 hu1 k1;rintro Y ⟨⟨d0,d1,d2,d3,d4,d5,d6⟩,f4,f5,hR,hRr,n0,n1,hY,hYl⟩
 (obtain⟨t0,t1,t2,t3,t4,t5,t6,s0,s1,s2,s3,s4,s5,s6,hBl⟩:=seven hR)
 (obtain⟨u0,u1,u2,u3,u4,u5,v0,v1,v2,v3,v4,v5,hBm⟩:=oV hRr)
 have HF:Hid (∀X,ae [w.heap.size,w.heap.size+1,w.heap.size+1+1] Y X->bE X F (.agg #[.int .i64 (S.R.sl.length:Int),.int .u32 (S.R.most:Int),.slice aT T.length cT,.slice aG G.length cG,.slice (some ⟨zf,uG,none⟩) (aO S.A).hs.length zg,.slice (some ⟨y8,ze,none⟩) (aO S.A).cs.length zh,.int .u64 (S.q:Int)]) ⟨S.R,aO S.A,S.q⟩/\bE X F (.agg #[.int .i64 (S.R.sl.length:Int),.int .u32 (S.R.most:Int),.slice aT T.length cT,.slice aG G.length cG,.slice (some ⟨gh,oh,none⟩) S.A.hs.length ch,.slice (some ⟨gc,oc,none⟩) S.A.cs.length cc,.int .u64 (S.q:Int)]) S/\ae [] w X):=λX hX=>by
  obtain⟨hT,hG,hM,nz,hq⟩:=HD.out;obtain⟨hM1,hw1⟩:=HW.out;have Ob:=hw1.trans hY;have hB:∀b,b∈[w.heap.size,w.heap.size+1,w.heap.size+1+1]->w.heap.size<=b:=λb hb=>by simp at hb;omega
  exact⟨⟨_,_,zf,uG,zg,y8,ze,zh,T,G,rfl,hT.fin Ob hB hX,hG.fin Ob hB hX,(hM1.ag hY).fin hX,nz,hq⟩,⟨_,_,gh,oh,ch,gc,oc,cc,T,G,rfl,hT.fin Ob hB hX,hG.fin Ob hB hX,(hM.beside Ob hB).fin hX,nz,hq⟩,Ob.joined hX (λx hx=>Β (hB x hx))⟩
 clear hR hRr hY
 by_cases hz:mv=0
 .have HAA:=χ (HZ.out hz);obtain rfl:ec=32:=by rw[hec,Δ hz]
  clear hec HZ;subst hz;go_wp2;refine bodyPost_ret (v:=.tuple #[.agg #[.int .i64 (S.R.sl.length:Int),.int .u32 (S.R.most:Int),.slice aT T.length cT,.slice aG G.length cG,.slice (some ⟨gh,oh,none⟩) S.A.hs.length ch,.slice (some ⟨gc,oc,none⟩) S.A.cs.length cc,.int .u64 (S.q:Int)],.agg #[.int .i64 32,.int .i64 0,.int .i64 0,.int .u32 0,.int .i64 0,.int .i64 0]]) (by simp[results,results46,go_sem,t0,t1,t2,t3,t4,t5,t6,u0,u1,u2,u3,u4,u5]) rfl ?_;refine⟨_,rfl,?_,?_⟩
  .rw[HAA.out];refine(HF.out _ ?_).2.1
   iterate 13 (refine ae.setCell ?_ (Α σ) _)
   exact ae.refl _ _
  .refine(HF.out _ ?_).2.2
   iterate 13 (refine ae.setCell ?_ (Α σ) _)
   exact ae.refl _ _
 .have hzB:(mv == 0)=false:=by simpa using hz
  obtain rfl:ec=0:=by rw[hec,Γ hz]
  clear hec hz HZ;go_wp2;refine bodyPost_ret (v:=.tuple #[.agg #[.int .i64 (S.R.sl.length:Int),.int .u32 (S.R.most:Int),.slice aT T.length cT,.slice aG G.length cG,.slice (some ⟨zf,uG,none⟩) (aO S.A).hs.length zg,.slice (some ⟨y8,ze,none⟩) (aO S.A).cs.length zh,.int .u64 (S.q:Int)],.agg #[.int .i64 0,.int .i64 mv,.int .i64 0,.int .u32 0,.int .i64 0,.int .i64 0]]) (by simp[results,results46,go_sem,t0,t1,t2,t3,t4,t5,t6,u0,u1,u2,u3,u4,u5]) rfl ?_;refine⟨_,rfl,?_,?_⟩
  .refine(HF.out _ ?_).1
   iterate 15 (refine ae.setCell ?_ (Α σ) _)
   exact ae.refl _ _
  .refine(HF.out _ ?_).2.2
   iterate 15 (refine ae.setCell ?_ (Α σ) _)
   exact ae.refl _ _
end
section
variable{w:World}{F:List Nat}{v:Value}{S:St}
def PT(h:bE w F v S)(ok:S.Ok)(hF:∀x,x∈F->x<w.heap.size)(a b:Int):
  Calls prog 52 #[v,a,b] w λe w'=>∃v',e=.returned (.tuple #[v',(ql S a b).2.v])/\bE w' F v' (ql S a b).1/\ae [] w w':=by
 obtain⟨C,D,E,H,p,q,r,s,t,u,T,G,rfl,hT,hG,hM,nz,hq⟩:=h.open;have hA:=λW (d:ae [] w W)=>(⟨p,q,r,s,t,u,rfl,hM.ag d⟩:gM W F (ic p q r s t u S.A) S.A)
 have i:=λW (d:ae [] w W)=>lK (hA W d) ok.1 a;have n:=λW (d:ae [] w W)=>lK (hA W d) ok.1 b
 have k3:=λW (d:ae [] w W) (hl:w.heap.size+1+1<W.heap.size)=>xZ (Rw (⟨p,q,r,s,t,u,rfl,hM.beside (B:=[w.heap.size,w.heap.size+1,w.heap.size+1+1]) d (λb hb=>by simp at hb;omega)⟩:gM W ([w.heap.size,w.heap.size+1,w.heap.size+1+1]++F) (ic p q r s t u S.A) S.A) ok.1 (λx M=>by
  rcases τ.1 M with M|M
  .simp at M;omega
  .exact Ψ (hF x M) d.size) a b)
 unfold ic at i n k3;have K:=dI S.A a b;rw[YV];unfold ql xR;have HO:=χ h;have HD:=χ (ψ hT (ψ hG (ψ hM (ψ nz hq))));clear h hT hG hM nz ok hq hA
 by_cases hj:fQ S.A a b=true
 .obtain⟨o,I,h3⟩:=K.1 hj;rw[Δ hj];dsimp only;rw[o] at i;rw[I] at n;clear K hj o I;have h3:(a == b)=false:=by simpa using h3
  go_enter func52,ntmps52
  (go_upto_region 1 with(fail);refine aU (Gy w S.R.sl.length S.R.most (.slice C T.length E) (.slice D G.length H) (.slice (some ⟨p,q,none⟩) S.A.hs.length r) (.slice (some ⟨s,t,none⟩) S.A.cs.length u) S.q) {} ?_;rintro W ⟨j,f4,f5,d,N,f⟩;have L:w.heap.size+1+1<W.heap.size:=Ε _ _ (f.cell 0 ω))
  have i:=i W d;have n:=λg (J:ae [] W g)=>n g (d.trans J);have k3:=λg (J:ae [] W g)=>k3 g (d.trans J) (Ψ L J.size);obtain⟨d0,d1,d2,d3,d4,d5,d6⟩:=id j
  go_wp2_with (first
   |(((with_reducible refine i.mono ?_));rintro e g ⟨rfl,c⟩;(have k:=j.kept c σ);obtain⟨e0,e1,e2,e3,e4,e5,e6⟩:=id k)
   |(((with_reducible refine(n _ c).mono ?_));rintro e w2 ⟨rfl,y⟩;(have l:=c.trans y);(have z:=j.kept l σ);obtain⟨i0,i1,i2,i3,i4,i5,i6⟩:=id z)
   | (((with_reducible refine (k3 _ l).mono ?_));rintro e w3 ⟨zf,uG,zg,y8,ze,zh,rfl,hM1,hu3⟩;(have Av:=l.trans hu3);(have hd3:=j.kept Av σ);obtain ⟨j0,j1,j2,j3,j4,j5,j6⟩:=id hd3;(have g4:=Av.ay d4 σ f4);(have g5:=Av.ay d5 σ f5);(have uj:=N.upd Av σ);(have m:=f.upd Av σ);(obtain ⟨O,P,Q,R,U,Y,Z,s0,s1,s2,s3,s4,s5,s6,hBl⟩:=seven uj);(obtain ⟨u0,u1,u2,u3,u4,u5,v0,v1,v2,v3,v4,v5,hBm⟩:=oV m)))
  have A:∀X,ae [w.heap.size,w.heap.size+1,w.heap.size+1+1] w3 X->bE X F (.agg #[(S.R.sl.length:Int),.int .u32 (S.R.most:Int),.slice C T.length E,.slice D G.length H,.slice (some ⟨zf,uG,none⟩) (az S.A a b).hs.length zg,.slice (some ⟨y8,ze,none⟩) (az S.A a b).cs.length zh,.int .u64 (S.q:Int)]) ⟨S.R,az S.A a b,S.q⟩/\ae [] w X:=λX hX=>by
   obtain⟨hT,hG,hM,nz,hq⟩:=HD.out;have Ob:=d.trans Av;have hB:∀b,b∈[w.heap.size,w.heap.size+1,w.heap.size+1+1]->w.heap.size<=b:=λb hb=>by simp at hb;omega
   exact⟨⟨_,_,zf,uG,zg,y8,ze,zh,T,G,rfl,hT.fin Ob hB hX,hG.fin Ob hB hX,hM1.fin hX,nz,hq⟩,Ob.joined hX (λx M=>Β (hB x M))⟩
  refine bodyPost_ret (v:=.tuple #[.agg #[(S.R.sl.length:Int),.int .u32 (S.R.most:Int),.slice C T.length E,.slice D G.length H,.slice (some ⟨zf,uG,none⟩) (az S.A a b).hs.length zg,.slice (some ⟨y8,ze,none⟩) (az S.A a b).cs.length zh,.int .u64 (S.q:Int)],.agg #[(0:Int),(0:Int),(0:Int),.int .u32 0,(0:Int),(0:Int)]]) (by simp[results,results52,go_sem,O,P,Q,R,U,Y,Z,u0,u1,u2,u3,u4,u5]) rfl ?_;refine⟨_,rfl,(A _ ?_).1,(A _ ?_).2⟩
  all_goals ((iterate 15 (refine ae.setCell ?_ (Α σ) _));exact ae.refl _ _)
 .rw[Γ hj];dsimp only;have A:∀W g X,ae [] w W->ae [] W g->ae [w.heap.size,w.heap.size+1,w.heap.size+1+1] g X->bE X F (.agg #[(S.R.sl.length:Int),.int .u32 (S.R.most:Int),.slice C T.length E,.slice D G.length H,.slice (some ⟨p,q,none⟩) S.A.hs.length r,.slice (some ⟨s,t,none⟩) S.A.cs.length u,.int .u64 (S.q:Int)]) S/\ae [] w X:=λW g X d J hX=>by
   have hB:∀b,b∈[w.heap.size,w.heap.size+1,w.heap.size+1+1]->w.heap.size<=b:=λb hb=>by simp at hb;omega
   have hw:=(d.trans J).joined hX (λx M=>Β (hB x M));exact⟨HO.out.ag hw,hw⟩
  have A:=χ A;have hcs:aW S.A a=false\/(aW S.A a=true/\aW S.A b=false)\/(aW S.A a=true/\aW S.A b=true/\a=b):=by
   rcases e1:aW S.A a with _|_
   .exact Α rfl
   .rcases e2:aW S.A b with _|_
    .exact Β (Α ⟨rfl,rfl⟩)
    .refine Β (Β ⟨rfl,rfl,Decidable.byContradiction λhne=>hj (K.2 ⟨e1,e2,hne⟩)⟩)
  clear K hj k3 HO HD;rcases hcs with o|⟨o,I⟩|⟨o,I,h3⟩
  .rw[Δ (Α o)];rw[o] at i;clear o n
   go_enter func52,ntmps52
   (go_upto_region 1 with(fail);refine aU (Gy w S.R.sl.length S.R.most (.slice C T.length E) (.slice D G.length H) (.slice (some ⟨p,q,none⟩) S.A.hs.length r) (.slice (some ⟨s,t,none⟩) S.A.cs.length u) S.q) {} ?_;rintro W ⟨j,f4,f5,d,N,f⟩;have L:w.heap.size+1+1<W.heap.size:=Ε _ _ (f.cell 0 ω))
   have i:=i W d;obtain⟨d0,d1,d2,d3,d4,d5,d6⟩:=id j
   go_wp2_with ((((with_reducible refine i.mono ?_));rintro e g ⟨rfl,c⟩;(have k:=j.kept c σ);obtain⟨e0,e1,e2,e3,e4,e5,e6⟩:=id k;(have uj:=N.upd c σ);(have m:=f.upd c σ);(obtain⟨O,P,Q,R,U,Y,Z,s0,s1,s2,s3,s4,s5,s6,hBl⟩:=seven uj);(obtain⟨u0,u1,u2,u3,u4,u5,v0,v1,v2,v3,v4,v5,hBm⟩:=oV m)))
   (refine bodyPost_ret (v:=.tuple #[.agg #[(S.R.sl.length:Int),.int .u32 (S.R.most:Int),.slice C T.length E,.slice D G.length H,.slice (some ⟨p,q,none⟩) S.A.hs.length r,.slice (some ⟨s,t,none⟩) S.A.cs.length u,.int .u64 (S.q:Int)],.agg #[(171:Int),(0:Int),(0:Int),.int .u32 0,(0:Int),(0:Int)]]) (by simp[results,results52,go_sem,O,P,Q,R,U,Y,Z,u0,u1,u2,u3,u4,u5]) rfl ?_;refine⟨_,rfl,(A.out _ _ _ d c ?_).1,(A.out _ _ _ d c ?_).2⟩<;>((iterate 13 (refine ae.setCell ?_ (Α σ) _));exact ae.refl _ _))
  .rw[Δ (Β I)];rw[o] at i;rw[I] at n;clear o I
   go_enter func52,ntmps52
   (go_upto_region 1 with(fail);refine aU (Gy w S.R.sl.length S.R.most (.slice C T.length E) (.slice D G.length H) (.slice (some ⟨p,q,none⟩) S.A.hs.length r) (.slice (some ⟨s,t,none⟩) S.A.cs.length u) S.q) {} ?_;rintro W ⟨j,f4,f5,d,N,f⟩;have L:w.heap.size+1+1<W.heap.size:=Ε _ _ (f.cell 0 ω))
   have i:=i W d;have n:=λg (J:ae [] W g)=>n g (d.trans J);obtain⟨d0,d1,d2,d3,d4,d5,d6⟩:=id j
   go_wp2_with (first
    |(((with_reducible refine i.mono ?_));rintro e g ⟨rfl,c⟩;(have k:=j.kept c σ);obtain⟨i0,i1,i2,i3,i4,i5,i6⟩:=id k)
    | (((with_reducible refine (n _ c).mono ?_));rintro e w2 ⟨rfl,y⟩;(have l:=c.trans y);(have z:=j.kept l σ);obtain ⟨e0,e1,e2,e3,e4,e5,e6⟩:=id z;(have uj:=N.upd l σ);(have m:=f.upd l σ);(obtain ⟨O,P,Q,R,U,Y,Z,s0,s1,s2,s3,s4,s5,s6,hBl⟩:=seven uj);(obtain ⟨u0,u1,u2,u3,u4,u5,v0,v1,v2,v3,v4,v5,hBm⟩:=oV m)))
   (refine bodyPost_ret (v:=.tuple #[.agg #[(S.R.sl.length:Int),.int .u32 (S.R.most:Int),.slice C T.length E,.slice D G.length H,.slice (some ⟨p,q,none⟩) S.A.hs.length r,.slice (some ⟨s,t,none⟩) S.A.cs.length u,.int .u64 (S.q:Int)],.agg #[(171:Int),(0:Int),(0:Int),.int .u32 0,(0:Int),(0:Int)]]) (by simp[results,results52,go_sem,O,P,Q,R,U,Y,Z,u0,u1,u2,u3,u4,u5]) rfl ?_;refine⟨_,rfl,(A.out _ _ _ d l ?_).1,(A.out _ _ _ d l ?_).2⟩<;>((iterate 13 (refine ae.setCell ?_ (Α σ) _));exact ae.refl _ _))
  .rw[Γ (by rw[o,I];simp)];rw[o] at i;rw[I] at n;subst h3;clear o I
   go_enter func52,ntmps52
   (go_upto_region 1 with(fail);refine aU (Gy w S.R.sl.length S.R.most (.slice C T.length E) (.slice D G.length H) (.slice (some ⟨p,q,none⟩) S.A.hs.length r) (.slice (some ⟨s,t,none⟩) S.A.cs.length u) S.q) {} ?_;rintro W ⟨j,f4,f5,d,N,f⟩;have L:w.heap.size+1+1<W.heap.size:=Ε _ _ (f.cell 0 ω))
   have i:=i W d;have n:=λg (J:ae [] W g)=>n g (d.trans J);obtain⟨d0,d1,d2,d3,d4,d5,d6⟩:=id j
   go_wp2_with (first
    |(((with_reducible refine i.mono ?_));rintro e g ⟨rfl,c⟩;(have k:=j.kept c σ);obtain⟨i0,i1,i2,i3,i4,i5,i6⟩:=id k)
    | (((with_reducible refine (n _ c).mono ?_));rintro e w2 ⟨rfl,y⟩;(have l:=c.trans y);(have z:=j.kept l σ);obtain ⟨e0,e1,e2,e3,e4,e5,e6⟩:=id z;(have uj:=N.upd l σ);(have m:=f.upd l σ);(obtain ⟨O,P,Q,R,U,Y,Z,s0,s1,s2,s3,s4,s5,s6,hBl⟩:=seven uj);(obtain ⟨u0,u1,u2,u3,u4,u5,v0,v1,v2,v3,v4,v5,hBm⟩:=oV m)))
   (refine bodyPost_ret (v:=.tuple #[.agg #[(S.R.sl.length:Int),.int .u32 (S.R.most:Int),.slice C T.length E,.slice D G.length H,.slice (some ⟨p,q,none⟩) S.A.hs.length r,.slice (some ⟨s,t,none⟩) S.A.cs.length u,.int .u64 (S.q:Int)],.agg #[(174:Int),(0:Int),(0:Int),.int .u32 0,(0:Int),(0:Int)]]) (by simp[results,results52,go_sem,O,P,Q,R,U,Y,Z,u0,u1,u2,u3,u4,u5]) rfl ?_;refine⟨_,rfl,(A.out _ _ _ d l ?_).1,(A.out _ _ _ d l ?_).2⟩<;>((iterate 13 (refine ae.setCell ?_ (Α σ) _));exact ae.refl _ _))
end
def QB{A:NS}(c:A.Ok){h:Int}{m:Nat}(e:dB A h=some m):aW A h=true:=by
 obtain⟨-, -,a,b⟩:=jU e;have:=iH c b;rw[π,a] at this;exact this
def N8{A:NS}(c:A.Ok)(h:Int):(aW A h=false/\dB A h=none/\nO A h=171)\/(aW A h=true/\dB A h=none/\nO A h=172)\/(aW A h=true/\∃m,dB A h=some m):=by
 unfold nO;cases b:aW A h with
 |false=>
  cases a:dB A h with
  |none=>exact Α ⟨rfl,rfl,σ⟩
  |some m=>have:=QB c a;rw[b] at this;cases this
 |true=>
  cases a:dB A h with
  |none=>exact Β (Α ⟨rfl,rfl,σ⟩)
  |some m=>exact Β (Β ⟨rfl,m,rfl⟩)
section
variable{w:World}{F:List Nat}{v:Value}{S:St}
def Ey(h:bE w F v S)(j:S.Ok)(uB:S.q<=1000)(x:Int):
  Calls prog 48 #[v,x] w λe w'=>e=.returned (lW S x).2.v/\ae [] w w':=by
 obtain⟨P,Q,R,U,p,q,r,s,t,u,T,G,rfl,L,M,y,z,X⟩:=h.open;have I:=λW (b:ae [] w W)=>(⟨p,q,r,s,t,u,rfl,y.ag b⟩:gM W F (ic p q r s t u S.A) S.A)
 have d:=λW (b:ae [] w W)=>lK (I W b) j.1 x;have c:=λW (b:ae [] w W)=>UU (I W b) j.1 x;unfold ic at d c;rw[OJ];unfold lW xR;have Y:=z.lens;rcases N8 j.1 x with⟨h1,h2,h3⟩|⟨h1,h2,h3⟩|⟨h1,m,h2⟩
 .rw[h2,h3];dsimp only;rw[h1] at d;clear c h1 h2 h3 h L M y z j X I Y uB
  go_enter func48,ntmps48
  (go_upto_region 1 with(fail);refine aU (λW=>D7 W w.heap.size S.R.sl.length S.R.most (.slice P T.length R) (.slice Q G.length U) (.slice (some ⟨p,q,none⟩) S.A.hs.length r) (.slice (some ⟨s,t,none⟩) S.A.cs.length u) S.q/\Q6 W (w.heap.size+1) 0 0 0 0 0 0/\Z6 W (w.heap.size+1)/\ae [] w W) ⟨{},{},{},β⟩ ?_;rintro W ⟨g,i,o,b⟩;obtain⟨d0,d1,d2,d3,d4,d5,d6⟩:=id g)
  have d:=d W b
  go_wp2_with ((((with_reducible refine d.mono ?_));rintro e f ⟨rfl,a⟩;obtain⟨n,A,B,C,D,E⟩:=i.kept a σ;obtain⟨f0,f1,f2,f3,f4,f5⟩:=o.kept i a σ))
  exact bodyPost_ret (v:=.agg #[(171:Int),(0:Int),(0:Int),.int .u32 0,(0:Int),(0:Int)]) (by simp[results,results48,go_sem,n,A,B,C,D,E]) rfl ⟨rfl,by(iterate 6 (refine ae.setCell ?_ (Β (Nat.le_succ _)) _));exact b.trans a⟩
 .rw[h2,h3];dsimp only;rw[h1] at d;rw[h2] at c;unfold og at c;dsimp only[Option.isSome] at c;clear h1 h2 h3 h L M y z j X I Y uB
  go_enter func48,ntmps48
  (go_upto_region 1 with(fail);refine aU (λW=>D7 W w.heap.size S.R.sl.length S.R.most (.slice P T.length R) (.slice Q G.length U) (.slice (some ⟨p,q,none⟩) S.A.hs.length r) (.slice (some ⟨s,t,none⟩) S.A.cs.length u) S.q/\Q6 W (w.heap.size+1) 0 0 0 0 0 0/\Z6 W (w.heap.size+1)/\ae [] w W) ⟨{},{},{},β⟩ ?_;rintro W ⟨g,i,o,b⟩;obtain⟨d0,d1,d2,d3,d4,d5,d6⟩:=id g)
  have d:=d W b;have c:=λf (K:ae [] W f)=>c f (b.trans K)
  go_wp2_with (first
   |(((with_reducible refine d.mono ?_));rintro e f ⟨rfl,a⟩;obtain⟨e0,e1,e2,e3,e4,e5,e6⟩:=g.kept a σ)
   | (((with_reducible refine (c _ a).mono ?_));rintro e w2 ⟨rfl,k⟩;(have l:=a.trans k);obtain ⟨n,A,B,C,D,E⟩:=i.kept l σ;obtain ⟨f0,f1,f2,f3,f4,f5⟩:=o.kept i l σ))
  exact bodyPost_ret (v:=.agg #[(172:Int),(0:Int),(0:Int),.int .u32 0,(0:Int),(0:Int)]) (by simp[results,results48,go_sem,n,A,B,C,D,E]) rfl ⟨rfl,by(iterate 6 (refine ae.setCell ?_ (Β (Nat.le_succ _)) _));exact b.trans l⟩
 .rw[h2];dsimp only;rw[h1] at d;rw[h2] at c;unfold og at c;dsimp only[Option.isSome] at c;obtain⟨-,hm, -,H⟩:=jU h2;have hv:S.R.v m=true:=(j.2.2.2 m).trans H;have N:=λW (b:ae [] w W)=>Ur (L.ag b) (M.ag b) ω ω (S.R.sl.length:Int) (S.R.most:Int) (m:Int) _ (z.at j.2.1 m hv);dsimp only at N;have hc:=y.c1 m hm;have hmI:(m:Int)<(S.A.cs.length:Int):=ω;clear h1 h2 h L M y z j X I Y uB H hv;generalize (S.A.c m).k=key at *;generalize S.R.g m=gm at *
  go_enter func48,ntmps48
  (go_upto_region 1 with(fail);refine aU (λW=>D7 W w.heap.size S.R.sl.length S.R.most (.slice P T.length R) (.slice Q G.length U) (.slice (some ⟨p,q,none⟩) S.A.hs.length r) (.slice (some ⟨s,t,none⟩) S.A.cs.length u) S.q/\Q6 W (w.heap.size+1) 0 0 0 0 0 0/\Z6 W (w.heap.size+1)/\ae [] w W) ⟨{},{},{},β⟩ ?_;rintro W ⟨g,i,o,b⟩;obtain⟨d0,d1,d2,d3,d4,d5,d6⟩:=id g)
  have d:=d W b;have c:=λf (K:ae [] W f)=>c f (b.trans K);have N:=λf (K:ae [] W f)=>N f (b.trans K)
  go_upto_region 7 with (first
   |(((with_reducible refine d.mono ?_));rintro e f ⟨rfl,a⟩;obtain⟨e0,e1,e2,e3,e4,e5,e6⟩:=g.kept a σ)
   |(((with_reducible refine(c _ a).mono ?_));rintro e w2 ⟨rfl,k⟩;(have l:=a.trans k);obtain⟨i0,i1,i2,i3,i4,i5,i6⟩:=g.kept l σ)
   | (((with_reducible refine (N _ l).mono ?_));rintro e w3 ⟨rfl,O⟩;(have J:=l.trans O);obtain ⟨j0,j1,j2,j3,j4,j5,j6⟩:=g.kept J σ;obtain ⟨n,A,B,C,D,E⟩:=i.kept J σ;obtain ⟨f0,f1,f2,f3,f4,f5⟩:=o.kept i J σ;(have Z:=(b.trans J).was hc);(have hb1:=Ε _ _ j0);(have hb2:=Ε _ _ n);(have hb3:=Ε _ _ Z)))
  go_region_law (fail)
  all_goals
   go_wp2;refine bodyPost_ret (v:=.agg #[(0:Int),(0:Int),(m:Int),.int .u32 (gm:Int),(key:Int),(0:Int)]) (by simp[results,results48,go_sem,n,A,B,C,D,E,hb2]) rfl ⟨rfl,?_⟩;refine ae.drew (ae.alloc ?_ _)
   iterate 6 (refine ae.setCell ?_ (Β (Nat.le_succ _)) _)
   exact b.trans J
