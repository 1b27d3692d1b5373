/-
  Lemmas.
-/
import Derived.Test.YtnpdakpagnpanaaGreatE07
set_option linter.all false
set_option maxHeartbeats 8000000
set_option maxRecDepth 10000
namespace Go.Proofs.YtnpdakpagnpanaaGreat
open Tryz
open Go Go.RowKit
section
variable{w w':World}{B:HB}{F Z:List Nat}{gr cr st:Nat}{A:NS}{ptr:Nat->Option Nat}{G L:Nat->List Nat}{T:List Nat}
def FiR(B:HB)(F Z:List Nat)(gr cr:Nat)(A:NS)(st:Nat)(ptr:Nat->Option Nat)(G L:Nat->List Nat)(T:List Nat)(g rp gs cap i:Nat)(w2:World):Prop:=ShM w2 B F Z gr cr A st ptr G L T/\∀Y,ae [] w2 Y->
 Calls prog 267 #[.iface 298 (.pointer (some rp)),(i:Int)] Y λe w'=>e=.returned (.tuple #[])/\∃L' T',nP Y B F A rp gs cap [] (L g) T w' L' T'/\Hp (om A) 2 L'
def PD(h:ShAt w B F Z gr A st)(x:Nat)(k s:Int)(hk:-9223372036854775808<=k/\k<=9223372036854775807/\0<=s/\s<=18446744073709551615)(E:iX A x k s=true):
  Calls prog 260 #[B.n0,(x:Int),.agg #[k,.int .u64 s]] w λe w'=>e=.returned true/\Goes (B.blk F Z gr) w w' (λF'=>∃Z' M,F'=B.blk F Z' gr/\ShAt w' B F Z' gr (aA A x k s) M):=by
 obtain⟨cr,ptr,G,L,T,c,j⟩:=h;have hok:=c.cells.ok;have N:=tN E;have b:=(aj _ _).1 N;have a:=iH hok N;rw[π] at a;obtain⟨g,hg⟩:∃g:Nat,(A.c x).i=g:=⟨(A.c x).i.toNat,ω⟩;rw[hg] at a;have hgN:=(aF _ _).1 a;have t:x∈L g:=(j.di.mem g x a).2 ⟨b.1,hg⟩;obtain⟨i,hi,hxi⟩:=List.mem_iff_getElem.1 t;have O:(L g)[i]?=some x:=by rw[ε hi,hxi]
 obtain⟨Yb,hBe⟩:=j.di.Ph ω E a O;have Q:(aA A x k s).hs=A.hs:=mX _ _ _ _;have Nc:(aA A x k s).cs.length=A.cs.length:=gD _ _ _ _;have iJ:aW (aA A x k s) g=true:=by have:=a;unfold aW at this ⊢;rw[Q];exact this
 have I:bY (aA A x k s) (x:Int)=true:=(aj _ _).2 ⟨by rw[gD];exact b.1,by rw[iW E b.1];exact b.2⟩;have J:((aA A x k s).c x).i=g:=by rw[iW E b.1];exact hg
 have K:∀y,y∈L g->bY A (y:Int)=true/\y<T.length:=λy R=>⟨(j.di.len a R).2.1,by rw[c.tl];exact(j.di.len a R).1⟩
 have J8:∀y,y∈L g->bY (aA A x k s) (y:Int)=true/\y<T.length:=λy R=>by
  have h1:=(j.di.mem g y a).1 R;exact⟨(aj _ _).2 ⟨by rw[gD];exact h1.1,by rw[iW E b.1];omega⟩,by rw[c.tl];exact h1.1⟩
 have hTx:T.getD x 0=i:=j.xU g a i x O;have Ti:x<T.length:=by rw[c.tl];exact b.1
 obtain⟨rp,v,hp,Ez,AB⟩:=c.pile a K (j.di.nd g a) (j.xU g a);obtain⟨gs,cap,hv, -⟩:=AB.full ω;have D:G g=[rp,gs]:=by rw[Ez,hv];rfl
 have ZQ:w.cell? ⟨rp,1,none⟩=some (.slice (some (gs:Nat)) (L g).length cap):=by rw[←hv];exact AB.hd.cellAt 1 ω rfl
 have VX:rp∉F:=AB.s3.1;have Ty:∀W (r:ae [] w W),Calls prog 131 #[B.c,(x:Int),.agg #[k,.int .u64 s]] W λe n=>e=.returned true/\ShM n B F Z gr cr (aA A x k s) st ptr G L T/\ae F W n:=λW r=>(iR (c.ag r).cells x k s hk E).mono (λe n h=>⟨h.1,(c.ag r).cK h.2.2 h.2.1 (λx O=>Α O) Q Nc,h.2.2⟩)
 have aaI:∀n,ShM n B F Z gr cr (aA A x k s) st ptr G L T->ae F w n->Calls prog 124 #[B.c,(x:Int)] n λe l=>e=.returned (.tuple #[(g:Int),true])/\ae F n l/\FiR B F Z gr cr (aA A x k s) st ptr G L T g rp gs cap i l:=λn f u=>by
  have kk:=bX f.cells x I;rw[J] at kk;refine kk.mono ?_;rintro e l ⟨rfl,yI,d⟩;have jH:=f.cK d yI (λx O=>Α O) rfl rfl;refine⟨rfl,d,jH,λY hY=>?_⟩;obtain⟨rp',v',hp',acs,hP⟩:=(jH.ag hY).pile iJ J8 (j.di.nd g a) (j.xU g a);rw[hp] at hp';cases hp';obtain⟨gs',cap',hv',hPM⟩:=hP.full ω;have r3:=hY.was (d.kept (u.kept ZQ VX) VX);have r1:=hPM.h1;rw[r1] at r3;simp at r3;obtain⟨rfl,rfl⟩:=r3;exact Xb hPM i Yb
 have c0:=c.h0;have c2:=c.h1;have c3:=c.h2;have cg:=c.iM.cell ω hp;have ct:=c.IG x Ti;rw[hTx] at ct;have C:=c.lt;have n1:B.n0∉F:=c.bQ.1;have n2:gr∉F:=c.bQ.2.1;have n3:B.ga∉F:=c.bQ.2.2;have n5:∀z,z∈F->z<w.heap.size:=λz hm=>C z (B.Ap hm);have hgI:(g:Int)<(A.hs.length:Int):=ω;have Dy:(x:Int)<(T.length:Int):=ω;have HX:=χ (ψ c (ψ j (ψ hp (ψ a (ψ iJ (ψ t (ψ C (ψ D (ψ E Q)))))))));clear c j hok N b a hgN t hxi O K hTx Ti hp Ez AB hv D C hi hg Yb hBe Q Nc iJ I J J8 ZQ VX;generalize A.hs.length=m at *;generalize T.length=nt at *
 go_enter func260,ntmps260
 go_upto_region 1 with(fail)
 refine aU (λW=>W.cell? w.heap.size=some (k:V)/\W.cell? ⟨w.heap.size,1,none⟩=some (.int .u64 s)/\ae [] w W) ⟨γ,γ,β⟩ ?_;rintro W ⟨x0,x1,r⟩;have hb:w.heap.size∉F:=λhm=>by have:=n5 _ hm;omega
 have e0:∀X,ae F W X->X.cell? w.heap.size=some (k:V):=λX h=>h.kept x0 hb;have e1:∀X,ae F W X->X.cell? ⟨w.heap.size,1,none⟩=some (.int .u64 s):=λX h=>h.kept x1 hb;have e2:∀X,ae F W X->X.cell? B.n0=some (B.c:V):=λX h=>h.kept (r.was c0) n1;have HW:=χ (ψ r (ψ c2 (ψ c3 (ψ cg ct))));have J5:=λX (H:ae [] W X)=>Ty X (r.trans H);clear Ty x0 x1 r c0 c2 c3 cg ct
 go_region_held3 (ae F W) (exact ν)
  (first
   | (((with_reducible refine (J5 _ ν).mono ?_));rintro e n ⟨rfl,f,S⟩;(have hv2:ae F W n:=ae.trans ν S)))
 obtain⟨r,c2,c3,cg,ct⟩:=HW.out;have u:ae F w n:=(r.mono σ).trans hv2;have kh2:=aaI n f u;have q0:=f.h0;have p2:=u.kept c2 n1;have p3:=u.kept c3 n1;have p4:=u.kept cg n2;have p5:=u.kept ct n3;have HV:=χ (ψ u f);clear e0 e1 e2 J5 aaI r c2 c3 cg ct u f hv2 S
 go_upto_region 4 with((((with_reducible refine kh2.mono ?_));rintro e l ⟨rfl,d,jH,U⟩))
 have a0:∀X,ae [] l X->X.cell? ⟨B.n0,1,none⟩=some (.slice (some (gr:Nat)) m cr):=λX H=>H.was (d.kept p2 n1);have a1:∀X,ae [] l X->X.cell? ⟨B.n0,2,none⟩=some (.slice (some B.ga) nt nt):=λX H=>H.was (d.kept p3 n1);have a2:∀X,ae [] l X->X.cell? ⟨gr,g,none⟩=some ((rp:Nat):V):=λX H=>H.was (d.kept p4 n2);have a3:∀X,ae [] l X->X.cell? ⟨B.ga,x,none⟩=some ((i:Int):V):=λX H=>H.was (d.kept p5 n3);have b1:=a0 _ (ae.refl [] l);have b2:=a1 _ (ae.refl [] l);have b3:=a2 _ (ae.refl [] l);have b4:=a3 _ (ae.refl [] l)
 clear p2 p3 p4 p5 q0 kh2
 go_region_law
  (first
   | (go_simp;(with_reducible refine (U _ ν).mono ?_);rintro e w4 ⟨rfl,L',T',o,hH4⟩;(have hv4:ae [gs,B.ga,B.c] l w4:=ae.trans ν o.upd)))
 all_goals
  go_wp2;go_ret;obtain⟨c,j,hp,a,iJ,t,C,D,E,Q⟩:=HX.out;obtain⟨u,f⟩:=HV.out;have P:=o.pi;rw[Υ] at P;have Xr:∀z,z∈G g->z∈Z:=c.iM.uo g a
  obtain ⟨M,uD⟩:=jH.Cf iJ hp hv4 (λz p=>by
   simp only[ρ,ς,or_false] at p;rw[D];rcases p with e|e|e
   .exact Α (by simp[e])
   .exact Β (Α e)
   .exact Β (Β e)) (by rw [D];simp) P.any o.tl (λk hk=>by cases hk;rw [D];simp)
  have hI4:=j.turn (j.di.low ω E a t o.perm hH4) (λq=>by unfold aW;rw [Q]) a P.xU (λy _ h2=>o.off y (by rw [Υ];exact h2)) (λq y e hq R=>by
   have h2:=j.di.apart e hq a R
   exact ⟨λhm=>h2 (o.perm.mem_iff.1 hm),h2⟩)
  refine⟨rfl,B.blk F (Z++(rp::Option.toList (some gs))) gr,⟨_,M,rfl,cr,ptr,_,_,T',uD,hI4⟩,((u.mono (λz p=>B.Ap p)).trans (d.mono (λz p=>B.Ap p))).trans (hv4.mono (λz p=>?_)),λz p=>Α ?_⟩
  .simp only[ρ,ς,or_false] at p;rcases p with e|e|e
   .exact B.CX (Xr z (by rw[D];simp[e]))
   .simp[HB.blk,e]
   .exact B.Ap (by rw[e];exact c.cells.mem)
  .simp only[HB.blk,ρ,τ,Option.toList_some,ς,or_false] at p;rcases p with h|h|h|h|h|h|h
   .simp[HB.blk,h]
   .simp[HB.blk,h]
   .simp[HB.blk,h]
   .exact B.Ap h
   .exact B.CX h
   .exact B.CX (Xr z (by rw[D];simp[h]))
   .exact B.CX (Xr z (by rw[D];simp[h]))
end
end Go.Proofs.YtnpdakpagnpanaaGreat
namespace Go.Proofs.YtnpdakpagnpanaaGreat
open Tryz
open Go.RowKit
def arity(k d:Int):Int:=if k=1 then 2 else d
def Rk(k d:Int)(b:xe k d=0)(w:World):
  Calls prog 58 #[.agg #[k,d]] w λe w'=>e=.returned (arity k d:Int)/\ae [] w w':=by
 have f:=λW=>Fv k d W;rw[b] at f;unfold arity;clear b
 by_cases c:k=1
 .rw[Δ c];subst c
  go_enter func58,ntmps58
  go_wp2_with (first|(((with_reducible refine(f _).mono ?_));rintro e g ⟨rfl,a⟩;obtain⟨b,h⟩:=aay a)|fail)
  go_ret;exact⟨rfl,((ae.refl _ _).alloc _).trans (a.mono σ)⟩
 .rw[Γ c];have i:(k == 1)=false:=by simpa using c
  go_enter func58,ntmps58
  go_wp2_with (first|(((with_reducible refine(f _).mono ?_));rintro e g ⟨rfl,a⟩;obtain⟨b,h⟩:=aay a)|fail)
  go_ret;exact⟨rfl,((ae.refl _ _).alloc _).trans (a.mono σ)⟩


open Go

def Nn:VI 122 "Has" 123:=by intro p c W h;unfold method;obtain⟨m,h1,h2,h3,h4⟩:=xA Tryz.t122.methods "Has" [⟨179,0,true⟩] 123 (by kernel_rfl);exact xD
def Hq:VI 122 "Entry" 121:=by intro p c W h;unfold method;obtain⟨m,h1,h2,h3,h4⟩:=xA Tryz.t122.methods "Entry" [⟨179,0,true⟩] 121 (by kernel_rfl);exact xD
def ZM:MI 122 "Make" 127:=λ_ _=>by kernel_rfl
def Qb:MI 122 "Insert" 125:=λ_ _=>by kernel_rfl
def abb:MI 122 "Min" 129:=λ_ _=>by kernel_rfl
def Nt:MI 122 "Extract" 122:=λ_ _=>by kernel_rfl
def IV:MI 122 "Decrease" 119:=λ_ _=>by kernel_rfl
def XT(d:Nat)(w:World)(p:Nat)(F:List Nat)(A:NS):Prop:=∃B F1 Z gr st,p=B.n0/\F=B.blk F1 Z gr/\B.d=d/\mU w B F1 Z gr A st
def XT.of{d:Nat}{B:DB}{c:List Nat}{gr:Nat}{A:NS}{F:List Nat}{w w':World}(i:B.d=d)(h:Goes F w w' (λF'=>∃b a,F'=B.blk c b gr/\mU w' B c b gr A a)):Goes F w w' (λF'=>XT d w' B.n0 F' A):=by
 obtain⟨F',⟨b,a,rfl,e⟩,f,g⟩:=h;exact⟨_,⟨B,c,b,gr,a,rfl,rfl,i,e⟩,f,g⟩
def yc(d:Nat):NestQ where
 ty:=122
 at_:=XT d
 upd:=λh hu hS=>by
  obtain⟨B,F1,Z,gr,st,rfl,rfl,hd,hL⟩:=h;exact⟨B,F1,Z,gr,st,rfl,rfl,hd,hL.upd hu hS⟩
 lt:=λh=>by
  obtain⟨B,F1,Z,gr,st,rfl,rfl,hd,cr,ptr,G,L,hM,hI⟩:=h;exact hM.lt
 ok:=λh=>by
  obtain⟨B,F1,Z,gr,st,rfl,rfl,hd,cr,ptr,G,L,hM,hI⟩:=h;exact hM.cells.ok
 make:=λ{w p F A} h=>by
  obtain⟨B,F1,Z,gr,st,rfl,rfl,hd,hL⟩:=h;refine aL 127 (λ_ _=>by kernel_rfl) (ZM _) (λW hW=>?_);have jT:=hL.ag hW
  by_cases hl:65536<A.hs.length
  .have e1:dF A=0:=by unfold dF;rw[Δ hl]
   have e2:aO A=A:=by unfold aO;rw[Δ hl]
   rw[e1,e2];refine(V8 jT hl).mono ?_;rintro e w' ⟨rfl,F',⟨F2,rfl,hA⟩,hu,hf⟩;exact⟨rfl,_,⟨B,F2,Z,gr,st,rfl,rfl,hd,hA⟩,hu,hf⟩
  .have e1:dF A=A.hs.length:=by unfold dF;rw[Γ hl]
   rw[e1];refine(Rq jT hl).mono ?_;rintro e w' ⟨rfl,F',⟨F2,Z2,gr2,rfl,hA⟩,hu,hf⟩;exact⟨rfl,_,⟨B,F2,Z2,gr2,st,rfl,rfl,hd,hA⟩,hu,hf⟩
 insert:=λ{w p F A} g y k s hk hB h=>by
  obtain⟨B,F1,Z,gr,st,rfl,rfl,hd,hL⟩:=h;refine aL 125 (λ_ _=>by kernel_rfl) (Qb _) (λW hW=>?_);exact(JE (hL.ag hW) g y k s hk hB).mono (λe w' h=>⟨h.1,XT.of hd h.2⟩)
 min:=λ{w p F A} g hB h=>by
  obtain⟨B,F1,Z,gr,st,rfl,rfl,hd,hL⟩:=h;refine aL 129 (λ_ _=>by kernel_rfl) (abb _) (λW hW=>?_);refine(Ku (hL.ag hW) g hB).mono ?_;rintro e w' ⟨rfl,rfl⟩;exact⟨rfl,Goes.stay ⟨B,F1,Z,gr,st,rfl,rfl,hd,hL.ag hW⟩ (ae.refl _ _)⟩
 extract:=λ{w p F A} g m hm h=>by
  obtain⟨B,F1,Z,gr,st,rfl,rfl,hd,hL⟩:=h;refine aL 122 (λ_ _=>by kernel_rfl) (Nt _) (λW hW=>?_);exact(DI (hL.ag hW) g m hm).mono (λe w' h=>⟨h.1,XT.of hd h.2⟩)
 nC:=λ{w p F A} y k s hk hB h=>by
  obtain⟨B,F1,Z,gr,st,rfl,rfl,hd,hL⟩:=h;refine aL 119 (λ_ _=>by kernel_rfl) (IV _) (λW hW=>?_);exact(VV (hL.ag hW) y k s hk hB).mono (λe w' h=>⟨h.1,XT.of hd h.2⟩)
 has:=λx h=>by
  obtain⟨B,F1,Z,gr,st,rfl,rfl,hd,cr,ptr,G,L,hM,hI⟩:=h;exact dQ 123 (λ_ _=>by kernel_rfl) hM.h0 (Nn _ _) (λW hW=>jQ (hM.ag hW).cells x)
 entry:=λ{w p F A} x h=>by
  obtain⟨B,F1,Z,gr,st,rfl,rfl,hd,cr,ptr,G,L,hM,hI⟩:=h;refine dQ 121 (λ_ _=>by kernel_rfl) hM.h0 (Hq _ _) (λW hW=>?_);cases hin:bY A x with
  |false=>simpa using mH (hM.ag hW).cells x hin
  |true=>
   obtain⟨y,rfl⟩:=sO hin;simpa using lg (hM.ag hW).cells y hin
def Np(p:Nat)(w:World):Calls prog 56 #[p,(0:Int)] w λe w'=>e=.returned (.tuple #[.iface 122 (.pointer (some p)),(0:Int)])/\w'=w:=by
 go_enter func56,ntmps56
 go_wp2;go_ret2;exact⟨rfl,rfl⟩
def Jf(kd d:Int)(n m:Nat)(k:xe kd d=0)(q:kd=1\/kd=2)(f:arity kd d=(m:Int))(y:n<=65536):qG (yc m) kd d n:=by
 intro w;have i:2<=m/\m<=16:=by
  have s:=Hw k;unfold arity at f;rcases q with e|e
  .rw[Δ e] at f;omega
  .rw[Γ ω] at f;have:=s.2.2.1 e;omega
 have t:=λW=>Uj n m W y i;have u:=Np;have p:=λW=>Rk kd d k W;rw[f] at p;have j:(yc m).ty=122:=rfl;have c:∀w' B F Z gr,B.d=m->mU w' B F Z gr (NS.new n) 0->(yc m).at_ w' B.n0 (B.blk F Z gr) (NS.new n)/\IL w' B.n0 n:=λw' B F Z gr i h=>⟨⟨B,F,Z,gr,0,rfl,rfl,i,h⟩,by obtain⟨cr,ptr,G,L,o,C⟩:=h;exact⟨_,_,o.h0,o.cells⟩⟩
 generalize yc m=K at *;rw[j];clear f k;rcases q with rfl|rfl
 all_goals
  go_enter func35,ntmps35
  go_wp2_with (first
   |(((with_reducible refine(p _).mono ?_));rintro e w0 ⟨rfl,a⟩)
   |(((with_reducible refine(t _).mono ?_));rintro e z ⟨B,F,gr,rfl,l,g,r,b⟩)
   | (((with_reducible refine (u _ _).mono ?_));rintro e A ⟨rfl,rfl⟩))
  go_ret2;have hs:=a.size;exact⟨B.n0,B.blk F [] gr,rfl,(c _ _ _ _ _ b l).1,(c _ _ _ _ _ b l).2,ae.trans (ae.trans β a) g,λx v=>by have:=r x v;simp at hs;omega⟩
