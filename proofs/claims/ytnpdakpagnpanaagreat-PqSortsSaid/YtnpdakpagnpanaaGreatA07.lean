/-
  Lemmas for PqSorts: Dr4, Sd10, Arity, DrQ. Conditions: those of each lemma.
-/
import Derived.Test.YtnpdakpagnpanaaGreatA06
set_option linter.all false
set_option maxHeartbeats 8000000
set_option maxRecDepth 10000
namespace Go.Proofs.YtnpdakpagnpanaaGreat
open Go Go.RowKit
section
variable {w w':World} {B:DB} {F Z:List Nat} {gr cr st:Nat} {A:NS} {ptr:Nat->Option Nat} {G L:Nat->List Nat}
def RemR (B:DB) (F Z:List Nat) (gr cr:Nat) (A:NS) (st:Nat) (ptr:Nat->Option Nat) (G L:Nat->List Nat) (g rp x:Nat) (w2:World):Prop:=
 vB w2 B F Z gr cr A st ptr G L/\∀Y,aa [] w2 Y->Calls Tryz.prog 133 #[.pointer (some ⟨rp,0,none⟩),.iface 122 (.pointer (some ⟨B.n0,0,none⟩)),.int .i64 (x:Int)] Y λe w'=>e=.returned (.bool true)/\∃L' hc,jG w' rp (G g) B.d L'/\(x::L').Perm (L g)/\Hp (mX A) B.d L'/\(QT B F A hc).at_ w'/\aa (G g++[B.c]) Y w'/\
  ∀V,aa [] w' V->Calls Tryz.prog 134 #[.pointer (some ⟨B.c,0,none⟩),.int .i64 (x:Int)] V λe w''=>e=.returned (.bool true)/\aa F V w''/\∃st',aB w'' B.c F (aU A x) st'
theorem Dp (h:kK w B F Z gr A st) (x:Nat) (hin:bR A (x:Int)=true) :
  Calls Tryz.prog 120 #[.pointer (some ⟨B.n0,0,none⟩),.int .i64 (x:Int)] w λe w'=>e=.returned (.bool true)/\Goes (B.blk F Z gr) w w' (λF'=>∃Z' st',F'=B.blk F Z' gr/\kK w' B F Z' gr (aU A x) st'):=by
 obtain ⟨cr,ptr,G,L,hM,hI⟩:=h;have hok:=hM.cells.ok;have hcs:=hok.c1;have hin2:=(ay _ _).1 hin;have hhas:=jB hok hin;rw [π] at hhas;obtain ⟨g,hg⟩:∃g:Nat,(A.c x).i=g:=⟨(A.c x).i.toNat,ω⟩;rw [hg] at hhas;have hgN:=(aA _ _).1 hhas;have hxm:x∈L g:=(hI.mem g x hhas).2 ⟨hin2.1,hg⟩;have XT:=hI.many hhas;obtain ⟨rp,hp, -⟩:=hM.gV.row g hhas;have kh:∀W,aa [] w W->Calls Tryz.prog 124 #[.pointer (some ⟨B.c,0,none⟩),.int .i64 (x:Int)] W λe w2=>e=.returned (.tuple #[.int .i64 (g:Int),.bool true])/\aa F W w2/\RemR B F Z gr cr A st ptr G L g rp x w2:=λW hW=>by
  have k:=ic (hM.ai hW).cells x hin;rw [hg] at k;refine k.mono ?_;rintro e w2 ⟨rfl,hC2,hu2⟩;have hM2:=(hM.ai hW).dV hu2 hC2 (λx hx=>Α hx) rfl;refine ⟨rfl,hu2,hM2,λY hY=>?_⟩;have QB:=hM2.ai hY;obtain ⟨rp',hp',hRY⟩:=QB.gV.row g hhas;rw [hp] at hp';cases hp';have Vh:jG Y rp (G g) B.d (L g):=hRY;refine (DX (QT B F A QB.cells.mem) QB.ord Vh hM.dd ω x hxm (hI.nd g hhas) (hI.hp g hhas) (λy hy=>(hI.len hhas hy).2.1) (λy hy=>by have:=(hI.len hhas hy).1;omega) (QB.clear hhas)).mono ?_;rintro e w' ⟨rfl,L',h1,h2,h3,h4,h5⟩;refine ⟨rfl,L',_,h1,h2,h3,h4,h5,λV hV=>?_⟩;obtain ⟨-, -,st',hC⟩:=h4
  refine (fO (hC.ai hV) x hin).mono ?_;rintro e w'' ⟨rfl,hC',hu'⟩;exact ⟨rfl,hu',st',hC'⟩
 have c0:=hM.h0;have c2:=hM.h2;have cg:=hM.gV.cell ω hp;have hlt:=hM.lt;have HX:=χ (ψ hM (ψ hI (ψ hp (ψ hhas (ψ hxm hlt)))));have n1:B.n0∉F++Z:=λhm=>by rcases τ.1 hm with e|e;exact hM.bI.1 e;exact (hM.gH _ e).2 rfl
 have n2:gr∉F++Z:=λhm=>by rcases τ.1 hm with e|e;exact hM.bI.2.1 e;exact hM.gV.Cx e
 have VV:(g:Int)<(A.hs.length:Int):=ω;have hgz:∀z,z∈G g++[B.c]->z∈F++Z:=λz hz=>by
  rcases τ.1 hz with e|e
  ·exact τ.2 (Β (hM.gV.qK g hhas z e))
  ·simp at e;rw [e];exact τ.2 (Α hM.cells.mem)
 clear hM hI hok hcs hin2 hhas hgN hxm XT hp hlt;generalize A.hs.length=m at *
 go_enter Tryz.func120,Tryz.ntmps120
 go_upto_region 2 with (first
  | ((go_at_call 124;(with_reducible refine (kh _ β).mono ?_));rintro e w2 ⟨rfl,hu2,hM2,TR⟩)
  | fail)
 have Qm:aa (F++Z) w w2:=hu2.mono (λz hz=>τ.2 (Α hz));have e2:∀X,aa (F++Z) w2 X->X.cell? ⟨B.n0,0,none⟩=some (.pointer (some ⟨B.c,0,none⟩)):=λX h=>(Qm.trans h).kept c0 n1;have e3:∀X,aa (F++Z) w2 X->X.cell? ⟨B.n0,2,none⟩=some (.slice (some ⟨gr,0,none⟩) m cr):=λX h=>(Qm.trans h).kept c2 n1;have e4:∀X,aa (F++Z) w2 X->X.cell? ⟨gr,g,none⟩=some (.pointer (some ⟨rp,0,none⟩)):=λX h=>(Qm.trans h).kept cg n2;clear c0 c2 cg kh hu2;have a2:=e2 w2 (aa.refl _ _);have a3:=e3 w2 (aa.refl _ _);have a4:=e4 w2 (aa.refl _ _)
 go_wp2_with (first
   | ((go_at_call 133;(with_reducible refine (TR _ ν).mono ?_));rintro e w3 ⟨rfl,L',hc,Y4,hp3,hH3,hO3,hu3,NC⟩;(have hv3:aa (F++Z) w2 w3:=aa.trans ν (hu3.mono hgz));(have b2:=e2 w3 hv3);(have b3:=e3 w3 hv3);(have b4:=e4 w3 hv3))
   | ((go_at_call 134;(with_reducible refine (NC _ ν).mono ?_));rintro e w4 ⟨rfl,jJ,Sr,Sm⟩;(have hv4:aa (F++Z) w2 w4:=aa.trans hv3 (jJ.mono (λz hz=>τ.2 (Α hz)))))
   | fail)
 obtain ⟨hM,hI,hp,hhas,hxm,hlt⟩:=HX.out;have VX:aa (G g++[B.c]) w2 w3:=aa.trans ν hu3;have Q8:aa F w3 w4:=aa.trans ν jJ;obtain ⟨st',lq⟩:=hM2.DZ hhas hp VX Y4 (λz hz=>Α hz) hO3;have xg:=lq.dV Q8 Sm (λx hx=>Α hx) (gM _ _);have hI4:=hI.drop hM.dd.1 hhas hxm hp3 hH3;go_ret;refine ⟨rfl,B.blk F (Z++G g) gr,⟨Z++G g,Sr,rfl,cr,ptr,_,_,xg,hI4⟩,(Qm.trans hv4).mono (λz hz=>?_),λz hz=>Α ?_⟩
 ·simp only [DB.blk,ρ,τ] at hz ⊢;exact Β (Β hz)
 ·simp only [DB.blk,ρ,τ] at hz ⊢;rcases hz with h|h|h|h|h
  ·exact Α h
  ·exact Β (Α h)
  ·exact Β (Β (Α h))
  ·exact Β (Β (Β h))
  ·exact Β (Β (Β (hM.gV.qK g hhas z h)))
theorem y5 (h:kK w B F Z gr A st) (g m:Nat) (hm:dM A g=some m) :
  Calls Tryz.prog 122 #[.pointer (some ⟨B.n0,0,none⟩),.int .i64 (g:Int)] w λe w'=>e=.returned (.tuple #[.int .i64 (m:Int),.bool true])/\Goes (B.blk F Z gr) w w' (λF'=>∃Z' st',F'=B.blk F Z' gr/\kK w' B F Z' gr (aU A m) st'):=by
 have hin:=(jW hm).2.2.2;have hok:A.Ok:=by obtain ⟨cr,ptr,G,L,hM,hI⟩:=h;exact hM.cells.ok
 have hhas:bA A g=true:=by
  have:=jB hok hin;rw [π,(jW hm).2.2.1] at this;exact this
 have km:=DW h g hhas;rw [hm,show pK (some m)=(m:Int) from rfl,show (some m).isSome=true from rfl] at km;have kd:=Dp h m hin;clear h hm hin hok hhas
 go_enter Tryz.func122,Tryz.ntmps122
 go_wp2_with (first
  | (go_at_call 129;(with_reducible refine (km).mono ?_);rintro e w9 ⟨rfl,aH⟩;rw [aH];clear aH w9)
  | ((go_at_call 120;(with_reducible refine (kd).mono ?_));rintro e w2 ⟨rfl,hg⟩)
  | fail)
 go_ret2;exact ⟨rfl,hg⟩
end
section
variable {w w':World} {B:HB} {F Z:List Nat} {gr cr st:Nat} {A:NS} {ptr:Nat->Option Nat} {G L:Nat->List Nat} {T:List Nat}
theorem HB.Kt (B:HB) {F Z:List Nat} {gr z:Nat} (hz:z∈F):z∈B.blk F Z gr:=by simp only [HB.blk,ρ,τ];exact Β (Β (Β (Α hz)))
theorem HB.G9 (B:HB) {F Z:List Nat} {gr z:Nat} (hz:z∈Z):z∈B.blk F Z gr:=by simp only [HB.blk,ρ,τ];exact Β (Β (Β (Β hz)))
def ReR (B:HB) (F Z:List Nat) (gr cr:Nat) (A:NS) (st:Nat) (ptr:Nat->Option Nat) (G L:Nat->List Nat) (T:List Nat) (g rp gs cap i x:Nat) (w2:World):Prop:=ShM w2 B F Z gr cr A st ptr G L T/\∀Y,aa [] w2 Y->
 Calls Tryz.prog 268 #[.iface 298 (.pointer (some ⟨rp,0,none⟩)),.int .i64 (i:Int)] Y λe w'=>e=.returned (.iface 3 (.int .i64 (x:Int)))/\ReE Y B F A rp gs cap (L g) T x w'/\
  ∀V,aa [] w' V->Calls Tryz.prog 134 #[.pointer (some ⟨B.c,0,none⟩),.int .i64 (x:Int)] V λe w''=>e=.returned (.bool true)/\aa F V w''/\∃st',aB w'' B.c F (aU A x) st'
theorem Bp (h:ShAt w B F Z gr A st) (x:Nat) (hin:bR A (x:Int)=true) :
  Calls Tryz.prog 261 #[.pointer (some ⟨B.n0,0,none⟩),.int .i64 (x:Int)] w λe w'=>e=.returned (.bool true)/\Goes (B.blk F Z gr) w w' (λF'=>∃Z' st',F'=B.blk F Z' gr/\ShAt w' B F Z' gr (aU A x) st'):=by
 obtain ⟨cr,ptr,G,L,T,hM,hI⟩:=h;have hok:=hM.cells.ok;have hcs:=hok.c1;have hin2:=(ay _ _).1 hin;have hhas:=jB hok hin;rw [π] at hhas;obtain ⟨g,hg⟩:∃g:Nat,(A.c x).i=g:=⟨(A.c x).i.toNat,ω⟩;rw [hg] at hhas;have hgN:=(aA _ _).1 hhas;have hxm:x∈L g:=(hI.di.mem g x hhas).2 ⟨hin2.1,hg⟩;obtain ⟨i,hi,hxi⟩:=List.mem_iff_getElem.1 hxm;have hx:(L g)[i]?=some x:=by rw [ε hi,hxi]
 have hdom:∀y,y∈L g->bR A (y:Int)=true/\y<T.length:=λy hy=>⟨(hI.di.len hhas hy).2.1,by rw [hM.tl];exact (hI.di.len hhas hy).1⟩
 have hTx:T.getD x 0=i:=hI.wJ g hhas i x hx;have L8:x<T.length:=by rw [hM.tl];exact hin2.1
 obtain ⟨rp,v,hp,DC,yS⟩:=hM.pile hhas hdom (hI.di.nd g hhas) (hI.wJ g hhas);obtain ⟨gs,cap,hv, -⟩:=yS.full ω;have A7:G g=[rp,gs]:=by rw [DC,hv];rfl
 have kh:∀W,aa [] w W->Calls Tryz.prog 124 #[.pointer (some ⟨B.c,0,none⟩),.int .i64 (x:Int)] W λe w2=>e=.returned (.tuple #[.int .i64 (g:Int),.bool true])/\aa F W w2/\ReR B F Z gr cr A st ptr G L T g rp gs cap i x w2:=λW hW=>by
  have k:=ic (hM.ai hW).cells x hin;rw [hg] at k;refine k.mono ?_;rintro e w2 ⟨rfl,hC2,hu2⟩;have hM2:=(hM.ai hW).dV hu2 hC2 (λx hx=>Α hx) rfl rfl;refine ⟨rfl,hu2,hM2,λY hY=>?_⟩;have hPY:=(yS.ai hW);obtain ⟨rp',v',hp',Yf,hP⟩:=(hM2.ai hY).pile hhas hdom (hI.di.nd g hhas) (hI.wJ g hhas);rw [hp] at hp';cases hp';obtain ⟨gs',cap',hv',hPM⟩:=hP.full ω;have eg:gs'=gs:=by
   rw [A7,hv'] at Yf;have:([rp,gs]:List Nat)=[rp,gs']:=Yf;simp at this;exact this.symm
  subst eg;have hc:cap'=cap:=by
   have r1:=hPM.h1;have hPM0:w.cell? ⟨rp,1,none⟩=some (.slice (some ⟨gs',0,none⟩) (L g).length cap):=by
    rw [←hv];exact yS.hd.cellAt 1 ω rfl
   have hrpF:rp∉F:=yS.s3.1;have r2:=((hu2.kept (hW.was hPM0) hrpF));have r3:=hY.was r2;rw [r1] at r3;simpa using r3
  subst hc;refine (D5 hPM i x hx (hI.di.hp g hhas)).mono ?_;rintro e w' ⟨rfl,hR⟩;refine ⟨rfl,hR,λV hV=>?_⟩;obtain ⟨L',T',hE, -⟩:=hR;obtain ⟨st',hC⟩:=hE.wV;refine (fO (hC.ai hV) x hin).mono ?_;rintro e w'' ⟨rfl,hC',hu'⟩;exact ⟨rfl,hu',st',hC'⟩
 have c0:=hM.h0;have c2:=hM.h1;have c3:=hM.h2;have cg:=hM.gV.cell ω hp;have ct:=hM.II x L8;rw [hTx] at ct;have hlt:=hM.lt;have n1:B.n0∉F:=hM.bI.1;have n2:gr∉F:=hM.bI.2.1;have n3:B.ga∉F:=hM.bI.2.2;have n4:B.n0∉[rp,gs,B.ga,B.c]:=by
  have h1:=yS.s1;have h2:=yS.sg gs (by rw [hv];rfl);simp;exact ⟨λe=>h1.2 e.symm,λe=>h2.2.2.1 e.symm,λe=>hM.sep.2.1 e.symm,λe=>n1 (by rw [e];exact hM.cells.mem)⟩
 have VV:(g:Int)<(A.hs.length:Int):=ω;have zS:(x:Int)<(T.length:Int):=ω;have hil:i<=65536:=by have:=yS.len;omega
 have HX:=χ (ψ hM (ψ hI (ψ hp (ψ hhas (ψ hxm (ψ hlt (ψ A7 hin)))))));clear hM hI hok hcs hin hin2 hhas hgN hxm hxi hx hdom hTx L8 hp DC yS hv A7 hlt hi hg;generalize A.hs.length=m at *;generalize T.length=nt at *
 go_enter Tryz.func261,Tryz.ntmps261
 go_upto_region 4 with (first
  | ((go_at_call 124;(with_reducible refine (kh _ β).mono ?_));rintro e w2 ⟨rfl,hu2,hM2,TR⟩)
  | fail)
 have a0:∀X,aa [] w2 X->X.cell? ⟨B.n0,1,none⟩=some (.slice (some ⟨gr,0,none⟩) m cr):=λX hX=>hX.was (hu2.kept c2 n1);have a1:∀X,aa [] w2 X->X.cell? ⟨B.n0,2,none⟩=some (.slice (some ⟨B.ga,0,none⟩) nt nt):=λX hX=>hX.was (hu2.kept c3 n1);have a2:∀X,aa [] w2 X->X.cell? ⟨gr,g,none⟩=some (.pointer (some ⟨rp,0,none⟩)):=λX hX=>hX.was (hu2.kept cg n2);have a3:∀X,aa [] w2 X->X.cell? ⟨B.ga,x,none⟩=some (.int .i64 (i:Int)):=λX hX=>hX.was (hu2.kept ct n3);have z0:=hu2.kept c0 n1;clear c0 c2 c3 cg ct kh;have b1:=a0 _ (aa.refl [] w2);have b2:=a1 _ (aa.refl [] w2);have b3:=a2 _ (aa.refl [] w2)
 have b4:=a3 _ (aa.refl [] w2)
 go_region_law
  (first
   | (go_simp;go_at_call 268;(with_reducible refine (TR _ ν).mono ?_);rintro e w3 ⟨rfl,hR,NC⟩;(have hv3:aa [rp,gs,B.ga,B.c] w2 w3:=by obtain ⟨_,_,_,_,_,_,_,hu⟩:=hR;exact aa.trans ν hu);(have z1:=hv3.kept z0 n4)))
 all_goals
  go_wp2_with (first
   | ((go_at_call 134;(with_reducible refine (NC _ ν).mono ?_));rintro e w4 ⟨rfl,jJ,Sr,Sm⟩)
   | fail)
  go_ret;obtain ⟨hM,hI,hp,hhas,hxm,hlt,A7,hin⟩:=HX.out;obtain ⟨L',T',hE,hp3,hH3,hoff,Li, -⟩:=hR;have Q8:aa F w3 w4:=aa.trans ν jJ;have Vf:∀z,z∈G g->z∈Z:=hM.gV.qK g hhas
  obtain ⟨st',lq⟩:=hM2.DZ hhas hp hv3 (λz hz=>by
   simp only [ρ,ς,or_false] at hz;rw [A7];rcases hz with e|e|e|e
   ·exact Α (by simp [e])
   ·exact Α (by simp [e])
   ·exact Β (Α e)
   ·exact Β (Β e)) (by rw [A7];simp) hE Li (λk hk=>by cases hk;rw [A7];simp)
  have xg:=lq.dV Q8 Sm (λx hx=>Α hx) (gM _ _) (dK _ _)
  have hI4:=hI.turn (hI.di.drop ω hhas hxm hp3 hH3) (λq=>by unfold bA;rw [gM]) hhas hE.wJ (λy _ h2=>hoff y h2) (λq y e hq hy=>by
   have h2:=hI.di.apart e hq hhas hy
   exact ⟨λhm=>h2 (hp3.mem_iff.1 (Λ _ hm)),h2⟩)
  refine ⟨rfl,B.blk F (Z++(rp::Option.toList (some gs))) gr,⟨_,Sr,rfl,cr,ptr,_,_,T',xg,hI4⟩,((hu2.mono (λz hz=>B.Kt hz)).trans (hv3.mono (λz hz=>?_))).trans (Q8.mono (λz hz=>B.Kt hz)),λz hz=>Α ?_⟩
  ·simp only [ρ,ς,or_false] at hz;rcases hz with e|e|e|e
   ·exact B.G9 (Vf z (by rw [A7];simp [e]))
   ·exact B.G9 (Vf z (by rw [A7];simp [e]))
   ·simp [HB.blk,e]
   ·exact B.Kt (by rw [e];exact hM.cells.mem)
  ·simp only [HB.blk,ρ,τ,Option.toList_some,ς,or_false] at hz;rcases hz with h|h|h|h|h|h|h
   ·simp [HB.blk,h]
   ·simp [HB.blk,h]
   ·simp [HB.blk,h]
   ·exact B.Kt h
   ·exact B.G9 h
   ·exact B.G9 (Vf z (by rw [A7];simp [h]))
   ·exact B.G9 (Vf z (by rw [A7];simp [h]))
theorem xx (h:ShAt w B F Z gr A st) (g:Int) (m:Nat) (hm:dM A g=some m) :
  Calls Tryz.prog 262 #[.pointer (some ⟨B.n0,0,none⟩),.int .i64 g] w λe w'=>e=.returned (.tuple #[.int .i64 (m:Int),.bool true])/\Goes (B.blk F Z gr) w w' (λF'=>∃Z' st',F'=B.blk F Z' gr/\ShAt w' B F Z' gr (aU A m) st'):=by
 obtain ⟨q,rfl,hq,hin⟩:∃q:Nat,g=q/\bA A q=true/\bR A (m:Int)=true:=by
  obtain ⟨cr,ptr,G,L,T,hM,hI⟩:=h;obtain ⟨q,rfl,hq,hmq⟩:=hI.di.Si hm hM.cells.ok;exact ⟨q,rfl,hq,(hI.di.len hq hmq).2.1⟩
 have km:=Ak h q hq;rw [hm] at km;have kd:=λW (hW:aa [] w W)=>Bp (h.ai hW) m hin;clear h hm hin hq;have km':Calls Tryz.prog 266 #[.pointer (some ⟨B.n0,0,none⟩),.int .i64 (q:Int)] w λe w'=>e=.returned (.tuple #[.int .i64 (m:Int),.bool true])/\w'=w:=km;clear km
 go_enter Tryz.func262,Tryz.ntmps262
 go_wp2_with (first
  | (go_at_call 266;(with_reducible refine (km').mono ?_);rintro e w9 ⟨rfl,aH⟩;rw [aH];clear aH w9)
  | ((go_at_call 261;(with_reducible refine (kd _ (aa.refl _ _)).mono ?_));rintro e w2 ⟨rfl,hG⟩)
  | fail)
 go_ret2;exact ⟨rfl,hG⟩
end
end Go.Proofs.YtnpdakpagnpanaaGreat
namespace Go.Proofs.YtnpdakpagnpanaaGreat
open Go.RowKit
def arity (k d:Int):Int:=if k=1 then 2 else d
theorem JQ (k d:Int) (hc:zx k d=0) (w:World) :
  Calls Tryz.prog 58 #[.agg #[.int .i64 k,.int .i64 d]] w λe w'=>e=.returned (.int .i64 (arity k d))/\aa [] w w':=by
 have kc:=λW=>Ay k d W;rw [hc] at kc;unfold arity;clear hc
 by_cases h1:k=1
 ·rw [Δ h1];subst h1
  go_enter Tryz.func58,Tryz.ntmps58
  go_wp2_with (first|((go_at_call 33;(with_reducible refine (kc _).mono ?_));rintro e w1 ⟨rfl,hb⟩;obtain ⟨hc,hf⟩:=Sv hb)|fail)
  go_ret;exact ⟨rfl,((aa.refl _ _).alloc _).trans (hb.mono σ)⟩
 ·rw [Γ h1];have h2:(k == 1)=false:=by simpa using h1
  go_enter Tryz.func58,Tryz.ntmps58
  go_wp2_with (first|((go_at_call 33;(with_reducible refine (kc _).mono ?_));rintro e w1 ⟨rfl,hb⟩;obtain ⟨hc,hf⟩:=Sv hb)|fail)
  go_ret;exact ⟨rfl,((aa.refl _ _).alloc _).trans (hb.mono σ)⟩
end Go.Proofs.YtnpdakpagnpanaaGreat
namespace Go.Proofs.YtnpdakpagnpanaaGreat
open Go Go.RowKit
theorem Gd (p c:Nat):∀W:World,W.cell? ⟨p,0,none⟩=some (.pointer (some ⟨c,0,none⟩))->(method 409 122 (.pointer (some ⟨p,0,none⟩)) "Has").run Tryz.prog W=.ok (123,.pointer (some ⟨c,0,none⟩)) W:=(by intro W h;unfold method;have hm:∃m,(Array.find? (λx=>x.name == "Has") Tryz.t122.methods)=some m/\m.path.toList=[⟨179,0,true⟩]/\m.func=some (123,true)/\m.path.isEmpty=false:=⟨(Array.find? (λx=>x.name == "Has") Tryz.t122.methods).get!,by kernel_rfl,by kernel_rfl,by kernel_rfl,by kernel_rfl⟩;obtain ⟨m,h1,h2,h3,h4⟩:=hm;go_simp;simp only [follow,Place.get];go_simp;(try unfold receiverAt);(try simp only [Place.get]);(try go_simp))
theorem Bf (p c:Nat):∀W:World,W.cell? ⟨p,0,none⟩=some (.pointer (some ⟨c,0,none⟩))->(method 409 122 (.pointer (some ⟨p,0,none⟩)) "Entry").run Tryz.prog W=.ok (121,.pointer (some ⟨c,0,none⟩)) W:=(by intro W h;unfold method;have hm:∃m,(Array.find? (λx=>x.name == "Entry") Tryz.t122.methods)=some m/\m.path.toList=[⟨179,0,true⟩]/\m.func=some (121,true)/\m.path.isEmpty=false:=⟨(Array.find? (λx=>x.name == "Entry") Tryz.t122.methods).get!,by kernel_rfl,by kernel_rfl,by kernel_rfl,by kernel_rfl⟩;obtain ⟨m,h1,h2,h3,h4⟩:=hm;go_simp;simp only [follow,Place.get];go_simp;(try unfold receiverAt);(try simp only [Place.get]);(try go_simp))
theorem QX (p:Nat):∀W:World,(method 409 122 (.pointer (some ⟨p,0,none⟩)) "Make").run Tryz.prog W=.ok (127,.pointer (some ⟨p,0,none⟩)) W:=λ_=>by kernel_rfl
theorem Kl (p:Nat):∀W:World,(method 409 122 (.pointer (some ⟨p,0,none⟩)) "Insert").run Tryz.prog W=.ok (125,.pointer (some ⟨p,0,none⟩)) W:=λ_=>by kernel_rfl
theorem TJ (p:Nat):∀W:World,(method 409 122 (.pointer (some ⟨p,0,none⟩)) "Min").run Tryz.prog W=.ok (129,.pointer (some ⟨p,0,none⟩)) W:=λ_=>by kernel_rfl
theorem Hq (p:Nat):∀W:World,(method 409 122 (.pointer (some ⟨p,0,none⟩)) "Extract").run Tryz.prog W=.ok (122,.pointer (some ⟨p,0,none⟩)) W:=λ_=>by kernel_rfl
def TG (d:Nat) (w:World) (p:Nat) (F:List Nat) (A:NS):Prop:=∃B F1 Z gr st,p=B.n0/\F=B.blk F1 Z gr/\B.d=d/\kK w B F1 Z gr A st
theorem TG.of {d:Nat} {B:DB} {F1:List Nat} {gr:Nat} {A:NS} {F:List Nat} {w w':World} (hd:B.d=d) (h:Goes F w w' (λF'=>∃Z' st',F'=B.blk F1 Z' gr/\kK w' B F1 Z' gr A st')):Goes F w w' (λF'=>TG d w' B.n0 F' A):=by
 obtain ⟨F',⟨Z',st',rfl,hA⟩,hu,hf⟩:=h;exact ⟨_,⟨B,F1,Z',gr,st',rfl,rfl,hd,hA⟩,hu,hf⟩
def uL (d:Nat):NestQ where
 ty:=122
 at_:=TG d
 upd:=λh hu hS=>by
  obtain ⟨B,F1,Z,gr,st,rfl,rfl,hd,hL⟩:=h;exact ⟨B,F1,Z,gr,st,rfl,rfl,hd,hL.upd hu hS⟩
 lt:=λh=>by
  obtain ⟨B,F1,Z,gr,st,rfl,rfl,hd,cr,ptr,G,L,hM,hI⟩:=h;exact hM.lt
 ok:=λh=>by
  obtain ⟨B,F1,Z,gr,st,rfl,rfl,hd,cr,ptr,G,L,hM,hI⟩:=h;exact hM.cells.ok
 make:=λ{w p F A} h=>by
  obtain ⟨B,F1,Z,gr,st,rfl,rfl,hd,hL⟩:=h;refine aP 127 (λ_ _=>by kernel_rfl) (QX _) (λW hW=>?_);have mg:=hL.ai hW
  by_cases hl:65536<A.hs.length
  ·have e1:bW A=0:=by unfold bW;rw [Δ hl]
   have e2:aI A=A:=by unfold aI;rw [Δ hl]
   rw [e1,e2];refine (Md mg hl).mono ?_;rintro e w' ⟨rfl,F',⟨F2,rfl,hA⟩,hu,hf⟩;exact ⟨rfl,_,⟨B,F2,Z,gr,st,rfl,rfl,hd,hA⟩,hu,hf⟩
  ·have e1:bW A=A.hs.length:=by unfold bW;rw [Γ hl]
   rw [e1];refine (JG mg hl).mono ?_;rintro e w' ⟨rfl,F',⟨F2,Z2,gr2,rfl,hA⟩,hu,hf⟩;exact ⟨rfl,_,⟨B,F2,Z2,gr2,st,rfl,rfl,hd,hA⟩,hu,hf⟩
 insert:=λ{w p F A} g y k s hk hB h=>by
  obtain ⟨B,F1,Z,gr,st,rfl,rfl,hd,hL⟩:=h;refine aP 125 (λ_ _=>by kernel_rfl) (Kl _) (λW hW=>?_);exact (ES (hL.ai hW) g y k s hk hB).mono (λe w' h=>⟨h.1,TG.of hd h.2⟩)
 min:=λ{w p F A} g hB h=>by
  obtain ⟨B,F1,Z,gr,st,rfl,rfl,hd,hL⟩:=h;refine aP 129 (λ_ _=>by kernel_rfl) (TJ _) (λW hW=>?_);refine (DW (hL.ai hW) g hB).mono ?_;rintro e w' ⟨rfl,rfl⟩;exact ⟨rfl,Goes.stay ⟨B,F1,Z,gr,st,rfl,rfl,hd,hL.ai hW⟩ (aa.refl _ _)⟩
 extract:=λ{w p F A} g m hm h=>by
  obtain ⟨B,F1,Z,gr,st,rfl,rfl,hd,hL⟩:=h;refine aP 122 (λ_ _=>by kernel_rfl) (Hq _) (λW hW=>?_);exact (y5 (hL.ai hW) g m hm).mono (λe w' h=>⟨h.1,TG.of hd h.2⟩)
 has:=λx h=>by
  obtain ⟨B,F1,Z,gr,st,rfl,rfl,hd,cr,ptr,G,L,hM,hI⟩:=h;exact gN 123 (λ_ _=>by kernel_rfl) hM.h0 (Gd _ _) (λW hW=>iM (hM.ai hW).cells x)
 entry:=λ{w p F A} x h=>by
  obtain ⟨B,F1,Z,gr,st,rfl,rfl,hd,cr,ptr,G,L,hM,hI⟩:=h;refine gN 121 (λ_ _=>by kernel_rfl) hM.h0 (Bf _ _) (λW hW=>?_);cases hin:bR A x with
  | false=>simpa using jP (hM.ai hW).cells x hin
  | true=>
   obtain ⟨y,rfl⟩:=oW hin;simpa using iZ (hM.ai hW).cells y hin
theorem Fx (p:Nat) (w:World):Calls Tryz.prog 56 #[.pointer (some ⟨p,0,none⟩),.int .i64 0] w λe w'=>e=.returned (.tuple #[.iface 122 (.pointer (some ⟨p,0,none⟩)),.int .i64 0])/\w'=w:=by
 go_enter Tryz.func56,Tryz.ntmps56
 go_wp2;go_ret2;exact ⟨rfl,rfl⟩
theorem CE (kd d:Int) (n m:Nat) (hc:zx kd d=0) (hk:kd=1\/kd=2) (hm:arity kd d=(m:Int)) (hn:n<=65536):nW (uL m) kd d n:=by
 intro w;have hd:2<=m/\m<=16:=by
  have h1:=BR hc;unfold arity at hm;rcases hk with e|e
  ·rw [Δ e] at hm;omega
  ·rw [Γ ω] at hm;have:=h1.2.2.1 e;omega
 have kn:=λW=>Mi n m W hn hd;have km:=Fx;have ka:=λW=>JQ kd d hc W;rw [hm] at ka;have hty:(uL m).ty=122:=rfl;have hat:∀w' B F Z gr,B.d=m->kK w' B F Z gr (NS.new n) 0->(uL m).at_ w' B.n0 (B.blk F Z gr) (NS.new n)/\Ef w' B.n0 n:=λw' B F Z gr hd h=>⟨⟨B,F,Z,gr,0,rfl,rfl,hd,h⟩,by obtain ⟨cr,ptr,G,L,hM,hI⟩:=h;exact ⟨_,_,hM.h0,hM.cells⟩⟩
 generalize uL m=K at *;rw [hty];clear hm hc;rcases hk with rfl|rfl
 all_goals
  go_enter Tryz.func35,Tryz.ntmps35
  go_wp2_with (first
   | ((go_at_call 58;(with_reducible refine (ka _).mono ?_));rintro e w0 ⟨rfl,hu0⟩)
   | ((go_at_call 57;(with_reducible refine (kn _).mono ?_));rintro e w1 ⟨B,F,gr,rfl,hS,hu1,hf,hBd⟩)
   | ((go_at_call 56;(with_reducible refine (km _ _).mono ?_));rintro e w2 ⟨rfl,rfl⟩)
   | fail)
  go_ret2;have hs:=hu0.size;exact ⟨B.n0,B.blk F [] gr,rfl,(hat _ _ _ _ _ hBd hS).1,(hat _ _ _ _ _ hBd hS).2,aa.trans (aa.trans β hu0) hu1,λx hx=>by have:=hf x hx;simp at hs;omega⟩
end Go.Proofs.YtnpdakpagnpanaaGreat
