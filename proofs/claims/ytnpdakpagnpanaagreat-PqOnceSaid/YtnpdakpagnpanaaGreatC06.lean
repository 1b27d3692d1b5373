/-
  Lemmas for PqAlike: Dr4, Sd10, Sd11, Arity, DrQ. Conditions: those of each lemma.
-/
import Derived.Test.YtnpdakpagnpanaaGreatC05
set_option linter.all false
set_option maxHeartbeats 8000000
set_option maxRecDepth 10000
namespace Go.Proofs.YtnpdakpagnpanaaGreat
open Tryz
open Go Go.RowKit
theorem pK.MP{d:Nat}{A:NS}{L:Nat->List Nat}(h:pK d A L)(hd:2<=d){g x i:Nat}{k s:Int}(hB:jf A x k s=true)(hg:aY A g=true)(hx:(L g)[i]?=some x) :
  fH (nD (aA A x k s)) d (L g) i/\Below (nD (aA A x k s)) d (L g) i x:=by
 have hxm:=Η hx;have hm:=(h.mem g x hg).1 hxm;have hc:=uo hB hm.1;have hle:=uJ hB;rw[π] at hle;have hn:=h.nd g hg;obtain⟨hi,hxe⟩:=List.getElem?_eq_some_iff.1 hx;have hcy:∀y,y≠x->(aA A x k s).c y=A.c y:=λy e=>by rw[hc,Γ e]
 have Gm:(aA A x k s).c x=⟨(A.c x).i,k,s⟩:=by rw[hc,Δ rfl]
 have hne:∀y,y∈(L g).eraseIdx i->y≠x:=λy hy e=>by
  obtain⟨q,hq,hqe⟩:=List.mem_eraseIdx_iff_getElem?.1 hy;obtain⟨g1,e1⟩:=List.getElem?_eq_some_iff.1 hqe;exact hq ((List.getElem_inj hn).1 (e1.trans (e.trans hxe.symm)))
 have hH:=h.hp g hg;refine⟨(hH.hole (iR A) hd hi).frame (λa b ha hb hab=>dY.2 ((fE (hcy a (hne a ha)) (hcy b (hne b hb))).2 (dY.1 hab))) hd,λj j0 hj hp=>?_⟩;have h1:=hH j j0 hj;have h2:(L g).getD (par d j) 0=x:=by rw[hp,φ,hx];rfl
 rw[h2] at h1;have hji:j≠i:=λe=>by have:=fA hd j0;omega
 have hyx:(L g).getD j 0≠x:=λe=>by
  have h3:(L g)[j]?=some x:=by rw[←e,φ,ε hj];rfl
  obtain⟨g1,e1⟩:=List.getElem?_eq_some_iff.1 h3;exact hji ((List.getElem_inj hn).1 (e1.trans hxe.symm))
 exact dY.2 (mD (dY.1 h1) (hcy _ hyx) (by rw[Gm];exact hle))
section
variable{w w':World}{B:DB}{F Z:List Nat}{gr cr st:Nat}{A:NS}{ptr:Nat->Option Nat}{G L:Nat->List Nat}
theorem Tm(h:lX w B F Z gr A st)(x:Nat)(k s:Int)(hk:-9223372036854775808<=k/\k<=9223372036854775807/\0<=s/\s<=18446744073709551615)(hB:jf A x k s=true) :
  Calls prog 119 #[.pointer (some ⟨B.n0,0,none⟩),.int .i64 (x:Int),.agg #[.int .i64 k,.int .u64 s]] w λe w'=>e=.returned (.bool true)/\Goes (B.blk F Z gr) w w' (λF'=>∃Z' st',F'=B.blk F Z' gr/\lX w' B F Z' gr (aA A x k s) st'):=by
 obtain⟨cr,ptr,G,L,hM,hI⟩:=h;have hok:=hM.cells.ok;have hcs:=hok.c1;have hin:=ry hB;have hin2:=(aj _ _).1 hin;have hhas:=iL hok hin;rw[π] at hhas;obtain⟨g,hg⟩:∃g:Nat,(A.c x).i=g:=⟨(A.c x).i.toNat,ω⟩;rw[hg] at hhas;have hgN:=(aC _ _).1 hhas;have hxm:x∈L g:=(hI.mem g x hhas).2 ⟨hin2.1,hg⟩;obtain⟨i,hi,hxi⟩:=List.mem_iff_getElem.1 hxm;have hx:(L g)[i]?=some x:=by rw[ε hi,hxi]
 obtain⟨Xf,hBe⟩:=hI.MP hM.dd.1 hB hhas hx;have pJ:(aA A x k s).hs=A.hs:=lQ _ _ _ _;have ig:aY (aA A x k s) g=true:=by have:=hhas;unfold aY at this ⊢;rw[pJ];exact this
 have hin':bY (aA A x k s) (x:Int)=true:=(aj _ _).2 ⟨by rw[gD];exact hin2.1,by rw[iH hB hin2.1];exact hin2.2⟩;have hgi':((aA A x k s).c x).i=g:=by rw[iH hB hin2.1];exact hg
 have JF:∀y,y∈L g->bY (aA A x k s) (y:Int)=true:=λy hy=>by
  have h1:=(hI.mem g y hhas).1 hy;exact(aj _ _).2 ⟨by rw[gD];exact h1.1,by rw[iH hB hin2.1];omega⟩
 have h16:∀y,y∈L g->y<=65536:=λy hy=>by have:=((hI.mem g y hhas).1 hy).1;omega
 have RX:=hI.many hhas;obtain⟨rp,hp, -⟩:=hM.iq.row g hhas;have Vd:=λW (hW:ae [] w W)=>iD (hM.ag hW).cells x k s hk hB;have hM2:=λX w2 (hX:ae [] w X) (hC2:aF w2 B.c F (aA A x k s) st) (hu2:ae F X w2)=>(hM.ag hX).cB hu2 hC2 (λx hx=>Α hx) pJ;have Tc:∀Y,wW Y B F Z gr cr (aA A x k s) st ptr G L->Calls prog 132 #[.pointer (some ⟨rp,0,none⟩),.iface 122 (.pointer (some ⟨B.n0,0,none⟩)),.int .i64 (x:Int)] Y λe w'=>e=.returned (.bool true)/\∃L' hc,jM w' rp (G g) B.d L'/\L'.Perm (L g)/\Hp (nD (aA A x k s)) B.d L'/\(Uw B F (aA A x k s) hc).at_ w'/\ae (G g++[B.c]) Y w':=by
  intro Y ND;obtain⟨rp',hp',hRY⟩:=ND.iq.row g ig;rw[hp] at hp';cases hp';have Tf:jM Y rp (G g) B.d (L g):=hRY;refine(Mm (Uw B F (aA A x k s) ND.cells.mem) ND.ord Tf hM.dd ω i x hx (hI.nd g hhas) Xf hBe JF h16 (ND.clear ig)).mono ?_;rintro e w' ⟨rfl,L',h1,h2,h3,h4,h5⟩;exact⟨rfl,L',_,h1,h2,h3,h4,h5⟩
 have c0:=hM.h0;have c2:=hM.h2;have cg:=hM.iq.cell ω hp;have hlt:=hM.lt;have n0F:=hM.bS.1;have HX:=χ (ψ hM (ψ hI (ψ hp (ψ hhas (ψ ig (ψ hxm (ψ hlt (ψ hM2 (ψ hgi' hin')))))))));have n3:∀z,z∈F->z<w.heap.size:=λz hm=>hlt z (by simp only[DB.blk,ρ,τ];exact Β (Β (Α hm)));clear hM hI hok hcs hin hin2 hhas hgN hxm hi hxi hx Xf hBe pJ ig hin' hgi' JF h16 RX hp hlt hM2;generalize A.hs.length=m at *
 go_enter func119,ntmps119
 go_upto_region 1 with(fail)
 refine bG (λW=>W.cell? ⟨w.heap.size,0,none⟩=some (.int .i64 k)/\W.cell? ⟨w.heap.size,1,none⟩=some (.int .u64 s)/\ae [] w W) ⟨γ,γ,β⟩ ?_;rintro W ⟨x0,x1,hW⟩;have hb:w.heap.size∉F:=λhm=>by have:=n3 _ hm;omega
 have e0:∀X,ae F W X->X.cell? ⟨w.heap.size,0,none⟩=some (.int .i64 k):=λX h=>h.kept x0 hb;have e1:∀X,ae F W X->X.cell? ⟨w.heap.size,1,none⟩=some (.int .u64 s):=λX h=>h.kept x1 hb;have e2:∀X,ae F W X->X.cell? ⟨B.n0,0,none⟩=some (.pointer (some ⟨B.c,0,none⟩)):=λX h=>h.kept (hW.was c0) n0F;have HW:=χ (ψ hW (ψ c2 cg))
 have GJ:∀X (hX:ae [] W X),Calls prog 131 #[.pointer (some ⟨B.c,0,none⟩),.int .i64 (x:Int),.agg #[.int .i64 k,.int .u64 s]] X λe w2=>e=.returned (.bool true)/\wW w2 B F Z gr cr (aA A x k s) st ptr G L/\ae F X w2:=λX hX=>(Vd X (hW.trans hX)).mono (λe w2 h=>⟨h.1,HX.out.2.2.2.2.2.2.2.1 X w2 (hW.trans hX) h.2.1 h.2.2,h.2.2⟩);clear Vd x0 x1 hW c0 c2 cg
 go_region_held3 (ae F W) (exact ν)
  (first
   | ((go_at_call 131;(with_reducible refine (GJ _ ν).mono ?_));rintro e w2 ⟨rfl,hM2,hu2⟩;(have hv2:ae F W w2:=ae.trans ν hu2)))
 obtain⟨hM,hI,hp,hhas,ig,hxm,hlt,hM2',hgi',hin'⟩:=HX.out;have kh:=bV hM2.cells x hin';rw[hgi'] at kh;have q0:=hM2.h0;have jo:=λw3 (wY:aF w3 B.c F (aA A x k s) st) (hu3:ae F w2 w3)=>hM2.cB hu3 wY (λx hx=>Α hx) rfl;have hcg3:=λw3 wY hu3=>(jo w3 wY hu3).iq.cell (g:=g) (by have:=(aC _ _).1 ig;omega) hp;have hh3:=λw3 wY hu3=>(jo w3 wY hu3).h2;have kr3:=λw3 wY hu3=>Tc w3 (jo w3 wY hu3);have hgI2:(g:Int)<((aA A x k s).hs.length:Int):=by have:=(aC _ _).1 ig;omega
 clear hM hI hhas ig hxm hlt hM2' hgi' hin' Tc GJ e0 e1 e2 hM2;generalize (aA A x k s).hs.length=m2 at *
 go_wp2_with (first
  |((go_at_call 124;(with_reducible refine(kh).mono ?_));rintro e w3 ⟨rfl,wY,hu3⟩;(have kr4:=kr3 w3 wY hu3))
  |((go_at_call 132;(with_reducible refine(kr4).mono ?_));rintro e w4 ⟨rfl,L',hc,YR,QA,hH4,hO4,fU⟩)
  | fail)
 go_ret;obtain⟨hM,hI,hp,hhas,ig,hxm,hlt, -, -, -⟩:=HX.out;have hM3':=jo w3 wY hu3;obtain⟨st',sM⟩:=hM3'.Bd ig hp fU YR (λz hz=>Α hz) hO4;have Y7:=hI.low hM.dd.1 hB hhas hxm QA hH4;have hgz:∀z,z∈G g++[B.c]->z∈F++Z:=λz hz=>by
  rcases τ.1 hz with e|e
  ·exact τ.2 (Β (hM.iq.sJ g hhas z e))
  ·simp at e;rw[e];exact τ.2 (Α hM.cells.mem)
 have hbl:∀z,z∈F++Z->z∈B.blk F Z gr:=λz hz=>by
  simp only[DB.blk,ρ,τ] at hz ⊢;exact Β (Β hz)
 refine⟨rfl,B.blk F (Z++G g) gr,⟨Z++G g,st',rfl,cr,ptr,_,_,sM,Y7⟩,(((HW.out.1.mono σ).trans (hv2.mono (λz hz=>hbl z (τ.2 (Α hz))))).trans (hu3.mono (λz hz=>hbl z (τ.2 (Α hz))))).trans (fU.mono (λz hz=>hbl z (hgz z hz))),λz hz=>Α ?_⟩;simp only[DB.blk,ρ,τ] at hz ⊢;rcases hz with h|h|h|h|h
 ·exact Α h
 ·exact Β (Α h)
 ·exact Β (Β (Α h))
 ·exact Β (Β (Β h))
 ·exact Β (Β (Β (hM.iq.sJ g hhas z h)))
def RemR(B:DB)(F Z:List Nat)(gr cr:Nat)(A:NS)(st:Nat)(ptr:Nat->Option Nat)(G L:Nat->List Nat)(g rp x:Nat)(w2:World):Prop:=
 wW w2 B F Z gr cr A st ptr G L/\∀Y,ae [] w2 Y->Calls prog 133 #[.pointer (some ⟨rp,0,none⟩),.iface 122 (.pointer (some ⟨B.n0,0,none⟩)),.int .i64 (x:Int)] Y λe w'=>e=.returned (.bool true)/\∃L' hc,jM w' rp (G g) B.d L'/\(x::L').Perm (L g)/\Hp (nD A) B.d L'/\(Uw B F A hc).at_ w'/\ae (G g++[B.c]) Y w'/\
  ∀V,ae [] w' V->Calls prog 134 #[.pointer (some ⟨B.c,0,none⟩),.int .i64 (x:Int)] V λe w''=>e=.returned (.bool true)/\ae F V w''/\∃st',aF w'' B.c F (bg A x) st'
theorem zi(h:lX w B F Z gr A st)(x:Nat)(hin:bY A (x:Int)=true) :
  Calls prog 120 #[.pointer (some ⟨B.n0,0,none⟩),.int .i64 (x:Int)] w λe w'=>e=.returned (.bool true)/\Goes (B.blk F Z gr) w w' (λF'=>∃Z' st',F'=B.blk F Z' gr/\lX w' B F Z' gr (bg A x) st'):=by
 obtain⟨cr,ptr,G,L,hM,hI⟩:=h;have hok:=hM.cells.ok;have hcs:=hok.c1;have hin2:=(aj _ _).1 hin;have hhas:=iL hok hin;rw[π] at hhas;obtain⟨g,hg⟩:∃g:Nat,(A.c x).i=g:=⟨(A.c x).i.toNat,ω⟩;rw[hg] at hhas;have hgN:=(aC _ _).1 hhas;have hxm:x∈L g:=(hI.mem g x hhas).2 ⟨hin2.1,hg⟩;have RX:=hI.many hhas;obtain⟨rp,hp, -⟩:=hM.iq.row g hhas;have kh:∀W,ae [] w W->Calls prog 124 #[.pointer (some ⟨B.c,0,none⟩),.int .i64 (x:Int)] W λe w2=>e=.returned (.tuple #[.int .i64 (g:Int),.bool true])/\ae F W w2/\RemR B F Z gr cr A st ptr G L g rp x w2:=λW hW=>by
  have k:=bV (hM.ag hW).cells x hin;rw[hg] at k;refine k.mono ?_;rintro e w2 ⟨rfl,hC2,hu2⟩;have hM2:=(hM.ag hW).cB hu2 hC2 (λx hx=>Α hx) rfl;refine⟨rfl,hu2,hM2,λY hY=>?_⟩;have ND:=hM2.ag hY;obtain⟨rp',hp',hRY⟩:=ND.iq.row g hhas;rw[hp] at hp';cases hp';have Tf:jM Y rp (G g) B.d (L g):=hRY;refine(Jq (Uw B F A ND.cells.mem) ND.ord Tf hM.dd ω x hxm (hI.nd g hhas) (hI.hp g hhas) (λy hy=>(hI.len hhas hy).2.1) (λy hy=>by have:=(hI.len hhas hy).1;omega) (ND.clear hhas)).mono ?_;rintro e w' ⟨rfl,L',h1,h2,h3,h4,h5⟩;refine⟨rfl,L',_,h1,h2,h3,h4,h5,λV hV=>?_⟩;obtain⟨-, -,st',hC⟩:=h4
  refine(gT (hC.ag hV) x hin).mono ?_;rintro e w'' ⟨rfl,hC',hu'⟩;exact⟨rfl,hu',st',hC'⟩
 have c0:=hM.h0;have c2:=hM.h2;have cg:=hM.iq.cell ω hp;have hlt:=hM.lt;have HX:=χ (ψ hM (ψ hI (ψ hp (ψ hhas (ψ hxm hlt)))));have n1:B.n0∉F++Z:=λhm=>by rcases τ.1 hm with e|e;exact hM.bS.1 e;exact(hM.iF _ e).2 rfl
 have n2:gr∉F++Z:=λhm=>by rcases τ.1 hm with e|e;exact hM.bS.2.1 e;exact hM.iq.Gp e
 have Yo:(g:Int)<(A.hs.length:Int):=ω;have hgz:∀z,z∈G g++[B.c]->z∈F++Z:=λz hz=>by
  rcases τ.1 hz with e|e
  ·exact τ.2 (Β (hM.iq.sJ g hhas z e))
  ·simp at e;rw[e];exact τ.2 (Α hM.cells.mem)
 clear hM hI hok hcs hin2 hhas hgN hxm RX hp hlt;generalize A.hs.length=m at *
 go_enter func120,ntmps120
 go_upto_region 2 with (first
  |((go_at_call 124;(with_reducible refine(kh _ β).mono ?_));rintro e w2 ⟨rfl,hu2,hM2,abl⟩)
  | fail)
 have RQ:ae (F++Z) w w2:=hu2.mono (λz hz=>τ.2 (Α hz));have e2:∀X,ae (F++Z) w2 X->X.cell? ⟨B.n0,0,none⟩=some (.pointer (some ⟨B.c,0,none⟩)):=λX h=>(RQ.trans h).kept c0 n1;have e3:∀X,ae (F++Z) w2 X->X.cell? ⟨B.n0,2,none⟩=some (.slice (some ⟨gr,0,none⟩) m cr):=λX h=>(RQ.trans h).kept c2 n1;have e4:∀X,ae (F++Z) w2 X->X.cell? ⟨gr,g,none⟩=some (.pointer (some ⟨rp,0,none⟩)):=λX h=>(RQ.trans h).kept cg n2;clear c0 c2 cg kh hu2;have a3:=e3 w2 (ae.refl _ _);have a4:=e4 w2 (ae.refl _ _)
 go_wp2_with (first
   |((go_at_call 133;(with_reducible refine(abl _ ν).mono ?_));rintro e w3 ⟨rfl,L',hc,mK,hp3,hH3,hO3,hu3,Tt⟩;(have hv3:ae (F++Z) w2 w3:=ae.trans ν (hu3.mono hgz)))
   |((go_at_call 134;(with_reducible refine(Tt _ ν).mono ?_));rintro e w4 ⟨rfl,fU,YE,TH⟩;(have hv4:ae (F++Z) w2 w4:=ae.trans hv3 (fU.mono (λz hz=>τ.2 (Α hz)))))
   | fail)
 obtain⟨hM,hI,hp,hhas,hxm,hlt⟩:=HX.out;have Zf:ae (G g++[B.c]) w2 w3:=ae.trans ν hu3;have XT:ae F w3 w4:=ae.trans ν fU;obtain⟨st',jo⟩:=hM2.Bd hhas hp Zf mK (λz hz=>Α hz) hO3;have sM:=jo.cB XT TH (λx hx=>Α hx) (iV _ _);have Y7:=hI.drop hM.dd.1 hhas hxm hp3 hH3;go_ret;refine⟨rfl,B.blk F (Z++G g) gr,⟨Z++G g,YE,rfl,cr,ptr,_,_,sM,Y7⟩,(RQ.trans hv4).mono (λz hz=>?_),λz hz=>Α ?_⟩
 ·simp only[DB.blk,ρ,τ] at hz ⊢;exact Β (Β hz)
 ·simp only[DB.blk,ρ,τ] at hz ⊢;rcases hz with h|h|h|h|h
  ·exact Α h
  ·exact Β (Α h)
  ·exact Β (Β (Α h))
  ·exact Β (Β (Β h))
  ·exact Β (Β (Β (hM.iq.sJ g hhas z h)))
theorem CQ(h:lX w B F Z gr A st)(g m:Nat)(hm:dN A g=some m) :
  Calls prog 122 #[.pointer (some ⟨B.n0,0,none⟩),.int .i64 (g:Int)] w λe w'=>e=.returned (.tuple #[.int .i64 (m:Int),.bool true])/\Goes (B.blk F Z gr) w w' (λF'=>∃Z' st',F'=B.blk F Z' gr/\lX w' B F Z' gr (bg A m) st'):=by
 have hin:=(lH hm).2.2.2;have hok:A.Ok:=by obtain⟨cr,ptr,G,L,hM,hI⟩:=h;exact hM.cells.ok
 have hhas:aY A g=true:=by
  have:=iL hok hin;rw[π,(lH hm).2.2.1] at this;exact this
 have km:=Ig h g hhas;rw[hm,show qp (some m)=(m:Int) from rfl,show(some m).isSome=true from rfl] at km;have kd:=zi h m hin;clear h hm hin hok hhas
 go_enter func122,ntmps122
 go_wp2_with (first
  |(go_at_call 129;(with_reducible refine aT (km) ?_))
  |((go_at_call 120;(with_reducible refine(kd).mono ?_));rintro e w2 ⟨rfl,hg⟩)
  | fail)
 go_ret2;exact⟨rfl,hg⟩
end
section
variable{w w':World}{B:HB}{F Z:List Nat}{gr cr st:Nat}{A:NS}{ptr:Nat->Option Nat}{G L:Nat->List Nat}{T:List Nat}
theorem HB.zH(B:HB){F Z:List Nat}{gr z:Nat}(hz:z∈F):z∈B.blk F Z gr:=by simp only[HB.blk,ρ,τ];exact Β (Β (Β (Α hz)))
theorem HB.AB(B:HB){F Z:List Nat}{gr z:Nat}(hz:z∈Z):z∈B.blk F Z gr:=by simp only[HB.blk,ρ,τ];exact Β (Β (Β (Β hz)))
def ReR(B:HB)(F Z:List Nat)(gr cr:Nat)(A:NS)(st:Nat)(ptr:Nat->Option Nat)(G L:Nat->List Nat)(T:List Nat)(g rp gs cap i x:Nat)(w2:World):Prop:=ShM w2 B F Z gr cr A st ptr G L T/\∀Y,ae [] w2 Y->
 Calls prog 268 #[.iface 298 (.pointer (some ⟨rp,0,none⟩)),.int .i64 (i:Int)] Y λe w'=>e=.returned (.iface 3 (.int .i64 (x:Int)))/\ReE Y B F A rp gs cap (L g) T x w'/\
  ∀V,ae [] w' V->Calls prog 134 #[.pointer (some ⟨B.c,0,none⟩),.int .i64 (x:Int)] V λe w''=>e=.returned (.bool true)/\ae F V w''/\∃st',aF w'' B.c F (bg A x) st'
theorem xD(h:ShAt w B F Z gr A st)(x:Nat)(hin:bY A (x:Int)=true) :
  Calls prog 261 #[.pointer (some ⟨B.n0,0,none⟩),.int .i64 (x:Int)] w λe w'=>e=.returned (.bool true)/\Goes (B.blk F Z gr) w w' (λF'=>∃Z' st',F'=B.blk F Z' gr/\ShAt w' B F Z' gr (bg A x) st'):=by
 obtain⟨cr,ptr,G,L,T,hM,hI⟩:=h;have hok:=hM.cells.ok;have hin2:=(aj _ _).1 hin;have hhas:=iL hok hin;rw[π] at hhas;obtain⟨g,hg⟩:∃g:Nat,(A.c x).i=g:=⟨(A.c x).i.toNat,ω⟩;rw[hg] at hhas;have hgN:=(aC _ _).1 hhas;have hxm:x∈L g:=(hI.di.mem g x hhas).2 ⟨hin2.1,hg⟩;obtain⟨i,hi,hxi⟩:=List.mem_iff_getElem.1 hxm;have hx:(L g)[i]?=some x:=by rw[ε hi,hxi]
 have hdom:∀y,y∈L g->bY A (y:Int)=true/\y<T.length:=λy hy=>⟨(hI.di.len hhas hy).2.1,by rw[hM.tl];exact(hI.di.len hhas hy).1⟩
 have hTx:T.getD x 0=i:=hI.wQ g hhas i x hx;have Lr:x<T.length:=by rw[hM.tl];exact hin2.1
 obtain⟨rp,v,hp,Dz,zz⟩:=hM.pile hhas hdom (hI.di.nd g hhas) (hI.wQ g hhas);obtain⟨gs,cap,hv, -⟩:=zz.full ω;have wP:G g=[rp,gs]:=by rw[Dz,hv];rfl
 have kh:∀W,ae [] w W->Calls prog 124 #[.pointer (some ⟨B.c,0,none⟩),.int .i64 (x:Int)] W λe w2=>e=.returned (.tuple #[.int .i64 (g:Int),.bool true])/\ae F W w2/\ReR B F Z gr cr A st ptr G L T g rp gs cap i x w2:=λW hW=>by
  have k:=bV (hM.ag hW).cells x hin;rw[hg] at k;refine k.mono ?_;rintro e w2 ⟨rfl,hC2,hu2⟩;have hM2:=(hM.ag hW).cB hu2 hC2 (λx hx=>Α hx) rfl rfl;refine⟨rfl,hu2,hM2,λY hY=>?_⟩;obtain⟨rp',v',hp',aag,hP⟩:=(hM2.ag hY).pile hhas hdom (hI.di.nd g hhas) (hI.wQ g hhas);rw[hp] at hp';cases hp';obtain⟨gs',cap',hv',hPM⟩:=hP.full ω;have eg:gs'=gs:=by
   rw[wP,hv'] at aag;have:([rp,gs]:List Nat)=[rp,gs']:=aag;simp at this;exact this.symm
  subst eg;have hc:cap'=cap:=by
   have r1:=hPM.h1;have Wt:w.cell? ⟨rp,1,none⟩=some (.slice (some ⟨gs',0,none⟩) (L g).length cap):=by
    rw[←hv];exact zz.hd.cellAt 1 ω rfl
   have Uz:rp∉F:=zz.s3.1;have r2:=((hu2.kept (hW.was Wt) Uz));have r3:=hY.was r2;rw[r1] at r3;simpa using r3
  subst hc;refine(GI hPM i x hx (hI.di.hp g hhas)).mono ?_;rintro e w' ⟨rfl,hR⟩;refine⟨rfl,hR,λV hV=>?_⟩;obtain⟨L',T',hE, -⟩:=hR;obtain⟨st',hC⟩:=hE.Gj;refine(gT (hC.ag hV) x hin).mono ?_;rintro e w'' ⟨rfl,hC',hu'⟩;exact⟨rfl,hu',st',hC'⟩
 have c0:=hM.h0;have c2:=hM.h1;have c3:=hM.h2;have cg:=hM.iq.cell ω hp;have ct:=hM.IX x Lr;rw[hTx] at ct;have hlt:=hM.lt;have n1:B.n0∉F:=hM.bS.1;have n2:gr∉F:=hM.bS.2.1;have n3:B.ga∉F:=hM.bS.2.2;have n4:B.n0∉[rp,gs,B.ga,B.c]:=by
  have h1:=zz.s1;have h2:=zz.sg gs (by rw[hv];rfl);simp;exact⟨λe=>h1.2 e.symm,λe=>h2.2.2.1 e.symm,λe=>hM.sep.2.1 e.symm,λe=>n1 (by rw[e];exact hM.cells.mem)⟩
 have Yo:(g:Int)<(A.hs.length:Int):=ω;have CE:(x:Int)<(T.length:Int):=ω;have HX:=χ (ψ hM (ψ hI (ψ hp (ψ hhas (ψ hxm (ψ hlt (ψ wP hin)))))));clear hM hI hok hin hin2 hhas hgN hxm hxi hx hdom hTx Lr hp Dz zz hv wP hlt hi hg;generalize A.hs.length=m at *;generalize T.length=nt at *
 go_enter func261,ntmps261
 go_upto_region 4 with (first
  |((go_at_call 124;(with_reducible refine(kh _ β).mono ?_));rintro e w2 ⟨rfl,hu2,hM2,abl⟩)
  | fail)
 have a0:∀X,ae [] w2 X->X.cell? ⟨B.n0,1,none⟩=some (.slice (some ⟨gr,0,none⟩) m cr):=λX hX=>hX.was (hu2.kept c2 n1);have a1:∀X,ae [] w2 X->X.cell? ⟨B.n0,2,none⟩=some (.slice (some ⟨B.ga,0,none⟩) nt nt):=λX hX=>hX.was (hu2.kept c3 n1);have a2:∀X,ae [] w2 X->X.cell? ⟨gr,g,none⟩=some (.pointer (some ⟨rp,0,none⟩)):=λX hX=>hX.was (hu2.kept cg n2);have a3:∀X,ae [] w2 X->X.cell? ⟨B.ga,x,none⟩=some (.int .i64 (i:Int)):=λX hX=>hX.was (hu2.kept ct n3);have z0:=hu2.kept c0 n1;clear c0 c2 c3 cg ct kh;have b1:=a0 _ (ae.refl [] w2);have b2:=a1 _ (ae.refl [] w2);have b3:=a2 _ (ae.refl [] w2)
 have b4:=a3 _ (ae.refl [] w2)
 go_region_law
  (first
   | (go_simp;go_at_call 268;(with_reducible refine (abl _ ν).mono ?_);rintro e w3 ⟨rfl,hR,Tt⟩;(have hv3:ae [rp,gs,B.ga,B.c] w2 w3:=by obtain ⟨_,_,_,_,_,_,_,hu⟩:=hR;exact ae.trans ν hu);(have z1:=hv3.kept z0 n4)))
 all_goals
  go_wp2_with (first
   |((go_at_call 134;(with_reducible refine(Tt _ ν).mono ?_));rintro e w4 ⟨rfl,fU,YE,TH⟩)
   | fail)
  go_ret;obtain⟨hM,hI,hp,hhas,hxm,hlt,wP,hin⟩:=HX.out;obtain⟨L',T',hE,hp3,hH3,hoff,Qm, -⟩:=hR;have XT:ae F w3 w4:=ae.trans ν fU;have TC:∀z,z∈G g->z∈Z:=hM.iq.sJ g hhas
  obtain ⟨st',jo⟩:=hM2.Bd hhas hp hv3 (λz hz=>by
   simp only[ρ,ς,or_false] at hz;rw[wP];rcases hz with e|e|e|e
   ·exact Α (by simp[e])
   ·exact Α (by simp[e])
   ·exact Β (Α e)
   ·exact Β (Β e)) (by rw [wP];simp) hE Qm (λk hk=>by cases hk;rw [wP];simp)
  have sM:=jo.cB XT TH (λx hx=>Α hx) (iV _ _) (fD _ _)
  have Y7:=hI.turn (hI.di.drop ω hhas hxm hp3 hH3) (λq=>by unfold aY;rw [iV]) hhas hE.wQ (λy _ h2=>hoff y h2) (λq y e hq hy=>by
   have h2:=hI.di.apart e hq hhas hy
   exact ⟨λhm=>h2 (hp3.mem_iff.1 (Λ _ hm)),h2⟩)
  refine⟨rfl,B.blk F (Z++(rp::Option.toList (some gs))) gr,⟨_,YE,rfl,cr,ptr,_,_,T',sM,Y7⟩,((hu2.mono (λz hz=>B.zH hz)).trans (hv3.mono (λz hz=>?_))).trans (XT.mono (λz hz=>B.zH hz)),λz hz=>Α ?_⟩
  ·simp only[ρ,ς,or_false] at hz;rcases hz with e|e|e|e
   ·exact B.AB (TC z (by rw[wP];simp[e]))
   ·exact B.AB (TC z (by rw[wP];simp[e]))
   ·simp[HB.blk,e]
   ·exact B.zH (by rw[e];exact hM.cells.mem)
  ·simp only[HB.blk,ρ,τ,Option.toList_some,ς,or_false] at hz;rcases hz with h|h|h|h|h|h|h
   ·simp[HB.blk,h]
   ·simp[HB.blk,h]
   ·simp[HB.blk,h]
   ·exact B.zH h
   ·exact B.AB h
   ·exact B.AB (TC z (by rw[wP];simp[h]))
   ·exact B.AB (TC z (by rw[wP];simp[h]))
theorem z8(h:ShAt w B F Z gr A st)(g:Int)(m:Nat)(hm:dN A g=some m) :
  Calls prog 262 #[.pointer (some ⟨B.n0,0,none⟩),.int .i64 g] w λe w'=>e=.returned (.tuple #[.int .i64 (m:Int),.bool true])/\Goes (B.blk F Z gr) w w' (λF'=>∃Z' st',F'=B.blk F Z' gr/\ShAt w' B F Z' gr (bg A m) st'):=by
 obtain⟨q,rfl,hq,hin⟩:∃q:Nat,g=q/\aY A q=true/\bY A (m:Int)=true:=by
  obtain⟨cr,ptr,G,L,T,hM,hI⟩:=h;obtain⟨q,rfl,hq,hmq⟩:=hI.di.V9 hm hM.cells.ok;exact⟨q,rfl,hq,(hI.di.len hq hmq).2.1⟩
 have km:=DD h q hq;rw[hm] at km;have kd:=λW (hW:ae [] w W)=>xD (h.ag hW) m hin;clear h hm hin hq;have km':Calls prog 266 #[.pointer (some ⟨B.n0,0,none⟩),.int .i64 (q:Int)] w λe w'=>e=.returned (.tuple #[.int .i64 (m:Int),.bool true])/\w'=w:=km;clear km
 go_enter func262,ntmps262
 go_wp2_with (first
  |(go_at_call 266;(with_reducible refine aT (km') ?_))
  |((go_at_call 261;(with_reducible refine(kd _ (ae.refl _ _)).mono ?_));rintro e w2 ⟨rfl,hG⟩)
  | fail)
 go_ret2;exact⟨rfl,hG⟩
end
section
variable{w w':World}{B:HB}{F Z:List Nat}{gr cr st:Nat}{A:NS}{ptr:Nat->Option Nat}{G L:Nat->List Nat}{T:List Nat}
def FiR(B:HB)(F Z:List Nat)(gr cr:Nat)(A:NS)(st:Nat)(ptr:Nat->Option Nat)(G L:Nat->List Nat)(T:List Nat)(g rp gs cap i:Nat)(w2:World):Prop:=ShM w2 B F Z gr cr A st ptr G L T/\∀Y,ae [] w2 Y->
 Calls prog 267 #[.iface 298 (.pointer (some ⟨rp,0,none⟩)),.int .i64 (i:Int)] Y λe w'=>e=.returned (.tuple #[])/\∃L' T',mM Y B F A rp gs cap [] (L g) T w' L' T'/\Hp (nD A) 2 L'
theorem PX(h:ShAt w B F Z gr A st)(x:Nat)(k s:Int)(hk:-9223372036854775808<=k/\k<=9223372036854775807/\0<=s/\s<=18446744073709551615)(hB:jf A x k s=true) :
  Calls prog 260 #[.pointer (some ⟨B.n0,0,none⟩),.int .i64 (x:Int),.agg #[.int .i64 k,.int .u64 s]] w λe w'=>e=.returned (.bool true)/\Goes (B.blk F Z gr) w w' (λF'=>∃Z' st',F'=B.blk F Z' gr/\ShAt w' B F Z' gr (aA A x k s) st'):=by
 obtain⟨cr,ptr,G,L,T,hM,hI⟩:=h;have hok:=hM.cells.ok;have hin:=ry hB;have hin2:=(aj _ _).1 hin;have hhas:=iL hok hin;rw[π] at hhas;obtain⟨g,hg⟩:∃g:Nat,(A.c x).i=g:=⟨(A.c x).i.toNat,ω⟩;rw[hg] at hhas;have hgN:=(aC _ _).1 hhas;have hxm:x∈L g:=(hI.di.mem g x hhas).2 ⟨hin2.1,hg⟩;obtain⟨i,hi,hxi⟩:=List.mem_iff_getElem.1 hxm;have hx:(L g)[i]?=some x:=by rw[ε hi,hxi]
 obtain⟨Xf,hBe⟩:=hI.di.MP ω hB hhas hx;have pJ:(aA A x k s).hs=A.hs:=lQ _ _ _ _;have MC:(aA A x k s).cs.length=A.cs.length:=gD _ _ _ _;have ig:aY (aA A x k s) g=true:=by have:=hhas;unfold aY at this ⊢;rw[pJ];exact this
 have hin':bY (aA A x k s) (x:Int)=true:=(aj _ _).2 ⟨by rw[gD];exact hin2.1,by rw[iH hB hin2.1];exact hin2.2⟩;have hgi':((aA A x k s).c x).i=g:=by rw[iH hB hin2.1];exact hg
 have hdom:∀y,y∈L g->bY A (y:Int)=true/\y<T.length:=λy hy=>⟨(hI.di.len hhas hy).2.1,by rw[hM.tl];exact(hI.di.len hhas hy).1⟩
 have JF:∀y,y∈L g->bY (aA A x k s) (y:Int)=true/\y<T.length:=λy hy=>by
  have h1:=(hI.di.mem g y hhas).1 hy;exact⟨(aj _ _).2 ⟨by rw[gD];exact h1.1,by rw[iH hB hin2.1];omega⟩,by rw[hM.tl];exact h1.1⟩
 have hTx:T.getD x 0=i:=hI.wQ g hhas i x hx;have Lr:x<T.length:=by rw[hM.tl];exact hin2.1
 obtain⟨rp,v,hp,Dz,zz⟩:=hM.pile hhas hdom (hI.di.nd g hhas) (hI.wQ g hhas);obtain⟨gs,cap,hv, -⟩:=zz.full ω;have wP:G g=[rp,gs]:=by rw[Dz,hv];rfl
 have Wt:w.cell? ⟨rp,1,none⟩=some (.slice (some ⟨gs,0,none⟩) (L g).length cap):=by rw[←hv];exact zz.hd.cellAt 1 ω rfl
 have Uz:rp∉F:=zz.s3.1;have Vd:∀W (hW:ae [] w W),Calls prog 131 #[.pointer (some ⟨B.c,0,none⟩),.int .i64 (x:Int),.agg #[.int .i64 k,.int .u64 s]] W λe w2=>e=.returned (.bool true)/\ShM w2 B F Z gr cr (aA A x k s) st ptr G L T/\ae F W w2:=λW hW=>(iD (hM.ag hW).cells x k s hk hB).mono (λe w2 h=>⟨h.1,(hM.ag hW).cB h.2.2 h.2.1 (λx hx=>Α hx) pJ MC,h.2.2⟩)
 have Yz:∀w2,ShM w2 B F Z gr cr (aA A x k s) st ptr G L T->ae F w w2->Calls prog 124 #[.pointer (some ⟨B.c,0,none⟩),.int .i64 (x:Int)] w2 λe w3=>e=.returned (.tuple #[.int .i64 (g:Int),.bool true])/\ae F w2 w3/\FiR B F Z gr cr (aA A x k s) st ptr G L T g rp gs cap i w3:=λw2 hM2 Un=>by
  have kk:=bV hM2.cells x hin';rw[hgi'] at kk;refine kk.mono ?_;rintro e w3 ⟨rfl,wY,hu3⟩;have jo:=hM2.cB hu3 wY (λx hx=>Α hx) rfl rfl;refine⟨rfl,hu3,jo,λY hY=>?_⟩;obtain⟨rp',v',hp',aag,hP⟩:=(jo.ag hY).pile ig JF (hI.di.nd g hhas) (hI.wQ g hhas);rw[hp] at hp';cases hp';obtain⟨gs',cap',hv',hPM⟩:=hP.full ω;have r3:=hY.was (hu3.kept (Un.kept Wt Uz) Uz);have r1:=hPM.h1;rw[r1] at r3;simp at r3;obtain⟨rfl,rfl⟩:=r3;exact R5 hPM i Xf
 have c0:=hM.h0;have c2:=hM.h1;have c3:=hM.h2;have cg:=hM.iq.cell ω hp;have ct:=hM.IX x Lr;rw[hTx] at ct;have hlt:=hM.lt;have n1:B.n0∉F:=hM.bS.1;have n2:gr∉F:=hM.bS.2.1;have n3:B.ga∉F:=hM.bS.2.2;have n5:∀z,z∈F->z<w.heap.size:=λz hm=>hlt z (B.zH hm);have Yo:(g:Int)<(A.hs.length:Int):=ω;have CE:(x:Int)<(T.length:Int):=ω;have HX:=χ (ψ hM (ψ hI (ψ hp (ψ hhas (ψ ig (ψ hxm (ψ hlt (ψ wP (ψ hB pJ)))))))));clear hM hI hok hin hin2 hhas hgN hxm hxi hx hdom hTx Lr hp Dz zz hv wP hlt hi hg Xf hBe pJ MC ig hin' hgi' JF Wt Uz;generalize A.hs.length=m at *;generalize T.length=nt at *
 go_enter func260,ntmps260
 go_upto_region 1 with(fail)
 refine bG (λW=>W.cell? ⟨w.heap.size,0,none⟩=some (.int .i64 k)/\W.cell? ⟨w.heap.size,1,none⟩=some (.int .u64 s)/\ae [] w W) ⟨γ,γ,β⟩ ?_;rintro W ⟨x0,x1,hW⟩;have hb:w.heap.size∉F:=λhm=>by have:=n5 _ hm;omega
 have e0:∀X,ae F W X->X.cell? ⟨w.heap.size,0,none⟩=some (.int .i64 k):=λX h=>h.kept x0 hb;have e1:∀X,ae F W X->X.cell? ⟨w.heap.size,1,none⟩=some (.int .u64 s):=λX h=>h.kept x1 hb;have e2:∀X,ae F W X->X.cell? ⟨B.n0,0,none⟩=some (.pointer (some ⟨B.c,0,none⟩)):=λX h=>h.kept (hW.was c0) n1;have HW:=χ (ψ hW (ψ c2 (ψ c3 (ψ cg ct))));have GJ:=λX (hX:ae [] W X)=>Vd X (hW.trans hX);clear Vd x0 x1 hW c0 c2 c3 cg ct
 go_region_held3 (ae F W) (exact ν)
  (first
   | ((go_at_call 131;(with_reducible refine (GJ _ ν).mono ?_));rintro e w2 ⟨rfl,hM2,hu2⟩;(have hv2:ae F W w2:=ae.trans ν hu2)))
 obtain⟨hW,c2,c3,cg,ct⟩:=HW.out;have Un:ae F w w2:=(hW.mono σ).trans hv2;have kh2:=Yz w2 hM2 Un;have q0:=hM2.h0;have p2:=Un.kept c2 n1;have p3:=Un.kept c3 n1;have p4:=Un.kept cg n2;have p5:=Un.kept ct n3;have HV:=χ (ψ Un hM2);clear e0 e1 e2 GJ Yz hW c2 c3 cg ct Un hM2 hv2 hu2
 go_upto_region 4 with (first
  |((go_at_call 124;(with_reducible refine(kh2).mono ?_));rintro e w3 ⟨rfl,hu3,jo,kfix⟩)
  | fail)
 have a0:∀X,ae [] w3 X->X.cell? ⟨B.n0,1,none⟩=some (.slice (some ⟨gr,0,none⟩) m cr):=λX hX=>hX.was (hu3.kept p2 n1);have a1:∀X,ae [] w3 X->X.cell? ⟨B.n0,2,none⟩=some (.slice (some ⟨B.ga,0,none⟩) nt nt):=λX hX=>hX.was (hu3.kept p3 n1);have a2:∀X,ae [] w3 X->X.cell? ⟨gr,g,none⟩=some (.pointer (some ⟨rp,0,none⟩)):=λX hX=>hX.was (hu3.kept p4 n2);have a3:∀X,ae [] w3 X->X.cell? ⟨B.ga,x,none⟩=some (.int .i64 (i:Int)):=λX hX=>hX.was (hu3.kept p5 n3);have b1:=a0 _ (ae.refl [] w3);have b2:=a1 _ (ae.refl [] w3);have b3:=a2 _ (ae.refl [] w3);have b4:=a3 _ (ae.refl [] w3)
 clear p2 p3 p4 p5 q0 kh2
 go_region_law
  (first
   | (go_simp;go_at_call 267;(with_reducible refine (kfix _ ν).mono ?_);rintro e w4 ⟨rfl,L',T',hG4,hH4⟩;(have hv4:ae [gs,B.ga,B.c] w3 w4:=ae.trans ν hG4.upd)))
 all_goals
  go_wp2;go_ret;obtain⟨hM,hI,hp,hhas,ig,hxm,hlt,wP,hB,pJ⟩:=HX.out;obtain⟨Un,hM2⟩:=HV.out;have hpm:=hG4.pi;rw[Υ] at hpm;have TC:∀z,z∈G g->z∈Z:=hM.iq.sJ g hhas
  obtain ⟨st',sM⟩:=jo.Bd ig hp hv4 (λz hz=>by
   simp only[ρ,ς,or_false] at hz;rw[wP];rcases hz with e|e|e
   ·exact Α (by simp[e])
   ·exact Β (Α e)
   ·exact Β (Β e)) (by rw [wP];simp) hpm.any hG4.tl (λk hk=>by cases hk;rw [wP];simp)
  have Y7:=hI.turn (hI.di.low ω hB hhas hxm hG4.perm hH4) (λq=>by unfold aY;rw [pJ]) hhas hpm.wQ (λy _ h2=>hG4.off y (by rw [Υ];exact h2)) (λq y e hq hy=>by
   have h2:=hI.di.apart e hq hhas hy
   exact ⟨λhm=>h2 (hG4.perm.mem_iff.1 hm),h2⟩)
  refine⟨rfl,B.blk F (Z++(rp::Option.toList (some gs))) gr,⟨_,st',rfl,cr,ptr,_,_,T',sM,Y7⟩,((Un.mono (λz hz=>B.zH hz)).trans (hu3.mono (λz hz=>B.zH hz))).trans (hv4.mono (λz hz=>?_)),λz hz=>Α ?_⟩
  ·simp only[ρ,ς,or_false] at hz;rcases hz with e|e|e
   ·exact B.AB (TC z (by rw[wP];simp[e]))
   ·simp[HB.blk,e]
   ·exact B.zH (by rw[e];exact hM.cells.mem)
  ·simp only[HB.blk,ρ,τ,Option.toList_some,ς,or_false] at hz;rcases hz with h|h|h|h|h|h|h
   ·simp[HB.blk,h]
   ·simp[HB.blk,h]
   ·simp[HB.blk,h]
   ·exact B.zH h
   ·exact B.AB h
   ·exact B.AB (TC z (by rw[wP];simp[h]))
   ·exact B.AB (TC z (by rw[wP];simp[h]))
end
end Go.Proofs.YtnpdakpagnpanaaGreat
namespace Go.Proofs.YtnpdakpagnpanaaGreat
open Tryz
open Go.RowKit
def arity(k d:Int):Int:=if k=1 then 2 else d
theorem PH(k d:Int)(hc:sG k d=0)(w:World) :
  Calls prog 58 #[.agg #[.int .i64 k,.int .i64 d]] w λe w'=>e=.returned (.int .i64 (arity k d))/\ae [] w w':=by
 have kc:=λW=>Dc k d W;rw[hc] at kc;unfold arity;clear hc
 by_cases h1:k=1
 ·rw[Δ h1];subst h1
  go_enter func58,ntmps58
  go_wp2_with (first|((go_at_call 33;(with_reducible refine(kc _).mono ?_));rintro e w1 ⟨rfl,hb⟩;obtain⟨hc,hf⟩:=YQ hb)|fail)
  go_ret;exact⟨rfl,((ae.refl _ _).alloc _).trans (hb.mono σ)⟩
 ·rw[Γ h1];have h2:(k == 1)=false:=by simpa using h1
  go_enter func58,ntmps58
  go_wp2_with (first|((go_at_call 33;(with_reducible refine(kc _).mono ?_));rintro e w1 ⟨rfl,hb⟩;obtain⟨hc,hf⟩:=YQ hb)|fail)
  go_ret;exact⟨rfl,((ae.refl _ _).alloc _).trans (hb.mono σ)⟩
end Go.Proofs.YtnpdakpagnpanaaGreat
namespace Go.Proofs.YtnpdakpagnpanaaGreat
open Tryz
open Go Go.RowKit
theorem Lg:VI 122 "Has" 123:=by intro p c W h;unfold method;obtain⟨m,h1,h2,h3,h4⟩:=wC Tryz.t122.methods "Has" [⟨179,0,true⟩] 123 (by kernel_rfl);exact vZ
theorem ET:VI 122 "Entry" 121:=by intro p c W h;unfold method;obtain⟨m,h1,h2,h3,h4⟩:=wC Tryz.t122.methods "Entry" [⟨179,0,true⟩] 121 (by kernel_rfl);exact vZ
theorem XW:MI 122 "Make" 127:=λ_ _=>by kernel_rfl
theorem PW:MI 122 "Insert" 125:=λ_ _=>by kernel_rfl
theorem Y4:MI 122 "Min" 129:=λ_ _=>by kernel_rfl
theorem K7:MI 122 "Extract" 122:=λ_ _=>by kernel_rfl
theorem Je:MI 122 "Decrease" 119:=λ_ _=>by kernel_rfl
def VM(d:Nat)(w:World)(p:Nat)(F:List Nat)(A:NS):Prop:=∃B F1 Z gr st,p=B.n0/\F=B.blk F1 Z gr/\B.d=d/\lX w B F1 Z gr A st
theorem VM.of{d:Nat}{B:DB}{F1:List Nat}{gr:Nat}{A:NS}{F:List Nat}{w w':World}(hd:B.d=d)(h:Goes F w w' (λF'=>∃Z' st',F'=B.blk F1 Z' gr/\lX w' B F1 Z' gr A st')):Goes F w w' (λF'=>VM d w' B.n0 F' A):=by
 obtain⟨F',⟨Z',st',rfl,hA⟩,hu,hf⟩:=h;exact⟨_,⟨B,F1,Z',gr,st',rfl,rfl,hd,hA⟩,hu,hf⟩
def xL(d:Nat):NestQ where
 ty:=122
 at_:=VM d
 upd:=λh hu hS=>by
  obtain⟨B,F1,Z,gr,st,rfl,rfl,hd,hL⟩:=h;exact⟨B,F1,Z,gr,st,rfl,rfl,hd,hL.upd hu hS⟩
 lt:=λh=>by
  obtain⟨B,F1,Z,gr,st,rfl,rfl,hd,cr,ptr,G,L,hM,hI⟩:=h;exact hM.lt
 ok:=λh=>by
  obtain⟨B,F1,Z,gr,st,rfl,rfl,hd,cr,ptr,G,L,hM,hI⟩:=h;exact hM.cells.ok
 make:=λ{w p F A} h=>by
  obtain⟨B,F1,Z,gr,st,rfl,rfl,hd,hL⟩:=h;refine aJ 127 (λ_ _=>by kernel_rfl) (XW _) (λW hW=>?_);have jG:=hL.ag hW
  by_cases hl:65536<A.hs.length
  ·have e1:dJ A=0:=by unfold dJ;rw[Δ hl]
   have e2:aU A=A:=by unfold aU;rw[Δ hl]
   rw[e1,e2];refine(TK jG hl).mono ?_;rintro e w' ⟨rfl,F',⟨F2,rfl,hA⟩,hu,hf⟩;exact⟨rfl,_,⟨B,F2,Z,gr,st,rfl,rfl,hd,hA⟩,hu,hf⟩
  ·have e1:dJ A=A.hs.length:=by unfold dJ;rw[Γ hl]
   rw[e1];refine(OO jG hl).mono ?_;rintro e w' ⟨rfl,F',⟨F2,Z2,gr2,rfl,hA⟩,hu,hf⟩;exact⟨rfl,_,⟨B,F2,Z2,gr2,st,rfl,rfl,hd,hA⟩,hu,hf⟩
 insert:=λ{w p F A} g y k s hk hB h=>by
  obtain⟨B,F1,Z,gr,st,rfl,rfl,hd,hL⟩:=h;refine aJ 125 (λ_ _=>by kernel_rfl) (PW _) (λW hW=>?_);exact(I8 (hL.ag hW) g y k s hk hB).mono (λe w' h=>⟨h.1,VM.of hd h.2⟩)
 min:=λ{w p F A} g hB h=>by
  obtain⟨B,F1,Z,gr,st,rfl,rfl,hd,hL⟩:=h;refine aJ 129 (λ_ _=>by kernel_rfl) (Y4 _) (λW hW=>?_);refine(Ig (hL.ag hW) g hB).mono ?_;rintro e w' ⟨rfl,rfl⟩;exact⟨rfl,Goes.stay ⟨B,F1,Z,gr,st,rfl,rfl,hd,hL.ag hW⟩ (ae.refl _ _)⟩
 extract:=λ{w p F A} g m hm h=>by
  obtain⟨B,F1,Z,gr,st,rfl,rfl,hd,hL⟩:=h;refine aJ 122 (λ_ _=>by kernel_rfl) (K7 _) (λW hW=>?_);exact(CQ (hL.ag hW) g m hm).mono (λe w' h=>⟨h.1,VM.of hd h.2⟩)
 mJ:=λ{w p F A} y k s hk hB h=>by
  obtain⟨B,F1,Z,gr,st,rfl,rfl,hd,hL⟩:=h;refine aJ 119 (λ_ _=>by kernel_rfl) (Je _) (λW hW=>?_);exact(Tm (hL.ag hW) y k s hk hB).mono (λe w' h=>⟨h.1,VM.of hd h.2⟩)
 has:=λx h=>by
  obtain⟨B,F1,Z,gr,st,rfl,rfl,hd,cr,ptr,G,L,hM,hI⟩:=h;exact dQ 123 (λ_ _=>by kernel_rfl) hM.h0 (Lg _ _) (λW hW=>jr (hM.ag hW).cells x)
 entry:=λ{w p F A} x h=>by
  obtain⟨B,F1,Z,gr,st,rfl,rfl,hd,cr,ptr,G,L,hM,hI⟩:=h;refine dQ 121 (λ_ _=>by kernel_rfl) hM.h0 (ET _ _) (λW hW=>?_);cases hin:bY A x with
  |false=>simpa using l9 (hM.ag hW).cells x hin
  |true=>
   obtain⟨y,rfl⟩:=rC hin;simpa using jT (hM.ag hW).cells y hin
theorem KG(p:Nat)(w:World):Calls prog 56 #[.pointer (some ⟨p,0,none⟩),.int .i64 0] w λe w'=>e=.returned (.tuple #[.iface 122 (.pointer (some ⟨p,0,none⟩)),.int .i64 0])/\w'=w:=by
 go_enter func56,ntmps56
 go_wp2;go_ret2;exact⟨rfl,rfl⟩
theorem JL(kd d:Int)(n m:Nat)(hc:sG kd d=0)(hk:kd=1\/kd=2)(hm:arity kd d=(m:Int))(hn:n<=65536):o9 (xL m) kd d n:=by
 intro w;have hd:2<=m/\m<=16:=by
  have h1:=EK hc;unfold arity at hm;rcases hk with e|e
  ·rw[Δ e] at hm;omega
  ·rw[Γ ω] at hm;have:=h1.2.2.1 e;omega
 have kn:=λW=>Ue n m W hn hd;have km:=KG;have ka:=λW=>PH kd d hc W;rw[hm] at ka;have hty:(xL m).ty=122:=rfl;have hat:∀w' B F Z gr,B.d=m->lX w' B F Z gr (NS.new n) 0->(xL m).at_ w' B.n0 (B.blk F Z gr) (NS.new n)/\Ih w' B.n0 n:=λw' B F Z gr hd h=>⟨⟨B,F,Z,gr,0,rfl,rfl,hd,h⟩,by obtain⟨cr,ptr,G,L,hM,hI⟩:=h;exact⟨_,_,hM.h0,hM.cells⟩⟩
 generalize xL m=K at *;rw[hty];clear hm hc;rcases hk with rfl|rfl
 all_goals
  go_enter func35,ntmps35
  go_wp2_with (first
   |((go_at_call 58;(with_reducible refine(ka _).mono ?_));rintro e w0 ⟨rfl,hu0⟩)
   |((go_at_call 57;(with_reducible refine(kn _).mono ?_));rintro e w1 ⟨B,F,gr,rfl,hS,hu1,hf,hBd⟩)
   |((go_at_call 56;(with_reducible refine(km _ _).mono ?_));rintro e w2 ⟨rfl,rfl⟩)
   | fail)
  go_ret2;have hs:=hu0.size;exact⟨B.n0,B.blk F [] gr,rfl,(hat _ _ _ _ _ hBd hS).1,(hat _ _ _ _ _ hBd hS).2,ae.trans (ae.trans β hu0) hu1,λx hx=>by have:=hf x hx;simp at hs;omega⟩
end Go.Proofs.YtnpdakpagnpanaaGreat
