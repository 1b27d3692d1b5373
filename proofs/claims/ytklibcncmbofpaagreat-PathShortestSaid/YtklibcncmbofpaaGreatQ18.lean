/-
  Lemmas for PathShortest: Dr4, Sd10, Sd11, Arity, DrQ. Conditions: those of each lemma.
-/
import Derived.Test.YtklibcncmbofpaaGreatQ06
import Derived.Test.YtklibcncmbofpaaGreatQ17
set_option linter.all false
set_option maxHeartbeats 8000000
set_option maxRecDepth 10000
namespace Go.Proofs.YtklibcncmbofpaaGreat
open Go Go.RowKit
theorem ru.KR {d:Nat} {A:NS} {L:Nat->List Nat} (h:ru d A L) (hd:2<=d) {g x i:Nat} {k s:Int} (hB:jv A x k s=true) (hg:bK A g=true) (hx:(L g)[i]?=some x) :
  fH (oD (aB A x k s)) d (L g) i/\Below (oD (aB A x k s)) d (L g) i x:=by
 have hxm:=List.mem_of_getElem? hx;have hm:=(h.mem g x hg).1 hxm;have hc:=ry hB hm.1;have hle:=uD hB;rw [π] at hle;have hn:=h.nd g hg;obtain ⟨hi,hxe⟩:=List.getElem?_eq_some_iff.1 hx;have hcy:∀y,y≠x->(aB A x k s).c y=A.c y:=fun y e=>by rw [hc,if_neg e]
 have xV:(aB A x k s).c x=⟨(A.c x).i,k,s⟩:=by rw [hc,if_pos rfl]
 have hne:∀y,y∈(L g).eraseIdx i->y≠x:=fun y hy e=>by
  obtain ⟨q,hq,hqe⟩:=List.mem_eraseIdx_iff_getElem?.1 hy;obtain ⟨g1,e1⟩:=List.getElem?_eq_some_iff.1 hqe;exact hq ((List.getElem_inj hn).1 (e1.trans (e.trans hxe.symm)))
 have hH:=h.hp g hg;refine ⟨(hH.hole (jc A) hd hi).frame (fun a b ha hb hab=>fD.2 ((fM (hcy a (hne a ha)) (hcy b (hne b hb))).2 (fD.1 hab))) hd,fun j j0 hj hp=>?_⟩;have h1:=hH j j0 hj;have h2:(L g).getD (par d j) 0=x:=by rw [hp,φ,hx];rfl
 rw [h2] at h1;have hji:j≠i:=fun e=>by have:=fC hd j0;omega
 have hyx:(L g).getD j 0≠x:=fun e=>by
  have h3:(L g)[j]?=some x:=by rw [←e,φ,ε hj];rfl
  obtain ⟨g1,e1⟩:=List.getElem?_eq_some_iff.1 h3;exact hji ((List.getElem_inj hn).1 (e1.trans hxe.symm))
 exact fD.2 (lY (fD.1 h1) (hcy _ hyx) (by rw [xV];exact hle))
section
variable {w w':World} {B:DB} {F Z:List Nat} {gr cr st:Nat} {A:NS} {ptr:Nat->Option Nat} {G L:Nat->List Nat}
theorem TA (h:nS w B F Z gr A st) (x:Nat) (k s:Int) (hk:-9223372036854775808<=k/\k<=9223372036854775807/\0<=s/\s<=18446744073709551615) (hB:jv A x k s=true) :
  Calls Tryz.prog 135 #[.pointer (some ⟨B.n0,0,none⟩),.int .i64 (x:Int),.agg #[.int .i64 k,.int .u64 s]] w fun e w'=>e=.returned (.bool true)/\Goes (B.blk F Z gr) w w' (fun F'=>∃Z' st',F'=B.blk F Z' gr/\nS w' B F Z' gr (aB A x k s) st'):=by
 obtain ⟨cr,ptr,G,L,hM,hI⟩:=h;have hok:=hM.cells.ok;have hcs:=hok.c1;have hin:=qQ hB;have hin2:=(ai _ _).1 hin;have hhas:=jh hok hin;rw [π] at hhas;obtain ⟨g,hg⟩:∃g:Nat,(A.c x).i=g:=⟨(A.c x).i.toNat,ω⟩;rw [hg] at hhas;have hgN:=(aT _ _).1 hhas;have hxm:x∈L g:=(hI.mem g x hhas).2 ⟨hin2.1,hg⟩;obtain ⟨i,hi,hxi⟩:=List.mem_iff_getElem.1 hxm;have hx:(L g)[i]?=some x:=by rw [ε hi,hxi]
 obtain ⟨U7,hBe⟩:=hI.KR hM.dd.1 hB hhas hx;have oQ:(aB A x k s).hs=A.hs:=lI _ _ _ _;have iC:bK (aB A x k s) g=true:=by have:=hhas;unfold bK at this ⊢;rw [oQ];exact this
 have hin':bX (aB A x k s) (x:Int)=true:=(ai _ _).2 ⟨by rw [fJ];exact hin2.1,by rw [iR hB hin2.1];exact hin2.2⟩;have hgi':((aB A x k s).c x).i=g:=by rw [iR hB hin2.1];exact hg
 have Ho:∀y,y∈L g->bX (aB A x k s) (y:Int)=true:=fun y hy=>by
  have h1:=(hI.mem g y hhas).1 hy;exact (ai _ _).2 ⟨by rw [fJ];exact h1.1,by rw [iR hB hin2.1];omega⟩
 have h16:∀y,y∈L g->y<=65536:=fun y hy=>by have:=((hI.mem g y hhas).1 hy).1;omega
 have PL:=hI.many hhas;obtain ⟨rp,hp, -⟩:=hM.lJ.row g hhas;have QK:=fun W (hW:aa [] w W)=>iP (hM.aA hW).cells x k s hk hB;have hM2:=fun X w2 (hX:aa [] w X) (hC2:aG w2 B.c F (aB A x k s) st) (hu2:aa F X w2)=>(hM.aA hX).dw hu2 hC2 (fun x hx=>Or.inl hx) oQ;have Tt:∀Y,xq Y B F Z gr cr (aB A x k s) st ptr G L->Calls Tryz.prog 148 #[.pointer (some ⟨rp,0,none⟩),.iface 170 (.pointer (some ⟨B.n0,0,none⟩)),.int .i64 (x:Int)] Y fun e w'=>e=.returned (.bool true)/\∃L' hc,mO w' rp (G g) B.d L'/\L'.Perm (L g)/\Hp (oD (aB A x k s)) B.d L'/\(Wn B F (aB A x k s) hc).at_ w'/\aa (G g++[B.c]) Y w':=by
  intro Y LU;obtain ⟨rp',hp',hRY⟩:=LU.lJ.row g iC;rw [hp] at hp';cases hp';have Qt:mO Y rp (G g) B.d (L g):=hRY;refine (Jy (Wn B F (aB A x k s) LU.cells.mem) LU.ord Qt hM.dd ω i x hx (hI.nd g hhas) U7 hBe Ho h16 (LU.clear iC)).mono ?_;rintro e w' ⟨rfl,L',h1,h2,h3,h4,h5⟩;exact ⟨rfl,L',_,h1,h2,h3,h4,h5⟩
 have c0:=hM.h0;have c2:=hM.h2;have cg:=hM.lJ.cell ω hp;have hlt:=hM.lt;have n0F:=hM.bI.1;have grF:=hM.bI.2.1;have HX:=χ (ψ hM (ψ hI (ψ hp (ψ hhas (ψ iC (ψ hxm (ψ hlt (ψ hM2 (ψ hgi' hin')))))))));have n3:∀z,z∈F->z<w.heap.size:=fun z hm=>hlt z (by simp only [DB.blk,ρ,τ];exact Or.inr (Or.inr (Or.inl hm)));have QQ:(g:Int)<(A.hs.length:Int):=ω;clear hM hI hok hcs hin hin2 hhas hgN hxm hi hxi hx U7 hBe oQ iC hin' hgi' Ho h16 PL hp hlt hM2;generalize A.hs.length=m at *
 go_enter Tryz.func135,Tryz.ntmps135
 go_upto_region 1 with (fail)
 refine jy (fun W=>W.cell? ⟨w.heap.size,0,none⟩=some (.int .i64 k)/\W.cell? ⟨w.heap.size,1,none⟩=some (.int .u64 s)/\aa [] w W) ⟨γ,γ,β⟩ ?_;rintro W ⟨x0,x1,hW⟩;have hb:w.heap.size∉F:=fun hm=>by have:=n3 _ hm;omega
 have e0:∀X,aa F W X->X.cell? ⟨w.heap.size,0,none⟩=some (.int .i64 k):=fun X h=>h.kept x0 hb;have e1:∀X,aa F W X->X.cell? ⟨w.heap.size,1,none⟩=some (.int .u64 s):=fun X h=>h.kept x1 hb;have e2:∀X,aa F W X->X.cell? ⟨B.n0,0,none⟩=some (.pointer (some ⟨B.c,0,none⟩)):=fun X h=>h.kept (hW.was c0) n0F;have HW:=χ (ψ hW (ψ c2 cg))
 have Ig:∀X (hX:aa [] W X),Calls Tryz.prog 147 #[.pointer (some ⟨B.c,0,none⟩),.int .i64 (x:Int),.agg #[.int .i64 k,.int .u64 s]] X fun e w2=>e=.returned (.bool true)/\xq w2 B F Z gr cr (aB A x k s) st ptr G L/\aa F X w2:=fun X hX=>(QK X (hW.trans hX)).mono (fun e w2 h=>⟨h.1,HX.out.2.2.2.2.2.2.2.1 X w2 (hW.trans hX) h.2.1 h.2.2,h.2.2⟩);clear QK x0 x1 hW c0 c2 cg
 go_region_held3 (aa F W) (exact ν)
  (first
   | ((go_at_call 147;(with_reducible refine (Ig _ ν).mono ?_));rintro e w2 ⟨rfl,hM2,hu2⟩;(have hv2:aa F W w2:=aa.trans ν hu2)))
 obtain ⟨hM,hI,hp,hhas,iC,hxm,hlt,hM2',hgi',hin'⟩:=HX.out;have kh:=eH hM2.cells x hin';rw [hgi'] at kh;have q0:=hM2.h0;have jU:=fun w3 (yG:aG w3 B.c F (aB A x k s) st) (hu3:aa F w2 w3)=>hM2.dw hu3 yG (fun x hx=>Or.inl hx) rfl;have hcg3:=fun w3 yG hu3=>(jU w3 yG hu3).lJ.cell (g:=g) (by have:=(aT _ _).1 iC;omega) hp;have hh3:=fun w3 yG hu3=>(jU w3 yG hu3).h2;have kr3:=fun w3 yG hu3=>Tt w3 (jU w3 yG hu3);have hml:(aB A x k s).hs.length=(aB A x k s).hs.length:=rfl;have hgI2:(g:Int)<((aB A x k s).hs.length:Int):=by have:=(aT _ _).1 iC;omega
 clear hM hI hhas iC hxm hlt hM2' hgi' hin' Tt Ig e0 e1 e2 hml hM2;generalize (aB A x k s).hs.length=m2 at *
 go_wp2_with (first
  | ((go_at_call 140;(with_reducible refine (kh).mono ?_));rintro e w3 ⟨rfl,yG,hu3⟩;(have a0:=(jU w3 yG hu3).h0);(have a2:=hh3 w3 yG hu3);(have ag:=hcg3 w3 yG hu3);(have kr4:=kr3 w3 yG hu3))
  | ((go_at_call 148;(with_reducible refine (kr4).mono ?_));rintro e w4 ⟨rfl,L',hc,hR4,hp4,hH4,hO4,iB⟩)
  | fail)
 go_ret;obtain ⟨hM,hI,hp,hhas,iC,hxm,hlt, -, -, -⟩:=HX.out;have hM3':=jU w3 yG hu3;obtain ⟨st',sH⟩:=hM3'.Ad iC hp iB hR4 (fun z hz=>Or.inl hz) hO4;have Ua:=hI.low hM.dd.1 hB hhas hxm hp4 hH4;have hgz:∀z,z∈G g++[B.c]->z∈F++Z:=fun z hz=>by
  rcases τ.1 hz with e|e
  ·exact τ.2 (Or.inr (hM.lJ.yK g hhas z e))
  ·simp at e;rw [e];exact τ.2 (Or.inl hM.cells.mem)
 have hbl:∀z,z∈F++Z->z∈B.blk F Z gr:=fun z hz=>by
  simp only [DB.blk,ρ,τ] at hz ⊢;exact Or.inr (Or.inr hz)
 refine ⟨rfl,B.blk F (Z++G g) gr,⟨Z++G g,st',rfl,cr,ptr,_,_,sH,Ua⟩,(((HW.out.1.mono σ).trans (hv2.mono (fun z hz=>hbl z (τ.2 (Or.inl hz))))).trans (hu3.mono (fun z hz=>hbl z (τ.2 (Or.inl hz))))).trans (iB.mono (fun z hz=>hbl z (hgz z hz))),fun z hz=>Or.inl ?_⟩;simp only [DB.blk,ρ,τ] at hz ⊢;rcases hz with h|h|h|h|h
 ·exact Or.inl h
 ·exact Or.inr (Or.inl h)
 ·exact Or.inr (Or.inr (Or.inl h))
 ·exact Or.inr (Or.inr (Or.inr h))
 ·exact Or.inr (Or.inr (Or.inr (hM.lJ.yK g hhas z h)))
def RemR (B:DB) (F Z:List Nat) (gr cr:Nat) (A:NS) (st:Nat) (ptr:Nat->Option Nat) (G L:Nat->List Nat) (g rp x:Nat) (w2:World):Prop:=
 xq w2 B F Z gr cr A st ptr G L/\∀Y,aa [] w2 Y->Calls Tryz.prog 150 #[.pointer (some ⟨rp,0,none⟩),.iface 170 (.pointer (some ⟨B.n0,0,none⟩)),.int .i64 (x:Int)] Y fun e w'=>e=.returned (.bool true)/\∃L' hc,mO w' rp (G g) B.d L'/\(x::L').Perm (L g)/\Hp (oD A) B.d L'/\(Wn B F A hc).at_ w'/\aa (G g++[B.c]) Y w'/\
  ∀V,aa [] w' V->Calls Tryz.prog 151 #[.pointer (some ⟨B.c,0,none⟩),.int .i64 (x:Int)] V fun e w''=>e=.returned (.bool true)/\aa F V w''/\∃st',aG w'' B.c F (bA A x) st'
theorem Gv (h:nS w B F Z gr A st) (x:Nat) (hin:bX A (x:Int)=true) :
  Calls Tryz.prog 136 #[.pointer (some ⟨B.n0,0,none⟩),.int .i64 (x:Int)] w fun e w'=>e=.returned (.bool true)/\Goes (B.blk F Z gr) w w' (fun F'=>∃Z' st',F'=B.blk F Z' gr/\nS w' B F Z' gr (bA A x) st'):=by
 obtain ⟨cr,ptr,G,L,hM,hI⟩:=h;have hok:=hM.cells.ok;have hcs:=hok.c1;have hin2:=(ai _ _).1 hin;have hhas:=jh hok hin;rw [π] at hhas;obtain ⟨g,hg⟩:∃g:Nat,(A.c x).i=g:=⟨(A.c x).i.toNat,ω⟩;rw [hg] at hhas;have hgN:=(aT _ _).1 hhas;have hxm:x∈L g:=(hI.mem g x hhas).2 ⟨hin2.1,hg⟩;have PL:=hI.many hhas;obtain ⟨rp,hp, -⟩:=hM.lJ.row g hhas;have kh:∀W,aa [] w W->Calls Tryz.prog 140 #[.pointer (some ⟨B.c,0,none⟩),.int .i64 (x:Int)] W fun e w2=>e=.returned (.tuple #[.int .i64 (g:Int),.bool true])/\aa F W w2/\RemR B F Z gr cr A st ptr G L g rp x w2:=fun W hW=>by
  have k:=eH (hM.aA hW).cells x hin;rw [hg] at k;refine k.mono ?_;rintro e w2 ⟨rfl,hC2,hu2⟩;have hM2:=(hM.aA hW).dw hu2 hC2 (fun x hx=>Or.inl hx) rfl;refine ⟨rfl,hu2,hM2,fun Y hY=>?_⟩;have LU:=hM2.aA hY;obtain ⟨rp',hp',hRY⟩:=LU.lJ.row g hhas;rw [hp] at hp';cases hp';have Qt:mO Y rp (G g) B.d (L g):=hRY;refine (Ij (Wn B F A LU.cells.mem) LU.ord Qt hM.dd ω x hxm (hI.nd g hhas) (hI.hp g hhas) (fun y hy=>(hI.len hhas hy).2.1) (fun y hy=>by have:=(hI.len hhas hy).1;omega) (LU.clear hhas)).mono ?_;rintro e w' ⟨rfl,L',h1,h2,h3,h4,h5⟩;refine ⟨rfl,L',_,h1,h2,h3,h4,h5,fun V hV=>?_⟩
  obtain ⟨-, -,st',hC⟩:=h4;refine (iA (hC.aA hV) x hin).mono ?_;rintro e w'' ⟨rfl,hC',hu'⟩;exact ⟨rfl,hu',st',hC'⟩
 have c0:=hM.h0;have c2:=hM.h2;have cg:=hM.lJ.cell ω hp;have hlt:=hM.lt;have HX:=χ (ψ hM (ψ hI (ψ hp (ψ hhas (ψ hxm hlt)))));have n1:B.n0∉F++Z:=fun hm=>by rcases τ.1 hm with e|e;exact hM.bI.1 e;exact (hM.lu _ e).2 rfl
 have n2:gr∉F++Z:=fun hm=>by rcases τ.1 hm with e|e;exact hM.bI.2.1 e;exact hM.lJ.TL e
 have QQ:(g:Int)<(A.hs.length:Int):=ω;have hgz:∀z,z∈G g++[B.c]->z∈F++Z:=fun z hz=>by
  rcases τ.1 hz with e|e
  ·exact τ.2 (Or.inr (hM.lJ.yK g hhas z e))
  ·simp at e;rw [e];exact τ.2 (Or.inl hM.cells.mem)
 clear hM hI hok hcs hin2 hhas hgN hxm PL hp hlt;generalize A.hs.length=m at *
 go_enter Tryz.func136,Tryz.ntmps136
 go_upto_region 2 with (first
  | ((go_at_call 140;(with_reducible refine (kh _ β).mono ?_));rintro e w2 ⟨rfl,hu2,hM2,XT⟩)
  | fail)
 have U5:aa (F++Z) w w2:=hu2.mono (fun z hz=>τ.2 (Or.inl hz));have e2:∀X,aa (F++Z) w2 X->X.cell? ⟨B.n0,0,none⟩=some (.pointer (some ⟨B.c,0,none⟩)):=fun X h=>(U5.trans h).kept c0 n1;have e3:∀X,aa (F++Z) w2 X->X.cell? ⟨B.n0,2,none⟩=some (.slice (some ⟨gr,0,none⟩) m cr):=fun X h=>(U5.trans h).kept c2 n1;have e4:∀X,aa (F++Z) w2 X->X.cell? ⟨gr,g,none⟩=some (.pointer (some ⟨rp,0,none⟩)):=fun X h=>(U5.trans h).kept cg n2;clear c0 c2 cg kh hu2;have a2:=e2 w2 (aa.refl _ _);have a3:=e3 w2 (aa.refl _ _);have a4:=e4 w2 (aa.refl _ _)
 go_wp2_with (first
   | ((go_at_call 150;(with_reducible refine (XT _ ν).mono ?_));rintro e w3 ⟨rfl,L',hc,hR3,hp3,hH3,hO3,hu3,Ri⟩;(have hv3:aa (F++Z) w2 w3:=aa.trans ν (hu3.mono hgz));(have b2:=e2 w3 hv3);(have b3:=e3 w3 hv3);(have b4:=e4 w3 hv3))
   | ((go_at_call 151;(with_reducible refine (Ri _ ν).mono ?_));rintro e w4 ⟨rfl,iB,WQ,P8⟩;(have hv4:aa (F++Z) w2 w4:=aa.trans hv3 (iB.mono (fun z hz=>τ.2 (Or.inl hz)))))
   | fail)
 obtain ⟨hM,hI,hp,hhas,hxm,hlt⟩:=HX.out;have XN:aa (G g++[B.c]) w2 w3:=aa.trans ν hu3;have UT:aa F w3 w4:=aa.trans ν iB;obtain ⟨st',jU⟩:=hM2.Ad hhas hp XN hR3 (fun z hz=>Or.inl hz) hO3;have sH:=jU.dw UT P8 (fun x hx=>Or.inl hx) (ji _ _);have Ua:=hI.drop hM.dd.1 hhas hxm hp3 hH3;go_ret;refine ⟨rfl,B.blk F (Z++G g) gr,⟨Z++G g,WQ,rfl,cr,ptr,_,_,sH,Ua⟩,(U5.trans hv4).mono (fun z hz=>?_),fun z hz=>Or.inl ?_⟩
 ·simp only [DB.blk,ρ,τ] at hz ⊢;exact Or.inr (Or.inr hz)
 ·simp only [DB.blk,ρ,τ] at hz ⊢;rcases hz with h|h|h|h|h
  ·exact Or.inl h
  ·exact Or.inr (Or.inl h)
  ·exact Or.inr (Or.inr (Or.inl h))
  ·exact Or.inr (Or.inr (Or.inr h))
  ·exact Or.inr (Or.inr (Or.inr (hM.lJ.yK g hhas z h)))
theorem BH (h:nS w B F Z gr A st) (g m:Nat) (hm:dW A g=some m) :
  Calls Tryz.prog 138 #[.pointer (some ⟨B.n0,0,none⟩),.int .i64 (g:Int)] w fun e w'=>e=.returned (.tuple #[.int .i64 (m:Int),.bool true])/\Goes (B.blk F Z gr) w w' (fun F'=>∃Z' st',F'=B.blk F Z' gr/\nS w' B F Z' gr (bA A m) st'):=by
 have hin:=(lK hm).2.2.2;have hok:A.Ok:=by obtain ⟨cr,ptr,G,L,hM,hI⟩:=h;exact hM.cells.ok
 have hhas:bK A g=true:=by
  have:=jh hok hin;rw [π,(lK hm).2.2.1] at this;exact this
 have km:=Gt h g hhas;rw [hm,show pW (some m)=(m:Int) from rfl,show (some m).isSome=true from rfl] at km;have kd:=Gv h m hin;clear h hm hin hok hhas
 go_enter Tryz.func138,Tryz.ntmps138
 go_wp2_with (first
  | (go_at_call 145;(with_reducible refine (km).mono ?_);rintro e w9 ⟨rfl,aN⟩;rw [aN];clear aN w9)
  | ((go_at_call 136;(with_reducible refine (kd).mono ?_));rintro e w2 ⟨rfl,hg⟩)
  | fail)
 go_ret2;exact ⟨rfl,hg⟩
end
section
variable {w w':World} {B:HB} {F Z:List Nat} {gr cr st:Nat} {A:NS} {ptr:Nat->Option Nat} {G L:Nat->List Nat} {T:List Nat}
theorem HB.Dz (B:HB) {F Z:List Nat} {gr z:Nat} (hz:z∈F):z∈B.blk F Z gr:=by simp only [HB.blk,ρ,τ];exact Or.inr (Or.inr (Or.inr (Or.inl hz)))
theorem HB.Dp (B:HB) {F Z:List Nat} {gr z:Nat} (hz:z∈Z):z∈B.blk F Z gr:=by simp only [HB.blk,ρ,τ];exact Or.inr (Or.inr (Or.inr (Or.inr hz)))
def ReR (B:HB) (F Z:List Nat) (gr cr:Nat) (A:NS) (st:Nat) (ptr:Nat->Option Nat) (G L:Nat->List Nat) (T:List Nat) (g rp gs cap i x:Nat) (w2:World):Prop:=ShM w2 B F Z gr cr A st ptr G L T/\∀Y,aa [] w2 Y->
 Calls Tryz.prog 278 #[.iface 317 (.pointer (some ⟨rp,0,none⟩)),.int .i64 (i:Int)] Y fun e w'=>e=.returned (.iface 3 (.int .i64 (x:Int)))/\ReE Y B F A rp gs cap (L g) T x w'/\
  ∀V,aa [] w' V->Calls Tryz.prog 151 #[.pointer (some ⟨B.c,0,none⟩),.int .i64 (x:Int)] V fun e w''=>e=.returned (.bool true)/\aa F V w''/\∃st',aG w'' B.c F (bA A x) st'
theorem Dy (h:ShAt w B F Z gr A st) (x:Nat) (hin:bX A (x:Int)=true) :
  Calls Tryz.prog 271 #[.pointer (some ⟨B.n0,0,none⟩),.int .i64 (x:Int)] w fun e w'=>e=.returned (.bool true)/\Goes (B.blk F Z gr) w w' (fun F'=>∃Z' st',F'=B.blk F Z' gr/\ShAt w' B F Z' gr (bA A x) st'):=by
 obtain ⟨cr,ptr,G,L,T,hM,hI⟩:=h;have hok:=hM.cells.ok;have hcs:=hok.c1;have hin2:=(ai _ _).1 hin;have hhas:=jh hok hin;rw [π] at hhas;obtain ⟨g,hg⟩:∃g:Nat,(A.c x).i=g:=⟨(A.c x).i.toNat,ω⟩;rw [hg] at hhas;have hgN:=(aT _ _).1 hhas;have hxm:x∈L g:=(hI.di.mem g x hhas).2 ⟨hin2.1,hg⟩;obtain ⟨i,hi,hxi⟩:=List.mem_iff_getElem.1 hxm;have hx:(L g)[i]?=some x:=by rw [ε hi,hxi]
 have hdom:∀y,y∈L g->bX A (y:Int)=true/\y<T.length:=fun y hy=>⟨(hI.di.len hhas hy).2.1,by rw [hM.tl];exact (hI.di.len hhas hy).1⟩
 have hTx:T.getD x 0=i:=hI.Be g hhas i x hx;have Ju:x<T.length:=by rw [hM.tl];exact hin2.1
 obtain ⟨rp,v,hp,Cv,KQ⟩:=hM.pile hhas hdom (hI.di.nd g hhas) (hI.Be g hhas);obtain ⟨gs,cap,hv, -⟩:=KQ.full ω;have vR:G g=[rp,gs]:=by rw [Cv,hv];rfl
 have kh:∀W,aa [] w W->Calls Tryz.prog 140 #[.pointer (some ⟨B.c,0,none⟩),.int .i64 (x:Int)] W fun e w2=>e=.returned (.tuple #[.int .i64 (g:Int),.bool true])/\aa F W w2/\ReR B F Z gr cr A st ptr G L T g rp gs cap i x w2:=fun W hW=>by
  have k:=eH (hM.aA hW).cells x hin;rw [hg] at k;refine k.mono ?_;rintro e w2 ⟨rfl,hC2,hu2⟩;have hM2:=(hM.aA hW).dw hu2 hC2 (fun x hx=>Or.inl hx) rfl rfl;refine ⟨rfl,hu2,hM2,fun Y hY=>?_⟩;have hPY:=(KQ.aA hW);obtain ⟨rp',v',hp',X8,hP⟩:=(hM2.aA hY).pile hhas hdom (hI.di.nd g hhas) (hI.Be g hhas);rw [hp] at hp';cases hp';obtain ⟨gs',cap',hv',hPM⟩:=hP.full ω;have eg:gs'=gs:=by
   rw [vR,hv'] at X8;have:([rp,gs]:List Nat)=[rp,gs']:=X8;simp at this;exact this.symm
  subst eg;have hc:cap'=cap:=by
   have r1:=hPM.h1;have Us:w.cell? ⟨rp,1,none⟩=some (.slice (some ⟨gs',0,none⟩) (L g).length cap):=by
    rw [←hv];exact KQ.hd.cellAt 1 ω rfl
   have Rf:rp∉F:=KQ.s3.1;have r2:=((hu2.kept (hW.was Us) Rf));have r3:=hY.was r2;rw [r1] at r3;simpa using r3
  subst hc;refine (G8 hPM i x hx (hI.di.hp g hhas)).mono ?_;rintro e w' ⟨rfl,hR⟩;refine ⟨rfl,hR,fun V hV=>?_⟩;obtain ⟨L',T',hE, -⟩:=hR;obtain ⟨st',hC⟩:=hE.Ml;refine (iA (hC.aA hV) x hin).mono ?_;rintro e w'' ⟨rfl,hC',hu'⟩;exact ⟨rfl,hu',st',hC'⟩
 have c0:=hM.h0;have c2:=hM.h1;have c3:=hM.h2;have cg:=hM.lJ.cell ω hp;have ct:=hM.Fe x Ju;rw [hTx] at ct;have hlt:=hM.lt;have n1:B.n0∉F:=hM.bI.1;have n2:gr∉F:=hM.bI.2.1;have n3:B.ga∉F:=hM.bI.2.2;have n4:B.n0∉[rp,gs,B.ga,B.c]:=by
  have h1:=KQ.s1;have h2:=KQ.sg gs (by rw [hv];rfl);simp;exact ⟨fun e=>h1.2 e.symm,fun e=>h2.2.2.1 e.symm,fun e=>hM.sep.2.1 e.symm,fun e=>n1 (by rw [e];exact hM.cells.mem)⟩
 have QQ:(g:Int)<(A.hs.length:Int):=ω;have BK:(x:Int)<(T.length:Int):=ω;have hil:i<=65536:=by have:=KQ.len;omega
 have HX:=χ (ψ hM (ψ hI (ψ hp (ψ hhas (ψ hxm (ψ hlt (ψ vR hin)))))));clear hM hI hok hcs hin hin2 hhas hgN hxm hxi hx hdom hTx Ju hp Cv KQ hv vR hlt hi hg;generalize A.hs.length=m at *;generalize T.length=nt at *
 go_enter Tryz.func271,Tryz.ntmps271
 go_upto_region 4 with (first
  | ((go_at_call 140;(with_reducible refine (kh _ β).mono ?_));rintro e w2 ⟨rfl,hu2,hM2,XT⟩)
  | fail)
 have a0:∀X,aa [] w2 X->X.cell? ⟨B.n0,1,none⟩=some (.slice (some ⟨gr,0,none⟩) m cr):=fun X hX=>hX.was (hu2.kept c2 n1);have a1:∀X,aa [] w2 X->X.cell? ⟨B.n0,2,none⟩=some (.slice (some ⟨B.ga,0,none⟩) nt nt):=fun X hX=>hX.was (hu2.kept c3 n1);have a2:∀X,aa [] w2 X->X.cell? ⟨gr,g,none⟩=some (.pointer (some ⟨rp,0,none⟩)):=fun X hX=>hX.was (hu2.kept cg n2);have a3:∀X,aa [] w2 X->X.cell? ⟨B.ga,x,none⟩=some (.int .i64 (i:Int)):=fun X hX=>hX.was (hu2.kept ct n3);have z0:=hu2.kept c0 n1;clear c0 c2 c3 cg ct kh;have b1:=a0 _ (aa.refl [] w2);have b2:=a1 _ (aa.refl [] w2);have b3:=a2 _ (aa.refl [] w2)
 have b4:=a3 _ (aa.refl [] w2)
 go_region_law
  (first
   | (go_simp;go_at_call 278;(with_reducible refine (XT _ ν).mono ?_);rintro e w3 ⟨rfl,hR,Ri⟩;(have hv3:aa [rp,gs,B.ga,B.c] w2 w3:=by obtain ⟨_,_,_,_,_,_,_,hu⟩:=hR;exact aa.trans ν hu);(have z1:=hv3.kept z0 n4)))
 all_goals
  go_wp2_with (first
   | ((go_at_call 151;(with_reducible refine (Ri _ ν).mono ?_));rintro e w4 ⟨rfl,iB,WQ,P8⟩)
   | fail)
  go_ret;obtain ⟨hM,hI,hp,hhas,hxm,hlt,vR,hin⟩:=HX.out;obtain ⟨L',T',hE,hp3,hH3,hoff,O8, -⟩:=hR;have UT:aa F w3 w4:=aa.trans ν iB;have Rs:∀z,z∈G g->z∈Z:=hM.lJ.yK g hhas
  obtain ⟨st',jU⟩:=hM2.Ad hhas hp hv3 (fun z hz=>by
   simp only [ρ,ς,or_false] at hz;rw [vR];rcases hz with e|e|e|e
   ·exact Or.inl (by simp [e])
   ·exact Or.inl (by simp [e])
   ·exact Or.inr (Or.inl e)
   ·exact Or.inr (Or.inr e)) (by rw [vR];simp) hE O8 (fun k hk=>by cases hk;rw [vR];simp)
  have sH:=jU.dw UT P8 (fun x hx=>Or.inl hx) (ji _ _) (fQ _ _)
  have Ua:=hI.turn (hI.di.drop ω hhas hxm hp3 hH3) (fun q=>by unfold bK;rw [ji]) hhas hE.Be (fun y _ h2=>hoff y h2) (fun q y e hq hy=>by
   have h2:=hI.di.apart e hq hhas hy
   exact ⟨fun hm=>h2 (hp3.mem_iff.1 (List.mem_cons_of_mem _ hm)),h2⟩)
  refine ⟨rfl,B.blk F (Z++(rp::Option.toList (some gs))) gr,⟨_,WQ,rfl,cr,ptr,_,_,T',sH,Ua⟩,((hu2.mono (fun z hz=>B.Dz hz)).trans (hv3.mono (fun z hz=>?_))).trans (UT.mono (fun z hz=>B.Dz hz)),fun z hz=>Or.inl ?_⟩
  ·simp only [ρ,ς,or_false] at hz;rcases hz with e|e|e|e
   ·exact B.Dp (Rs z (by rw [vR];simp [e]))
   ·exact B.Dp (Rs z (by rw [vR];simp [e]))
   ·simp [HB.blk,e]
   ·exact B.Dz (by rw [e];exact hM.cells.mem)
  ·simp only [HB.blk,ρ,τ,Option.toList_some,ς,or_false] at hz;rcases hz with h|h|h|h|h|h|h
   ·simp [HB.blk,h]
   ·simp [HB.blk,h]
   ·simp [HB.blk,h]
   ·exact B.Dz h
   ·exact B.Dp h
   ·exact B.Dp (Rs z (by rw [vR];simp [h]))
   ·exact B.Dp (Rs z (by rw [vR];simp [h]))
theorem zt (h:ShAt w B F Z gr A st) (g:Int) (m:Nat) (hm:dW A g=some m) :
  Calls Tryz.prog 272 #[.pointer (some ⟨B.n0,0,none⟩),.int .i64 g] w fun e w'=>e=.returned (.tuple #[.int .i64 (m:Int),.bool true])/\Goes (B.blk F Z gr) w w' (fun F'=>∃Z' st',F'=B.blk F Z' gr/\ShAt w' B F Z' gr (bA A m) st'):=by
 obtain ⟨q,rfl,hq,hin⟩:∃q:Nat,g=q/\bK A q=true/\bX A (m:Int)=true:=by
  obtain ⟨cr,ptr,G,L,T,hM,hI⟩:=h;obtain ⟨q,rfl,hq,hmq⟩:=hI.di.Ut hm hM.cells.ok;exact ⟨q,rfl,hq,(hI.di.len hq hmq).2.1⟩
 have km:=Cr h q hq;rw [hm] at km;have kd:=fun W (hW:aa [] w W)=>Dy (h.aA hW) m hin;clear h hm hin hq;have km':Calls Tryz.prog 276 #[.pointer (some ⟨B.n0,0,none⟩),.int .i64 (q:Int)] w fun e w'=>e=.returned (.tuple #[.int .i64 (m:Int),.bool true])/\w'=w:=km;clear km
 go_enter Tryz.func272,Tryz.ntmps272
 go_wp2_with (first
  | (go_at_call 276;(with_reducible refine (km').mono ?_);rintro e w9 ⟨rfl,aN⟩;rw [aN];clear aN w9)
  | ((go_at_call 271;(with_reducible refine (kd _ (aa.refl _ _)).mono ?_));rintro e w2 ⟨rfl,hG⟩)
  | fail)
 go_ret2;exact ⟨rfl,hG⟩
end
section
variable {w w':World} {B:HB} {F Z:List Nat} {gr cr st:Nat} {A:NS} {ptr:Nat->Option Nat} {G L:Nat->List Nat} {T:List Nat}
def FiR (B:HB) (F Z:List Nat) (gr cr:Nat) (A:NS) (st:Nat) (ptr:Nat->Option Nat) (G L:Nat->List Nat) (T:List Nat) (g rp gs cap i:Nat) (w2:World):Prop:=ShM w2 B F Z gr cr A st ptr G L T/\∀Y,aa [] w2 Y->
 Calls Tryz.prog 277 #[.iface 317 (.pointer (some ⟨rp,0,none⟩)),.int .i64 (i:Int)] Y fun e w'=>e=.returned (.tuple #[])/\∃L' T',mD Y B F A rp gs cap [] (L g) T w' L' T'/\Hp (oD A) 2 L'
theorem Ni (h:ShAt w B F Z gr A st) (x:Nat) (k s:Int) (hk:-9223372036854775808<=k/\k<=9223372036854775807/\0<=s/\s<=18446744073709551615) (hB:jv A x k s=true) :
  Calls Tryz.prog 270 #[.pointer (some ⟨B.n0,0,none⟩),.int .i64 (x:Int),.agg #[.int .i64 k,.int .u64 s]] w fun e w'=>e=.returned (.bool true)/\Goes (B.blk F Z gr) w w' (fun F'=>∃Z' st',F'=B.blk F Z' gr/\ShAt w' B F Z' gr (aB A x k s) st'):=by
 obtain ⟨cr,ptr,G,L,T,hM,hI⟩:=h;have hok:=hM.cells.ok;have hcs:=hok.c1;have hin:=qQ hB;have hin2:=(ai _ _).1 hin;have hhas:=jh hok hin;rw [π] at hhas;obtain ⟨g,hg⟩:∃g:Nat,(A.c x).i=g:=⟨(A.c x).i.toNat,ω⟩;rw [hg] at hhas;have hgN:=(aT _ _).1 hhas;have hxm:x∈L g:=(hI.di.mem g x hhas).2 ⟨hin2.1,hg⟩;obtain ⟨i,hi,hxi⟩:=List.mem_iff_getElem.1 hxm;have hx:(L g)[i]?=some x:=by rw [ε hi,hxi]
 obtain ⟨U7,hBe⟩:=hI.di.KR ω hB hhas hx;have oQ:(aB A x k s).hs=A.hs:=lI _ _ _ _;have Kl:(aB A x k s).cs.length=A.cs.length:=fJ _ _ _ _;have iC:bK (aB A x k s) g=true:=by have:=hhas;unfold bK at this ⊢;rw [oQ];exact this
 have hin':bX (aB A x k s) (x:Int)=true:=(ai _ _).2 ⟨by rw [fJ];exact hin2.1,by rw [iR hB hin2.1];exact hin2.2⟩;have hgi':((aB A x k s).c x).i=g:=by rw [iR hB hin2.1];exact hg
 have hdom:∀y,y∈L g->bX A (y:Int)=true/\y<T.length:=fun y hy=>⟨(hI.di.len hhas hy).2.1,by rw [hM.tl];exact (hI.di.len hhas hy).1⟩
 have Ho:∀y,y∈L g->bX (aB A x k s) (y:Int)=true/\y<T.length:=fun y hy=>by
  have h1:=(hI.di.mem g y hhas).1 hy;exact ⟨(ai _ _).2 ⟨by rw [fJ];exact h1.1,by rw [iR hB hin2.1];omega⟩,by rw [hM.tl];exact h1.1⟩
 have hTx:T.getD x 0=i:=hI.Be g hhas i x hx;have Ju:x<T.length:=by rw [hM.tl];exact hin2.1
 obtain ⟨rp,v,hp,Cv,KQ⟩:=hM.pile hhas hdom (hI.di.nd g hhas) (hI.Be g hhas);obtain ⟨gs,cap,hv, -⟩:=KQ.full ω;have vR:G g=[rp,gs]:=by rw [Cv,hv];rfl
 have Us:w.cell? ⟨rp,1,none⟩=some (.slice (some ⟨gs,0,none⟩) (L g).length cap):=by rw [←hv];exact KQ.hd.cellAt 1 ω rfl
 have Rf:rp∉F:=KQ.s3.1;have QK:∀W (hW:aa [] w W),Calls Tryz.prog 147 #[.pointer (some ⟨B.c,0,none⟩),.int .i64 (x:Int),.agg #[.int .i64 k,.int .u64 s]] W fun e w2=>e=.returned (.bool true)/\ShM w2 B F Z gr cr (aB A x k s) st ptr G L T/\aa F W w2:=fun W hW=>(iP (hM.aA hW).cells x k s hk hB).mono (fun e w2 h=>⟨h.1,(hM.aA hW).dw h.2.2 h.2.1 (fun x hx=>Or.inl hx) oQ Kl,h.2.2⟩)
 have Xb:∀w2,ShM w2 B F Z gr cr (aB A x k s) st ptr G L T->aa F w w2->Calls Tryz.prog 140 #[.pointer (some ⟨B.c,0,none⟩),.int .i64 (x:Int)] w2 fun e w3=>e=.returned (.tuple #[.int .i64 (g:Int),.bool true])/\aa F w2 w3/\FiR B F Z gr cr (aB A x k s) st ptr G L T g rp gs cap i w3:=fun w2 hM2 Qx=>by
  have kk:=eH hM2.cells x hin';rw [hgi'] at kk;refine kk.mono ?_;rintro e w3 ⟨rfl,yG,hu3⟩;have jU:=hM2.dw hu3 yG (fun x hx=>Or.inl hx) rfl rfl;refine ⟨rfl,hu3,jU,fun Y hY=>?_⟩;obtain ⟨rp',v',hp',X8,hP⟩:=(jU.aA hY).pile iC Ho (hI.di.nd g hhas) (hI.Be g hhas);rw [hp] at hp';cases hp';obtain ⟨gs',cap',hv',hPM⟩:=hP.full ω;have r3:=hY.was (hu3.kept (Qx.kept Us Rf) Rf);have r1:=hPM.h1;rw [r1] at r3;simp at r3;obtain ⟨rfl,rfl⟩:=r3;exact SQ hPM i U7
 have c0:=hM.h0;have c2:=hM.h1;have c3:=hM.h2;have cg:=hM.lJ.cell ω hp;have ct:=hM.Fe x Ju;rw [hTx] at ct;have hlt:=hM.lt;have n1:B.n0∉F:=hM.bI.1;have n2:gr∉F:=hM.bI.2.1;have n3:B.ga∉F:=hM.bI.2.2;have n5:∀z,z∈F->z<w.heap.size:=fun z hm=>hlt z (B.Dz hm);have QQ:(g:Int)<(A.hs.length:Int):=ω;have BK:(x:Int)<(T.length:Int):=ω;have hil:i<=65536:=by have:=KQ.len;omega
 have HX:=χ (ψ hM (ψ hI (ψ hp (ψ hhas (ψ iC (ψ hxm (ψ hlt (ψ vR (ψ hB oQ)))))))));clear hM hI hok hcs hin hin2 hhas hgN hxm hxi hx hdom hTx Ju hp Cv KQ hv vR hlt hi hg U7 hBe oQ Kl iC hin' hgi' Ho Us Rf;generalize A.hs.length=m at *;generalize T.length=nt at *
 go_enter Tryz.func270,Tryz.ntmps270
 go_upto_region 1 with (fail)
 refine jy (fun W=>W.cell? ⟨w.heap.size,0,none⟩=some (.int .i64 k)/\W.cell? ⟨w.heap.size,1,none⟩=some (.int .u64 s)/\aa [] w W) ⟨γ,γ,β⟩ ?_;rintro W ⟨x0,x1,hW⟩;have hb:w.heap.size∉F:=fun hm=>by have:=n5 _ hm;omega
 have e0:∀X,aa F W X->X.cell? ⟨w.heap.size,0,none⟩=some (.int .i64 k):=fun X h=>h.kept x0 hb;have e1:∀X,aa F W X->X.cell? ⟨w.heap.size,1,none⟩=some (.int .u64 s):=fun X h=>h.kept x1 hb;have e2:∀X,aa F W X->X.cell? ⟨B.n0,0,none⟩=some (.pointer (some ⟨B.c,0,none⟩)):=fun X h=>h.kept (hW.was c0) n1;have HW:=χ (ψ hW (ψ c2 (ψ c3 (ψ cg ct))));have Ig:=fun X (hX:aa [] W X)=>QK X (hW.trans hX);clear QK x0 x1 hW c0 c2 c3 cg ct
 go_region_held3 (aa F W) (exact ν)
  (first
   | ((go_at_call 147;(with_reducible refine (Ig _ ν).mono ?_));rintro e w2 ⟨rfl,hM2,hu2⟩;(have hv2:aa F W w2:=aa.trans ν hu2)))
 obtain ⟨hW,c2,c3,cg,ct⟩:=HW.out;have Qx:aa F w w2:=(hW.mono σ).trans hv2;have kh2:=Xb w2 hM2 Qx;have q0:=hM2.h0;have p2:=Qx.kept c2 n1;have p3:=Qx.kept c3 n1;have p4:=Qx.kept cg n2;have p5:=Qx.kept ct n3;have HV:=χ (ψ Qx hM2);clear e0 e1 e2 Ig Xb hW c2 c3 cg ct Qx hM2 hv2 hu2
 go_upto_region 4 with (first
  | ((go_at_call 140;(with_reducible refine (kh2).mono ?_));rintro e w3 ⟨rfl,hu3,jU,kfix⟩)
  | fail)
 have a0:∀X,aa [] w3 X->X.cell? ⟨B.n0,1,none⟩=some (.slice (some ⟨gr,0,none⟩) m cr):=fun X hX=>hX.was (hu3.kept p2 n1);have a1:∀X,aa [] w3 X->X.cell? ⟨B.n0,2,none⟩=some (.slice (some ⟨B.ga,0,none⟩) nt nt):=fun X hX=>hX.was (hu3.kept p3 n1);have a2:∀X,aa [] w3 X->X.cell? ⟨gr,g,none⟩=some (.pointer (some ⟨rp,0,none⟩)):=fun X hX=>hX.was (hu3.kept p4 n2);have a3:∀X,aa [] w3 X->X.cell? ⟨B.ga,x,none⟩=some (.int .i64 (i:Int)):=fun X hX=>hX.was (hu3.kept p5 n3);have b1:=a0 _ (aa.refl [] w3);have b2:=a1 _ (aa.refl [] w3);have b3:=a2 _ (aa.refl [] w3);have b4:=a3 _ (aa.refl [] w3)
 clear p2 p3 p4 p5 q0 kh2
 go_region_law
  (first
   | (go_simp;go_at_call 277;(with_reducible refine (kfix _ ν).mono ?_);rintro e w4 ⟨rfl,L',T',hG4,hH4⟩;(have hv4:aa [gs,B.ga,B.c] w3 w4:=aa.trans ν hG4.upd)))
 all_goals
  go_wp2;go_ret;obtain ⟨hM,hI,hp,hhas,iC,hxm,hlt,vR,hB,oQ⟩:=HX.out;obtain ⟨Qx,hM2⟩:=HV.out;have hpm:=hG4.pi;rw [List.append_nil] at hpm;have Rs:∀z,z∈G g->z∈Z:=hM.lJ.yK g hhas
  obtain ⟨st',sH⟩:=jU.Ad iC hp hv4 (fun z hz=>by
   simp only [ρ,ς,or_false] at hz;rw [vR];rcases hz with e|e|e
   ·exact Or.inl (by simp [e])
   ·exact Or.inr (Or.inl e)
   ·exact Or.inr (Or.inr e)) (by rw [vR];simp) hpm.any hG4.tl (fun k hk=>by cases hk;rw [vR];simp)
  have Ua:=hI.turn (hI.di.low ω hB hhas hxm hG4.perm hH4) (fun q=>by unfold bK;rw [oQ]) hhas hpm.Be (fun y _ h2=>hG4.off y (by rw [List.append_nil];exact h2)) (fun q y e hq hy=>by
   have h2:=hI.di.apart e hq hhas hy
   exact ⟨fun hm=>h2 (hG4.perm.mem_iff.1 hm),h2⟩)
  refine ⟨rfl,B.blk F (Z++(rp::Option.toList (some gs))) gr,⟨_,st',rfl,cr,ptr,_,_,T',sH,Ua⟩,((Qx.mono (fun z hz=>B.Dz hz)).trans (hu3.mono (fun z hz=>B.Dz hz))).trans (hv4.mono (fun z hz=>?_)),fun z hz=>Or.inl ?_⟩
  ·simp only [ρ,ς,or_false] at hz;rcases hz with e|e|e
   ·exact B.Dp (Rs z (by rw [vR];simp [e]))
   ·simp [HB.blk,e]
   ·exact B.Dz (by rw [e];exact hM.cells.mem)
  ·simp only [HB.blk,ρ,τ,Option.toList_some,ς,or_false] at hz;rcases hz with h|h|h|h|h|h|h
   ·simp [HB.blk,h]
   ·simp [HB.blk,h]
   ·simp [HB.blk,h]
   ·exact B.Dz h
   ·exact B.Dp h
   ·exact B.Dp (Rs z (by rw [vR];simp [h]))
   ·exact B.Dp (Rs z (by rw [vR];simp [h]))
end
end Go.Proofs.YtklibcncmbofpaaGreat
namespace Go.Proofs.YtklibcncmbofpaaGreat
open Go.RowKit
def arity (k d:Int):Int:=if k=1 then 2 else d
theorem MK (k d:Int) (hc:wZ k d=0) (w:World) :
  Calls Tryz.prog 92 #[.agg #[.int .i64 k,.int .i64 d]] w fun e w'=>e=.returned (.int .i64 (arity k d))/\aa [] w w':=by
 have kc:=fun W=>tC k d W;rw [hc] at kc;unfold arity;clear hc
 by_cases h1:k=1
 ·rw [if_pos h1];subst h1
  go_enter Tryz.func92,Tryz.ntmps92
  go_wp2_with (first|((go_at_call 50;(with_reducible refine (kc _).mono ?_));rintro e w1 ⟨rfl,hb⟩;obtain ⟨hc,hf⟩:=Xl hb)|fail)
  go_ret;exact ⟨rfl,((aa.refl _ _).alloc _).trans (hb.mono σ)⟩
 ·rw [if_neg h1];have h2:(k == 1)=false:=by simpa using h1
  go_enter Tryz.func92,Tryz.ntmps92
  go_wp2_with (first|((go_at_call 50;(with_reducible refine (kc _).mono ?_));rintro e w1 ⟨rfl,hb⟩;obtain ⟨hc,hf⟩:=Xl hb)|fail)
  go_ret;exact ⟨rfl,((aa.refl _ _).alloc _).trans (hb.mono σ)⟩
end Go.Proofs.YtklibcncmbofpaaGreat
namespace Go.Proofs.YtklibcncmbofpaaGreat
open Go Go.RowKit
theorem Kw (p c:Nat):∀W:World,W.cell? ⟨p,0,none⟩=some (.pointer (some ⟨c,0,none⟩))->(method 429 170 (.pointer (some ⟨p,0,none⟩)) "Has").run Tryz.prog W=.ok (139,.pointer (some ⟨c,0,none⟩)) W:=(by intro W h;unfold method;have hm:∃m,(Array.find? (fun x=>x.name == "Has") Tryz.t170.methods)=some m/\m.path.toList=[⟨207,0,true⟩]/\m.func=some (139,true)/\m.path.isEmpty=false:=⟨(Array.find? (fun x=>x.name == "Has") Tryz.t170.methods).get!,by kernel_rfl,by kernel_rfl,by kernel_rfl,by kernel_rfl⟩;obtain ⟨m,h1,h2,h3,h4⟩:=hm;go_simp;simp only [follow,Place.get];go_simp;(try unfold receiverAt);(try simp only [Place.get]);(try go_simp))
theorem EA (p c:Nat):∀W:World,W.cell? ⟨p,0,none⟩=some (.pointer (some ⟨c,0,none⟩))->(method 429 170 (.pointer (some ⟨p,0,none⟩)) "Entry").run Tryz.prog W=.ok (137,.pointer (some ⟨c,0,none⟩)) W:=(by intro W h;unfold method;have hm:∃m,(Array.find? (fun x=>x.name == "Entry") Tryz.t170.methods)=some m/\m.path.toList=[⟨207,0,true⟩]/\m.func=some (137,true)/\m.path.isEmpty=false:=⟨(Array.find? (fun x=>x.name == "Entry") Tryz.t170.methods).get!,by kernel_rfl,by kernel_rfl,by kernel_rfl,by kernel_rfl⟩;obtain ⟨m,h1,h2,h3,h4⟩:=hm;go_simp;simp only [follow,Place.get];go_simp;(try unfold receiverAt);(try simp only [Place.get]);(try go_simp))
theorem UU (p:Nat):∀W:World,(method 429 170 (.pointer (some ⟨p,0,none⟩)) "Make").run Tryz.prog W=.ok (143,.pointer (some ⟨p,0,none⟩)) W:=fun _=>by kernel_rfl
theorem Om (p:Nat):∀W:World,(method 429 170 (.pointer (some ⟨p,0,none⟩)) "Insert").run Tryz.prog W=.ok (141,.pointer (some ⟨p,0,none⟩)) W:=fun _=>by kernel_rfl
theorem YP (p:Nat):∀W:World,(method 429 170 (.pointer (some ⟨p,0,none⟩)) "Min").run Tryz.prog W=.ok (145,.pointer (some ⟨p,0,none⟩)) W:=fun _=>by kernel_rfl
theorem JA (p:Nat):∀W:World,(method 429 170 (.pointer (some ⟨p,0,none⟩)) "Extract").run Tryz.prog W=.ok (138,.pointer (some ⟨p,0,none⟩)) W:=fun _=>by kernel_rfl
theorem FM (p:Nat):∀W:World,(method 429 170 (.pointer (some ⟨p,0,none⟩)) "Decrease").run Tryz.prog W=.ok (135,.pointer (some ⟨p,0,none⟩)) W:=fun _=>by kernel_rfl
def Ye (d:Nat) (w:World) (p:Nat) (F:List Nat) (A:NS):Prop:=∃B F1 Z gr st,p=B.n0/\F=B.blk F1 Z gr/\B.d=d/\nS w B F1 Z gr A st
theorem Ye.of {d:Nat} {B:DB} {F1:List Nat} {gr:Nat} {A:NS} {F:List Nat} {w w':World} (hd:B.d=d) (h:Goes F w w' (fun F'=>∃Z' st',F'=B.blk F1 Z' gr/\nS w' B F1 Z' gr A st')):Goes F w w' (fun F'=>Ye d w' B.n0 F' A):=by
 obtain ⟨F',⟨Z',st',rfl,hA⟩,hu,hf⟩:=h;exact ⟨_,⟨B,F1,Z',gr,st',rfl,rfl,hd,hA⟩,hu,hf⟩
def yY (d:Nat):ig where
 ty:=170
 at_:=Ye d
 upd:=fun h hu hS=>by
  obtain ⟨B,F1,Z,gr,st,rfl,rfl,hd,hL⟩:=h;exact ⟨B,F1,Z,gr,st,rfl,rfl,hd,hL.upd hu hS⟩
 lt:=fun h=>by
  obtain ⟨B,F1,Z,gr,st,rfl,rfl,hd,cr,ptr,G,L,hM,hI⟩:=h;exact hM.lt
 ok:=fun h=>by
  obtain ⟨B,F1,Z,gr,st,rfl,rfl,hd,cr,ptr,G,L,hM,hI⟩:=h;exact hM.cells.ok
 make:=fun {w p F A} h=>by
  obtain ⟨B,F1,Z,gr,st,rfl,rfl,hd,hL⟩:=h;refine aY 143 (fun _ _=>by kernel_rfl) (UU _) (fun W hW=>?_);have mq:=hL.aA hW
  by_cases hl:65536<A.hs.length
  ·have e1:dG A=0:=by unfold dG;rw [if_pos hl]
   have e2:aS A=A:=by unfold aS;rw [if_pos hl]
   rw [e1,e2];refine (Pw mq hl).mono ?_;rintro e w' ⟨rfl,F',⟨F2,rfl,hA⟩,hu,hf⟩;exact ⟨rfl,_,⟨B,F2,Z,gr,st,rfl,rfl,hd,hA⟩,hu,hf⟩
  ·have e1:dG A=A.hs.length:=by unfold dG;rw [if_neg hl]
   rw [e1];refine (O7 mq hl).mono ?_;rintro e w' ⟨rfl,F',⟨F2,Z2,gr2,rfl,hA⟩,hu,hf⟩;exact ⟨rfl,_,⟨B,F2,Z2,gr2,st,rfl,rfl,hd,hA⟩,hu,hf⟩
 insert:=fun {w p F A} g y k s hk hB h=>by
  obtain ⟨B,F1,Z,gr,st,rfl,rfl,hd,hL⟩:=h;refine aY 141 (fun _ _=>by kernel_rfl) (Om _) (fun W hW=>?_);exact (Fu (hL.aA hW) g y k s hk hB).mono (fun e w' h=>⟨h.1,Ye.of hd h.2⟩)
 min:=fun {w p F A} g hB h=>by
  obtain ⟨B,F1,Z,gr,st,rfl,rfl,hd,hL⟩:=h;refine aY 145 (fun _ _=>by kernel_rfl) (YP _) (fun W hW=>?_);refine (Gt (hL.aA hW) g hB).mono ?_;rintro e w' ⟨rfl,rfl⟩;exact ⟨rfl,Goes.stay ⟨B,F1,Z,gr,st,rfl,rfl,hd,hL.aA hW⟩ (aa.refl _ _)⟩
 extract:=fun {w p F A} g m hm h=>by
  obtain ⟨B,F1,Z,gr,st,rfl,rfl,hd,hL⟩:=h;refine aY 138 (fun _ _=>by kernel_rfl) (JA _) (fun W hW=>?_);exact (BH (hL.aA hW) g m hm).mono (fun e w' h=>⟨h.1,Ye.of hd h.2⟩)
 mQ:=fun {w p F A} y k s hk hB h=>by
  obtain ⟨B,F1,Z,gr,st,rfl,rfl,hd,hL⟩:=h;refine aY 135 (fun _ _=>by kernel_rfl) (FM _) (fun W hW=>?_);exact (TA (hL.aA hW) y k s hk hB).mono (fun e w' h=>⟨h.1,Ye.of hd h.2⟩)
 has:=fun x h=>by
  obtain ⟨B,F1,Z,gr,st,rfl,rfl,hd,cr,ptr,G,L,hM,hI⟩:=h;exact iV 139 (fun _ _=>by kernel_rfl) hM.h0 (Kw _ _) (fun W hW=>jK (hM.aA hW).cells x)
 entry:=fun {w p F A} x h=>by
  obtain ⟨B,F1,Z,gr,st,rfl,rfl,hd,cr,ptr,G,L,hM,hI⟩:=h;refine iV 137 (fun _ _=>by kernel_rfl) hM.h0 (EA _ _) (fun W hW=>?_);cases hin:bX A x with
  | false=>simpa using lU (hM.aA hW).cells x hin
  | true=>
   obtain ⟨y,rfl⟩:=qR hin;simpa using kS (hM.aA hW).cells y hin
theorem J9 (p:Nat) (w:World):Calls Tryz.prog 90 #[.pointer (some ⟨p,0,none⟩),.int .i64 0] w fun e w'=>e=.returned (.tuple #[.iface 170 (.pointer (some ⟨p,0,none⟩)),.int .i64 0])/\w'=w:=by
 go_enter Tryz.func90,Tryz.ntmps90
 go_wp2;go_ret2;exact ⟨rfl,rfl⟩
theorem PE (kd d:Int) (n m:Nat) (hc:wZ kd d=0) (hk:kd=1\/kd=2) (hm:arity kd d=(m:Int)) (hn:n<=65536):qo (yY m) kd d n:=by
 intro w;have hd:2<=m/\m<=16:=by
  have h1:=IM hc;unfold arity at hm;rcases hk with e|e
  ·rw [if_pos e] at hm;omega
  ·rw [if_neg ω] at hm;have:=h1.2.2.1 e;omega
 have kn:=fun W=>QG n m W hn hd;have km:=J9;have ka:=fun W=>MK kd d hc W;rw [hm] at ka;have hty:(yY m).ty=170:=rfl;have hat:∀w' B F Z gr,B.d=m->nS w' B F Z gr (NS.new n) 0->(yY m).at_ w' B.n0 (B.blk F Z gr) (NS.new n):=fun w' B F Z gr hd h=>⟨B,F,Z,gr,0,rfl,rfl,hd,h⟩
 generalize yY m=K at *;rw [hty];clear hm hc;rcases hk with rfl|rfl
 all_goals
  go_enter Tryz.func81,Tryz.ntmps81
  go_wp2_with (first
   | ((go_at_call 92;(with_reducible refine (ka _).mono ?_));rintro e w0 ⟨rfl,hu0⟩)
   | ((go_at_call 91;(with_reducible refine (kn _).mono ?_));rintro e w1 ⟨B,F,gr,rfl,hS,hu1,hf,hBd⟩)
   | ((go_at_call 90;(with_reducible refine (km _ _).mono ?_));rintro e w2 ⟨rfl,rfl⟩)
   | fail)
  go_ret2;have hs:=hu0.size;exact ⟨B.n0,B.blk F [] gr,rfl,hat _ _ _ _ _ hBd hS,aa.trans (aa.trans β hu0) hu1,fun x hx=>by have:=hf x hx;simp at hs;omega⟩
end Go.Proofs.YtklibcncmbofpaaGreat
