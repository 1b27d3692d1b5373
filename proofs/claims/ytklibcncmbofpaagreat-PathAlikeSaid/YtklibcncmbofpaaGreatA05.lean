/-
  Lemmas for PathAlike: Dr4, Sd10, Sd11, Arity, DrQ. Conditions: those of each lemma.
-/
import Derived.Test.YtklibcncmbofpaaGreatA04
set_option linter.all false
set_option maxHeartbeats 8000000
set_option maxRecDepth 10000
namespace Go.Proofs.YtklibcncmbofpaaGreat
open Go Go.RowKit
theorem qM.Lb {d:Nat} {A:NS} {L:Nat->List Nat} (h:qM d A L) (hd:2<=d) {g x i:Nat} {k s:Int} (hB:iT A x k s=true) (hg:bD A g=true) (hx:(L g)[i]?=some x) :
  dY (nQ (ak A x k s)) d (L g) i/\Below (nQ (ak A x k s)) d (L g) i x:=by
 have hxm:=Η hx;have hm:=(h.mem g x hg).1 hxm;have hc:=qN hB hm.1;have hle:=sP hB;rw [π] at hle;have hn:=h.nd g hg;obtain ⟨hi,hxe⟩:=List.getElem?_eq_some_iff.1 hx;have hcy:∀y,y≠x->(ak A x k s).c y=A.c y:=fun y e=>by rw [hc,Γ e]
 have wu:(ak A x k s).c x=⟨(A.c x).i,k,s⟩:=by rw [hc,Δ rfl]
 have hne:∀y,y∈(L g).eraseIdx i->y≠x:=fun y hy e=>by
  obtain ⟨q,hq,hqe⟩:=List.mem_eraseIdx_iff_getElem?.1 hy;obtain ⟨g1,e1⟩:=List.getElem?_eq_some_iff.1 hqe;exact hq ((List.getElem_inj hn).1 (e1.trans (e.trans hxe.symm)))
 have hH:=h.hp g hg;refine ⟨(hH.hole (iD A) hd hi).frame (fun a b ha hb hab=>dU.2 ((eZ (hcy a (hne a ha)) (hcy b (hne b hb))).2 (dU.1 hab))) hd,fun j j0 hj hp=>?_⟩;have h1:=hH j j0 hj;have h2:(L g).getD (par d j) 0=x:=by rw [hp,φ,hx];rfl
 rw [h2] at h1;have hji:j≠i:=fun e=>by have:=dQ hd j0;omega
 have hyx:(L g).getD j 0≠x:=fun e=>by
  have h3:(L g)[j]?=some x:=by rw [←e,φ,ε hj];rfl
  obtain ⟨g1,e1⟩:=List.getElem?_eq_some_iff.1 h3;exact hji ((List.getElem_inj hn).1 (e1.trans hxe.symm))
 exact dU.2 (lI (dU.1 h1) (hcy _ hyx) (by rw [wu];exact hle))
section
variable {w w':World} {B:DB} {F Z:List Nat} {gr cr st:Nat} {A:NS} {ptr:Nat->Option Nat} {G L:Nat->List Nat}
theorem QZ (h:nG w B F Z gr A st) (x:Nat) (k s:Int) (hk:-9223372036854775808<=k/\k<=9223372036854775807/\0<=s/\s<=18446744073709551615) (hB:iT A x k s=true) :
  Calls Tryz.prog 135 #[.pointer (some ⟨B.n0,0,none⟩),.int .i64 (x:Int),.agg #[.int .i64 k,.int .u64 s]] w fun e w'=>e=.returned (.bool true)/\Goes (B.blk F Z gr) w w' (fun F'=>∃Z' st',F'=B.blk F Z' gr/\nG w' B F Z' gr (ak A x k s) st'):=by
 obtain ⟨cr,ptr,G,L,hM,hI⟩:=h;have hok:=hM.cells.ok;have hcs:=hok.c1;have hin:=qw hB;have hin2:=(ae _ _).1 hin;have hhas:=iJ hok hin;rw [π] at hhas;obtain ⟨g,hg⟩:∃g:Nat,(A.c x).i=g:=⟨(A.c x).i.toNat,ω⟩;rw [hg] at hhas;have hgN:=(aO _ _).1 hhas;have hxm:x∈L g:=(hI.mem g x hhas).2 ⟨hin2.1,hg⟩;obtain ⟨i,hi,hxi⟩:=List.mem_iff_getElem.1 hxm;have hx:(L g)[i]?=some x:=by rw [ε hi,hxi]
 obtain ⟨Wj,hBe⟩:=hI.Lb hM.dd.1 hB hhas hx;have oH:(ak A x k s).hs=A.hs:=kV _ _ _ _;have gQ:bD (ak A x k s) g=true:=by have:=hhas;unfold bD at this ⊢;rw [oH];exact this
 have hin':bQ (ak A x k s) (x:Int)=true:=(ae _ _).2 ⟨by rw [eB];exact hin2.1,by rw [iy hB hin2.1];exact hin2.2⟩;have hgi':((ak A x k s).c x).i=g:=by rw [iy hB hin2.1];exact hg
 have GJ:∀y,y∈L g->bQ (ak A x k s) (y:Int)=true:=fun y hy=>by
  have h1:=(hI.mem g y hhas).1 hy;exact (ae _ _).2 ⟨by rw [eB];exact h1.1,by rw [iy hB hin2.1];omega⟩
 have h16:∀y,y∈L g->y<=65536:=fun y hy=>by have:=((hI.mem g y hhas).1 hy).1;omega
 have PI:=hI.many hhas;obtain ⟨rp,hp, -⟩:=hM.kS.row g hhas;have Qb:=fun W (hW:aa [] w W)=>ig (hM.aj hW).cells x k s hk hB;have hM2:=fun X w2 (hX:aa [] w X) (hC2:aC w2 B.c F (ak A x k s) st) (hu2:aa F X w2)=>(hM.aj hX).bY hu2 hC2 (fun x hx=>Α hx) oH;have QS:∀Y,vK Y B F Z gr cr (ak A x k s) st ptr G L->Calls Tryz.prog 148 #[.pointer (some ⟨rp,0,none⟩),.iface 170 (.pointer (some ⟨B.n0,0,none⟩)),.int .i64 (x:Int)] Y fun e w'=>e=.returned (.bool true)/\∃L' hc,lU w' rp (G g) B.d L'/\L'.Perm (L g)/\Hp (nQ (ak A x k s)) B.d L'/\(Uj B F (ak A x k s) hc).at_ w'/\aa (G g++[B.c]) Y w':=by
  intro Y Lt;obtain ⟨rp',hp',hRY⟩:=Lt.kS.row g gQ;rw [hp] at hp';cases hp';have QD:lU Y rp (G g) B.d (L g):=hRY;refine (Jn (Uj B F (ak A x k s) Lt.cells.mem) Lt.ord QD hM.dd ω i x hx (hI.nd g hhas) Wj hBe GJ h16 (Lt.clear gQ)).mono ?_;rintro e w' ⟨rfl,L',h1,h2,h3,h4,h5⟩;exact ⟨rfl,L',_,h1,h2,h3,h4,h5⟩
 have c0:=hM.h0;have c2:=hM.h2;have cg:=hM.kS.cell ω hp;have hlt:=hM.lt;have n0F:=hM.bz.1;have grF:=hM.bz.2.1;have HX:=χ (ψ hM (ψ hI (ψ hp (ψ hhas (ψ gQ (ψ hxm (ψ hlt (ψ hM2 (ψ hgi' hin')))))))));have n3:∀z,z∈F->z<w.heap.size:=fun z hm=>hlt z (by simp only [DB.blk,ρ,τ];exact Β (Β (Α hm)));have SQ:(g:Int)<(A.hs.length:Int):=ω;clear hM hI hok hcs hin hin2 hhas hgN hxm hi hxi hx Wj hBe oH gQ hin' hgi' GJ h16 PI hp hlt hM2;generalize A.hs.length=m at *
 go_enter Tryz.func135,Tryz.ntmps135
 go_upto_region 1 with (fail)
 refine iV (fun W=>W.cell? ⟨w.heap.size,0,none⟩=some (.int .i64 k)/\W.cell? ⟨w.heap.size,1,none⟩=some (.int .u64 s)/\aa [] w W) ⟨γ,γ,β⟩ ?_;rintro W ⟨x0,x1,hW⟩;have hb:w.heap.size∉F:=fun hm=>by have:=n3 _ hm;omega
 have e0:∀X,aa F W X->X.cell? ⟨w.heap.size,0,none⟩=some (.int .i64 k):=fun X h=>h.kept x0 hb;have e1:∀X,aa F W X->X.cell? ⟨w.heap.size,1,none⟩=some (.int .u64 s):=fun X h=>h.kept x1 hb;have e2:∀X,aa F W X->X.cell? ⟨B.n0,0,none⟩=some (.pointer (some ⟨B.c,0,none⟩)):=fun X h=>h.kept (hW.was c0) n0F;have HW:=χ (ψ hW (ψ c2 cg))
 have GV:∀X (hX:aa [] W X),Calls Tryz.prog 147 #[.pointer (some ⟨B.c,0,none⟩),.int .i64 (x:Int),.agg #[.int .i64 k,.int .u64 s]] X fun e w2=>e=.returned (.bool true)/\vK w2 B F Z gr cr (ak A x k s) st ptr G L/\aa F X w2:=fun X hX=>(Qb X (hW.trans hX)).mono (fun e w2 h=>⟨h.1,HX.out.2.2.2.2.2.2.2.1 X w2 (hW.trans hX) h.2.1 h.2.2,h.2.2⟩);clear Qb x0 x1 hW c0 c2 cg
 go_region_held3 (aa F W) (exact ν)
  (first
   | ((go_at_call 147;(with_reducible refine (GV _ ν).mono ?_));rintro e w2 ⟨rfl,hM2,hu2⟩;(have hv2:aa F W w2:=aa.trans ν hu2)))
 obtain ⟨hM,hI,hp,hhas,gQ,hxm,hlt,hM2',hgi',hin'⟩:=HX.out;have kh:=dK hM2.cells x hin';rw [hgi'] at kh;have q0:=hM2.h0;have jD:=fun w3 (yj:aC w3 B.c F (ak A x k s) st) (hu3:aa F w2 w3)=>hM2.bY hu3 yj (fun x hx=>Α hx) rfl;have hcg3:=fun w3 yj hu3=>(jD w3 yj hu3).kS.cell (g:=g) (by have:=(aO _ _).1 gQ;omega) hp;have hh3:=fun w3 yj hu3=>(jD w3 yj hu3).h2;have kr3:=fun w3 yj hu3=>QS w3 (jD w3 yj hu3);have hml:(ak A x k s).hs.length=(ak A x k s).hs.length:=rfl;have hgI2:(g:Int)<((ak A x k s).hs.length:Int):=by have:=(aO _ _).1 gQ;omega
 clear hM hI hhas gQ hxm hlt hM2' hgi' hin' QS GV e0 e1 e2 hml hM2;generalize (ak A x k s).hs.length=m2 at *
 go_wp2_with (first
  | ((go_at_call 140;(with_reducible refine (kh).mono ?_));rintro e w3 ⟨rfl,yj,hu3⟩;(have a0:=(jD w3 yj hu3).h0);(have a2:=hh3 w3 yj hu3);(have ag:=hcg3 w3 yj hu3);(have kr4:=kr3 w3 yj hu3))
  | ((go_at_call 148;(with_reducible refine (kr4).mono ?_));rintro e w4 ⟨rfl,L',hc,hR4,hp4,hH4,hO4,fZ⟩)
  | fail)
 go_ret;obtain ⟨hM,hI,hp,hhas,gQ,hxm,hlt, -, -, -⟩:=HX.out;have hM3':=jD w3 yj hu3;obtain ⟨st',rQ⟩:=hM3'.Ao gQ hp fZ hR4 (fun z hz=>Α hz) hO4;have Ua:=hI.low hM.dd.1 hB hhas hxm hp4 hH4;have hgz:∀z,z∈G g++[B.c]->z∈F++Z:=fun z hz=>by
  rcases τ.1 hz with e|e
  ·exact τ.2 (Β (hM.kS.yu g hhas z e))
  ·simp at e;rw [e];exact τ.2 (Α hM.cells.mem)
 have hbl:∀z,z∈F++Z->z∈B.blk F Z gr:=fun z hz=>by
  simp only [DB.blk,ρ,τ] at hz ⊢;exact Β (Β hz)
 refine ⟨rfl,B.blk F (Z++G g) gr,⟨Z++G g,st',rfl,cr,ptr,_,_,rQ,Ua⟩,(((HW.out.1.mono σ).trans (hv2.mono (fun z hz=>hbl z (τ.2 (Α hz))))).trans (hu3.mono (fun z hz=>hbl z (τ.2 (Α hz))))).trans (fZ.mono (fun z hz=>hbl z (hgz z hz))),fun z hz=>Α ?_⟩;simp only [DB.blk,ρ,τ] at hz ⊢;rcases hz with h|h|h|h|h
 ·exact Α h
 ·exact Β (Α h)
 ·exact Β (Β (Α h))
 ·exact Β (Β (Β h))
 ·exact Β (Β (Β (hM.kS.yu g hhas z h)))
def RemR (B:DB) (F Z:List Nat) (gr cr:Nat) (A:NS) (st:Nat) (ptr:Nat->Option Nat) (G L:Nat->List Nat) (g rp x:Nat) (w2:World):Prop:=
 vK w2 B F Z gr cr A st ptr G L/\∀Y,aa [] w2 Y->Calls Tryz.prog 150 #[.pointer (some ⟨rp,0,none⟩),.iface 170 (.pointer (some ⟨B.n0,0,none⟩)),.int .i64 (x:Int)] Y fun e w'=>e=.returned (.bool true)/\∃L' hc,lU w' rp (G g) B.d L'/\(x::L').Perm (L g)/\Hp (nQ A) B.d L'/\(Uj B F A hc).at_ w'/\aa (G g++[B.c]) Y w'/\
  ∀V,aa [] w' V->Calls Tryz.prog 151 #[.pointer (some ⟨B.c,0,none⟩),.int .i64 (x:Int)] V fun e w''=>e=.returned (.bool true)/\aa F V w''/\∃st',aC w'' B.c F (aZ A x) st'
theorem G7 (h:nG w B F Z gr A st) (x:Nat) (hin:bQ A (x:Int)=true) :
  Calls Tryz.prog 136 #[.pointer (some ⟨B.n0,0,none⟩),.int .i64 (x:Int)] w fun e w'=>e=.returned (.bool true)/\Goes (B.blk F Z gr) w w' (fun F'=>∃Z' st',F'=B.blk F Z' gr/\nG w' B F Z' gr (aZ A x) st'):=by
 obtain ⟨cr,ptr,G,L,hM,hI⟩:=h;have hok:=hM.cells.ok;have hcs:=hok.c1;have hin2:=(ae _ _).1 hin;have hhas:=iJ hok hin;rw [π] at hhas;obtain ⟨g,hg⟩:∃g:Nat,(A.c x).i=g:=⟨(A.c x).i.toNat,ω⟩;rw [hg] at hhas;have hgN:=(aO _ _).1 hhas;have hxm:x∈L g:=(hI.mem g x hhas).2 ⟨hin2.1,hg⟩;have PI:=hI.many hhas;obtain ⟨rp,hp, -⟩:=hM.kS.row g hhas;have kh:∀W,aa [] w W->Calls Tryz.prog 140 #[.pointer (some ⟨B.c,0,none⟩),.int .i64 (x:Int)] W fun e w2=>e=.returned (.tuple #[.int .i64 (g:Int),.bool true])/\aa F W w2/\RemR B F Z gr cr A st ptr G L g rp x w2:=fun W hW=>by
  have k:=dK (hM.aj hW).cells x hin;rw [hg] at k;refine k.mono ?_;rintro e w2 ⟨rfl,hC2,hu2⟩;have hM2:=(hM.aj hW).bY hu2 hC2 (fun x hx=>Α hx) rfl;refine ⟨rfl,hu2,hM2,fun Y hY=>?_⟩;have Lt:=hM2.aj hY;obtain ⟨rp',hp',hRY⟩:=Lt.kS.row g hhas;rw [hp] at hp';cases hp';have QD:lU Y rp (G g) B.d (L g):=hRY;refine (E8 (Uj B F A Lt.cells.mem) Lt.ord QD hM.dd ω x hxm (hI.nd g hhas) (hI.hp g hhas) (fun y hy=>(hI.len hhas hy).2.1) (fun y hy=>by have:=(hI.len hhas hy).1;omega) (Lt.clear hhas)).mono ?_;rintro e w' ⟨rfl,L',h1,h2,h3,h4,h5⟩;refine ⟨rfl,L',_,h1,h2,h3,h4,h5,fun V hV=>?_⟩;obtain ⟨-, -,st',hC⟩:=h4
  refine (gP (hC.aj hV) x hin).mono ?_;rintro e w'' ⟨rfl,hC',hu'⟩;exact ⟨rfl,hu',st',hC'⟩
 have c0:=hM.h0;have c2:=hM.h2;have cg:=hM.kS.cell ω hp;have hlt:=hM.lt;have HX:=χ (ψ hM (ψ hI (ψ hp (ψ hhas (ψ hxm hlt)))));have n1:B.n0∉F++Z:=fun hm=>by rcases τ.1 hm with e|e;exact hM.bz.1 e;exact (hM.kE _ e).2 rfl
 have n2:gr∉F++Z:=fun hm=>by rcases τ.1 hm with e|e;exact hM.bz.2.1 e;exact hM.kS.Ub e
 have SQ:(g:Int)<(A.hs.length:Int):=ω;have hgz:∀z,z∈G g++[B.c]->z∈F++Z:=fun z hz=>by
  rcases τ.1 hz with e|e
  ·exact τ.2 (Β (hM.kS.yu g hhas z e))
  ·simp at e;rw [e];exact τ.2 (Α hM.cells.mem)
 clear hM hI hok hcs hin2 hhas hgN hxm PI hp hlt;generalize A.hs.length=m at *
 go_enter Tryz.func136,Tryz.ntmps136
 go_upto_region 2 with (first
  | ((go_at_call 140;(with_reducible refine (kh _ β).mono ?_));rintro e w2 ⟨rfl,hu2,hM2,Yo⟩)
  | fail)
 have Wh:aa (F++Z) w w2:=hu2.mono (fun z hz=>τ.2 (Α hz));have e2:∀X,aa (F++Z) w2 X->X.cell? ⟨B.n0,0,none⟩=some (.pointer (some ⟨B.c,0,none⟩)):=fun X h=>(Wh.trans h).kept c0 n1;have e3:∀X,aa (F++Z) w2 X->X.cell? ⟨B.n0,2,none⟩=some (.slice (some ⟨gr,0,none⟩) m cr):=fun X h=>(Wh.trans h).kept c2 n1;have e4:∀X,aa (F++Z) w2 X->X.cell? ⟨gr,g,none⟩=some (.pointer (some ⟨rp,0,none⟩)):=fun X h=>(Wh.trans h).kept cg n2;clear c0 c2 cg kh hu2;have a2:=e2 w2 (aa.refl _ _);have a3:=e3 w2 (aa.refl _ _);have a4:=e4 w2 (aa.refl _ _)
 go_wp2_with (first
   | ((go_at_call 150;(with_reducible refine (Yo _ ν).mono ?_));rintro e w3 ⟨rfl,L',hc,hR3,hp3,hH3,hO3,hu3,Rv⟩;(have hv3:aa (F++Z) w2 w3:=aa.trans ν (hu3.mono hgz));(have b2:=e2 w3 hv3);(have b3:=e3 w3 hv3);(have b4:=e4 w3 hv3))
   | ((go_at_call 151;(with_reducible refine (Rv _ ν).mono ?_));rintro e w4 ⟨rfl,fZ,Xn,PL⟩;(have hv4:aa (F++Z) w2 w4:=aa.trans hv3 (fZ.mono (fun z hz=>τ.2 (Α hz)))))
   | fail)
 obtain ⟨hM,hI,hp,hhas,hxm,hlt⟩:=HX.out;have Xz:aa (G g++[B.c]) w2 w3:=aa.trans ν hu3;have Vx:aa F w3 w4:=aa.trans ν fZ;obtain ⟨st',jD⟩:=hM2.Ao hhas hp Xz hR3 (fun z hz=>Α hz) hO3;have rQ:=jD.bY Vx PL (fun x hx=>Α hx) (iK _ _);have Ua:=hI.drop hM.dd.1 hhas hxm hp3 hH3;go_ret;refine ⟨rfl,B.blk F (Z++G g) gr,⟨Z++G g,Xn,rfl,cr,ptr,_,_,rQ,Ua⟩,(Wh.trans hv4).mono (fun z hz=>?_),fun z hz=>Α ?_⟩
 ·simp only [DB.blk,ρ,τ] at hz ⊢;exact Β (Β hz)
 ·simp only [DB.blk,ρ,τ] at hz ⊢;rcases hz with h|h|h|h|h
  ·exact Α h
  ·exact Β (Α h)
  ·exact Β (Β (Α h))
  ·exact Β (Β (Β h))
  ·exact Β (Β (Β (hM.kS.yu g hhas z h)))
theorem Bh (h:nG w B F Z gr A st) (g m:Nat) (hm:dF A g=some m) :
  Calls Tryz.prog 138 #[.pointer (some ⟨B.n0,0,none⟩),.int .i64 (g:Int)] w fun e w'=>e=.returned (.tuple #[.int .i64 (m:Int),.bool true])/\Goes (B.blk F Z gr) w w' (fun F'=>∃Z' st',F'=B.blk F Z' gr/\nG w' B F Z' gr (aZ A m) st'):=by
 have hin:=(kQ hm).2.2.2;have hok:A.Ok:=by obtain ⟨cr,ptr,G,L,hM,hI⟩:=h;exact hM.cells.ok
 have hhas:bD A g=true:=by
  have:=iJ hok hin;rw [π,(kQ hm).2.2.1] at this;exact this
 have km:=Ff h g hhas;rw [hm,show pQ (some m)=(m:Int) from rfl,show (some m).isSome=true from rfl] at km;have kd:=G7 h m hin;clear h hm hin hok hhas
 go_enter Tryz.func138,Tryz.ntmps138
 go_wp2_with (first
  | (go_at_call 145;(with_reducible refine (km).mono ?_);rintro e w9 ⟨rfl,aI⟩;rw [aI];clear aI w9)
  | ((go_at_call 136;(with_reducible refine (kd).mono ?_));rintro e w2 ⟨rfl,hg⟩)
  | fail)
 go_ret2;exact ⟨rfl,hg⟩
end
section
variable {w w':World} {B:HB} {F Z:List Nat} {gr cr st:Nat} {A:NS} {ptr:Nat->Option Nat} {G L:Nat->List Nat} {T:List Nat}
theorem HB.DT (B:HB) {F Z:List Nat} {gr z:Nat} (hz:z∈F):z∈B.blk F Z gr:=by simp only [HB.blk,ρ,τ];exact Β (Β (Β (Α hz)))
theorem HB.D7 (B:HB) {F Z:List Nat} {gr z:Nat} (hz:z∈Z):z∈B.blk F Z gr:=by simp only [HB.blk,ρ,τ];exact Β (Β (Β (Β hz)))
def ReR (B:HB) (F Z:List Nat) (gr cr:Nat) (A:NS) (st:Nat) (ptr:Nat->Option Nat) (G L:Nat->List Nat) (T:List Nat) (g rp gs cap i x:Nat) (w2:World):Prop:=ShM w2 B F Z gr cr A st ptr G L T/\∀Y,aa [] w2 Y->
 Calls Tryz.prog 278 #[.iface 317 (.pointer (some ⟨rp,0,none⟩)),.int .i64 (i:Int)] Y fun e w'=>e=.returned (.iface 3 (.int .i64 (x:Int)))/\ReE Y B F A rp gs cap (L g) T x w'/\
  ∀V,aa [] w' V->Calls Tryz.prog 151 #[.pointer (some ⟨B.c,0,none⟩),.int .i64 (x:Int)] V fun e w''=>e=.returned (.bool true)/\aa F V w''/\∃st',aC w'' B.c F (aZ A x) st'
theorem Dl (h:ShAt w B F Z gr A st) (x:Nat) (hin:bQ A (x:Int)=true) :
  Calls Tryz.prog 271 #[.pointer (some ⟨B.n0,0,none⟩),.int .i64 (x:Int)] w fun e w'=>e=.returned (.bool true)/\Goes (B.blk F Z gr) w w' (fun F'=>∃Z' st',F'=B.blk F Z' gr/\ShAt w' B F Z' gr (aZ A x) st'):=by
 obtain ⟨cr,ptr,G,L,T,hM,hI⟩:=h;have hok:=hM.cells.ok;have hcs:=hok.c1;have hin2:=(ae _ _).1 hin;have hhas:=iJ hok hin;rw [π] at hhas;obtain ⟨g,hg⟩:∃g:Nat,(A.c x).i=g:=⟨(A.c x).i.toNat,ω⟩;rw [hg] at hhas;have hgN:=(aO _ _).1 hhas;have hxm:x∈L g:=(hI.di.mem g x hhas).2 ⟨hin2.1,hg⟩;obtain ⟨i,hi,hxi⟩:=List.mem_iff_getElem.1 hxm;have hx:(L g)[i]?=some x:=by rw [ε hi,hxi]
 have hdom:∀y,y∈L g->bQ A (y:Int)=true/\y<T.length:=fun y hy=>⟨(hI.di.len hhas hy).2.1,by rw [hM.tl];exact (hI.di.len hhas hy).1⟩
 have hTx:T.getD x 0=i:=hI.AY g hhas i x hx;have Jb:x<T.length:=by rw [hM.tl];exact hin2.1
 obtain ⟨rp,v,hp,CB,K6⟩:=hM.pile hhas hdom (hI.di.nd g hhas) (hI.AY g hhas);obtain ⟨gs,cap,hv, -⟩:=K6.full ω;have vz:G g=[rp,gs]:=by rw [CB,hv];rfl
 have kh:∀W,aa [] w W->Calls Tryz.prog 140 #[.pointer (some ⟨B.c,0,none⟩),.int .i64 (x:Int)] W fun e w2=>e=.returned (.tuple #[.int .i64 (g:Int),.bool true])/\aa F W w2/\ReR B F Z gr cr A st ptr G L T g rp gs cap i x w2:=fun W hW=>by
  have k:=dK (hM.aj hW).cells x hin;rw [hg] at k;refine k.mono ?_;rintro e w2 ⟨rfl,hC2,hu2⟩;have hM2:=(hM.aj hW).bY hu2 hC2 (fun x hx=>Α hx) rfl rfl;refine ⟨rfl,hu2,hM2,fun Y hY=>?_⟩;have hPY:=(K6.aj hW);obtain ⟨rp',v',hp',YM,hP⟩:=(hM2.aj hY).pile hhas hdom (hI.di.nd g hhas) (hI.AY g hhas);rw [hp] at hp';cases hp';obtain ⟨gs',cap',hv',hPM⟩:=hP.full ω;have eg:gs'=gs:=by
   rw [vz,hv'] at YM;have:([rp,gs]:List Nat)=[rp,gs']:=YM;simp at this;exact this.symm
  subst eg;have hc:cap'=cap:=by
   have r1:=hPM.h1;have VO:w.cell? ⟨rp,1,none⟩=some (.slice (some ⟨gs',0,none⟩) (L g).length cap):=by
    rw [←hv];exact K6.hd.cellAt 1 ω rfl
   have QC:rp∉F:=K6.s3.1;have r2:=((hu2.kept (hW.was VO) QC));have r3:=hY.was r2;rw [r1] at r3;simpa using r3
  subst hc;refine (Im hPM i x hx (hI.di.hp g hhas)).mono ?_;rintro e w' ⟨rfl,hR⟩;refine ⟨rfl,hR,fun V hV=>?_⟩;obtain ⟨L',T',hE, -⟩:=hR;obtain ⟨st',hC⟩:=hE.OL;refine (gP (hC.aj hV) x hin).mono ?_;rintro e w'' ⟨rfl,hC',hu'⟩;exact ⟨rfl,hu',st',hC'⟩
 have c0:=hM.h0;have c2:=hM.h1;have c3:=hM.h2;have cg:=hM.kS.cell ω hp;have ct:=hM.FE x Jb;rw [hTx] at ct;have hlt:=hM.lt;have n1:B.n0∉F:=hM.bz.1;have n2:gr∉F:=hM.bz.2.1;have n3:B.ga∉F:=hM.bz.2.2;have n4:B.n0∉[rp,gs,B.ga,B.c]:=by
  have h1:=K6.s1;have h2:=K6.sg gs (by rw [hv];rfl);simp;exact ⟨fun e=>h1.2 e.symm,fun e=>h2.2.2.1 e.symm,fun e=>hM.sep.2.1 e.symm,fun e=>n1 (by rw [e];exact hM.cells.mem)⟩
 have SQ:(g:Int)<(A.hs.length:Int):=ω;have Bl:(x:Int)<(T.length:Int):=ω;have hil:i<=65536:=by have:=K6.len;omega
 have HX:=χ (ψ hM (ψ hI (ψ hp (ψ hhas (ψ hxm (ψ hlt (ψ vz hin)))))));clear hM hI hok hcs hin hin2 hhas hgN hxm hxi hx hdom hTx Jb hp CB K6 hv vz hlt hi hg;generalize A.hs.length=m at *;generalize T.length=nt at *
 go_enter Tryz.func271,Tryz.ntmps271
 go_upto_region 4 with (first
  | ((go_at_call 140;(with_reducible refine (kh _ β).mono ?_));rintro e w2 ⟨rfl,hu2,hM2,Yo⟩)
  | fail)
 have a0:∀X,aa [] w2 X->X.cell? ⟨B.n0,1,none⟩=some (.slice (some ⟨gr,0,none⟩) m cr):=fun X hX=>hX.was (hu2.kept c2 n1);have a1:∀X,aa [] w2 X->X.cell? ⟨B.n0,2,none⟩=some (.slice (some ⟨B.ga,0,none⟩) nt nt):=fun X hX=>hX.was (hu2.kept c3 n1);have a2:∀X,aa [] w2 X->X.cell? ⟨gr,g,none⟩=some (.pointer (some ⟨rp,0,none⟩)):=fun X hX=>hX.was (hu2.kept cg n2);have a3:∀X,aa [] w2 X->X.cell? ⟨B.ga,x,none⟩=some (.int .i64 (i:Int)):=fun X hX=>hX.was (hu2.kept ct n3);have z0:=hu2.kept c0 n1;clear c0 c2 c3 cg ct kh;have b1:=a0 _ (aa.refl [] w2);have b2:=a1 _ (aa.refl [] w2);have b3:=a2 _ (aa.refl [] w2)
 have b4:=a3 _ (aa.refl [] w2)
 go_region_law
  (first
   | (go_simp;go_at_call 278;(with_reducible refine (Yo _ ν).mono ?_);rintro e w3 ⟨rfl,hR,Rv⟩;(have hv3:aa [rp,gs,B.ga,B.c] w2 w3:=by obtain ⟨_,_,_,_,_,_,_,hu⟩:=hR;exact aa.trans ν hu);(have z1:=hv3.kept z0 n4)))
 all_goals
  go_wp2_with (first
   | ((go_at_call 151;(with_reducible refine (Rv _ ν).mono ?_));rintro e w4 ⟨rfl,fZ,Xn,PL⟩)
   | fail)
  go_ret;obtain ⟨hM,hI,hp,hhas,hxm,hlt,vz,hin⟩:=HX.out;obtain ⟨L',T',hE,hp3,hH3,hoff,Nq, -⟩:=hR;have Vx:aa F w3 w4:=aa.trans ν fZ;have Qq:∀z,z∈G g->z∈Z:=hM.kS.yu g hhas
  obtain ⟨st',jD⟩:=hM2.Ao hhas hp hv3 (fun z hz=>by
   simp only [ρ,ς,or_false] at hz;rw [vz];rcases hz with e|e|e|e
   ·exact Α (by simp [e])
   ·exact Α (by simp [e])
   ·exact Β (Α e)
   ·exact Β (Β e)) (by rw [vz];simp) hE Nq (fun k hk=>by cases hk;rw [vz];simp)
  have rQ:=jD.bY Vx PL (fun x hx=>Α hx) (iK _ _) (eU _ _)
  have Ua:=hI.turn (hI.di.drop ω hhas hxm hp3 hH3) (fun q=>by unfold bD;rw [iK]) hhas hE.AY (fun y _ h2=>hoff y h2) (fun q y e hq hy=>by
   have h2:=hI.di.apart e hq hhas hy
   exact ⟨fun hm=>h2 (hp3.mem_iff.1 (Λ _ hm)),h2⟩)
  refine ⟨rfl,B.blk F (Z++(rp::Option.toList (some gs))) gr,⟨_,Xn,rfl,cr,ptr,_,_,T',rQ,Ua⟩,((hu2.mono (fun z hz=>B.DT hz)).trans (hv3.mono (fun z hz=>?_))).trans (Vx.mono (fun z hz=>B.DT hz)),fun z hz=>Α ?_⟩
  ·simp only [ρ,ς,or_false] at hz;rcases hz with e|e|e|e
   ·exact B.D7 (Qq z (by rw [vz];simp [e]))
   ·exact B.D7 (Qq z (by rw [vz];simp [e]))
   ·simp [HB.blk,e]
   ·exact B.DT (by rw [e];exact hM.cells.mem)
  ·simp only [HB.blk,ρ,τ,Option.toList_some,ς,or_false] at hz;rcases hz with h|h|h|h|h|h|h
   ·simp [HB.blk,h]
   ·simp [HB.blk,h]
   ·simp [HB.blk,h]
   ·exact B.DT h
   ·exact B.D7 h
   ·exact B.D7 (Qq z (by rw [vz];simp [h]))
   ·exact B.D7 (Qq z (by rw [vz];simp [h]))
theorem yV (h:ShAt w B F Z gr A st) (g:Int) (m:Nat) (hm:dF A g=some m) :
  Calls Tryz.prog 272 #[.pointer (some ⟨B.n0,0,none⟩),.int .i64 g] w fun e w'=>e=.returned (.tuple #[.int .i64 (m:Int),.bool true])/\Goes (B.blk F Z gr) w w' (fun F'=>∃Z' st',F'=B.blk F Z' gr/\ShAt w' B F Z' gr (aZ A m) st'):=by
 obtain ⟨q,rfl,hq,hin⟩:∃q:Nat,g=q/\bD A q=true/\bQ A (m:Int)=true:=by
  obtain ⟨cr,ptr,G,L,T,hM,hI⟩:=h;obtain ⟨q,rfl,hq,hmq⟩:=hI.di.Uq hm hM.cells.ok;exact ⟨q,rfl,hq,(hI.di.len hq hmq).2.1⟩
 have km:=BK h q hq;rw [hm] at km;have kd:=fun W (hW:aa [] w W)=>Dl (h.aj hW) m hin;clear h hm hin hq;have km':Calls Tryz.prog 276 #[.pointer (some ⟨B.n0,0,none⟩),.int .i64 (q:Int)] w fun e w'=>e=.returned (.tuple #[.int .i64 (m:Int),.bool true])/\w'=w:=km;clear km
 go_enter Tryz.func272,Tryz.ntmps272
 go_wp2_with (first
  | (go_at_call 276;(with_reducible refine (km').mono ?_);rintro e w9 ⟨rfl,aI⟩;rw [aI];clear aI w9)
  | ((go_at_call 271;(with_reducible refine (kd _ (aa.refl _ _)).mono ?_));rintro e w2 ⟨rfl,hG⟩)
  | fail)
 go_ret2;exact ⟨rfl,hG⟩
end
section
variable {w w':World} {B:HB} {F Z:List Nat} {gr cr st:Nat} {A:NS} {ptr:Nat->Option Nat} {G L:Nat->List Nat} {T:List Nat}
def FiR (B:HB) (F Z:List Nat) (gr cr:Nat) (A:NS) (st:Nat) (ptr:Nat->Option Nat) (G L:Nat->List Nat) (T:List Nat) (g rp gs cap i:Nat) (w2:World):Prop:=ShM w2 B F Z gr cr A st ptr G L T/\∀Y,aa [] w2 Y->
 Calls Tryz.prog 277 #[.iface 317 (.pointer (some ⟨rp,0,none⟩)),.int .i64 (i:Int)] Y fun e w'=>e=.returned (.tuple #[])/\∃L' T',lN Y B F A rp gs cap [] (L g) T w' L' T'/\Hp (nQ A) 2 L'
theorem MN (h:ShAt w B F Z gr A st) (x:Nat) (k s:Int) (hk:-9223372036854775808<=k/\k<=9223372036854775807/\0<=s/\s<=18446744073709551615) (hB:iT A x k s=true) :
  Calls Tryz.prog 270 #[.pointer (some ⟨B.n0,0,none⟩),.int .i64 (x:Int),.agg #[.int .i64 k,.int .u64 s]] w fun e w'=>e=.returned (.bool true)/\Goes (B.blk F Z gr) w w' (fun F'=>∃Z' st',F'=B.blk F Z' gr/\ShAt w' B F Z' gr (ak A x k s) st'):=by
 obtain ⟨cr,ptr,G,L,T,hM,hI⟩:=h;have hok:=hM.cells.ok;have hcs:=hok.c1;have hin:=qw hB;have hin2:=(ae _ _).1 hin;have hhas:=iJ hok hin;rw [π] at hhas;obtain ⟨g,hg⟩:∃g:Nat,(A.c x).i=g:=⟨(A.c x).i.toNat,ω⟩;rw [hg] at hhas;have hgN:=(aO _ _).1 hhas;have hxm:x∈L g:=(hI.di.mem g x hhas).2 ⟨hin2.1,hg⟩;obtain ⟨i,hi,hxi⟩:=List.mem_iff_getElem.1 hxm;have hx:(L g)[i]?=some x:=by rw [ε hi,hxi]
 obtain ⟨Wj,hBe⟩:=hI.di.Lb ω hB hhas hx;have oH:(ak A x k s).hs=A.hs:=kV _ _ _ _;have JK:(ak A x k s).cs.length=A.cs.length:=eB _ _ _ _;have gQ:bD (ak A x k s) g=true:=by have:=hhas;unfold bD at this ⊢;rw [oH];exact this
 have hin':bQ (ak A x k s) (x:Int)=true:=(ae _ _).2 ⟨by rw [eB];exact hin2.1,by rw [iy hB hin2.1];exact hin2.2⟩;have hgi':((ak A x k s).c x).i=g:=by rw [iy hB hin2.1];exact hg
 have hdom:∀y,y∈L g->bQ A (y:Int)=true/\y<T.length:=fun y hy=>⟨(hI.di.len hhas hy).2.1,by rw [hM.tl];exact (hI.di.len hhas hy).1⟩
 have GJ:∀y,y∈L g->bQ (ak A x k s) (y:Int)=true/\y<T.length:=fun y hy=>by
  have h1:=(hI.di.mem g y hhas).1 hy;exact ⟨(ae _ _).2 ⟨by rw [eB];exact h1.1,by rw [iy hB hin2.1];omega⟩,by rw [hM.tl];exact h1.1⟩
 have hTx:T.getD x 0=i:=hI.AY g hhas i x hx;have Jb:x<T.length:=by rw [hM.tl];exact hin2.1
 obtain ⟨rp,v,hp,CB,K6⟩:=hM.pile hhas hdom (hI.di.nd g hhas) (hI.AY g hhas);obtain ⟨gs,cap,hv, -⟩:=K6.full ω;have vz:G g=[rp,gs]:=by rw [CB,hv];rfl
 have VO:w.cell? ⟨rp,1,none⟩=some (.slice (some ⟨gs,0,none⟩) (L g).length cap):=by rw [←hv];exact K6.hd.cellAt 1 ω rfl
 have QC:rp∉F:=K6.s3.1;have Qb:∀W (hW:aa [] w W),Calls Tryz.prog 147 #[.pointer (some ⟨B.c,0,none⟩),.int .i64 (x:Int),.agg #[.int .i64 k,.int .u64 s]] W fun e w2=>e=.returned (.bool true)/\ShM w2 B F Z gr cr (ak A x k s) st ptr G L T/\aa F W w2:=fun W hW=>(ig (hM.aj hW).cells x k s hk hB).mono (fun e w2 h=>⟨h.1,(hM.aj hW).bY h.2.2 h.2.1 (fun x hx=>Α hx) oH JK,h.2.2⟩)
 have WB:∀w2,ShM w2 B F Z gr cr (ak A x k s) st ptr G L T->aa F w w2->Calls Tryz.prog 140 #[.pointer (some ⟨B.c,0,none⟩),.int .i64 (x:Int)] w2 fun e w3=>e=.returned (.tuple #[.int .i64 (g:Int),.bool true])/\aa F w2 w3/\FiR B F Z gr cr (ak A x k s) st ptr G L T g rp gs cap i w3:=fun w2 hM2 QX=>by
  have kk:=dK hM2.cells x hin';rw [hgi'] at kk;refine kk.mono ?_;rintro e w3 ⟨rfl,yj,hu3⟩;have jD:=hM2.bY hu3 yj (fun x hx=>Α hx) rfl rfl;refine ⟨rfl,hu3,jD,fun Y hY=>?_⟩;obtain ⟨rp',v',hp',YM,hP⟩:=(jD.aj hY).pile gQ GJ (hI.di.nd g hhas) (hI.AY g hhas);rw [hp] at hp';cases hp';obtain ⟨gs',cap',hv',hPM⟩:=hP.full ω;have r3:=hY.was (hu3.kept (QX.kept VO QC) QC);have r1:=hPM.h1;rw [r1] at r3;simp at r3;obtain ⟨rfl,rfl⟩:=r3;exact Tn hPM i Wj
 have c0:=hM.h0;have c2:=hM.h1;have c3:=hM.h2;have cg:=hM.kS.cell ω hp;have ct:=hM.FE x Jb;rw [hTx] at ct;have hlt:=hM.lt;have n1:B.n0∉F:=hM.bz.1;have n2:gr∉F:=hM.bz.2.1;have n3:B.ga∉F:=hM.bz.2.2;have n5:∀z,z∈F->z<w.heap.size:=fun z hm=>hlt z (B.DT hm);have SQ:(g:Int)<(A.hs.length:Int):=ω;have Bl:(x:Int)<(T.length:Int):=ω;have hil:i<=65536:=by have:=K6.len;omega
 have HX:=χ (ψ hM (ψ hI (ψ hp (ψ hhas (ψ gQ (ψ hxm (ψ hlt (ψ vz (ψ hB oH)))))))));clear hM hI hok hcs hin hin2 hhas hgN hxm hxi hx hdom hTx Jb hp CB K6 hv vz hlt hi hg Wj hBe oH JK gQ hin' hgi' GJ VO QC;generalize A.hs.length=m at *;generalize T.length=nt at *
 go_enter Tryz.func270,Tryz.ntmps270
 go_upto_region 1 with (fail)
 refine iV (fun W=>W.cell? ⟨w.heap.size,0,none⟩=some (.int .i64 k)/\W.cell? ⟨w.heap.size,1,none⟩=some (.int .u64 s)/\aa [] w W) ⟨γ,γ,β⟩ ?_;rintro W ⟨x0,x1,hW⟩;have hb:w.heap.size∉F:=fun hm=>by have:=n5 _ hm;omega
 have e0:∀X,aa F W X->X.cell? ⟨w.heap.size,0,none⟩=some (.int .i64 k):=fun X h=>h.kept x0 hb;have e1:∀X,aa F W X->X.cell? ⟨w.heap.size,1,none⟩=some (.int .u64 s):=fun X h=>h.kept x1 hb;have e2:∀X,aa F W X->X.cell? ⟨B.n0,0,none⟩=some (.pointer (some ⟨B.c,0,none⟩)):=fun X h=>h.kept (hW.was c0) n1;have HW:=χ (ψ hW (ψ c2 (ψ c3 (ψ cg ct))));have GV:=fun X (hX:aa [] W X)=>Qb X (hW.trans hX);clear Qb x0 x1 hW c0 c2 c3 cg ct
 go_region_held3 (aa F W) (exact ν)
  (first
   | ((go_at_call 147;(with_reducible refine (GV _ ν).mono ?_));rintro e w2 ⟨rfl,hM2,hu2⟩;(have hv2:aa F W w2:=aa.trans ν hu2)))
 obtain ⟨hW,c2,c3,cg,ct⟩:=HW.out;have QX:aa F w w2:=(hW.mono σ).trans hv2;have kh2:=WB w2 hM2 QX;have q0:=hM2.h0;have p2:=QX.kept c2 n1;have p3:=QX.kept c3 n1;have p4:=QX.kept cg n2;have p5:=QX.kept ct n3;have HV:=χ (ψ QX hM2);clear e0 e1 e2 GV WB hW c2 c3 cg ct QX hM2 hv2 hu2
 go_upto_region 4 with (first
  | ((go_at_call 140;(with_reducible refine (kh2).mono ?_));rintro e w3 ⟨rfl,hu3,jD,kfix⟩)
  | fail)
 have a0:∀X,aa [] w3 X->X.cell? ⟨B.n0,1,none⟩=some (.slice (some ⟨gr,0,none⟩) m cr):=fun X hX=>hX.was (hu3.kept p2 n1);have a1:∀X,aa [] w3 X->X.cell? ⟨B.n0,2,none⟩=some (.slice (some ⟨B.ga,0,none⟩) nt nt):=fun X hX=>hX.was (hu3.kept p3 n1);have a2:∀X,aa [] w3 X->X.cell? ⟨gr,g,none⟩=some (.pointer (some ⟨rp,0,none⟩)):=fun X hX=>hX.was (hu3.kept p4 n2);have a3:∀X,aa [] w3 X->X.cell? ⟨B.ga,x,none⟩=some (.int .i64 (i:Int)):=fun X hX=>hX.was (hu3.kept p5 n3);have b1:=a0 _ (aa.refl [] w3);have b2:=a1 _ (aa.refl [] w3);have b3:=a2 _ (aa.refl [] w3);have b4:=a3 _ (aa.refl [] w3)
 clear p2 p3 p4 p5 q0 kh2
 go_region_law
  (first
   | (go_simp;go_at_call 277;(with_reducible refine (kfix _ ν).mono ?_);rintro e w4 ⟨rfl,L',T',hG4,hH4⟩;(have hv4:aa [gs,B.ga,B.c] w3 w4:=aa.trans ν hG4.upd)))
 all_goals
  go_wp2;go_ret;obtain ⟨hM,hI,hp,hhas,gQ,hxm,hlt,vz,hB,oH⟩:=HX.out;obtain ⟨QX,hM2⟩:=HV.out;have hpm:=hG4.pi;rw [Υ] at hpm;have Qq:∀z,z∈G g->z∈Z:=hM.kS.yu g hhas
  obtain ⟨st',rQ⟩:=jD.Ao gQ hp hv4 (fun z hz=>by
   simp only [ρ,ς,or_false] at hz;rw [vz];rcases hz with e|e|e
   ·exact Α (by simp [e])
   ·exact Β (Α e)
   ·exact Β (Β e)) (by rw [vz];simp) hpm.any hG4.tl (fun k hk=>by cases hk;rw [vz];simp)
  have Ua:=hI.turn (hI.di.low ω hB hhas hxm hG4.perm hH4) (fun q=>by unfold bD;rw [oH]) hhas hpm.AY (fun y _ h2=>hG4.off y (by rw [Υ];exact h2)) (fun q y e hq hy=>by
   have h2:=hI.di.apart e hq hhas hy
   exact ⟨fun hm=>h2 (hG4.perm.mem_iff.1 hm),h2⟩)
  refine ⟨rfl,B.blk F (Z++(rp::Option.toList (some gs))) gr,⟨_,st',rfl,cr,ptr,_,_,T',rQ,Ua⟩,((QX.mono (fun z hz=>B.DT hz)).trans (hu3.mono (fun z hz=>B.DT hz))).trans (hv4.mono (fun z hz=>?_)),fun z hz=>Α ?_⟩
  ·simp only [ρ,ς,or_false] at hz;rcases hz with e|e|e
   ·exact B.D7 (Qq z (by rw [vz];simp [e]))
   ·simp [HB.blk,e]
   ·exact B.DT (by rw [e];exact hM.cells.mem)
  ·simp only [HB.blk,ρ,τ,Option.toList_some,ς,or_false] at hz;rcases hz with h|h|h|h|h|h|h
   ·simp [HB.blk,h]
   ·simp [HB.blk,h]
   ·simp [HB.blk,h]
   ·exact B.DT h
   ·exact B.D7 h
   ·exact B.D7 (Qq z (by rw [vz];simp [h]))
   ·exact B.D7 (Qq z (by rw [vz];simp [h]))
end
end Go.Proofs.YtklibcncmbofpaaGreat
namespace Go.Proofs.YtklibcncmbofpaaGreat
open Go.RowKit
def arity (k d:Int):Int:=if k=1 then 2 else d
theorem Nl (k d:Int) (hc:qX k d=0) (w:World) :
  Calls Tryz.prog 92 #[.agg #[.int .i64 k,.int .i64 d]] w fun e w'=>e=.returned (.int .i64 (arity k d))/\aa [] w w':=by
 have kc:=fun W=>tQ k d W;rw [hc] at kc;unfold arity;clear hc
 by_cases h1:k=1
 ·rw [Δ h1];subst h1
  go_enter Tryz.func92,Tryz.ntmps92
  go_wp2_with (first|((go_at_call 50;(with_reducible refine (kc _).mono ?_));rintro e w1 ⟨rfl,hb⟩;obtain ⟨hc,hf⟩:=WW hb)|fail)
  go_ret;exact ⟨rfl,((aa.refl _ _).alloc _).trans (hb.mono σ)⟩
 ·rw [Γ h1];have h2:(k == 1)=false:=by simpa using h1
  go_enter Tryz.func92,Tryz.ntmps92
  go_wp2_with (first|((go_at_call 50;(with_reducible refine (kc _).mono ?_));rintro e w1 ⟨rfl,hb⟩;obtain ⟨hc,hf⟩:=WW hb)|fail)
  go_ret;exact ⟨rfl,((aa.refl _ _).alloc _).trans (hb.mono σ)⟩
end Go.Proofs.YtklibcncmbofpaaGreat
namespace Go.Proofs.YtklibcncmbofpaaGreat
open Go Go.RowKit
theorem JJ (p c:Nat):∀W:World,W.cell? ⟨p,0,none⟩=some (.pointer (some ⟨c,0,none⟩))->(method 429 170 (.pointer (some ⟨p,0,none⟩)) "Has").run Tryz.prog W=.ok (139,.pointer (some ⟨c,0,none⟩)) W:=(by intro W h;unfold method;have hm:∃m,(Array.find? (fun x=>x.name == "Has") Tryz.t170.methods)=some m/\m.path.toList=[⟨207,0,true⟩]/\m.func=some (139,true)/\m.path.isEmpty=false:=⟨(Array.find? (fun x=>x.name == "Has") Tryz.t170.methods).get!,by kernel_rfl,by kernel_rfl,by kernel_rfl,by kernel_rfl⟩;obtain ⟨m,h1,h2,h3,h4⟩:=hm;go_simp;simp only [follow,Place.get];go_simp;(try unfold receiverAt);(try simp only [Place.get]);(try go_simp))
theorem EM (p c:Nat):∀W:World,W.cell? ⟨p,0,none⟩=some (.pointer (some ⟨c,0,none⟩))->(method 429 170 (.pointer (some ⟨p,0,none⟩)) "Entry").run Tryz.prog W=.ok (137,.pointer (some ⟨c,0,none⟩)) W:=(by intro W h;unfold method;have hm:∃m,(Array.find? (fun x=>x.name == "Entry") Tryz.t170.methods)=some m/\m.path.toList=[⟨207,0,true⟩]/\m.func=some (137,true)/\m.path.isEmpty=false:=⟨(Array.find? (fun x=>x.name == "Entry") Tryz.t170.methods).get!,by kernel_rfl,by kernel_rfl,by kernel_rfl,by kernel_rfl⟩;obtain ⟨m,h1,h2,h3,h4⟩:=hm;go_simp;simp only [follow,Place.get];go_simp;(try unfold receiverAt);(try simp only [Place.get]);(try go_simp))
theorem Uz (p:Nat):∀W:World,(method 429 170 (.pointer (some ⟨p,0,none⟩)) "Make").run Tryz.prog W=.ok (143,.pointer (some ⟨p,0,none⟩)) W:=fun _=>by kernel_rfl
theorem O8 (p:Nat):∀W:World,(method 429 170 (.pointer (some ⟨p,0,none⟩)) "Insert").run Tryz.prog W=.ok (141,.pointer (some ⟨p,0,none⟩)) W:=fun _=>by kernel_rfl
theorem XM (p:Nat):∀W:World,(method 429 170 (.pointer (some ⟨p,0,none⟩)) "Min").run Tryz.prog W=.ok (145,.pointer (some ⟨p,0,none⟩)) W:=fun _=>by kernel_rfl
theorem J6 (p:Nat):∀W:World,(method 429 170 (.pointer (some ⟨p,0,none⟩)) "Extract").run Tryz.prog W=.ok (138,.pointer (some ⟨p,0,none⟩)) W:=fun _=>by kernel_rfl
theorem Ij (p:Nat):∀W:World,(method 429 170 (.pointer (some ⟨p,0,none⟩)) "Decrease").run Tryz.prog W=.ok (135,.pointer (some ⟨p,0,none⟩)) W:=fun _=>by kernel_rfl
def YU (d:Nat) (w:World) (p:Nat) (F:List Nat) (A:NS):Prop:=∃B F1 Z gr st,p=B.n0/\F=B.blk F1 Z gr/\B.d=d/\nG w B F1 Z gr A st
theorem YU.of {d:Nat} {B:DB} {F1:List Nat} {gr:Nat} {A:NS} {F:List Nat} {w w':World} (hd:B.d=d) (h:Goes F w w' (fun F'=>∃Z' st',F'=B.blk F1 Z' gr/\nG w' B F1 Z' gr A st')):Goes F w w' (fun F'=>YU d w' B.n0 F' A):=by
 obtain ⟨F',⟨Z',st',rfl,hA⟩,hu,hf⟩:=h;exact ⟨_,⟨B,F1,Z',gr,st',rfl,rfl,hd,hA⟩,hu,hf⟩
def yx (d:Nat):gD where
 ty:=170
 at_:=YU d
 upd:=fun h hu hS=>by
  obtain ⟨B,F1,Z,gr,st,rfl,rfl,hd,hL⟩:=h;exact ⟨B,F1,Z,gr,st,rfl,rfl,hd,hL.upd hu hS⟩
 lt:=fun h=>by
  obtain ⟨B,F1,Z,gr,st,rfl,rfl,hd,cr,ptr,G,L,hM,hI⟩:=h;exact hM.lt
 ok:=fun h=>by
  obtain ⟨B,F1,Z,gr,st,rfl,rfl,hd,cr,ptr,G,L,hM,hI⟩:=h;exact hM.cells.ok
 make:=fun {w p F A} h=>by
  obtain ⟨B,F1,Z,gr,st,rfl,rfl,hd,hL⟩:=h;refine aS 143 (fun _ _=>by kernel_rfl) (Uz _) (fun W hW=>?_);have lM:=hL.aj hW
  by_cases hl:65536<A.hs.length
  ·have e1:cu A=0:=by unfold cu;rw [Δ hl]
   have e2:aN A=A:=by unfold aN;rw [Δ hl]
   rw [e1,e2];refine (Tx lM hl).mono ?_;rintro e w' ⟨rfl,F',⟨F2,rfl,hA⟩,hu,hf⟩;exact ⟨rfl,_,⟨B,F2,Z,gr,st,rfl,rfl,hd,hA⟩,hu,hf⟩
  ·have e1:cu A=A.hs.length:=by unfold cu;rw [Γ hl]
   rw [e1];refine (Oh lM hl).mono ?_;rintro e w' ⟨rfl,F',⟨F2,Z2,gr2,rfl,hA⟩,hu,hf⟩;exact ⟨rfl,_,⟨B,F2,Z2,gr2,st,rfl,rfl,hd,hA⟩,hu,hf⟩
 insert:=fun {w p F A} g y k s hk hB h=>by
  obtain ⟨B,F1,Z,gr,st,rfl,rfl,hd,hL⟩:=h;refine aS 141 (fun _ _=>by kernel_rfl) (O8 _) (fun W hW=>?_);exact (FP (hL.aj hW) g y k s hk hB).mono (fun e w' h=>⟨h.1,YU.of hd h.2⟩)
 min:=fun {w p F A} g hB h=>by
  obtain ⟨B,F1,Z,gr,st,rfl,rfl,hd,hL⟩:=h;refine aS 145 (fun _ _=>by kernel_rfl) (XM _) (fun W hW=>?_);refine (Ff (hL.aj hW) g hB).mono ?_;rintro e w' ⟨rfl,rfl⟩;exact ⟨rfl,Goes.stay ⟨B,F1,Z,gr,st,rfl,rfl,hd,hL.aj hW⟩ (aa.refl _ _)⟩
 extract:=fun {w p F A} g m hm h=>by
  obtain ⟨B,F1,Z,gr,st,rfl,rfl,hd,hL⟩:=h;refine aS 138 (fun _ _=>by kernel_rfl) (J6 _) (fun W hW=>?_);exact (Bh (hL.aj hW) g m hm).mono (fun e w' h=>⟨h.1,YU.of hd h.2⟩)
 lS:=fun {w p F A} y k s hk hB h=>by
  obtain ⟨B,F1,Z,gr,st,rfl,rfl,hd,hL⟩:=h;refine aS 135 (fun _ _=>by kernel_rfl) (Ij _) (fun W hW=>?_);exact (QZ (hL.aj hW) y k s hk hB).mono (fun e w' h=>⟨h.1,YU.of hd h.2⟩)
 has:=fun x h=>by
  obtain ⟨B,F1,Z,gr,st,rfl,rfl,hd,cr,ptr,G,L,hM,hI⟩:=h;exact iA 139 (fun _ _=>by kernel_rfl) hM.h0 (JJ _ _) (fun W hW=>jm (hM.aj hW).cells x)
 entry:=fun {w p F A} x h=>by
  obtain ⟨B,F1,Z,gr,st,rfl,rfl,hd,cr,ptr,G,L,hM,hI⟩:=h;refine iA 137 (fun _ _=>by kernel_rfl) hM.h0 (EM _ _) (fun W hW=>?_);cases hin:bQ A x with
  | false=>simpa using lK (hM.aj hW).cells x hin
  | true=>
   obtain ⟨y,rfl⟩:=qj hin;simpa using jR (hM.aj hW).cells y hin
theorem IW (p:Nat) (w:World):Calls Tryz.prog 90 #[.pointer (some ⟨p,0,none⟩),.int .i64 0] w fun e w'=>e=.returned (.tuple #[.iface 170 (.pointer (some ⟨p,0,none⟩)),.int .i64 0])/\w'=w:=by
 go_enter Tryz.func90,Tryz.ntmps90
 go_wp2;go_ret2;exact ⟨rfl,rfl⟩
theorem Qc (kd d:Int) (n m:Nat) (hc:qX kd d=0) (hk:kd=1\/kd=2) (hm:arity kd d=(m:Int)) (hn:n<=65536):om (yx m) kd d n:=by
 intro w;have hd:2<=m/\m<=16:=by
  have h1:=Js hc;unfold arity at hm;rcases hk with e|e
  ·rw [Δ e] at hm;omega
  ·rw [Γ ω] at hm;have:=h1.2.2.1 e;omega
 have kn:=fun W=>Tg n m W hn hd;have km:=IW;have ka:=fun W=>Nl kd d hc W;rw [hm] at ka;have hty:(yx m).ty=170:=rfl;have hat:∀w' B F Z gr,B.d=m->nG w' B F Z gr (NS.new n) 0->(yx m).at_ w' B.n0 (B.blk F Z gr) (NS.new n):=fun w' B F Z gr hd h=>⟨B,F,Z,gr,0,rfl,rfl,hd,h⟩
 generalize yx m=K at *;rw [hty];clear hm hc;rcases hk with rfl|rfl
 all_goals
  go_enter Tryz.func81,Tryz.ntmps81
  go_wp2_with (first
   | ((go_at_call 92;(with_reducible refine (ka _).mono ?_));rintro e w0 ⟨rfl,hu0⟩)
   | ((go_at_call 91;(with_reducible refine (kn _).mono ?_));rintro e w1 ⟨B,F,gr,rfl,hS,hu1,hf,hBd⟩)
   | ((go_at_call 90;(with_reducible refine (km _ _).mono ?_));rintro e w2 ⟨rfl,rfl⟩)
   | fail)
  go_ret2;have hs:=hu0.size;exact ⟨B.n0,B.blk F [] gr,rfl,hat _ _ _ _ _ hBd hS,aa.trans (aa.trans β hu0) hu1,fun x hx=>by have:=hf x hx;simp at hs;omega⟩
end Go.Proofs.YtklibcncmbofpaaGreat
