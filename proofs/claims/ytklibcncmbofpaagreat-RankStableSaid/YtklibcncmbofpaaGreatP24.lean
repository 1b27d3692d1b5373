/-
  Lemmas for RankSorts: Sd10, Sd11, Arity, DrQ. Conditions: those of each lemma.
-/
import Derived.Test.YtklibcncmbofpaaGreatP07
import Derived.Test.YtklibcncmbofpaaGreatP23
set_option maxHeartbeats 8000000
set_option maxRecDepth 10000
set_option linter.unusedVariables false
set_option linter.unusedSimpArgs false
namespace Go.Proofs.YtklibcncmbofpaaGreat
open Go Go.RowKit
section
variable {w w':World} {B:HB} {F Z:List Nat} {gr cr st:Nat} {A:NS} {ptr:Nat→Option Nat} {G L:Nat→List Nat} {T:List Nat}
theorem HB.Ah (B:HB) {F Z:List Nat} {gr z:Nat} (hz:z∈F):z∈B.blk F Z gr:=by simp only [HB.blk,List.mem_cons,List.mem_append];exact Or.inr (Or.inr (Or.inr (Or.inl hz)))
theorem HB.Aq (B:HB) {F Z:List Nat} {gr z:Nat} (hz:z∈Z):z∈B.blk F Z gr:=by simp only [HB.blk,List.mem_cons,List.mem_append];exact Or.inr (Or.inr (Or.inr (Or.inr hz)))
def ReR (B:HB) (F Z:List Nat) (gr cr:Nat) (A:NS) (st:Nat) (ptr:Nat→Option Nat) (G L:Nat→List Nat) (T:List Nat) (g rp gs cap i x:Nat) (w2:World):Prop:=ShM w2 B F Z gr cr A st ptr G L T∧∀Y,aa [] w2 Y→
 Calls Tryz.prog 278 #[.iface 317 (.pointer (some ⟨rp,0,none⟩)),.int .i64 (i:Int)] Y fun e w'=>e=.returned (.iface 3 (.int .i64 (x:Int)))∧PX Y B F A rp gs cap (L g) T x w'∧
  ∀V,aa [] w' V→Calls Tryz.prog 151 #[.pointer (some ⟨B.c,0,none⟩),.int .i64 (x:Int)] V fun e w''=>e=.returned (.bool true)∧aa F V w''∧∃st',az w'' B.c F (aL A x) st'
theorem Ba (h:ShAt w B F Z gr A st) (x:Nat) (hin:bD A (x:Int)=true) :
  Calls Tryz.prog 271 #[.pointer (some ⟨B.n0,0,none⟩),.int .i64 (x:Int)] w fun e w'=>e=.returned (.bool true)∧Goes (B.blk F Z gr) w w' (fun F'=>∃Z' st',F'=B.blk F Z' gr∧ShAt w' B F Z' gr (aL A x) st'):=by
 obtain ⟨cr,ptr,G,L,T,hM,hI⟩:=h;have hok:=hM.cells.ok;have hcs:=hok.c1;have hin2:=(af _ _).1 hin;have hhas:=gN hok hin;rw [π] at hhas;obtain ⟨g,hg⟩:∃g:Nat,(A.c x).i=g:=⟨(A.c x).i.toNat,ω⟩
 rw [hg] at hhas;have hgN:=(aK _ _).1 hhas;have hxm:x∈L g:=(hI.di.mem g x hhas).2 ⟨hin2.1,hg⟩;obtain ⟨i,hi,hxi⟩:=List.mem_iff_getElem.1 hxm;have hx:(L g)[i]?=some x:=by rw [List.getElem?_eq_getElem hi,hxi]
 have hdom:∀y,y∈L g→bD A (y:Int)=true∧y<T.length:=fun y hy=>⟨(hI.di.len hhas hy).2.1,by rw [hM.tl];exact (hI.di.len hhas hy).1⟩
 have hTx:T.getD x 0=i:=hI.yc g hhas i x hx;have hxT:x<T.length:=by rw [hM.tl];exact hin2.1
 obtain ⟨rp,v,hp,hGv,hP0⟩:=hM.pile hhas hdom (hI.di.nd g hhas) (hI.yc g hhas);obtain ⟨gs,cap,hv, -⟩:=hP0.full ω;have hGg:G g=[rp,gs]:=by rw [hGv,hv];rfl
 have kh:∀W,aa [] w W→Calls Tryz.prog 140 #[.pointer (some ⟨B.c,0,none⟩),.int .i64 (x:Int)] W fun e w2=>e=.returned (.tuple #[.int .i64 (g:Int),.bool true])∧aa F W w2∧ReR B F Z gr cr A st ptr G L T g rp gs cap i x w2:=fun W hW=>by
  have k:=bZ (hM.aj hW).cells x hin;rw [hg] at k;refine k.mono ?_;rintro e w2 ⟨rfl,hC2,hu2⟩;have hM2:=(hM.aj hW).bI hu2 hC2 (fun x hx=>Or.inl hx) rfl rfl
  refine ⟨rfl,hu2,hM2,fun Y hY=>?_⟩
  have hPY:=(hP0.aj hW);obtain ⟨rp',v',hp',hGv',hP⟩:=(hM2.aj hY).pile hhas hdom (hI.di.nd g hhas) (hI.yc g hhas);rw [hp] at hp';cases hp';obtain ⟨gs',cap',hv',hPM⟩:=hP.full ω;have eg:gs'=gs:=by
   rw [hGg,hv'] at hGv';have:([rp,gs]:List Nat)=[rp,gs']:=hGv';simp at this;exact this.symm
  subst eg;have hc:cap'=cap:=by
   have r1:=hPM.h1;have hPM0:w.cell? ⟨rp,1,none⟩=some (.slice (some ⟨gs',0,none⟩) (L g).length cap):=by
    rw [←hv];exact hP0.hd.cellAt 1 ω rfl
   have hrpF:rp∉F:=hP0.s3.1;have r2:=((hu2.kept (hW.was hPM0) hrpF));have r3:=hY.was r2;rw [r1] at r3;simpa using r3
  subst hc;refine (Bg hPM i x hx (hI.di.hp g hhas)).mono ?_;rintro e w' ⟨rfl,hR⟩;refine ⟨rfl,hR,fun V hV=>?_⟩
  obtain ⟨L',T',hE, -⟩:=hR;obtain ⟨st',hC⟩:=hE.I7;refine (fw (hC.aj hV) x hin).mono ?_;rintro e w'' ⟨rfl,hC',hu'⟩;exact ⟨rfl,hu',st',hC'⟩
 have c0:=hM.h0;have c2:=hM.h1;have c3:=hM.h2;have cg:=hM.jf.cell ω hp;have ct:=hM.BU x hxT;rw [hTx] at ct;have hlt:=hM.lt;have n1:B.n0∉F:=hM.aZ.1;have n2:gr∉F:=hM.aZ.2.1;have n3:B.ga∉F:=hM.aZ.2.2;have n4:B.n0∉[rp,gs,B.ga,B.c]:=by
  have h1:=hP0.s1;have h2:=hP0.sg gs (by rw [hv];rfl)
  simp;exact ⟨fun e=>h1.2 e.symm,fun e=>h2.2.2.1 e.symm,fun e=>hM.sep.2.1 e.symm,fun e=>n1 (by rw [e];exact hM.cells.mem)⟩
 have hgI:(g:Int)<(A.hs.length:Int):=ω;have hxI:(x:Int)<(T.length:Int):=ω;have hil:i≤65536:=by have:=hP0.len;omega
 have HX:=χ (ψ hM (ψ hI (ψ hp (ψ hhas (ψ hxm (ψ hlt (ψ hGg hin)))))));clear hM hI hok hcs hin hin2 hhas hgN hxm hxi hx hdom hTx hxT hp hGv hP0 hv hGg hlt hi hg;generalize A.hs.length=m at *
 generalize T.length=nt at *
 go_enter Tryz.func271,Tryz.ntmps271
 go_upto_region 4 with (first
  | ((go_at_call 140;(with_reducible refine (kh _ β).mono ?_));rintro e w2 ⟨rfl,hu2,hM2,krem⟩)
  | fail)
 have a0:∀X,aa [] w2 X→X.cell? ⟨B.n0,1,none⟩=some (.slice (some ⟨gr,0,none⟩) m cr):=fun X hX=>hX.was (hu2.kept c2 n1)
 have a1:∀X,aa [] w2 X→X.cell? ⟨B.n0,2,none⟩=some (.slice (some ⟨B.ga,0,none⟩) nt nt):=fun X hX=>hX.was (hu2.kept c3 n1)
 have a2:∀X,aa [] w2 X→X.cell? ⟨gr,g,none⟩=some (.pointer (some ⟨rp,0,none⟩)):=fun X hX=>hX.was (hu2.kept cg n2)
 have a3:∀X,aa [] w2 X→X.cell? ⟨B.ga,x,none⟩=some (.int .i64 (i:Int)):=fun X hX=>hX.was (hu2.kept ct n3)
 have z0:=hu2.kept c0 n1;clear c0 c2 c3 cg ct kh;have b1:=a0 _ (aa.refl [] w2);have b2:=a1 _ (aa.refl [] w2);have b3:=a2 _ (aa.refl [] w2);have b4:=a3 _ (aa.refl [] w2)
 go_region_law
  (first
   | (go_simp;go_at_call 278;(with_reducible refine (krem _ (by (repeat (first|assumption|exact aa.refl _ _|refine aa.drew ?_|refine aa.alloc ?_ _|refine aa.setCell ?_ ?_ _|focus (left;simp;done)|focus (right;simp;done)|focus (right;simp;omega)|(apply aa.trans;rotate_left;assumption))))).mono ?_);rintro e w3 ⟨rfl,hR,kdrop⟩;(have hv3:aa [rp,gs,B.ga,B.c] w2 w3:=by obtain ⟨_,_,_,_,_,_,_,hu⟩:=hR;exact aa.trans (by (repeat (first|assumption|exact aa.refl _ _|refine aa.drew ?_|refine aa.alloc ?_ _|refine aa.setCell ?_ ?_ _|focus (left;simp;done)|focus (right;simp;done)|focus (right;simp;omega)|(apply aa.trans;rotate_left;assumption)))) hu);(have z1:=hv3.kept z0 n4)))
 all_goals
  go_wp2_with (first
   | ((go_at_call 151;(with_reducible refine (kdrop _ (by (repeat (first|assumption|exact aa.refl _ _|refine aa.drew ?_|refine aa.alloc ?_ _|refine aa.setCell ?_ ?_ _|focus (left;simp;done)|focus (right;simp;done)|focus (right;simp;omega)|(apply aa.trans;rotate_left;assumption))))).mono ?_));rintro e w4 ⟨rfl,hu4,st4,hC4⟩)
   | fail)
  go_ret;obtain ⟨hM,hI,hp,hhas,hxm,hlt,hGg,hin⟩:=HX.out;obtain ⟨L',T',hE,hp3,hH3,hoff,hTl, -⟩:=hR;have hu4':aa F w3 w4:=aa.trans (by (repeat (first|assumption|exact aa.refl _ _|refine aa.drew ?_|refine aa.alloc ?_ _|refine aa.setCell ?_ ?_ _|focus (left;simp;done)|focus (right;simp;done)|focus (right;simp;omega)|(apply aa.trans;rotate_left;assumption)))) hu4
  have hGz:∀z,z∈G g→z∈Z:=hM.jf.vE g hhas
  obtain ⟨st',hM3⟩:=hM2.xh hhas hp hv3 (fun z hz=>by
   simp only [List.mem_cons,List.not_mem_nil,or_false] at hz;rw [hGg];rcases hz with e|e|e|e
   ·exact Or.inl (by simp [e])
   ·exact Or.inl (by simp [e])
   ·exact Or.inr (Or.inl e)
   ·exact Or.inr (Or.inr e)) (by rw [hGg];simp) hE hTl (fun k hk=>by cases hk;rw [hGg];simp)
  have hM4:=hM3.bI hu4' hC4 (fun x hx=>Or.inl hx) (fA _ _) (dw _ _)
  have hI4:=hI.turn (hI.di.drop ω hhas hxm hp3 hH3) (fun q=>by unfold aY;rw [fA]) hhas hE.yc (fun y _ h2=>hoff y h2) (fun q y e hq hy=>by
   have h2:=hI.di.apart e hq hhas hy
   exact ⟨fun hm=>h2 (hp3.mem_iff.1 (List.mem_cons_of_mem _ hm)),h2⟩)
  refine ⟨rfl,B.blk F (Z++(rp::Option.toList (some gs))) gr,⟨_,st4,rfl,cr,ptr,_,_,T',hM4,hI4⟩,((hu2.mono (fun z hz=>B.Ah hz)).trans (hv3.mono (fun z hz=>?_))).trans (hu4'.mono (fun z hz=>B.Ah hz)),fun z hz=>Or.inl ?_⟩
  ·simp only [List.mem_cons,List.not_mem_nil,or_false] at hz;rcases hz with e|e|e|e
   ·exact B.Aq (hGz z (by rw [hGg];simp [e]))
   ·exact B.Aq (hGz z (by rw [hGg];simp [e]))
   ·simp [HB.blk,e]
   ·exact B.Ah (by rw [e];exact hM.cells.mem)
  ·simp only [HB.blk,List.mem_cons,List.mem_append,Option.toList_some,List.not_mem_nil,or_false] at hz;rcases hz with h|h|h|h|h|h|h
   ·simp [HB.blk,h]
   ·simp [HB.blk,h]
   ·simp [HB.blk,h]
   ·exact B.Ah h
   ·exact B.Aq h
   ·exact B.Aq (hGz z (by rw [hGg];simp [h]))
   ·exact B.Aq (hGz z (by rw [hGg];simp [h]))
theorem xU (h:ShAt w B F Z gr A st) (g:Int) (m:Nat) (hm:bL A g=some m) :
  Calls Tryz.prog 272 #[.pointer (some ⟨B.n0,0,none⟩),.int .i64 g] w fun e w'=>e=.returned (.tuple #[.int .i64 (m:Int),.bool true])∧Goes (B.blk F Z gr) w w' (fun F'=>∃Z' st',F'=B.blk F Z' gr∧ShAt w' B F Z' gr (aL A m) st'):=by
 obtain ⟨q,rfl,hq,hin⟩:∃q:Nat,g=q∧aY A q=true∧bD A (m:Int)=true:=by
  obtain ⟨cr,ptr,G,L,T,hM,hI⟩:=h;obtain ⟨q,rfl,hq,hmq⟩:=hI.di.M8 hm hM.cells.ok;exact ⟨q,rfl,hq,(hI.di.len hq hmq).2.1⟩
 have km:=ze h q hq;rw [hm] at km;have kd:=fun W (hW:aa [] w W)=>Ba (h.aj hW) m hin
 clear h hm hin hq;have km':Calls Tryz.prog 276 #[.pointer (some ⟨B.n0,0,none⟩),.int .i64 (q:Int)] w fun e w'=>e=.returned (.tuple #[.int .i64 (m:Int),.bool true])∧w'=w:=km
 clear km
 go_enter Tryz.func272,Tryz.ntmps272
 go_wp2_with (first
  | (go_at_call 276;(with_reducible refine (km').mono ?_);rintro e w9 ⟨rfl,hw9⟩;rw [hw9];clear hw9 w9)
  | ((go_at_call 271;(with_reducible refine (kd _ (aa.refl _ _)).mono ?_));rintro e w2 ⟨rfl,hG⟩)
  | fail)
 go_ret2;exact ⟨rfl,hG⟩
end
section
variable {w w':World} {B:HB} {F Z:List Nat} {gr cr st:Nat} {A:NS} {ptr:Nat→Option Nat} {G L:Nat→List Nat} {T:List Nat}
def FiR (B:HB) (F Z:List Nat) (gr cr:Nat) (A:NS) (st:Nat) (ptr:Nat→Option Nat) (G L:Nat→List Nat) (T:List Nat) (g rp gs cap i:Nat) (w2:World):Prop:=ShM w2 B F Z gr cr A st ptr G L T∧∀Y,aa [] w2 Y→
 Calls Tryz.prog 277 #[.iface 317 (.pointer (some ⟨rp,0,none⟩)),.int .i64 (i:Int)] Y fun e w'=>e=.returned (.tuple #[])∧∃L' T',jM Y B F A rp gs cap [] (L g) T w' L' T'∧Hp (lU A) 2 L'
theorem IY (h:ShAt w B F Z gr A st) (x:Nat) (k s:Int) (hk:-9223372036854775808≤k∧k≤9223372036854775807∧0≤s∧s≤18446744073709551615) (hB:iy A x k s=true) :
  Calls Tryz.prog 270 #[.pointer (some ⟨B.n0,0,none⟩),.int .i64 (x:Int),.agg #[.int .i64 k,.int .u64 s]] w fun e w'=>e=.returned (.bool true)∧Goes (B.blk F Z gr) w w' (fun F'=>∃Z' st',F'=B.blk F Z' gr∧ShAt w' B F Z' gr (ak A x k s) st'):=by
 obtain ⟨cr,ptr,G,L,T,hM,hI⟩:=h;have hok:=hM.cells.ok;have hcs:=hok.c1;have hin:=pK hB;have hin2:=(af _ _).1 hin;have hhas:=gN hok hin;rw [π] at hhas;obtain ⟨g,hg⟩:∃g:Nat,(A.c x).i=g:=⟨(A.c x).i.toNat,ω⟩
 rw [hg] at hhas;have hgN:=(aK _ _).1 hhas;have hxm:x∈L g:=(hI.di.mem g x hhas).2 ⟨hin2.1,hg⟩;obtain ⟨i,hi,hxi⟩:=List.mem_iff_getElem.1 hxm;have hx:(L g)[i]?=some x:=by rw [List.getElem?_eq_getElem hi,hxi]
 obtain ⟨hHo,hBe⟩:=hI.di.FT ω hB hhas hx;have hA'h:(ak A x k s).hs=A.hs:=jm _ _ _ _;have hA'c:(ak A x k s).cs.length=A.cs.length:=eB _ _ _ _;have hhas':aY (ak A x k s) g=true:=by have:=hhas;unfold aY at this ⊢;rw [hA'h];exact this
 have hin':bD (ak A x k s) (x:Int)=true:=(af _ _).2 ⟨by rw [eB];exact hin2.1,by rw [fP hB hin2.1];exact hin2.2⟩
 have hgi':((ak A x k s).c x).i=g:=by rw [fP hB hin2.1];exact hg
 have hdom:∀y,y∈L g→bD A (y:Int)=true∧y<T.length:=fun y hy=>⟨(hI.di.len hhas hy).2.1,by rw [hM.tl];exact (hI.di.len hhas hy).1⟩
 have hdom':∀y,y∈L g→bD (ak A x k s) (y:Int)=true∧y<T.length:=fun y hy=>by
  have h1:=(hI.di.mem g y hhas).1 hy;exact ⟨(af _ _).2 ⟨by rw [eB];exact h1.1,by rw [fP hB hin2.1];omega⟩,by rw [hM.tl];exact h1.1⟩
 have hTx:T.getD x 0=i:=hI.yc g hhas i x hx;have hxT:x<T.length:=by rw [hM.tl];exact hin2.1
 obtain ⟨rp,v,hp,hGv,hP0⟩:=hM.pile hhas hdom (hI.di.nd g hhas) (hI.yc g hhas);obtain ⟨gs,cap,hv, -⟩:=hP0.full ω;have hGg:G g=[rp,gs]:=by rw [hGv,hv];rfl
 have hPM0:w.cell? ⟨rp,1,none⟩=some (.slice (some ⟨gs,0,none⟩) (L g).length cap):=by rw [←hv];exact hP0.hd.cellAt 1 ω rfl
 have hrpF:rp∉F:=hP0.s3.1;have klow:∀W (hW:aa [] w W),Calls Tryz.prog 147 #[.pointer (some ⟨B.c,0,none⟩),.int .i64 (x:Int),.agg #[.int .i64 k,.int .u64 s]] W fun e w2=>e=.returned (.bool true)∧ShM w2 B F Z gr cr (ak A x k s) st ptr G L T∧aa F W w2:=fun W hW=>(fE (hM.aj hW).cells x k s hk hB).mono (fun e w2 h=>⟨h.1,(hM.aj hW).bI h.2.2 h.2.1 (fun x hx=>Or.inl hx) hA'h hA'c,h.2.2⟩)
 have khome:∀w2,ShM w2 B F Z gr cr (ak A x k s) st ptr G L T→aa F w w2→Calls Tryz.prog 140 #[.pointer (some ⟨B.c,0,none⟩),.int .i64 (x:Int)] w2 fun e w3=>e=.returned (.tuple #[.int .i64 (g:Int),.bool true])∧aa F w2 w3∧FiR B F Z gr cr (ak A x k s) st ptr G L T g rp gs cap i w3:=fun w2 hM2 huw=>by
  have kk:=bZ hM2.cells x hin';rw [hgi'] at kk;refine kk.mono ?_;rintro e w3 ⟨rfl,hC3,hu3⟩;have hM3:=hM2.bI hu3 hC3 (fun x hx=>Or.inl hx) rfl rfl
  refine ⟨rfl,hu3,hM3,fun Y hY=>?_⟩
  obtain ⟨rp',v',hp',hGv',hP⟩:=(hM3.aj hY).pile hhas' hdom' (hI.di.nd g hhas) (hI.yc g hhas);rw [hp] at hp';cases hp';obtain ⟨gs',cap',hv',hPM⟩:=hP.full ω;have r3:=hY.was (hu3.kept (huw.kept hPM0 hrpF) hrpF);have r1:=hPM.h1;rw [r1] at r3;simp at r3;obtain ⟨rfl,rfl⟩:=r3;exact J6 hPM i hHo
 have c0:=hM.h0;have c2:=hM.h1;have c3:=hM.h2;have cg:=hM.jf.cell ω hp;have ct:=hM.BU x hxT;rw [hTx] at ct;have hlt:=hM.lt;have n1:B.n0∉F:=hM.aZ.1;have n2:gr∉F:=hM.aZ.2.1;have n3:B.ga∉F:=hM.aZ.2.2;have n5:∀z,z∈F→z<w.heap.size:=fun z hm=>hlt z (B.Ah hm)
 have hgI:(g:Int)<(A.hs.length:Int):=ω;have hxI:(x:Int)<(T.length:Int):=ω;have hil:i≤65536:=by have:=hP0.len;omega
 have HX:=χ (ψ hM (ψ hI (ψ hp (ψ hhas (ψ hhas' (ψ hxm (ψ hlt (ψ hGg (ψ hB hA'h)))))))));clear hM hI hok hcs hin hin2 hhas hgN hxm hxi hx hdom hTx hxT hp hGv hP0 hv hGg hlt hi hg hHo hBe hA'h hA'c hhas' hin' hgi' hdom' hPM0 hrpF;generalize A.hs.length=m at *
 generalize T.length=nt at *
 go_enter Tryz.func270,Tryz.ntmps270
 go_upto_region 1 with (fail)
 refine gB (fun W=>W.cell? ⟨w.heap.size,0,none⟩=some (.int .i64 k)∧W.cell? ⟨w.heap.size,1,none⟩=some (.int .u64 s)∧aa [] w W) ⟨γ,γ,β⟩ ?_
 rintro W ⟨x0,x1,hW⟩;have hb:w.heap.size∉F:=fun hm=>by have:=n5 _ hm;omega
 have e0:∀X,aa F W X→X.cell? ⟨w.heap.size,0,none⟩=some (.int .i64 k):=fun X h=>h.kept x0 hb
 have e1:∀X,aa F W X→X.cell? ⟨w.heap.size,1,none⟩=some (.int .u64 s):=fun X h=>h.kept x1 hb
 have e2:∀X,aa F W X→X.cell? ⟨B.n0,0,none⟩=some (.pointer (some ⟨B.c,0,none⟩)):=fun X h=>h.kept (hW.was c0) n1
 have HW:=χ (ψ hW (ψ c2 (ψ c3 (ψ cg ct))));have klow1:=fun X (hX:aa [] W X)=>klow X (hW.trans hX)
 clear klow x0 x1 hW c0 c2 c3 cg ct
 go_region_held3 (aa F W) (repeat (first|assumption|exact aa.refl _ _|refine aa.drew ?_|refine aa.alloc ?_ _|refine aa.setCell ?_ ?_ _|focus (left;simp;done)|focus (right;simp;done)|focus (right;simp;omega)|(apply aa.trans;rotate_left;assumption)))
  (first
   | ((go_at_call 147;(with_reducible refine (klow1 _ (by (repeat (first|assumption|exact aa.refl _ _|refine aa.drew ?_|refine aa.alloc ?_ _|refine aa.setCell ?_ ?_ _|focus (left;simp;done)|focus (right;simp;done)|focus (right;simp;omega)|(apply aa.trans;rotate_left;assumption))))).mono ?_));rintro e w2 ⟨rfl,hM2,hu2⟩;(have hv2:aa F W w2:=aa.trans (by (repeat (first|assumption|exact aa.refl _ _|refine aa.drew ?_|refine aa.alloc ?_ _|refine aa.setCell ?_ ?_ _|focus (left;simp;done)|focus (right;simp;done)|focus (right;simp;omega)|(apply aa.trans;rotate_left;assumption)))) hu2)))
 obtain ⟨hW,c2,c3,cg,ct⟩:=HW.out;have huw:aa F w w2:=(hW.mono σ).trans hv2;have kh2:=khome w2 hM2 huw;have q0:=hM2.h0;have p2:=huw.kept c2 n1;have p3:=huw.kept c3 n1;have p4:=huw.kept cg n2;have p5:=huw.kept ct n3;have HV:=χ (ψ huw hM2);clear e0 e1 e2 klow1 khome hW c2 c3 cg ct huw hM2 hv2 hu2
 go_upto_region 4 with (first
  | ((go_at_call 140;(with_reducible refine (kh2).mono ?_));rintro e w3 ⟨rfl,hu3,hM3,kfix⟩)
  | fail)
 have a0:∀X,aa [] w3 X→X.cell? ⟨B.n0,1,none⟩=some (.slice (some ⟨gr,0,none⟩) m cr):=fun X hX=>hX.was (hu3.kept p2 n1)
 have a1:∀X,aa [] w3 X→X.cell? ⟨B.n0,2,none⟩=some (.slice (some ⟨B.ga,0,none⟩) nt nt):=fun X hX=>hX.was (hu3.kept p3 n1)
 have a2:∀X,aa [] w3 X→X.cell? ⟨gr,g,none⟩=some (.pointer (some ⟨rp,0,none⟩)):=fun X hX=>hX.was (hu3.kept p4 n2)
 have a3:∀X,aa [] w3 X→X.cell? ⟨B.ga,x,none⟩=some (.int .i64 (i:Int)):=fun X hX=>hX.was (hu3.kept p5 n3)
 have b1:=a0 _ (aa.refl [] w3);have b2:=a1 _ (aa.refl [] w3);have b3:=a2 _ (aa.refl [] w3);have b4:=a3 _ (aa.refl [] w3);clear p2 p3 p4 p5 q0 kh2
 go_region_law
  (first
   | (go_simp;go_at_call 277;(with_reducible refine (kfix _ (by (repeat (first|assumption|exact aa.refl _ _|refine aa.drew ?_|refine aa.alloc ?_ _|refine aa.setCell ?_ ?_ _|focus (left;simp;done)|focus (right;simp;done)|focus (right;simp;omega)|(apply aa.trans;rotate_left;assumption))))).mono ?_);rintro e w4 ⟨rfl,L',T',hG4,hH4⟩;(have hv4:aa [gs,B.ga,B.c] w3 w4:=aa.trans (by (repeat (first|assumption|exact aa.refl _ _|refine aa.drew ?_|refine aa.alloc ?_ _|refine aa.setCell ?_ ?_ _|focus (left;simp;done)|focus (right;simp;done)|focus (right;simp;omega)|(apply aa.trans;rotate_left;assumption)))) hG4.upd)))
 all_goals
  go_wp2;go_ret;obtain ⟨hM,hI,hp,hhas,hhas',hxm,hlt,hGg,hB,hA'h⟩:=HX.out;obtain ⟨huw,hM2⟩:=HV.out;have hpm:=hG4.pi;rw [List.append_nil] at hpm;have hGz:∀z,z∈G g→z∈Z:=hM.jf.vE g hhas
  obtain ⟨st',hM4⟩:=hM3.xh hhas' hp hv4 (fun z hz=>by
   simp only [List.mem_cons,List.not_mem_nil,or_false] at hz;rw [hGg];rcases hz with e|e|e
   ·exact Or.inl (by simp [e])
   ·exact Or.inr (Or.inl e)
   ·exact Or.inr (Or.inr e)) (by rw [hGg];simp) hpm.any hG4.tl (fun k hk=>by cases hk;rw [hGg];simp)
  have hI4:=hI.turn (hI.di.low ω hB hhas hxm hG4.perm hH4) (fun q=>by unfold aY;rw [hA'h]) hhas hpm.yc (fun y _ h2=>hG4.off y (by rw [List.append_nil];exact h2)) (fun q y e hq hy=>by
   have h2:=hI.di.apart e hq hhas hy
   exact ⟨fun hm=>h2 (hG4.perm.mem_iff.1 hm),h2⟩)
  refine ⟨rfl,B.blk F (Z++(rp::Option.toList (some gs))) gr,⟨_,st',rfl,cr,ptr,_,_,T',hM4,hI4⟩,((huw.mono (fun z hz=>B.Ah hz)).trans (hu3.mono (fun z hz=>B.Ah hz))).trans (hv4.mono (fun z hz=>?_)),fun z hz=>Or.inl ?_⟩
  ·simp only [List.mem_cons,List.not_mem_nil,or_false] at hz;rcases hz with e|e|e
   ·exact B.Aq (hGz z (by rw [hGg];simp [e]))
   ·simp [HB.blk,e]
   ·exact B.Ah (by rw [e];exact hM.cells.mem)
  ·simp only [HB.blk,List.mem_cons,List.mem_append,Option.toList_some,List.not_mem_nil,or_false] at hz;rcases hz with h|h|h|h|h|h|h
   ·simp [HB.blk,h]
   ·simp [HB.blk,h]
   ·simp [HB.blk,h]
   ·exact B.Ah h
   ·exact B.Aq h
   ·exact B.Aq (hGz z (by rw [hGg];simp [h]))
   ·exact B.Aq (hGz z (by rw [hGg];simp [h]))
end
end Go.Proofs.YtklibcncmbofpaaGreat
namespace Go.Proofs.YtklibcncmbofpaaGreat
open Go.RowKit
def arity (k d:Int):Int:=if k=1 then 2 else d
theorem Gv (k d:Int) (hc:kX k d=0) (w:World) :
  Calls Tryz.prog 92 #[.agg #[.int .i64 k,.int .i64 d]] w fun e w'=>e=.returned (.int .i64 (arity k d))∧aa [] w w':=by
 have kc:=fun W=>qB k d W
 rw [hc] at kc;unfold arity;clear hc
 by_cases h1:k=1
 ·rw [if_pos h1];subst h1
  go_enter Tryz.func92,Tryz.ntmps92
  go_wp2_with (first|((go_at_call 50;(with_reducible refine (kc _).mono ?_));rintro e w1 ⟨rfl,hb⟩;obtain ⟨hc,hf⟩:=NL hb)|fail)
  go_ret;exact ⟨rfl,((aa.refl _ _).alloc _).trans (hb.mono σ)⟩
 ·rw [if_neg h1];have h2:(k == 1)=false:=by simpa using h1
  go_enter Tryz.func92,Tryz.ntmps92
  go_wp2_with (first|((go_at_call 50;(with_reducible refine (kc _).mono ?_));rintro e w1 ⟨rfl,hb⟩;obtain ⟨hc,hf⟩:=NL hb)|fail)
  go_ret;exact ⟨rfl,((aa.refl _ _).alloc _).trans (hb.mono σ)⟩
end Go.Proofs.YtklibcncmbofpaaGreat
namespace Go.Proofs.YtklibcncmbofpaaGreat
open Go Go.RowKit
theorem EL (p c:Nat):∀W:World,W.cell? ⟨p,0,none⟩=some (.pointer (some ⟨c,0,none⟩))→(method 429 170 (.pointer (some ⟨p,0,none⟩)) "Has").run Tryz.prog W=.ok (139,.pointer (some ⟨c,0,none⟩)) W:=(by intro W h;unfold method;have hm:∃m,(Array.find? (fun x=>x.name == "Has") Tryz.t170.methods)=some m∧m.path.toList=[⟨207,0,true⟩]∧m.func=some (139,true)∧m.path.isEmpty=false:=⟨(Array.find? (fun x=>x.name == "Has") Tryz.t170.methods).get!,by kernel_rfl,by kernel_rfl,by kernel_rfl,by kernel_rfl⟩;obtain ⟨m,h1,h2,h3,h4⟩:=hm;go_simp;simp only [follow,Place.get];go_simp;(try unfold receiverAt);(try simp only [Place.get]);(try go_simp))
theorem Ao (p c:Nat):∀W:World,W.cell? ⟨p,0,none⟩=some (.pointer (some ⟨c,0,none⟩))→(method 429 170 (.pointer (some ⟨p,0,none⟩)) "Entry").run Tryz.prog W=.ok (137,.pointer (some ⟨c,0,none⟩)) W:=(by intro W h;unfold method;have hm:∃m,(Array.find? (fun x=>x.name == "Entry") Tryz.t170.methods)=some m∧m.path.toList=[⟨207,0,true⟩]∧m.func=some (137,true)∧m.path.isEmpty=false:=⟨(Array.find? (fun x=>x.name == "Entry") Tryz.t170.methods).get!,by kernel_rfl,by kernel_rfl,by kernel_rfl,by kernel_rfl⟩;obtain ⟨m,h1,h2,h3,h4⟩:=hm;go_simp;simp only [follow,Place.get];go_simp;(try unfold receiverAt);(try simp only [Place.get]);(try go_simp))
theorem Nb (p:Nat):∀W:World,(method 429 170 (.pointer (some ⟨p,0,none⟩)) "Make").run Tryz.prog W=.ok (143,.pointer (some ⟨p,0,none⟩)) W:=fun _=>by kernel_rfl
theorem GQ (p:Nat):∀W:World,(method 429 170 (.pointer (some ⟨p,0,none⟩)) "Insert").run Tryz.prog W=.ok (141,.pointer (some ⟨p,0,none⟩)) W:=fun _=>by kernel_rfl
theorem OP (p:Nat):∀W:World,(method 429 170 (.pointer (some ⟨p,0,none⟩)) "Min").run Tryz.prog W=.ok (145,.pointer (some ⟨p,0,none⟩)) W:=fun _=>by kernel_rfl
theorem DW (p:Nat):∀W:World,(method 429 170 (.pointer (some ⟨p,0,none⟩)) "Extract").run Tryz.prog W=.ok (138,.pointer (some ⟨p,0,none⟩)) W:=fun _=>by kernel_rfl
theorem Cq (p:Nat):∀W:World,(method 429 170 (.pointer (some ⟨p,0,none⟩)) "Decrease").run Tryz.prog W=.ok (135,.pointer (some ⟨p,0,none⟩)) W:=fun _=>by kernel_rfl
def Ow (d:Nat) (w:World) (p:Nat) (F:List Nat) (A:NS):Prop:=∃B F1 Z gr st,p=B.n0∧F=B.blk F1 Z gr∧B.d=d∧lN w B F1 Z gr A st
theorem Ow.of {d:Nat} {B:DB} {F1:List Nat} {gr:Nat} {A:NS} {F:List Nat} {w w':World} (hd:B.d=d) (h:Goes F w w' (fun F'=>∃Z' st',F'=B.blk F1 Z' gr∧lN w' B F1 Z' gr A st')):Goes F w w' (fun F'=>Ow d w' B.n0 F' A):=by
 obtain ⟨F',⟨Z',st',rfl,hA⟩,hu,hf⟩:=h;exact ⟨_,⟨B,F1,Z',gr,st',rfl,rfl,hd,hA⟩,hu,hf⟩
def vF (d:Nat):fJ where
 ty:=170
 at_:=Ow d
 upd:=fun h hu hS=>by
  obtain ⟨B,F1,Z,gr,st,rfl,rfl,hd,hL⟩:=h;exact ⟨B,F1,Z,gr,st,rfl,rfl,hd,hL.upd hu hS⟩
 lt:=fun h=>by
  obtain ⟨B,F1,Z,gr,st,rfl,rfl,hd,cr,ptr,G,L,hM,hI⟩:=h;exact hM.lt
 ok:=fun h=>by
  obtain ⟨B,F1,Z,gr,st,rfl,rfl,hd,cr,ptr,G,L,hM,hI⟩:=h;exact hM.cells.ok
 make:=fun {w p F A} h=>by
  obtain ⟨B,F1,Z,gr,st,rfl,rfl,hd,hL⟩:=h;refine aN 143 (fun _ _=>by kernel_rfl) (Nb _) (fun W hW=>?_)
  have hLW:=hL.aj hW
  by_cases hl:65536<A.hs.length
  ·have e1:bS A=0:=by unfold bS;rw [if_pos hl]
   have e2:aG A=A:=by unfold aG;rw [if_pos hl]
   rw [e1,e2];refine (LU hLW hl).mono ?_;rintro e w' ⟨rfl,F',⟨F2,rfl,hA⟩,hu,hf⟩;exact ⟨rfl,_,⟨B,F2,Z,gr,st,rfl,rfl,hd,hA⟩,hu,hf⟩
  ·have e1:bS A=A.hs.length:=by unfold bS;rw [if_neg hl]
   rw [e1];refine (Im hLW hl).mono ?_;rintro e w' ⟨rfl,F',⟨F2,Z2,gr2,rfl,hA⟩,hu,hf⟩;exact ⟨rfl,_,⟨B,F2,Z2,gr2,st,rfl,rfl,hd,hA⟩,hu,hf⟩
 insert:=fun {w p F A} g y k s hk hB h=>by
  obtain ⟨B,F1,Z,gr,st,rfl,rfl,hd,hL⟩:=h;refine aN 141 (fun _ _=>by kernel_rfl) (GQ _) (fun W hW=>?_)
  exact (Br (hL.aj hW) g y k s hk hB).mono (fun e w' h=>⟨h.1,Ow.of hd h.2⟩)
 min:=fun {w p F A} g hB h=>by
  obtain ⟨B,F1,Z,gr,st,rfl,rfl,hd,hL⟩:=h;refine aN 145 (fun _ _=>by kernel_rfl) (OP _) (fun W hW=>?_)
  refine (Bh (hL.aj hW) g hB).mono ?_;rintro e w' ⟨rfl,rfl⟩;exact ⟨rfl,Goes.stay ⟨B,F1,Z,gr,st,rfl,rfl,hd,hL.aj hW⟩ (aa.refl _ _)⟩
 extract:=fun {w p F A} g m hm h=>by
  obtain ⟨B,F1,Z,gr,st,rfl,rfl,hd,hL⟩:=h;refine aN 138 (fun _ _=>by kernel_rfl) (DW _) (fun W hW=>?_)
  exact (yx (hL.aj hW) g m hm).mono (fun e w' h=>⟨h.1,Ow.of hd h.2⟩)
 lQ:=fun {w p F A} y k s hk hB h=>by
  obtain ⟨B,F1,Z,gr,st,rfl,rfl,hd,hL⟩:=h;refine aN 135 (fun _ _=>by kernel_rfl) (Cq _) (fun W hW=>?_)
  exact (LG (hL.aj hW) y k s hk hB).mono (fun e w' h=>⟨h.1,Ow.of hd h.2⟩)
 has:=fun x h=>by
  obtain ⟨B,F1,Z,gr,st,rfl,rfl,hd,cr,ptr,G,L,hM,hI⟩:=h;exact fK 139 (fun _ _=>by kernel_rfl) hM.h0 (EL _ _) (fun W hW=>iq (hM.aj hW).cells x)
 entry:=fun {w p F A} x h=>by
  obtain ⟨B,F1,Z,gr,st,rfl,rfl,hd,cr,ptr,G,L,hM,hI⟩:=h;refine fK 137 (fun _ _=>by kernel_rfl) hM.h0 (Ao _ _) (fun W hW=>?_)
  cases hin:bD A x with
  | false=>simpa using jB (hM.aj hW).cells x hin
  | true=>
   obtain ⟨y,rfl⟩:=nJ hin;simpa using iI (hM.aj hW).cells y hin
theorem ET (p:Nat) (w:World):Calls Tryz.prog 90 #[.pointer (some ⟨p,0,none⟩),.int .i64 0] w fun e w'=>e=.returned (.tuple #[.iface 170 (.pointer (some ⟨p,0,none⟩)),.int .i64 0])∧w'=w:=by
 go_enter Tryz.func90,Tryz.ntmps90
 go_wp2;go_ret2;exact ⟨rfl,rfl⟩
theorem JH (kd d:Int) (n m:Nat) (hc:kX kd d=0) (hk:kd=1∨kd=2) (hm:arity kd d=(m:Int)) (hn:n≤65536):jX (vF m) kd d n:=by
 intro w;have hd:2≤m∧m≤16:=by
  have h1:=DN hc;unfold arity at hm;rcases hk with e|e
  ·rw [if_pos e] at hm;omega
  ·rw [if_neg ω] at hm;have:=h1.2.2.1 e;omega
 have kn:=fun W=>LJ n m W hn hd
 have km:=ET;have ka:=fun W=>Gv kd d hc W
 rw [hm] at ka;have hty:(vF m).ty=170:=rfl;have hat:∀w' B F Z gr,B.d=m→lN w' B F Z gr (NS.new n) 0→(vF m).at_ w' B.n0 (B.blk F Z gr) (NS.new n):=fun w' B F Z gr hd h=>⟨B,F,Z,gr,0,rfl,rfl,hd,h⟩
 generalize vF m=K at *
 rw [hty];clear hm hc;rcases hk with rfl|rfl
 all_goals
  go_enter Tryz.func81,Tryz.ntmps81
  go_wp2_with (first
   | ((go_at_call 92;(with_reducible refine (ka _).mono ?_));rintro e w0 ⟨rfl,hu0⟩)
   | ((go_at_call 91;(with_reducible refine (kn _).mono ?_));rintro e w1 ⟨B,F,gr,rfl,hS,hu1,hf,hBd⟩)
   | ((go_at_call 90;(with_reducible refine (km _ _).mono ?_));rintro e w2 ⟨rfl,rfl⟩)
   | fail)
  go_ret2;have hs:=hu0.size;exact ⟨B.n0,B.blk F [] gr,rfl,hat _ _ _ _ _ hBd hS,aa.trans (aa.trans β hu0) hu1,fun x hx=>by have:=hf x hx;simp at hs;omega⟩
end Go.Proofs.YtklibcncmbofpaaGreat
