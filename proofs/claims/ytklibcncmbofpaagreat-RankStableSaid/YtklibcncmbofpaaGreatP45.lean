/-
  Lemmas for RankSorts: Fb4, Fb5, Fb6. Conditions: those of each lemma.
-/
import Derived.Test.YtklibcncmbofpaaGreatP09
import Derived.Test.YtklibcncmbofpaaGreatP44
set_option maxHeartbeats 8000000
set_option maxRecDepth 10000
set_option linter.unusedVariables false
set_option linter.unusedSimpArgs false
namespace Go.Proofs.YtklibcncmbofpaaGreat
open Go Go.RowKit
section
variable {w:World} {B:FB} {F:List Nat} {gt ct:Nat} {A:NS} {st:Nat} {G:FG}
theorem Eh {α:Type} (f:Nat→α) (x:Nat) (u v:α):ai (ai f x u) x v=ai f x v:=by
 funext z;unfold ai;split<;>rfl
theorem dF.kids (M:dF w B F gt ct A st G) (p:Nat) (l:List Nat) (d v:Int) (hd:d=(l.length:Int)) (hv:v=jN l) :
  dF ((w.setCell ⟨B.bl,p*4+2,none⟩ (.int .i64 d)).setCell ⟨B.bl,p*4+1,none⟩ (.int .i64 v)) B F gt ct A st { G with K:=ai G.K p l }:=by
 refine M.EW (up:=G.up) (mr:=G.mr) (by (repeat (first|assumption|exact aa.refl _ _|refine aa.drew ?_|refine aa.alloc ?_ _|refine aa.setCell ?_ ?_ _|focus (left;simp;done)|focus (right;simp;done)|focus (right;simp;omega)|(apply aa.trans;rotate_left;assumption)))) ?_
 unfold lI;simp only [zJ,iH,←hv,←hd];exact mM (oL M.pl p d) p v
theorem dF.Pf (M:dF w B F gt ct A st G) (p:Nat) (l:List Nat) (d v u:Int) (hd:d=(l.length:Int)) (hv:v=jN l) :
  dF (((w.setCell ⟨B.bl,p*4+2,none⟩ (.int .i64 d)).setCell ⟨B.bl,p*4+1,none⟩ (.int .i64 u)).setCell ⟨B.bl,p*4+1,none⟩ (.int .i64 v)) B F gt ct A st { G with K:=ai G.K p l }:=by
 refine M.EW (up:=G.up) (mr:=G.mr) (by (repeat (first|assumption|exact aa.refl _ _|refine aa.drew ?_|refine aa.alloc ?_ _|refine aa.setCell ?_ ?_ _|focus (left;simp;done)|focus (right;simp;done)|focus (right;simp;omega)|(apply aa.trans;rotate_left;assumption)))) ?_
 unfold lI;simp only [zJ,iH,←hv,←hd];have:=mM (mM (oL M.pl p d) p u) p v;rw [Eh] at this;exact this
theorem dF.lone (M:dF w B F gt ct A st G) (x:Nat):dF ((w.setCell ⟨B.bl,x*4,none⟩ (.int .i64 (-1))).setCell ⟨B.bl,x*4+3,none⟩ (.bool false)) B F gt ct A st { G with up:=ai G.up x (-1),mr:=ai G.mr x false }:=by
 refine M.EW (K:=G.K) (by (repeat (first|assumption|exact aa.refl _ _|refine aa.drew ?_|refine aa.alloc ?_ _|refine aa.setCell ?_ ?_ _|focus (left;simp;done)|focus (right;simp;done)|focus (right;simp;omega)|(apply aa.trans;rotate_left;assumption)))) ?_
 exact mO (oQ M.pl x (-1)) x false
theorem oV {c:Code} {K:Exit→Act→World→Prop} {a:Act} {W:World} (R:World→Prop) (h:R W) (k:∀W',R W'→Code.wp Tryz.prog c K a W'):Code.wp Tryz.prog c K a W:=k W h
theorem BL (M:dF w B F gt ct A st G) {q x p t:Nat} {s:List Nat} (hq:q<A.hs.length) (hx:x<A.cs.length) (hp:p<A.cs.length) (ux:G.up x=p) (hR:G.R q=t::s) (ht:t<A.cs.length)
  (hl:(G.K p).length=(xG (G.K p) x).length+1) (hl2:(G.K p).length≤65536) (hn:G.nx x=(xG (G.K p) x).headD x) (hxa:x∉xG (G.K p) x) :
  Calls Tryz.prog 231 #[.pointer (some ⟨B.n0,0,none⟩),.int .i64 (q:Int),.int .i64 (x:Int)] w fun e w'=>e=.returned (.tuple #[])∧dF w' B F gt ct A st (dB q x G)∧aa [B.bn,B.bp,B.bl] w w':=by
 have hc1:=M.cells.ok.c1;have h2:=M.h2;have h1:=M.h1;have hxI:(x:Int)<(A.cs.length:Int):=ω;have hpI:(p:Int)<(A.cs.length:Int):=ω;have px0:=M.p0 hx;rw [ux] at px0;have pp1:=M.p1 hp;have pp2:=M.p2 hp;have fp1:=M.pl.free (p*4+1);have fp2:=M.pl.free (p*4+2);have eg:dB q x G={ nx:=bO (bO G.nx x (G.pv x)) t x,pv:=gQ (bO G.nx x (G.pv x)) (gQ G.nx G.pv x (G.pv x)) t x,up:=ai G.up x (-1),mr:=ai G.mr x false,K:=ai G.K p (xG (G.K p) x),R:=ai G.R q (t::x::s) }:=by
  unfold dB;rw [hR,ux];rfl
 rw [eg];have hw1:IntKind.i64.wrap (((G.K p).length:Int)-1)=((xG (G.K p) x).length:Int):=by rw [IntWalk.i64_in _ ω];omega
 obtain ⟨g1,g2,g3,g4,g5,g6,g7⟩:=M.d3;obtain ⟨e1,e2,e3,e4,e5⟩:=M.d2;have hlt:=M.lt;have lbl:=hlt B.bl (by simp [FB.blk])
 have hkn:∀W,dF W B F gt ct A st { G with K:=ai G.K p (xG (G.K p) x) }→Calls Tryz.prog 236 #[.pointer (some ⟨B.br,0,none⟩),.int .i64 (x:Int)] W fun e w'=>e=.returned (.tuple #[.int .i64 (G.nx x:Int),.bool true])∧w'=W:=fun W hW=>y5 hW.rings hx
 have kpart:∀W,dF W B F gt ct A st { G with K:=ai G.K p (xG (G.K p) x) }→Calls Tryz.prog 228 #[.pointer (some ⟨B.br,0,none⟩),.int .i64 (x:Int)] W fun e w'=>e=.returned (.bool true)∧uY w' B.br B.bn B.bp A.cs.length (bO G.nx x (G.pv x)) (gQ G.nx G.pv x (G.pv x))∧aa [B.bn,B.bp] W w':=fun W hW=>yZ hW.rings hx
 cases hA:xG (G.K p) x with
 | nil=>
  rw [hA] at hn hw1 hl kpart hkn;have hn':G.nx x=x:=hn;rw [hn'] at hkn;obtain ⟨W5,hW5⟩:∃W5,W5=(w.setCell ⟨B.bl,p*4+2,none⟩ (.int .i64 0)).setCell ⟨B.bl,p*4+1,none⟩ (.int .i64 (-1)):=⟨_,rfl⟩
  have M5:dF W5 B F gt ct A st { G with K:=ai G.K p [] }:=by rw [hW5];exact M.kids p [] 0 (-1) rfl rfl
  have hu5:aa [B.bl] w W5:=by rw [hW5];(repeat (first|assumption|exact aa.refl _ _|refine aa.drew ?_|refine aa.alloc ?_ _|refine aa.setCell ?_ ?_ _|focus (left;simp;done)|focus (right;simp;done)|focus (right;simp;omega)|(apply aa.trans;rotate_left;assumption)))
  go_enter Tryz.func231,Tryz.ntmps231
  go_wp2
  go_region
  have KP:=χ kpart;have KN:=χ hkn;have H5:=χ (ψ M5 (ψ hu5 hW5));have HM:=χ (ψ M (ψ hlt hR));clear kpart hkn M5 hu5 hW5 M hlt hR eg hA hn hn' hl ux hxa;have kn5:=fun W (hW:aa [] W5 W)=>KN.out W (H5.out.1.aj hW)
  have kp5:=fun W (hW:aa [] W5 W)=>KP.out W (H5.out.1.aj hW)
  rw [H5.out.2.2] at kn5 kp5
  go_wp2_with (first
   | ((go_at_call 236;(with_reducible refine (kn5 _ β).mono ?_));rintro e w9 ⟨rfl,hw9⟩;rw [hw9];clear hw9 w9)
   | ((go_at_call 228;(with_reducible refine (kp5 _ β).mono ?_));rintro e w6 ⟨rfl,hR6,hu6⟩)
   | fail)
  have U6:aa [B.bn,B.bp] W5 w6:=by rw [H5.out.2.2];exact aa.trans β hu6
  have M6:=((H5.out.1)).bJ U6 hR6;have hu7:aa [B.bn,B.bp,B.bl] w w6:=(H5.out.2.1.mono σ).trans ((U6).mono (fun z hz=>by simp at hz;rcases hz with e|e<;>simp [e]))
  have q2:=M6.h2;have q0:=M6.p0 hx;have q3:=M6.p3 hx;have f0:=M6.pl.free (x*4);have f3:=M6.pl.free (x*4+3);have H6:=χ (ψ M6 hu7);clear M6 hu7 hR6 hu6 kn5 kp5
  go_region
  go_wp2;refine oV (fun W=>dF W B F gt ct A st { nx:=bO G.nx x (G.pv x),pv:=gQ G.nx G.pv x (G.pv x),up:=ai G.up x (-1),mr:=ai G.mr x false,K:=ai G.K p [],R:=G.R }∧aa [B.bn,B.bp,B.bl] w W) ?_ ?_
  ·have hu7:=H6.out.2;exact ⟨(H6.out.1.lone x).drewN 1,by (repeat (first|assumption|exact aa.refl _ _|refine aa.drew ?_|refine aa.alloc ?_ _|refine aa.setCell ?_ ?_ _|focus (left;simp;done)|focus (right;simp;done)|focus (right;simp;omega)|(apply aa.trans;rotate_left;assumption)))⟩
  rintro w7 ⟨M7,hu7⟩;have ks:=fun W (hW:aa [] w7 W)=>iW (M7.rings.aj hW) ht hx
  have m:∀x,x≠B.bn→x≠B.bp→x∉[B.bn,B.bp]:=fun x h1 h2=>by simp [h1,h2]
  have r1:∀W,aa [B.bn,B.bp] w7 W→W.cell? ⟨B.n0,1,none⟩=some (.pointer (some ⟨B.br,0,none⟩)):=fun W hW=>hW.kept M7.h1 (m _ e2 e3)
  have r3:∀W,aa [B.bn,B.bp] w7 W→W.cell? ⟨B.n0,3,none⟩=some (.slice (some ⟨gt,0,none⟩) A.hs.length ct):=fun W hW=>hW.kept M7.h3 (m _ e2 e3)
  have rt:∀W,aa [B.bn,B.bp] w7 W→W.cell? ⟨gt,q,none⟩=some (.int .i64 (t:Int)):=fun W hW=>by
   have:=hW.kept (M7.top hq) (m _ g6 g7);rw [show jN ((({ nx:=bO G.nx x (G.pv x),pv:=gQ G.nx G.pv x (G.pv x),up:=ai G.up x (-1),mr:=ai G.mr x false,K:=ai G.K p [],R:=G.R }:FG)).R q)=t from by show jN (G.R q)=t;rw [HM.out.2.2];rfl] at this
   exact this
  have hqI:(q:Int)<(A.hs.length:Int):=ω;have hcap:=M7.cap;have H7:=χ (ψ M7 hu7);clear M7 hu7 q2 q0 q3 f0 f3
  go_region_held3 (aa [B.bn,B.bp] w7) (repeat (first|assumption|exact aa.refl _ _|refine aa.drew ?_|refine aa.alloc ?_ _|refine aa.setCell ?_ ?_ _|focus (left;simp;done)|focus (right;simp;done)|focus (right;simp;omega)|(apply aa.trans;rotate_left;assumption)))
   (first
    | ((go_at_call 233;(with_reducible refine (ks _ β).mono ?_));rintro e w8 ⟨rfl,hR8,hu8⟩;(have hu9:aa [B.bn,B.bp] w7 w8:=aa.trans (by (repeat (first|assumption|exact aa.refl _ _|refine aa.drew ?_|refine aa.alloc ?_ _|refine aa.setCell ?_ ?_ _|focus (left;simp;done)|focus (right;simp;done)|focus (right;simp;omega)|(apply aa.trans;rotate_left;assumption)))) hu8)))
  go_wp2;go_end0;refine ⟨rfl,((H7.out.1.bJ hu9 hR8).Ld q (t::x::s) (by show _=jN (G.R q);rw [HM.out.2.2];rfl)).drewN 0,H7.out.2.trans (hu9.mono (fun z hz=>by simp at hz;rcases hz with e|e<;>simp [e]))⟩
 | cons y r=>
  rw [hA] at hn hw1 hl kpart hkn;have hn':G.nx x=y:=hn;rw [hA] at hxa;have hyx:y≠x:=fun e=>hxa (by simp [e])
  have hyxI:((y:Int) == (x:Int))=false:=ζ;rw [hn'] at hkn;have hrl:((r.length:Nat):Int)+1=(((y::r).length:Nat):Int):=σ;obtain ⟨W4,hW4⟩:∃W4,W4=(w.setCell ⟨B.bl,p*4+2,none⟩ (.int .i64 (((y::r).length:Nat):Int))).setCell ⟨B.bl,p*4+1,none⟩ (.int .i64 (-1)):=⟨_,rfl⟩
  obtain ⟨W5,hW5⟩:∃W5,W5=((w.setCell ⟨B.bl,p*4+2,none⟩ (.int .i64 (((y::r).length:Nat):Int))).setCell ⟨B.bl,p*4+1,none⟩ (.int .i64 (-1))).setCell ⟨B.bl,p*4+1,none⟩ (.int .i64 (y:Int)):=⟨_,rfl⟩
  have M5:dF W5 B F gt ct A st { G with K:=ai G.K p (y::r) }:=by rw [hW5];exact M.Pf p (y::r) _ (y:Int) (-1) rfl rfl
  have hu5:aa [B.bl] w W5:=by rw [hW5];(repeat (first|assumption|exact aa.refl _ _|refine aa.drew ?_|refine aa.alloc ?_ _|refine aa.setCell ?_ ?_ _|focus (left;simp;done)|focus (right;simp;done)|focus (right;simp;omega)|(apply aa.trans;rotate_left;assumption)))
  have hu4:aa [B.bl] w W4:=by rw [hW4];(repeat (first|assumption|exact aa.refl _ _|refine aa.drew ?_|refine aa.alloc ?_ _|refine aa.setCell ?_ ?_ _|focus (left;simp;done)|focus (right;simp;done)|focus (right;simp;omega)|(apply aa.trans;rotate_left;assumption)))
  have kn4:∀W,aa [] W4 W→Calls Tryz.prog 236 #[.pointer (some ⟨B.br,0,none⟩),.int .i64 (x:Int)] W fun e w'=>e=.returned (.tuple #[.int .i64 (y:Int),.bool true])∧w'=W:=fun W hW=>by
   have:=y5 (M.rings.upd (hu4.then hW) (by simp;exact Ne.symm g1) (by simp;exact Ne.symm g2) (by simp;exact Ne.symm g3)) hx
   rw [hn'] at this;exact this
  have kp5:∀W,aa [] W5 W→Calls Tryz.prog 228 #[.pointer (some ⟨B.br,0,none⟩),.int .i64 (x:Int)] W fun e w'=>e=.returned (.bool true)∧uY w' B.br B.bn B.bp A.cs.length (bO G.nx x (G.pv x)) (gQ G.nx G.pv x (G.pv x))∧aa [B.bn,B.bp] W w':=fun W hW=>kpart W (M5.aj hW)
  rw [hW4] at kn4;rw [hW5] at kp5;have kn5:=kn4;have H5:=χ (ψ M5 (ψ hu5 hW5));have HM:=χ (ψ M (ψ hlt hR));clear kpart hkn M5 hu5 hW5 M hlt hR eg hA hn hn' hl ux hxa hW4 hu4 kn4 hrl;generalize (((y::r).length:Nat):Int)=dl at *
  go_enter Tryz.func231,Tryz.ntmps231
  go_wp2
  go_region
  go_wp2_with (first
   | ((go_at_call 236;(with_reducible refine (kn5 _ β).mono ?_));rintro e w9 ⟨rfl,hw9⟩;rw [hw9];clear hw9 w9)
   | ((go_at_call 228;(with_reducible refine (kp5 _ β).mono ?_));rintro e w6 ⟨rfl,hR6,hu6⟩)
   | fail)
  have U6:aa [B.bn,B.bp] W5 w6:=by rw [H5.out.2.2];exact aa.trans β hu6
  have M6:=((H5.out.1)).bJ U6 hR6;have hu7:aa [B.bn,B.bp,B.bl] w w6:=(H5.out.2.1.mono σ).trans ((U6).mono (fun z hz=>by simp at hz;rcases hz with e|e<;>simp [e]))
  have q2:=M6.h2;have q0:=M6.p0 hx;have q3:=M6.p3 hx;have f0:=M6.pl.free (x*4);have f3:=M6.pl.free (x*4+3);have H6:=χ (ψ M6 hu7);clear M6 hu7 hR6 hu6 kn5 kp5
  go_region
  go_wp2;refine oV (fun W=>dF W B F gt ct A st { nx:=bO G.nx x (G.pv x),pv:=gQ G.nx G.pv x (G.pv x),up:=ai G.up x (-1),mr:=ai G.mr x false,K:=ai G.K p (y::r),R:=G.R }∧aa [B.bn,B.bp,B.bl] w W) ?_ ?_
  ·have hu7:=H6.out.2;exact ⟨(H6.out.1.lone x).drewN 1,by (repeat (first|assumption|exact aa.refl _ _|refine aa.drew ?_|refine aa.alloc ?_ _|refine aa.setCell ?_ ?_ _|focus (left;simp;done)|focus (right;simp;done)|focus (right;simp;omega)|(apply aa.trans;rotate_left;assumption)))⟩
  rintro w7 ⟨M7,hu7⟩;have ks:=fun W (hW:aa [] w7 W)=>iW (M7.rings.aj hW) ht hx
  have m:∀x,x≠B.bn→x≠B.bp→x∉[B.bn,B.bp]:=fun x h1 h2=>by simp [h1,h2]
  have r1:∀W,aa [B.bn,B.bp] w7 W→W.cell? ⟨B.n0,1,none⟩=some (.pointer (some ⟨B.br,0,none⟩)):=fun W hW=>hW.kept M7.h1 (m _ e2 e3)
  have r3:∀W,aa [B.bn,B.bp] w7 W→W.cell? ⟨B.n0,3,none⟩=some (.slice (some ⟨gt,0,none⟩) A.hs.length ct):=fun W hW=>hW.kept M7.h3 (m _ e2 e3)
  have rt:∀W,aa [B.bn,B.bp] w7 W→W.cell? ⟨gt,q,none⟩=some (.int .i64 (t:Int)):=fun W hW=>by
   have:=hW.kept (M7.top hq) (m _ g6 g7);rw [show jN ((({ nx:=bO G.nx x (G.pv x),pv:=gQ G.nx G.pv x (G.pv x),up:=ai G.up x (-1),mr:=ai G.mr x false,K:=ai G.K p (y::r),R:=G.R }:FG)).R q)=t from by show jN (G.R q)=t;rw [HM.out.2.2];rfl] at this
   exact this
  have hqI:(q:Int)<(A.hs.length:Int):=ω;have hcap:=M7.cap;have H7:=χ (ψ M7 hu7);clear M7 hu7 q2 q0 q3 f0 f3
  go_region_held3 (aa [B.bn,B.bp] w7) (repeat (first|assumption|exact aa.refl _ _|refine aa.drew ?_|refine aa.alloc ?_ _|refine aa.setCell ?_ ?_ _|focus (left;simp;done)|focus (right;simp;done)|focus (right;simp;omega)|(apply aa.trans;rotate_left;assumption)))
   (first
    | ((go_at_call 233;(with_reducible refine (ks _ β).mono ?_));rintro e w8 ⟨rfl,hR8,hu8⟩;(have hu9:aa [B.bn,B.bp] w7 w8:=aa.trans (by (repeat (first|assumption|exact aa.refl _ _|refine aa.drew ?_|refine aa.alloc ?_ _|refine aa.setCell ?_ ?_ _|focus (left;simp;done)|focus (right;simp;done)|focus (right;simp;omega)|(apply aa.trans;rotate_left;assumption)))) hu8)))
  go_wp2;go_end0;refine ⟨rfl,((H7.out.1.bJ hu9 hR8).Ld q (t::x::s) (by show _=jN (G.R q);rw [HM.out.2.2];rfl)).drewN 0,H7.out.2.trans (hu9.mono (fun z hz=>by simp at hz;rcases hz with e|e<;>simp [e]))⟩
theorem dF.marked (M:dF w B F gt ct A st G) (x:Nat):dF (w.setCell ⟨B.bl,x*4+3,none⟩ (.bool true)) B F gt ct A st { G with mr:=ai G.mr x true }:=by
 refine M.EW (up:=G.up) (K:=G.K) (by (repeat (first|assumption|exact aa.refl _ _|refine aa.drew ?_|refine aa.alloc ?_ _|refine aa.setCell ?_ ?_ _|focus (left;simp;done)|focus (right;simp;done)|focus (right;simp;omega)|(apply aa.trans;rotate_left;assumption)))) ?_
 exact mO M.pl x true
theorem Am {hom:Nat→Int} {L Mx:Nat→Nat→Prop} (irr:∀a,¬L a a) (M:dF w B F gt ct A st G) {q p t:Nat} {s:List Nat} (hq:q<A.hs.length) (H:FF A.cs.length G hom L (fun c=>if c=p then 1 else 0)) (R:FR A.cs.length G hom Mx none) (hR:G.R q=t::s) (hp:p<A.cs.length) (hh:hom p=q) (h1:1≤q)
  (hf:∀y,y<A.cs.length→hom y=q→y≠t→Mx t y) :
  Calls Tryz.prog 232 #[.pointer (some ⟨B.n0,0,none⟩),.int .i64 (q:Int),.int .i64 (p:Int)] w fun e w'=>e=.returned (.tuple #[])∧dF w' B F gt ct A st (oF (marks A.cs.length G+1) q p G)∧aa [B.bn,B.bp,B.bl] w w':=by
 have hc1:=M.cells.ok.c1;obtain ⟨D,hD⟩:∃D,oF (marks A.cs.length G+1) q p G=D:=⟨_,rfl⟩
 rw [hD];have H0:=χ (ψ M (ψ H (ψ R (ψ hR (ψ hD hf)))));clear M H R hR hD hf
 go_enter Tryz.func232,Tryz.ntmps232
 go_wp2
 go_loopg [2] (marks A.cs.length G+1) (fun fu s2 wr=>∃ (p':Nat) (s':List Nat) (G':FG),s2=.int .i64 (p':Int)∧FF A.cs.length G' hom L (fun c=>if c=p' then 1 else 0)∧FR A.cs.length G' hom Mx none∧G'.R q=t::s'∧p'<A.cs.length∧hom p'=q∧marks A.cs.length G'<fu∧oF fu q p' G'=D∧dF wr B F gt ct A st G'∧aa [B.bn,B.bp,B.bl] w wr)
 case atStart=>exact ⟨p,s,G,rfl,H0.out.2.1,H0.out.2.2.1,H0.out.2.2.2.1,hp,hh,ω,H0.out.2.2.2.2.1,H0.out.1,aa.refl _ _⟩
 case round=>
  rename Nat=>fu
  obtain ⟨p',s',G',rfl,H,R,hR,hp',hh',hm,hcas,hM,hu⟩:=hrel;rename World=>wr
  obtain ⟨fv,rfl⟩:∃fv,fu=fv+1:=⟨fu-1,ω⟩
  have hpI:(p':Int)<(A.cs.length:Int):=ω;have q2:=hM.h2;have p0:=hM.p0 hp';have p3:=hM.p3 hp';have f3:=hM.pl.free (p' * 4+3);unfold oF at hcas;have HR:=χ (ψ H (ψ R (ψ hR (ψ hM hu))))
  by_cases e:G'.up p'=-1
  ·rw [if_pos e] at hcas;rw [e] at p0;subst hcas;clear H R hR hM hu e H0;go_wp2;go_end0;exact ⟨rfl,HR.out.2.2.2.1,HR.out.2.2.2.2⟩
  ·rw [if_neg e] at hcas;obtain ⟨pp,hpp,upp,_⟩:=(H.BH p' hp').resolve_left e;have hne:((pp:Int) == -1)=false:=σ;rw [upp] at p0 hcas;rw [π] at hcas;cases hb:G'.mr p' with
   | false=>
    rw [hb] at p3 hcas;rw [if_pos rfl] at hcas;have HC:=χ hcas;clear H R hR hM hu e hcas hb upp H0;go_wp2;refine bodyPost_ret (v:=.tuple #[]) (by simp [results,Tryz.results232,go_sem]) rfl ?_
    exact ⟨rfl,by rw [←HC.out];exact HR.out.2.2.2.1.marked p',HR.out.2.2.2.2.setCell (Or.inl σ) _⟩
   | true=>
    rw [hb] at p3 hcas;rw [if_neg σ] at hcas;have hqp:pp≠p':=fun e3=>by subst e3;exact irr _ (H.ord pp pp hp' upp)
    have htp:p'≠t:=fun e3=>by
     subst e3;have:=((R.all q).2.1 p').1 (by rw [hR];simp)
     exact e this.2.2.1
    obtain ⟨o1,o2,o3,o4,o5,o6,⟨a,b,eK,eA⟩,o8⟩:=wZ H R hR hp' upp hqp hh' (H0.out.2.2.2.2.2 p' hp' hh' htp);have ht:=(((R.all q).2.1 t).1 (by rw [hR];simp)).2.1
    have hnd:=(H.ring pp hpp).nd;have hka:(G'.K pp).length=(xG (G'.K pp) p').length+1:=by rw [eA,eK];simp;omega
    have hkb:(G'.K pp).length≤65536:=Nat.le_trans (H.IE hpp) hc1;have hxa:p'∉xG (G'.K pp) p':=by
     rw [eA];rw [eK,List.nodup_append,List.nodup_cons] at hnd;intro hm2;rcases List.mem_append.1 hm2 with h'|h'
     ·exact hnd.2.1.1 h'
     ·exact hnd.2.2 p' h' p' σ rfl
    have ko:=fun W (hW:aa [] wr W)=>BL (hM.aj hW) hq hp' hpp upp hR ht hka hkb o8 hxa
    have hmk:=qw (G:=G') (b:=false) hp' rfl (dB q p' G') o4;rw [hb] at hmk;simp only [Bool.false_eq_true,if_false,if_true] at hmk;have o1':FF A.cs.length (dB q p' G') hom L (fun c=>if c=pp then 1 else 0):=by
     refine ⟨o1.rg,o1.kid,o1.BH,o1.ring,o1.home,o1.ord,o1.alone,o1.free,fun x d hx=>?_⟩
     have hupp:(dB q p' G').up p'=-1:=by rw [o3,bu]
     rw [qC (G:=dB q p' G') (ex:=fun c=>if c=pp then (if c=p' then 1 else 0)+1 else if c=p' then 1 else 0) d (fun c hc=>by
      have hcp:c≠p':=fun e3=>o1.oK hx hupp (e3▸hc)
      rw [if_neg hcp])]
     exact o1.cnt x d hx
    have hph:hom pp=q:=by have:=(H.home p' pp hp' upp).1;omega
    have HS:=χ (ψ o1' (ψ o2 (ψ o6 (ψ hcas hmk))));clear H R hR hM hu e hcas hb upp o1 o1' o2 o3 o4 o5 o6 o8 eK eA hnd hka hkb hxa hmk
    go_wp2_with (first
     | ((go_at_call 231;(with_reducible refine (ko _ β).mono ?_));rintro e w2 ⟨rfl,hM2,hu2⟩)
     | fail)
    go_roundg fv
    case measure=>omega
    case rel=>
     obtain ⟨o1,o2,o6,hcas,hmk⟩:=HS.out;exact ⟨pp,p'::s',dB q p' G',rfl,o1,o2,by rw [o6,bu],hpp,hph,ω,hcas,hM2,HR.out.2.2.2.2.trans hu2⟩
theorem BP {hom:Nat→Int} {L Mx:Nat→Nat→Prop} (irr:∀a,¬L a a) (M:dF w B F gt ct A st G) {q x t:Nat} {s:List Nat} (hq:q<A.hs.length) (hx:x<A.cs.length) (H0:FF A.cs.length G hom (fun a y=>y≠x→L a y) (fun _=>0)) (hR:G.R q=t::s) (ht:t<A.cs.length) (h1:1≤q)
  (hp:∀p:Nat,G.up x=p→p≠x∧hom p=q∧FF A.cs.length (dB q x G) hom L (fun c=>if c=p then 0+1 else 0)∧FR A.cs.length (dB q x G) hom Mx none∧(dB q x G).R q=t::x::s)
  (hf:∀y,y<A.cs.length→hom y=q→y≠t→Mx t y) :
  Calls Tryz.prog 225 #[.pointer (some ⟨B.n0,0,none⟩),.int .i64 (q:Int),.int .i64 (x:Int)] w fun e w'=>e=.returned (.tuple #[])∧dF w' B F gt ct A st (iL A.cs.length q x G)∧aa [B.bn,B.bp,B.bl] w w':=by
 have hc1:=M.cells.ok.c1;have q2:=M.h2;have p0:=M.p0 hx;have hxI:(x:Int)<(A.cs.length:Int):=ω
 by_cases e:G.up x=-1
 ·have eg:iL A.cs.length q x G=G:=by unfold iL;rw [if_pos e]
  rw [eg];rw [e] at p0;have HM:=χ M;clear M H0 hR hp hf e eg
  go_enter Tryz.func225,Tryz.ntmps225
  go_wp2;go_end0;exact ⟨rfl,HM.out,aa.refl _ _⟩
 ·obtain ⟨p,hpn,ux,hxk⟩:=(H0.BH x hx).resolve_left e;obtain ⟨hpx,hph,o1,o2,o3⟩:=hp p ux;have eg:iL A.cs.length q x G=oF (marks A.cs.length (dB q x G)+1) q p (dB q x G):=by unfold iL;rw [ux,if_neg ω,π]
  rw [eg];rw [ux] at p0;have hne:((p:Int) == -1)=false:=σ;have hrk:=H0.ring p hpn;obtain ⟨a,b,eK,eA,xa,xb⟩:=DY hxk hrk.nd;have hka:(G.K p).length=(xG (G.K p) x).length+1:=by rw [eA,eK];simp;omega
  have hkb:(G.K p).length≤65536:=Nat.le_trans (H0.IE hpn) hc1;have hxa:x∉xG (G.K p) x:=by rw [eA];simp;exact ⟨xb,xa⟩
  have hnx:G.nx x=(xG (G.K p) x).headD x:=by
   rw [eK] at hrk;have:=Ring.NH (a:=a) (b:=x::b) hrk;rw [eA];exact (gF.1 this).2.1
  have ko:=fun W (hW:aa [] w W)=>BL (M.aj hW) hq hx hpn ux hR ht hka hkb hnx hxa
  have o1':FF A.cs.length (dB q x G) hom L (fun c=>if c=p then 1 else 0):=by simpa using o1
  have kc:=fun W (hM:dF W B F gt ct A st (dB q x G))=>Am irr hM hq o1' o2 o3 hpn hph h1 hf
  have HM:=χ (ψ M kc);clear M H0 hR hp hf e eg kc o1 o1' o2 o3 eK eA hka hkb hxa hnx ux hrk
  go_enter Tryz.func225,Tryz.ntmps225
  go_wp2_with (first
   | ((go_at_call 231;(with_reducible refine (ko _ β).mono ?_));rintro e w2 ⟨rfl,hM2,hu2⟩;(have kc2:=HM.out.2 _ hM2);(have HU:=χ hu2);clear hM2 hu2 ko)
   | ((go_at_call 232;(with_reducible refine (kc2).mono ?_));rintro e w3 ⟨rfl,hM3,hu3⟩)
   | fail)
  go_end0;exact ⟨rfl,hM3,HU.out.trans hu3⟩
end
def tN (w:World) (p:Nat) (FF:List Nat) (A:NS) (st:Nat) (G:FG):Prop:=(∃B F gt ct,p=B.n0∧FF=B.blk F gt∧dF w B F gt ct A st G)∧vT A G
theorem gT {B:FB} {F:List Nat} {gt:Nat}:∀x,x∈F→x∈B.blk F gt:=fun x hx=>by simp [FB.blk,hx]
theorem Ms {w:World} {B:FB} {F F':List Nat} {gt:Nat} (hF:∀x,x∈F'→x∈F∨w.heap.size≤x):∀x,x∈B.blk F' gt→x∈B.blk F gt∨w.heap.size≤x:=fun x hx=>by
 simp only [FB.blk,List.mem_cons] at hx ⊢;rcases hx with e|e|e|e|e|e|e
 ·exact Or.inl (Or.inl e)
 ·exact Or.inl (Or.inr (Or.inl e))
 ·exact Or.inl (Or.inr (Or.inr (Or.inl e)))
 ·exact Or.inl (Or.inr (Or.inr (Or.inr (Or.inl e))))
 ·exact Or.inl (Or.inr (Or.inr (Or.inr (Or.inr (Or.inl e)))))
 ·exact Or.inl (Or.inr (Or.inr (Or.inr (Or.inr (Or.inr (Or.inl e))))))
 ·rcases hF x e with h|h
  ·exact Or.inl (Or.inr (Or.inr (Or.inr (Or.inr (Or.inr (Or.inr h))))))
  ·exact Or.inr h
section
variable {w:World} {p:Nat} {FF:List Nat} {A:NS} {st:Nat} {G:FG}
theorem tN.upd {w':World} {S:List Nat} (h:tN w p FF A st G) (hu:aa S w w') (hS:∀x,x∈S→x∉FF):tN w' p FF A st G:=by
 obtain ⟨⟨B,F,gt,ct,rfl,rfl,M⟩,I⟩:=h;exact ⟨⟨B,F,gt,ct,rfl,rfl,M.upd hu hS⟩,I⟩
theorem tN.lt (h:tN w p FF A st G):∀x,x∈FF→x<w.heap.size:=by
 obtain ⟨⟨B,F,gt,ct,rfl,rfl,M⟩,I⟩:=h;exact M.lt
theorem tN.ok (h:tN w p FF A st G):A.Ok:=by
 obtain ⟨⟨B,F,gt,ct,rfl,rfl,M⟩,I⟩:=h;exact M.cells.ok
theorem tN.mE (h:tN w p FF A st G):st≤4611686018427387904:=by
 obtain ⟨⟨B,F,gt,ct,rfl,rfl,M⟩,I⟩:=h;exact M.cells.mE
theorem tN.cl (h:tN w p FF A st G):∃c F1,w.cell? ⟨p,0,none⟩=some (.pointer (some ⟨c,0,none⟩))∧az w c F1 A st∧c∈FF:=by
 obtain ⟨⟨B,F,gt,ct,rfl,rfl,M⟩,I⟩:=h;exact ⟨B.c,F,M.h0,M.cells,gT _ M.cells.mem⟩
theorem F9 (I:vT A G) (ok:A.Ok) {q:Int} {m:Nat} (hm:bL A q=some m):∃ (h:Nat) (s:List Nat),q=h∧1≤h∧h<A.hs.length∧G.R h=m::s∧0<cu A q:=by
 obtain ⟨m1,m2⟩:=I.pE hm;have hx:(A.c m).i=(q.toNat:Int):=m1.2.2;have hnat:=ok.nat m m1.1;refine ⟨q.toNat,?_⟩;have hmem:=((I.fr.all q.toNat).2.1 m).2 ⟨m2,m1⟩;cases hR:G.R q.toNat with
 | nil=>rw [hR] at hmem;cases hmem
 | cons t s=>
  have:=(I.mI hR).1;rw [show ((q.toNat:Nat):Int)=q by omega,hm] at this
  injection this with this
  subst this;exact ⟨s,ω,m2,ω,rfl,dG.2 ⟨m,m1.1,ω,ω⟩⟩
theorem Cc (h:tN w p FF A st G) (q:Int) (hqb:-9223372036854775808≤q∧q≤9223372036854775807) :
  Calls Tryz.prog 224 #[.pointer (some ⟨p,0,none⟩),.int .i64 q] w fun e w'=>e=.returned (.tuple #[.int .i64 (oD (bL A q)),.bool (bL A q).isSome])∧w'=w:=by
 obtain ⟨⟨B,F,gt,ct,rfl,rfl,M⟩,I⟩:=h;have h0:=M.h0;have kl:=mQ M.cells q hqb;cases hm:bL A q with
 | none=>
  rw [fH.1 hm] at kl;clear M I hm
  go_enter Tryz.func224,Tryz.ntmps224
  go_wp2_with ((go_at_call 142;(with_reducible refine (kl).mono ?_);rintro e w9 ⟨rfl,hw9⟩;rw [hw9];clear hw9 w9))
  go_ret2;exact ⟨rfl,rfl⟩
 | some m=>
  obtain ⟨hh,s,rfl,h1,hl,hR,hp⟩:=F9 I M.cells.ok hm;have h3:=M.h3;have ht:=M.top hl;rw [hR] at ht;have ht':w.cell? ⟨gt,hh,none⟩=some (.int .i64 (m:Int)):=ht;have hcap:=M.cap;have hlI:(hh:Int)<(A.hs.length:Int):=ω;have hne:(((cu A (hh:Int):Nat):Int) == 0)=false:=ζ;generalize cu A (hh:Int)=ln at *
  clear M I hm hR ht
  go_enter Tryz.func224,Tryz.ntmps224
  go_wp2_with ((go_at_call 142;(with_reducible refine (kl).mono ?_);rintro e w9 ⟨rfl,hw9⟩;rw [hw9];clear hw9 w9))
  go_ret2;exact ⟨rfl,rfl⟩
theorem Cx (h:tN w p FF A st G) (q x:Nat) (k s:Int) (hk:-9223372036854775808≤k∧k≤9223372036854775807∧0≤s∧s≤18446744073709551615) (hB:jy A q x=true) :
  Calls Tryz.prog 221 #[.pointer (some ⟨p,0,none⟩),.int .i64 (q:Int),.int .i64 (x:Int),.agg #[.int .i64 k,.int .u64 s]] w fun e w'=>e=.returned (.bool true)∧
   Goes FF w w' (fun FF'=>tN w' p FF' (aB A q x k s) (bC st (oM q G)) (J8 (aB A q x k s) q x G)):=by
 obtain ⟨⟨B,F,gt,ct,rfl,rfl,M⟩,I⟩:=h;have ok:=M.cells.ok;obtain ⟨I2,_,_,_,h1,hx,hin,hti,hcs⟩:=NV I ok k s hB;have hhs:(aB A q x k s).hs.length=A.hs.length:=by unfold aB;split;rfl;rfl
 have hql:q<(aB A q x k s).hs.length:=by
  rw [hhs];have:=(aK _ _).1 ((cB _ _ _).1 hB).1;omega
 have u1:aa [] w (w.alloc (.cells #[.int .i64 k,.int .u64 s] 129)):=(aa.refl _ _).alloc _;have kp:=fun W (hW:aa [] (w.alloc (.cells #[.int .i64 k,.int .u64 s] 129)) W)=>kV (M.cells.aj (u1.trans hW)) q x k s hk hB
 have h0:=M.h0;have hbF:B.n0∉F:=M.d1.1;have hsz:w.heap.size∉F:=fun hm=>by have:=M.cells.lt _ hm;omega
 have r0:∀W,aa F (w.alloc (.cells #[.int .i64 k,.int .u64 s] 129)) W→W.cell? ⟨B.n0,0,none⟩=some (.pointer (some ⟨B.c,0,none⟩)):=fun W hW=>hW.kept (u1.was h0) hbF
 have r1:∀W,aa F (w.alloc (.cells #[.int .i64 k,.int .u64 s] 129)) W→W.cell? ⟨w.heap.size,0,none⟩=some (.int .i64 k):=fun W h=>h.kept σ hsz
 have r2:∀W,aa F (w.alloc (.cells #[.int .i64 k,.int .u64 s] 129)) W→W.cell? ⟨w.heap.size,1,none⟩=some (.int .u64 s):=fun W h=>h.kept σ hsz
 have ka:=fun (W:World) (hM:dF W B F gt ct (aB A q x k s) st G)=>y8 hM [] hql hin hti
 have HM:=χ (ψ M (ψ hhs hcs));have HI:=χ I2;clear M I ok I2 hin hti hql hx hcs hhs h0 hB
 go_enter Tryz.func221,Tryz.ntmps221
 go_wp2
 go_region_held3 (aa F (w.alloc (.cells #[.int .i64 k,.int .u64 s] 129))) (repeat (first|assumption|exact aa.refl _ _|refine aa.drew ?_|refine aa.alloc ?_ _|refine aa.setCell ?_ ?_ _|focus (left;simp;done)|focus (right;simp;done)|focus (right;simp;omega)|(apply aa.trans;rotate_left;assumption)))
  (first
   | ((go_at_call 154;(with_reducible refine (kp _ β).mono ?_));rintro e w1 ⟨rfl,hC1,hu1⟩;(have hu2:aa F (w.alloc (.cells #[.int .i64 k,.int .u64 s] 129)) w1:=by (repeat (first|assumption|exact aa.refl _ _|refine aa.drew ?_|refine aa.alloc ?_ _|refine aa.setCell ?_ ?_ _|focus (left;simp;done)|focus (right;simp;done)|focus (right;simp;omega)|(apply aa.trans;rotate_left;assumption))))))
 have uF:aa F w w1:=(u1.mono σ).trans hu2;have hM1:=HM.out.1.bI uF hC1 (fun y hy=>Or.inl hy) HM.out.2.2 HM.out.2.1
 have ka1:=fun (W:World) (hW:aa [] w1 W)=>ka W (hM1.aj hW)
 have HU:=χ uF;have hcm:=HM.out.1.cells.mem;clear kp r0 r1 r2 hM1 ka uF hu2 hC1 hu1
 go_wp2_with (first
  | ((go_at_call 230;(with_reducible refine (ka1 _ β).mono ?_));rintro e w2 ⟨rfl,hM2,hu3⟩)
  | fail)
 go_ret;refine ⟨rfl,B.blk F gt,⟨⟨B,F,gt,ct,rfl,rfl,hM2⟩,HI.out⟩,(HU.out.mono gT).trans ((β:aa _ w1 _).trans (hu3.mono (fun y hy=>?_))),fun y hy=>Or.inl hy⟩
 simp only [List.mem_cons,List.not_mem_nil,or_false] at hy;rcases hy with e|e|e|e
 ·rw [e];exact gT _ hcm
 all_goals simp [FB.blk,e]
end
def tailW (a:Option Addr) (n c:Nat):Value:=.slice (if c=1 then a else a.map (·.add 1)) (n-1) (c-1)
theorem Hd (w:World) (a:Option Addr) (n c:Nat) (h1:1≤n) (h2:n≤9223372036854775807) :
  (Instr.slice 26 (.slice a n c) (some (.int .i64 1)) none none).run Tryz.prog w=.ok (tailW a n c) w:=by
 have hs:(sizeOf 3).run Tryz.prog w=.ok 1 w:=by kernel_rfl
 unfold Instr.slice Instr.sliceBounds;simp [run_underlying Tryz.underlying26,go_sem,hs,tailW];intro h;omega
theorem LX {w:World} {F:List Nat} {a:Option Addr} {n c:Nat} {x:Int} {xs:List Int} (h:fI w F (.slice a n c) (x::xs)):fI w F (tailW a n c) xs:=by
 obtain ⟨a',cap,e,h1,h2,h3⟩:=h;cases e;obtain ⟨g,off,rfl,hg,hF,_⟩:=h3 0 x rfl;simp only [List.length_cons] at h1 ⊢;unfold tailW;simp only [Nat.add_sub_cancel];refine ⟨_,_,rfl,ω,ω,fun j u hj=>?_⟩
 have hjl:j<xs.length:=(List.getElem?_eq_some_iff.1 hj).1;rw [if_neg ω];obtain ⟨g2,off2,he,hg2,hF2,hc⟩:=h3 (j+1) u (by simpa using hj)
 simp only [Option.some.injEq,Addr.mk.injEq,and_true] at he;obtain ⟨rfl,rfl⟩:=he;exact ⟨g,off+1,by simp [Addr.add_lit],hg,hF,by rw [show off+1+j=off+(j+1) by omega];exact hc⟩
theorem fI.turned {w w':World} {F G:List Nat} {v:Value} {xs:List Int} (h:fI w F v xs) (hu:aa G w w') (hG:∀g,g∈G→g∈F∨w.heap.size≤g):fI w' F v xs:=by
 obtain ⟨a,cap,rfl,h1,h2,h3⟩:=h;refine ⟨a,cap,rfl,h1,h2,fun j u hj=>?_⟩
 obtain ⟨g,off,rfl,hg,hF,hc⟩:=h3 j u hj;exact ⟨g,off,rfl,Nat.lt_of_lt_of_le hg hu.size,hF,by rw [hu.cell hg (fun hm=>(hG _ hm).elim hF (fun h'=>by have h2:w.heap.size≤g:=h';omega))];exact hc⟩
theorem fI.fewer {w:World} {F G:List Nat} {v:Value} {xs:List Int} (h:fI w F v xs) (hG:∀g,g∈G→g∈F):fI w G v xs:=by
 obtain ⟨a,cap,rfl,h1,h2,h3⟩:=h;refine ⟨a,cap,rfl,h1,h2,fun j u hj=>?_⟩
 obtain ⟨g,off,rfl,hg,hF,hc⟩:=h3 j u hj;exact ⟨g,off,rfl,hg,fun hm=>hF (hG _ hm),hc⟩
def Cf (A:NS) (q:Int) (G:FG):FG:=match bL A q with|some m=>(oI A q.toNat m (kl (G.K m)++(G.R q.toNat).tail) G).1|none=>G
def CO (A:NS) (q:Int) (G:FG):Nat:=match bL A q with|some m=>(o9 A q.toNat m (kl (G.K m)++(G.R q.toNat).tail) G).q+(oI A q.toNat m (kl (G.K m)++(G.R q.toNat).tail) G).2|none=>0
theorem IB (l:List Nat) (x:Nat) (G:FG):qP (l++[x]) G=prt (qP l G) x:=by unfold qP;rw [List.foldl_append];rfl
section
variable {w:World} {p:Nat} {FF:List Nat} {A:NS} {st:Nat} {G:FG}
theorem zP (h:tN w p FF A st G) (q:Int) (hqb:-9223372036854775808≤q∧q≤9223372036854775807) :
  Calls Tryz.prog 220 #[.pointer (some ⟨p,0,none⟩),.int .i64 q] w fun e w'=>e=.returned (.tuple #[.int .i64 (oD (bL A q)),.bool (bL A q).isSome])∧
   Goes FF w w' (fun FF'=>tN w' p FF' (qM A q) (bC st (CO A q G)) (Cf A q G)):=by
 have km:=Cc h q hqb;have hst:=h.mE;have HK:=χ h;cases hm:bL A q with
 | none=>
  rw [hm] at km;have e1:qM A q=A:=by unfold qM;rw [hm]
  have e2:Cf A q G=G:=by unfold Cf;rw [hm]
  have e3:CO A q G=0:=by unfold CO;rw [hm]
  rw [e1,e2,e3,dW hst];clear h hm e1 e2 e3
  go_enter Tryz.func220,Tryz.ntmps220
  go_wp2_with ((go_at_call 224;(with_reducible refine (km).mono ?_);rintro e w9 ⟨rfl,hw9⟩;rw [hw9];clear hw9 w9))
  go_ret2;exact ⟨rfl,Goes.stay HK.out (aa.refl _ _)⟩
 | some m=>
  rw [hm,show oD (some m)=(m:Int) from rfl,show (some m:Option Nat).isSome=true from rfl] at km
  have e1:qM A q=aL A m:=by unfold qM;rw [hm]
  have e2:Cf A q G=(oI A q.toNat m (kl (G.K m)++(G.R q.toNat).tail) G).1:=by unfold Cf;rw [hm]
  have e3:CO A q G=(o9 A q.toNat m (kl (G.K m)++(G.R q.toNat).tail) G).q+(oI A q.toNat m (kl (G.K m)++(G.R q.toNat).tail) G).2:=by unfold CO;rw [hm]
  rw [e1,e2,e3];obtain ⟨hh,s,rfl,h1,hl,hR,hp⟩:=F9 h.2 h.ok hm;rw [π,hR,List.tail_cons];obtain ⟨⟨rg1,rg2⟩,T3,hin3,hri,hDR,I4,_,_,_,_,hTy,hTl,_⟩:=OX h.2 h.ok hR;obtain ⟨_,hmx,um,hmh,hmin⟩:=h.2.out (h:=hh) (z:=m) (by rw [hR];simp)
  have kdr:=fun W F c (hC:az W c F A (bC st ((o9 A hh m (kl (G.K m)++s) G).q+(oI A hh m (kl (G.K m)++s) G).2)))=>fw hC m hmin
  obtain ⟨⟨B,F,gt,ct,rfl,rfl,M⟩,I⟩:=h;have kra:=fun W (hW:aa [] w W)=>D5 (M.aj hW) hmx (I.ff.ring m hmx) (fun z hz=>(I.ff.kid m z hmx hz).1)
  have hlen:(m::(kl (G.K m)++s)).length≤A.cs.length:=gU A.cs.length _ rg1.nd rg2;have hc1:=M.cells.ok.c1;have hlt:=M.lt;have hcap:=M.cap;have hhI:(hh:Int)<(A.hs.length:Int):=ω;have hhs:=M.cells.ok.h1;have hd:=M.d1;have hd2:=M.d2;have hd3:=M.d3;have hcm:=M.cells.mem;obtain ⟨rs,hrs⟩:∃rs,kl (G.K m)++s=rs:=⟨_,rfl⟩
  rw [hrs] at rg1 rg2 T3 hri hDR I4 kdr hlen hTy hTl ⊢;obtain ⟨D,hD⟩:∃D,o9 A hh m rs G=D:=⟨_,rfl⟩
  have hD2:tid (mH A) rs ⟨[],mD hh m rs G,0⟩=D:=hD;have e4:oI A hh m rs G=nU (mH A) hh D.T D.G 0:=by unfold oI;rw [hD]
  rw [hD] at hri hDR hTy hTl kdr ⊢;rw [e4] at I4 kdr ⊢;obtain ⟨R4,hR4⟩:∃R4,nU (mH A) hh D.T D.G 0=R4:=⟨_,rfl⟩
  rw [hR4] at I4 kdr ⊢;have ka1:=fun W (hW:dF W B F gt ct A st (bR G m))=>BF hW.rings rg1 rg2
  have H0:=χ (ψ rg1 (ψ rg2 (ψ T3 (ψ hin3 (ψ hri (ψ hDR (ψ I4 (ψ hTy (ψ hTl (ψ hD2 hR4))))))))));have HD:=χ (ψ hlt (ψ hd (ψ hd2 (ψ hd3 hcm))));have KD:=χ kdr;clear M I rg1 rg2 T3 hin3 hri hDR I4 hR hm e1 e2 e3 hrs hlt hd hd2 hd3 hcm kdr hTy hTl hD hD2 e4 hR4;have HA:=χ ka1;clear ka1;rw [List.length_cons] at hlen
  go_enter Tryz.func220,Tryz.ntmps220
  go_wp2_with (first
   | (go_at_call 224;(with_reducible refine (km).mono ?_);rintro e w9 ⟨rfl,hw9⟩;rw [hw9];clear hw9 w9)
   | ((go_at_call 226;(with_reducible refine (kra _ β).mono ?_));rintro e w1 ⟨rfl,M1,hu1⟩;(have a1:=HA.out _ M1);(have b1:=M1.h1);(have HM1:=χ (ψ M1 hu1));clear M1 hu1 kra)
   | ((go_at_call 227;(with_reducible refine (a1).mono ?_));rintro e w2 ⟨v2,rfl,ho2,hu2⟩;(have hs2:fI w2 (B.blk F gt) v2 (mU (m::rs)):=fI.gJ (base:=w1.heap.size) (by rw [jL];exact ho2) (fun g hg=>Nat.lt_of_lt_of_le (HD.out.1 g hg) HM1.out.2.size));obtain ⟨x2,c2,hv2,_⟩:=aR ho2;subst hv2;(have b2:=hu2.was b1);obtain ⟨a2',ha2⟩:∃a',tailW x2 (rs.length+1) c2=.slice a' rs.length (c2-1):=⟨_,rfl⟩;(have htl:=fun W=>Hd W x2 (rs.length+1) c2 ω ω);rw [ha2] at htl;(have hs3:fI w2 (B.blk F gt) (.slice a2' rs.length (c2-1)) (mU rs):=by (rw [←ha2];exact LX hs2));(have HS2:=χ (ψ hs3 hu2));clear hs3 ha2;(have a2:=HA.out _ (HM1.out.1.aj hu2));clear hs2 hu2 ho2 a1 b1)
   | ((go_at_call 227;(with_reducible refine (a2).mono ?_));rintro e w3 ⟨v3,rfl,ho3,hu3⟩;rw [←jL] at ho3;obtain ⟨g3,c3,hv3,hZ3,hb3⟩:=IZ.gJ ho3 (by simp [mU]);rw [jL,List.length_cons] at hv3;subst hv3;(have HZ3:=χ (ψ hZ3 (ψ hb3 hu3)));clear ho3 hZ3 hb3 hu3 a2 b2)
   | fail)
  have hlt:=HD.out.1
  go_loopw [38] (fun s38 wr=>∃j:Nat,j≤rs.length+1∧s38=.int .i64 (j:Int)∧dF wr B F gt ct A st (qP ((m::rs).take j) (bR G m))∧aa [B.bn,B.bp] w3 wr) (fun s38 _=>rs.length+1-(intOf s38).toNat)
  case atStart=>exact ⟨0,ω,rfl,(HM1.out.1.aj HS2.out.2).aj HZ3.out.2.2,aa.refl _ _⟩
  case round=>
   obtain ⟨j,hj,rfl,hM,hu⟩:=hrel;rename World=>wr
   by_cases hjl:j<rs.length+1
   ·obtain ⟨y,hy⟩:∃y,(m::rs)[j]?=some y:=⟨_,List.getElem?_eq_getElem (by simpa using hjl)⟩
    have hyn:y<A.cs.length:=H0.out.2.1 y (List.mem_of_getElem? hy);have hg3:g3∉[B.bn,B.bp]:=fun hm=>by
     have h3:=HZ3.out.2.1;have h2:=HS2.out.2.size;have h1:=HM1.out.2.size;simp at hm;rcases hm with e|e
     ·have:=hlt B.bn (by simp [FB.blk]);omega
     ·have:=hlt B.bp (by simp [FB.blk]);omega
    have hc:=hu.kept (HZ3.out.1.cell j (by rw [jL];simpa using hjl)) hg3
    have hgy:(mU (m::rs)).getD j 0=(y:Int):=by unfold mU;rw [φ,List.getElem?_map,hy];rfl
    rw [hgy] at hc;have b1:=hM.h1;have kp:=yZ hM.rings hyn;have hjI:(j:Int)<(rs.length:Int)+1:=ω;have hw1:IntKind.i64.wrap ((j:Int)+1)=(j:Int)+1:=IntWalk.i64_in _ ω;have et:(m::rs).take (j+1)=(m::rs).take j++[y]:=by rw [List.take_add_one,hy];rfl
    have HR:=χ (ψ hM (ψ hu et));clear hM hu et hy hgy hlt
    go_wp2_with (first
     | ((go_at_call 228;(with_reducible refine (kp).mono ?_));rintro e w5 ⟨rfl,hR5,hu5⟩)
     | fail)
    obtain ⟨hM,hu,et⟩:=HR.out;refine ⟨⟨j+1,ω,by go_num,?_,hu.trans hu5⟩,by simp [intOf];omega⟩
    rw [et,IB];exact hM.bJ hu5 hR5
   ·obtain rfl:j=rs.length+1:=ω;have et:(m::rs).take (rs.length+1)=m::rs:=List.take_of_length_le σ;rw [et] at hM;have q3:=hM.h3;have qt:=hM.top (q:=hh) hl;have qf:=hM.ah.free hh;have hgtn:B.n0≠gt:=HD.out.2.2.1.2.2.2.2;obtain ⟨w4,hw4⟩:∃w4,w4=wr.setCell ⟨gt,hh,none⟩ (.int .i64 (-1)):=⟨_,rfl⟩
    have e3':({ qP (m::rs) (bR G m) with R:=ai (qP (m::rs) (bR G m)).R hh [] }:FG)=mD hh m rs G:=by
     unfold mD;rw [(tT _ _).2.2.2,Nc]
    have M4:dF w4 B F gt ct A st (mD hh m rs G):=by rw [hw4,←e3'];exact hM.fM hh []
    have hu4:aa [gt] wr w4:=by rw [hw4];(repeat (first|assumption|exact aa.refl _ _|refine aa.drew ?_|refine aa.alloc ?_ _|refine aa.setCell ?_ ?_ _|focus (left;simp;done)|focus (right;simp;done)|focus (right;simp;omega)|(apply aa.trans;rotate_left;assumption)))
    have hw3:aa (B.blk F gt) w3 w4:=(hu.mono (fun z hz=>by simp at hz;rcases hz with e|e<;>simp [FB.blk,e])).trans (hu4.mono (fun z hz=>by simp at hz;simp [FB.blk,hz]))
    have hs4:fI w4 (B.blk F gt) (.slice a2' rs.length (c2-1)) (mU rs):=(HS2.out.1.turned HZ3.out.2.2 σ).turned hw3 (fun g hg=>Or.inl hg)
    have kt:=Hl M4 h1 H0.out.2.2.2.1 H0.out.2.2.1 (hs4.fewer (fun g hg=>by
     simp only [List.mem_cons,List.not_mem_nil,or_false] at hg;rcases hg with e|e|e|e
     ·rw [e];exact gT _ HD.out.2.2.2.2
     all_goals simp [FB.blk,e]))
    rw [H0.out.2.2.2.2.2.2.2.2.2.1] at kt;have hU4:aa (B.blk F gt) w w4:=(((HM1.out.2.mono (fun z hz=>by simp at hz;rcases hz with e|e|e<;>simp [FB.blk,e])).then HS2.out.2).then HZ3.out.2.2).trans hw3
    have H4:=χ (ψ hU4 (ψ hw4 hl));rw [hw4] at kt;clear hM hu et M4 hu4 hw3 hs4 hU4 hw4 e3' hlt
    go_wp2_with (first
     | ((go_at_call 229;(with_reducible refine (kt).mono ?_));rintro e w5 ⟨v5,rfl,ho5,M5,hu5⟩;obtain ⟨a5,c5,hv5,_⟩:=aR ho5;subst hv5)
     | fail)
    obtain ⟨hU4,hw4,hl⟩:=H4.out;rw [←hw4] at hu5;have hz0:=dW hst;rw [←hw4] at ho5;have hs5:fI w5 (B.blk F gt) (.slice a5 D.T.length c5) D.T:=fI.gJ (base:=w4.heap.size) ho5 (fun g hg=>Nat.lt_of_lt_of_le (HD.out.1 g hg) hU4.size)
    have hu5':aa (B.blk F gt) w4 w5:=hu5.mono (fun z hz=>by
     simp only [List.mem_cons,List.not_mem_nil,or_false] at hz;rcases hz with e|e|e|e
     ·rw [e];exact gT _ HD.out.2.2.2.2
     all_goals simp [FB.blk,e])
    have hU5:=hU4.trans hu5';have H5:=χ (ψ M5 (ψ hs5 hU5));have hTl:D.T.length≤65537:=by have:=H0.out.2.2.2.2.2.2.2.2.1;omega
    clear M5 hs5 hU5 hu5 hu5' ho5 hU4 hw4 q3 qt qf kt H4
    go_loopw [59] (fun s59 wr2=>∃ (i:Nat) (G':FG) (q':Nat),i≤D.T.length∧s59=.int .i64 (i:Int)∧nU (mH A) hh (D.T.drop i) G' q'=R4∧wR A.cs.length (fun y=>((aL A (m:Int)).c y).i) (bH A) hh (BA (D.T.drop i)) G'∧dF wr2 B F gt ct A (bC st (D.q+q')) G'∧aa (B.blk F gt) w5 wr2) (fun s59 _=>D.T.length-(intOf s59).toNat)
    case atStart=>exact ⟨0,D.G,0,ω,rfl,H0.out.2.2.2.2.2.2.2.2.2.2,H0.out.2.2.2.2.1,H5.out.1,aa.refl _ _⟩
    case round=>
     obtain ⟨i,G',q',hi,rfl,hRt,hRI,hM,hu⟩:=hrel;rename World=>wr2
     by_cases hil:i<D.T.length
     ·obtain ⟨y,hy⟩:∃y,D.T[i]?=some y:=⟨_,List.getElem?_eq_getElem hil⟩
      have hdr:D.T.drop i=y::D.T.drop (i+1):=by
       rw [List.drop_eq_getElem_cons hil]
       congr 1
       rw [List.getElem?_eq_getElem hil] at hy
       injection hy
      rw [hdr] at hRt hRI;unfold nU at hRt;rw [pG] at hRI;obtain ⟨a6,c6,e6,_,_,hel⟩:=H5.out.2.1;have e7:a5=a6:=by injection e6
      subst e7;obtain ⟨g6,o6,rfl,hg6,hF6,hc6⟩:=hel i y hy;have hc7:=hu.kept hc6 hF6;have hiI:(i:Int)<(D.T.length:Int):=ω;have hw1:IntKind.i64.wrap ((i:Int)+1)=(i:Int)+1:=IntWalk.i64_in _ ω;have hTy:=H0.out.2.2.2.2.2.2.2.1 y (List.mem_of_getElem? hy)
      by_cases e:y=-1
      ·rw [if_pos e] at hRt hRI;rw [e] at hc7;have HR:=χ (ψ hRt (ψ hRI (ψ hM hu)));clear hRt hRI hM hu hy hdr hel e6 hc6 e;go_wp2;exact ⟨⟨i+1,G',q',ω,by go_num,HR.out.1,HR.out.2.1,HR.out.2.2.1,HR.out.2.2.2⟩,by simp [intOf];omega⟩
      ·rw [if_neg e] at hRt hRI;obtain ⟨z,rfl⟩:∃z:Nat,y=z:=⟨y.toNat,ω⟩
       rw [π] at hRt hRI;have hzn:((z:Int) == -1)=false:=σ;have hzr:=(hRI.pr z σ).1;have hzin:=H0.out.2.2.2.1 z hzr.1 hzr.2.2
       have kr:=fun W (hW:aa [] wr2 W)=>y8 (hM.aj hW) [] hl hzin (fun t s' et=>by
        have hm:=hRI.mem t (by rw [et];simp)
        exact H0.out.2.2.2.1 t hm.1 hm.2.2)
       obtain ⟨hRI2,_⟩:=hRI.step h1 (fun G=>wy _ _ _ _ _) (fun a b c=>bE)
       have HR:=χ (ψ hRt (ψ hRI2 hu));clear hRt hRI hM hu hy hdr hel e6 hc6 e hRI2 hzr hzin hTy
       go_wp2_with (first
        | ((go_at_call 230;(with_reducible refine (kr _ β).mono ?_));rintro e w6 ⟨rfl,hM6,hu6⟩)
        | fail)
       rw [gz] at hM6;refine ⟨⟨i+1,_,q'+oM hh G',ω,by go_num,HR.out.1,HR.out.2.1,by rw [←Nat.add_assoc];exact hM6,HR.out.2.2.trans (hu6.mono (fun z hz=>?_))⟩,by simp [intOf];omega⟩
       simp only [List.mem_cons,List.not_mem_nil,or_false] at hz;rcases hz with e|e|e|e
       ·rw [e];exact gT _ HD.out.2.2.2.2
       all_goals simp [FB.blk,e]
     ·obtain rfl:i=D.T.length:=ω;have hdr:D.T.drop D.T.length=[]:=List.drop_eq_nil_of_le (Nat.le_refl _);rw [hdr] at hRt;have hRt':(G',q')=R4:=hRt;subst hRt';have q0:=hM.h0;have kd:=KD.out wr2 F B.c hM.cells;have HR:=χ (ψ hM hu);clear hRt hRI hM hu hdr
      go_wp2_with (first
       | ((go_at_call 151;(with_reducible refine (kd).mono ?_));rintro e w7 ⟨rfl,hC7,hu7⟩)
       | fail)
      go_ret2;refine ⟨rfl,B.blk F gt,⟨⟨B,F,gt,ct,rfl,rfl,HR.out.1.bI hu7 hC7 (fun y hy=>Or.inl hy) (dw A m) (by rw [fA])⟩,H0.out.2.2.2.2.2.2.1⟩,(H5.out.2.2.trans HR.out.2).trans (hu7.mono gT),fun y hy=>Or.inl hy⟩
end
end Go.Proofs.YtklibcncmbofpaaGreat
