/-
  Lemmas for PathBest: Sk5, Sk6, SkQ, SkO. Conditions: those of each lemma.
-/
import Derived.Test.YtklibcncmbofpaaGreatB33
set_option linter.all false
set_option maxHeartbeats 8000000
set_option maxRecDepth 10000
namespace Go.Proofs.YtklibcncmbofpaaGreat
open Go Go.RowKit
noncomputable def QG (A':NS) (t:BT) (x:Nat):BT×Nat:=
 match (pathOf t x).1 with
 | []=>(t,0)
 | _::_=>aK rQ A' (aj (pathOf t x).1 .nil) (.node x (pathOf t x).2.1 (pathOf t x).2.2)
section
variable {w:World} {B:SB} {F:List Nat} {A:NS} {st:Nat} {tr:Nat->BT} {S:TS} {f:Int->Option Int}
def DW (w':World) (B:SB) (F:List Nat) (A':NS) (st:Nat) (S:TS) (f:Int->Option Int) (g:Nat) (X:List Nat) (T:BT):Prop:=
 ∃S' f',oq w' B F A' st S' f'/\cO S' (-1) T.root T/\(∀y,y∉X->S.at S' y)/\∀y,f' y=if y=(g:Int) then (if T.root=-1 then none else some T.root) else f y
theorem Tx (hM:oq w B F A st S f) {g x:Nat} {l r:BT} {k s:Int} (hk:-9223372036854775808<=k/\k<=9223372036854775807/\0<=s/\s<=18446744073709551615) (hB:jo A x k s=true)
  (hg:(A.c x).i=g) (hg0:0<g) (htop:f (g:Int)=some (x:Int)) (hxl:x<A.cs.length) (hT:cO S (-1) (BT.node x l r).root (.node x l r)) :
  Calls Tryz.prog 260 #[.pointer (some ⟨B.n0,0,none⟩),.int .i64 (x:Int),.agg #[.int .i64 k,.int .u64 s]] w fun e w'=>e=.returned (.bool true)/\aa (B.blk F) w w'/\
   DW w' B F (aB A x k s) st S f g (BT.node x l r).nodes (.node x l r):=by
 have hcs:=fJ A x k s;have hin':bX (aB A x k s) (x:Int)=true:=(ai _ x).2 ⟨by rw [hcs];exact hxl,by rw [iR hB hxl,hg];omega⟩;have hi':((aB A x k s).c x).i=g:=by rw [iR hB hxl,hg]
 have hux:S.u x=-1:=hT.2.1;have u1:aa [] w (w.alloc (.cells #[.int .i64 k,.int .u64 s] 129)):=(aa.refl _ _).alloc _;have kp:=fun W (hW:aa [] (w.alloc (.cells #[.int .i64 k,.int .u64 s] 129)) W)=>iP (hM.cells.aA (u1.trans hW)) x k s hk hB;have h0:=hM.h0;have uQ:B.n0∉F:=hM.bI.1;have hlt:=hM.lt;have hsz:w.heap.size∉F:=fun hm=>by have:=hlt w.heap.size (by simp [SB.blk,hm]);omega
 have r0:∀W,aa F (w.alloc (.cells #[.int .i64 k,.int .u64 s] 129)) W->W.cell? ⟨B.n0,0,none⟩=some (.pointer (some ⟨B.c,0,none⟩)):=fun W hW=>hW.kept (u1.was h0) uQ;have r1:∀W,aa F (w.alloc (.cells #[.int .i64 k,.int .u64 s] 129)) W->W.cell? ⟨w.heap.size,0,none⟩=some (.int .i64 k):=fun W h=>h.kept σ hsz;have r2:∀W,aa F (w.alloc (.cells #[.int .i64 k,.int .u64 s] 129)) W->W.cell? ⟨w.heap.size,1,none⟩=some (.int .u64 s):=fun W h=>h.kept σ hsz;have HM:=χ hM;have HG:=χ (ψ htop hT);clear hM hT htop hlt h0 hg;generalize hA':aB A x k s=A' at *
 go_enter Tryz.func260,Tryz.ntmps260
 go_wp2
 go_region_held3 (aa F (w.alloc (.cells #[.int .i64 k,.int .u64 s] 129))) (exact ν)
  ((go_at_call 147;(with_reducible refine (kp _ β).mono ?_);rintro e w1 ⟨rfl,jD,hu1⟩;(have hu2:aa F (w.alloc (.cells #[.int .i64 k,.int .u64 s] 129)) w1:=ν)))
 have uF:aa F w (w.alloc (.cells #[.int .i64 k,.int .u64 s] 129)):=u1.mono σ;have hM1:=HM.out.dB (uF.trans hu2) jD (fun y hy=>Or.inl hy) hcs;have kh:=eB hM1.cells x hin';rw [hi'] at kh;have g10:=hM1.h0;have jZ:=χ hM1;have Fq:=χ (uF.trans hu2);clear r0 r1 r2 kp hu1 hu2 jD hM1 uF
 go_wp2_with (first
  | ((go_at_call 140;(with_reducible refine (kh).mono ?_));rintro e w2 ⟨rfl,hC2,hu2⟩;(have g21:=(jZ.out.dB hu2 hC2 (fun y hy=>Or.inl hy) rfl).h1);(have kc:=Ej B.bt B.ba A'.cs.length S (x:Int) w2 (jZ.out.dB hu2 hC2 (fun y hy=>Or.inl hy) rfl).trees (by unfold pF;rw [if_pos ω,π];exact hux)))
  | (go_at_call 244;(with_reducible refine (kc).mono ?_);rintro e w9 ⟨rfl,aM⟩;rw [aM];clear aM w9)
  | fail)
 go_ret;refine ⟨rfl,(Fq.out.trans hu2).mono (fun y hy=>by simp only [SB.blk,ρ];simp [hy]),S,f,jZ.out.dB hu2 hC2 (fun y hy=>Or.inl hy) rfl,HG.out.2,fun y _=>⟨rfl,rfl,rfl⟩,fun y=>?_⟩
 by_cases e:y=(g:Int)
 ·rw [if_pos e,e,HG.out.1,if_neg (by show ¬ (x:Int)=-1;omega)];rfl
 ·rw [if_neg e]
theorem Vg (hM:oq w B F A st S f) {g x:Nat} {fr:Fr} {P:List Fr} {l r:BT} {k s:Int} (hk:-9223372036854775808<=k/\k<=9223372036854775807/\0<=s/\s<=18446744073709551615) (hB:jo A x k s=true)
  (hg:(A.c x).i=g) (hg0:1<=g/\g<=65536) (htop:NQ (f (g:Int))=(aj (fr::P) (.node x l r)).root) (hT:cO S (-1) (aj (fr::P) (.node x l r)).root (aj (fr::P) (.node x l r))) (hn:(aj (fr::P) (.node x l r)).nodes.Nodup)
  (hall:∀y,y∈(aj (fr::P) (.node x l r)).nodes->bX A (y:Int)=true) :
  Calls Tryz.prog 260 #[.pointer (some ⟨B.n0,0,none⟩),.int .i64 (x:Int),.agg #[.int .i64 k,.int .u64 s]] w fun e w'=>e=.returned (.bool true)/\aa (B.blk F) w w'/\
   DW w' B F (aB A x k s) (bZ st (aK rQ (aB A x k s) (aj (fr::P) .nil) (.node x l r)).2) S f g (aj (fr::P) (.node x l r)).nodes (aK rQ (aB A x k s) (aj (fr::P) .nil) (.node x l r)).1:=by
 have hcs:=fJ A x k s;have hxl:x<A.cs.length:=by
  have:=hall x (aH.2 (Or.inl (by simp [BT.nodes])));exact ((ai A x).1 this).1
 have hin':bX (aB A x k s) (x:Int)=true:=(ai _ x).2 ⟨by rw [hcs];exact hxl,by rw [iR hB hxl,hg];omega⟩;have hi':((aB A x k s).c x).i=g:=by rw [iR hB hxl,hg]
 have si:∀y,y∈(aj (fr::P) (.node x l r)).nodes->bX (aB A x k s) (y:Int)=true:=fun y hy=>by
  have:=(ai A y).1 (hall y hy);exact (ai _ y).2 ⟨by rw [hcs];exact this.1,by rw [iR hB hxl];exact this.2⟩
 have hlt':∀y,y∈(aj (fr::P) (.node x l r)).nodes->y<(aB A x k s).cs.length:=fun y hy=>((ai _ y).1 (si y hy)).1;have hpn:=(aP (fr::P) (.node x l r)).nodup_iff.1 hn;rw [θ] at hpn;have hn0:(aj (fr::P) .nil).nodes.Nodup:=(aP (fr::P) .nil).nodup_iff.2 (by simpa [BT.nodes] using hpn.2.1);have Az:∀y,y∈(aj (fr::P) .nil).nodes↔y∈dU (fr::P):=fun y=>by rw [aH];simp [BT.nodes]
 have sZ:((aj (fr::P) .nil).nodes++(BT.node x l r).nodes).Nodup:=by
  rw [θ];exact ⟨hn0,hpn.1,fun a ha b hb e=>hpn.2.2 b hb a ((Az a).1 ha) e.symm⟩
 have IK:∀y,y∈(aj (fr::P) .nil).nodes++(BT.node x l r).nodes->y∈(aj (fr::P) (.node x l r)).nodes:=fun y hy=>by
  rw [τ,Az] at hy;rw [aH];exact hy.symm
 have hrt:(aj (fr::P) (.node x l r)).root=(aj (fr::P) .nil).root:=kH _ _ _ _;rw [hrt] at htop;obtain ⟨mp, -⟩:=mH vg (aB A x k s) _ (aj (fr::P) .nil) (.node x l r) (Nat.le_refl _);have hmr:-1<=(aK rQ (aB A x k s) (aj (fr::P) .nil) (.node x l r)).1.root/\(aK rQ (aB A x k s) (aj (fr::P) .nil) (.node x l r)).1.root<=9223372036854775807:=by
  refine ⟨yH _,?_⟩
  by_cases e:(aK rQ (aB A x k s) (aj (fr::P) .nil) (.node x l r)).1=.nil
  ·rw [e];show (-1:Int)<=_;omega
  ·have h1:=bM e;have h2:=hlt' _ (IK _ (mp.mem_iff.1 h1.1));have h3:=hM.cells.ok.c1;rw [hcs] at h2;omega
 have u1:aa [] w (w.alloc (.cells #[.int .i64 k,.int .u64 s] 129)):=(aa.refl _ _).alloc _;have kp:=fun W (hW:aa [] (w.alloc (.cells #[.int .i64 k,.int .u64 s] 129)) W)=>iP (hM.cells.aA (u1.trans hW)) x k s hk hB;have h0:=hM.h0;have uQ:B.n0∉F:=hM.bI.1;have hlt:=hM.lt;have hsz:w.heap.size∉F:=fun hm=>by have:=hlt w.heap.size (by simp [SB.blk,hm]);omega
 have r0:∀W,aa F (w.alloc (.cells #[.int .i64 k,.int .u64 s] 129)) W->W.cell? ⟨B.n0,0,none⟩=some (.pointer (some ⟨B.c,0,none⟩)):=fun W hW=>hW.kept (u1.was h0) uQ;have r1:∀W,aa F (w.alloc (.cells #[.int .i64 k,.int .u64 s] 129)) W->W.cell? ⟨w.heap.size,0,none⟩=some (.int .i64 k):=fun W h=>h.kept σ hsz;have r2:∀W,aa F (w.alloc (.cells #[.int .i64 k,.int .u64 s] 129)) W->W.cell? ⟨w.heap.size,1,none⟩=some (.int .u64 s):=fun W h=>h.kept σ hsz;have HM:=χ hM;have qA:=hM.cF;have HG:=χ (ψ hT (ψ hn (ψ si hlt')));have HX:=χ (ψ sZ IK);have hA:=hM.cells.ok.c1
 clear hM hT hn hall si hlt' hpn hlt h0 hg sZ IK hn0 Az hrt uQ hsz mp;generalize hA':aB A x k s=A' at *
 go_enter Tryz.func260,Tryz.ntmps260
 go_wp2
 go_region_held3 (aa F (w.alloc (.cells #[.int .i64 k,.int .u64 s] 129))) (exact ν)
  ((go_at_call 147;(with_reducible refine (kp _ β).mono ?_);rintro e w1 ⟨rfl,jD,hu1⟩;(have hu2:aa F (w.alloc (.cells #[.int .i64 k,.int .u64 s] 129)) w1:=ν)))
 have uF:aa F w (w.alloc (.cells #[.int .i64 k,.int .u64 s] 129)):=u1.mono σ;have hM1:=HM.out.dB (uF.trans hu2) jD (fun y hy=>Or.inl hy) hcs;have kh:=eB hM1.cells x hin';rw [hi'] at kh;have g10:=hM1.h0;have jZ:=χ hM1;have Fq:=χ (uF.trans hu2);clear r0 r1 r2 kp hu1 hu2 jD hM1 uF;have EZ:∀w2,aa F w1 w2->aG w2 B.c F A' st->_:=fun w2 hu2 hC2=>nW (jZ.out.dB hu2 hC2 (fun y hy=>Or.inl hy) rfl).trees (f:=fr) (P:=P) (t:=.node x l r) HG.out.1 HG.out.2.1 HG.out.2.2.2;rw [show BT.root (.node x l r)=(x:Int) from rfl,DR] at EZ;generalize cutV fr (.node x l r)=cv at EZ
 go_wp2_with (first
  | ((go_at_call 140;(with_reducible refine (kh).mono ?_));rintro e w2 ⟨rfl,hC2,hu2⟩;(have g21:=(jZ.out.dB hu2 hC2 (fun y hy=>Or.inl hy) rfl).h1);(have kc:=EZ w2 hu2 hC2))
  | ((go_at_call 244;(with_reducible refine (kc).mono ?_));rintro e w3 ⟨rfl,hu3,S3,Bg,hx3,hp3,hs3⟩;(have jV:=(jZ.out.dB hu2 hC2 (fun y hy=>Or.inl hy) rfl).iV hu3 Bg);(have kf:=qF jV (g:Int) ω);rw [htop] at kf;(have km:=vk jV (ta:=aj (fr::P) .nil) (tb:=.node x l r) hp3 hx3 HX.out.1 (fun y hy=>HG.out.2.2.1 y (HX.out.2 y hy)));rw [show BT.root (.node x l r)=(x:Int) from rfl] at km)
  | (go_at_call 268;(with_reducible refine (kf).mono ?_);rintro e w9 ⟨rfl,aM⟩;rw [aM];clear aM w9)
  | ((go_at_call 267;(with_reducible refine (km).mono ?_));rintro e w4 ⟨rfl,iC,S4,sG,Pm,hs4⟩;(have kcr:=vG sG g _ ω hmr))
  | ((go_at_call 266;(with_reducible refine (kcr).mono ?_));rintro e w5 ⟨rfl,cu,wZ⟩)
  | fail)
 go_ret;refine ⟨rfl,((((Fq.out.trans hu2).mono (fun y hy=>by simp only [SB.blk,ρ];simp [hy])).trans (hu3.mono (by simp [SB.blk]))).trans (iC.mono (fun y hy=>?_))).trans (cu.mono (by simp [SB.blk])),S4,_,wZ,Pm,fun y hy=>gQ (hs3 y hy) (hs4 y (fun hm=>hy (HX.out.2 y hm))),fun y=>rfl⟩;simp only [ρ,ς,or_false] at hy;simp only [SB.blk,ρ];rcases hy with rfl|rfl
 ·simp [qA]
 ·simp
theorem P9 (h:mY w B F A st tr) (g x:Nat) (hx:x∈(tr g).nodes) (k s:Int) (hk:-9223372036854775808<=k/\k<=9223372036854775807/\0<=s/\s<=18446744073709551615) (hB:jo A x k s=true) :
  Calls Tryz.prog 260 #[.pointer (some ⟨B.n0,0,none⟩),.int .i64 (x:Int),.agg #[.int .i64 k,.int .u64 s]] w fun e w'=>e=.returned (.bool true)/\aa (B.blk F) w w'/\
   mY w' B F (aB A x k s) (bZ st (QG (aB A x k s) (tr g) x).2) (fun q=>if q=g then (QG (aB A x k s) (tr g) x).1 else tr q):=by
 obtain ⟨S,hM,hI⟩:=h;have hm:=(hI.mem g x).1 hx;have e:=nH hx;unfold QG;generalize (pathOf (tr g) x).1=P at *;generalize (pathOf (tr g) x).2.1=l at *;generalize (pathOf (tr g) x).2.2=r at *;have hq:1<=g/\g<A.hs.length:=by have:=hM.cells.ok.nat x hm.2.1;omega
 have hb65:=hM.cells.ok.h1;have hT:=hI.Dx g;have hn:=hI.nd g;have hH:=hI.heap g;have htp:=zJ A tr g hq;rw [e] at hT hn hH htp;obtain ⟨d1,d2⟩:=Hm hB hm.2.1 hn hH;have fin:∀w' T st',DW w' B F (aB A x k s) st' S (qC A tr) g (tr g).nodes T->T.nodes.Perm (tr g).nodes->Heap (aB A x k s) T->mY w' B F (aB A x k s) st' (fun q=>if q=g then T else tr q):=fun w' T st' hE hp hh=>by
  obtain ⟨S',f',q1,q2,q4,q6⟩:=hE;refine ⟨S',q1.ext (fun y=>by rw [q6 y];exact Aw (by rw [lN]) hq y),wR.low (jv:=xe (aB A x k s) (fun q=>if q=g then T else tr q)) hI hB hx q2 hp hh q4 (fun q hq'=>?_)⟩;have YY:q<(aB A x k s).hs.length:=by rw [lN];exact hq'
  unfold xe;rw [φ,List.getElem?_map,List.getElem?_range YY]
  show (if q=g then T else tr q).root=_
  by_cases eq:q=g
  ·rw [if_pos eq,if_pos eq]
  ·rw [if_neg eq,if_neg eq];rw [φ,List.getElem?_map,List.getElem?_range hq'];rfl
 cases P with
 | nil=>
  have ht2:qC A tr (g:Int)=some (x:Int):=by
   unfold qC;rw [if_pos ω,π,e]
   show (if (x:Int)=-1 then none else some (x:Int))=_
   rw [if_neg ω]
  refine (Tx hM hk hB hm.2.2 hm.1 ht2 hm.2.1 hT).mono ?_;rintro e' w' ⟨rfl,hu,hE⟩;have e2:tr g=.node x l r:=e;refine ⟨rfl,hu,?_⟩
  show mY w' B F (aB A x k s) (bZ st 0) (fun q=>if q=g then tr g else tr q)
  rw [gL hM.cells.pI];refine fin w' _ st (by rw [e2];exact hE) (List.Perm.refl _) (by rw [e2];exact d2)
 | cons fr P2=>
  refine (Vg hM hk hB hm.2.2 ω htp hT hn (fun y hy=>?_)).mono ?_
  ·rw [←e] at hy;have:=(hI.mem g y).1 hy;exact (ai A y).2 ⟨this.2.1,ω⟩
  ·rintro e' w' ⟨rfl,hu,hE⟩;refine ⟨rfl,hu,?_⟩;obtain ⟨mp,mh⟩:=mH vg (aB A x k s) _ (aj (fr::P2) .nil) (.node x l r) (Nat.le_refl _);have pn:((aj (fr::P2) .nil).nodes++(BT.node x l r).nodes).Perm (tr g).nodes:=by
    rw [e];refine ((aP (fr::P2) .nil).append_right _).trans ?_;refine List.perm_append_comm.trans ?_;simp only [BT.nodes,List.nil_append];exact (aP (fr::P2) (.node x l r)).symm
   refine fin w' _ _ (by rw [e];exact hE) (mp.trans pn) (mh d1 d2 (pn.nodup_iff.2 (hI.nd g)))
end
theorem SI (n:Nat) (w:World) (h:n<=65536) :
  Calls Tryz.prog 102 #[.int .i64 (n:Int)] w fun e w'=>∃B F,e=.returned (.tuple #[.pointer (some ⟨B.n0,0,none⟩),.int .i64 0])/\mY w' B F (NS.new n) 0 (fun _=>.nil)/\aa [] w w'/\∀x,x∈B.blk F->w.heap.size<=x:=by
 have hmm:=@run_makeMap Tryz.prog
 go_enter Tryz.func102,Tryz.ntmps102
 go_wp2_with (first
  | ((go_at_call 107;(with_reducible refine (oh n _ h).mono ?_));rintro e w1 ⟨c,F,rfl,hC,hu1,hF⟩)
  | ((go_at_call 112;(with_reducible refine (wC n _ h).mono ?_));rintro e w2 ⟨bt,ba,rfl,hT,hu2,hb1,hb2⟩))
 go_ret2;have hcs:(NS.new n).cs.length=n:=by simp [NS.new]
 have l1:=hu1.size;have l2:=hu2.size;have l5:=hT.head.lt;have l6:=hT.row.lt;have l7:=hC.lt;have lc:=l7 c hC.mem;have hm:=gN.made w2;have e3:((w2.alloc (.map #[] 0)).heap.size)=w2.heap.size+1:=by rw [World.size_alloc]
 have hv1:aa [] w2 (w2.alloc (.map #[] 0)):=(aa.refl _ _).alloc _;have hv2:aa [] (w2.alloc (.map #[] 0)) ((w2.alloc (.map #[] 0)).alloc (.cells #[.pointer (some ⟨c,0,none⟩),.pointer (some ⟨bt,0,none⟩),.map (some w2.heap.size)] 234)):=(aa.refl _ _).alloc _;have hv:=hv1.trans hv2;have hh:=eH (w2.alloc (.map #[] 0)) [.pointer (some ⟨c,0,none⟩),.pointer (some ⟨bt,0,none⟩),.map (some w2.heap.size)] 234;rw [e3] at hh;have hnF:∀x,w1.heap.size<=x->x∉F:=fun x hx hm=>by have:=l7 x hm;omega
 refine ⟨⟨w2.heap.size+1,c,bt,ba,w2.heap.size⟩,F,rfl,⟨TS.none,⟨hh,(hC.aA hu2).aA hv,by rw [hcs];exact hT.upd hv σ σ,?_,⟨hnF _ (by simp only;omega),hnF _ (by simp only;omega),hnF _ (by simp only;omega),hnF _ (by simp only;omega)⟩,⟨⟨by simp only;omega,by simp only;omega,by simp only;omega⟩,by simp only;omega,by simp only;omega⟩⟩,(Ec n).RG⟩,(hu1.trans hu2).trans hv,fun x hx=>?_⟩
 ·refine (hm.upd hv2 σ).ext (fun k=>?_);unfold qC
  split
  ·rfl
  ·rfl
 ·simp only [SB.blk,ρ] at hx;rcases hx with rfl|rfl|rfl|rfl|hx
  ·omega
  ·omega
  ·omega
  ·omega
  ·exact hF x hx
section
variable {w:World} {B:SB} {F:List Nat} {A:NS} {st:Nat} {tr:Nat->BT}
theorem mY.make {w':World} {F':List Nat} (h:mY w B F A st tr) (hl:¬65536<A.hs.length) (hu:aa F w w') (hC:aG w' B.c F' (aQ A) st) (hF:∀x,x∈F'->x∈F\/w.heap.size<=x):mY w' B F' (aQ A) st tr:=by
 obtain ⟨S,hM,hI⟩:=h;have ok:=hM.cells.ok;have e1:(aQ A).cs.length=A.cs.length:=by unfold aQ;rw [if_neg hl]
 have e2:(aQ A).hs.length=A.hs.length+1:=by unfold aQ;rw [if_neg hl];simp
 have hI2:=hI.make ok (by simp [xe]) hl;have hnil:(tr A.hs.length)=.nil:=by
  cases e:tr A.hs.length with
  | nil=>rfl
  | node y a b=>
   exfalso;have:=(hI.mem A.hs.length y).1 (by rw [e];simp [BT.nodes]);have h3:=jf ok ((ai A y).2 ⟨this.2.1,ω⟩);have:=(aT _ _).1 h3;rw [π] at this;omega
 refine ⟨S,(hM.dB hu hC hF e1).ext (fun k=>?_),hI2.RG⟩;unfold qC;rw [e2]
 by_cases h1:1<=k/\k<A.hs.length
 ·rw [if_pos h1,if_pos (show 1<=k/\k<((A.hs.length+1:Nat):Int) by omega)]
 ·rw [if_neg h1]
  by_cases h2:k=A.hs.length
  ·subst h2;rw [π,hnil]
   split
   ·rfl
   ·rfl
  ·rw [if_neg (show ¬ (1<=k/\k<((A.hs.length+1:Nat):Int)) by omega)]
end
theorem KG (p c:Nat):∀W:World,W.cell? ⟨p,0,none⟩=some (.pointer (some ⟨c,0,none⟩))->(method 429 190 (.pointer (some ⟨p,0,none⟩)) "Has").run Tryz.prog W=.ok (139,.pointer (some ⟨c,0,none⟩)) W:=(by intro W h;unfold method;have hm:∃m,(Array.find? (fun x=>x.name == "Has") Tryz.t190.methods)=some m/\m.path.toList=[⟨234,0,true⟩]/\m.func=some (139,true)/\m.path.isEmpty=false:=⟨(Array.find? (fun x=>x.name == "Has") Tryz.t190.methods).get!,by kernel_rfl,by kernel_rfl,by kernel_rfl,by kernel_rfl⟩;obtain ⟨m,h1,h2,h3,h4⟩:=hm;go_simp;simp only [follow,Place.get];go_simp;(try unfold receiverAt);(try simp only [Place.get]);(try go_simp))
theorem ER (p c:Nat):∀W:World,W.cell? ⟨p,0,none⟩=some (.pointer (some ⟨c,0,none⟩))->(method 429 190 (.pointer (some ⟨p,0,none⟩)) "Entry").run Tryz.prog W=.ok (137,.pointer (some ⟨c,0,none⟩)) W:=(by intro W h;unfold method;have hm:∃m,(Array.find? (fun x=>x.name == "Entry") Tryz.t190.methods)=some m/\m.path.toList=[⟨234,0,true⟩]/\m.func=some (137,true)/\m.path.isEmpty=false:=⟨(Array.find? (fun x=>x.name == "Entry") Tryz.t190.methods).get!,by kernel_rfl,by kernel_rfl,by kernel_rfl,by kernel_rfl⟩;obtain ⟨m,h1,h2,h3,h4⟩:=hm;go_simp;simp only [follow,Place.get];go_simp;(try unfold receiverAt);(try simp only [Place.get]);(try go_simp))
theorem Gf (p c:Nat):∀W:World,W.cell? ⟨p,0,none⟩=some (.pointer (some ⟨c,0,none⟩))->(method 429 190 (.pointer (some ⟨p,0,none⟩)) "Make").run Tryz.prog W=.ok (156,.pointer (some ⟨c,0,none⟩)) W:=(by intro W h;unfold method;have hm:∃m,(Array.find? (fun x=>x.name == "Make") Tryz.t190.methods)=some m/\m.path.toList=[⟨234,0,true⟩]/\m.func=some (156,true)/\m.path.isEmpty=false:=⟨(Array.find? (fun x=>x.name == "Make") Tryz.t190.methods).get!,by kernel_rfl,by kernel_rfl,by kernel_rfl,by kernel_rfl⟩;obtain ⟨m,h1,h2,h3,h4⟩:=hm;go_simp;simp only [follow,Place.get];go_simp;(try unfold receiverAt);(try simp only [Place.get]);(try go_simp))
theorem Oq (p:Nat):∀W:World,(method 429 190 (.pointer (some ⟨p,0,none⟩)) "Insert").run Tryz.prog W=.ok (263,.pointer (some ⟨p,0,none⟩)) W:=fun _=>by kernel_rfl
theorem YX (p:Nat):∀W:World,(method 429 190 (.pointer (some ⟨p,0,none⟩)) "Min").run Tryz.prog W=.ok (265,.pointer (some ⟨p,0,none⟩)) W:=fun _=>by kernel_rfl
theorem I9 (p:Nat):∀W:World,(method 429 190 (.pointer (some ⟨p,0,none⟩)) "Extract").run Tryz.prog W=.ok (262,.pointer (some ⟨p,0,none⟩)) W:=fun _=>by kernel_rfl
theorem FE (p:Nat):∀W:World,(method 429 190 (.pointer (some ⟨p,0,none⟩)) "Decrease").run Tryz.prog W=.ok (260,.pointer (some ⟨p,0,none⟩)) W:=fun _=>by kernel_rfl
def SkQ (w:World) (p:Nat) (F:List Nat) (A:NS):Prop:=∃B F1 st tr,p=B.n0/\F=B.blk F1/\mY w B F1 A st tr
def wB:gV where
 ty:=190
 at_:=SkQ
 upd:=fun h hu hS=>by
  obtain ⟨B,F1,st,tr,rfl,rfl,hL⟩:=h;exact ⟨B,F1,st,tr,rfl,rfl,hL.upd hu hS⟩
 lt:=fun h=>by
  obtain ⟨B,F1,st,tr,rfl,rfl,S,hM, -⟩:=h;exact hM.lt
 ok:=fun h=>by
  obtain ⟨B,F1,st,tr,rfl,rfl,S,hM, -⟩:=h;exact hM.cells.ok
 make:=fun {w p F A} h=>by
  obtain ⟨B,F1,st,tr,rfl,rfl,hL⟩:=h;have h0:w.cell? ⟨B.n0,0,none⟩=some (.pointer (some ⟨B.c,0,none⟩)):=by obtain ⟨S,hM, -⟩:=hL;exact hM.h0
  refine iT 156 (fun _ _=>by kernel_rfl) h0 (Gf _ _) (fun W hW=>?_);have mF:=hL.aA hW;have hC:aG W B.c F1 A st:=by obtain ⟨S,hM, -⟩:=mF;exact hM.cells
  refine (iX hC).mono ?_;rintro e w' ⟨rfl,F',hC2,hu,hf⟩;have hu2:aa (B.blk F1) W w':=hu.mono (fun z hz=>by simp only [SB.blk,ρ];simp [hz]);have hf2:∀z,z∈B.blk F'->z∈B.blk F1\/W.heap.size<=z:=fun z hz=>by
   simp only [SB.blk,ρ] at hz ⊢;rcases hz with rfl|rfl|rfl|rfl|hz
   ·simp
   ·simp
   ·simp
   ·simp
   ·rcases hf z hz with h1|h1
    ·simp [h1]
    ·exact Or.inr h1
  refine ⟨rfl,B.blk F',?_,hu2,hf2⟩
  by_cases hl:65536<A.hs.length
  ·have e2:aQ A=A:=by unfold aQ;rw [if_pos hl]
   rw [e2] at hC2 ⊢;obtain ⟨S,hM,hI⟩:=mF;exact ⟨B,F',st,tr,rfl,rfl,S,hM.dB hu hC2 hf rfl,hI⟩
  ·exact ⟨B,F',st,_,rfl,rfl,mF.make hl hu hC2 hf⟩
 insert:=fun {w p F A} g y k s hk hB h=>by
  obtain ⟨B,F1,st,tr,rfl,rfl,hL⟩:=h;refine aZ 263 (fun _ _=>by kernel_rfl) (Oq _) (fun W hW=>?_);refine (Ia (hL.aA hW) g y k s hk hB).mono ?_;rintro e w' ⟨rfl,hu,hL2⟩;exact ⟨rfl,Goes.stay ⟨B,F1,_,_,rfl,rfl,hL2⟩ hu⟩
 min:=fun {w p F A} y hB h=>by
  obtain ⟨B,F1,st,tr,rfl,rfl,hL⟩:=h;refine aZ 265 (fun _ _=>by kernel_rfl) (YX _) (fun W hW=>?_);have mF:=hL.aA hW;have hok:A.Ok:=by obtain ⟨S,hM, -⟩:=hL;exact hM.cells.ok
  by_cases hl:dZ A (y:Int)=0
  ·rw [iQ.2 hl];have h4:=(aT _ _).1 hB;have h5:=hok.h1;refine (Mt mF y ω hl).mono ?_;rintro e w' ⟨rfl,rfl⟩;exact ⟨rfl,Goes.stay ⟨B,F1,st,tr,rfl,rfl,mF⟩ (aa.refl _ _)⟩
  ·refine (Cf mF y ω).mono ?_;rintro e w' ⟨m,hm, -,rfl,rfl⟩;rw [hm];exact ⟨rfl,Goes.stay ⟨B,F1,st,tr,rfl,rfl,mF⟩ (aa.refl _ _)⟩
 extract:=fun {w p F A} y m hm h=>by
  obtain ⟨B,F1,st,tr,rfl,rfl,hL⟩:=h;refine aZ 262 (fun _ _=>by kernel_rfl) (I9 _) (fun W hW=>?_);have hl:¬dZ A (y:Int)=0:=fun e=>by rw [iQ.2 e] at hm;cases hm
  refine (Bq (hL.aA hW) y ω).mono ?_;rintro e w' ⟨m',hm',rfl,hu,hL2⟩;rw [hm] at hm';cases hm';exact ⟨rfl,Goes.stay ⟨B,F1,_,_,rfl,rfl,hL2⟩ hu⟩
 mV:=fun {w p F A} y k s hk hB h=>by
  obtain ⟨B,F1,st,tr,rfl,rfl,hL⟩:=h;refine aZ 260 (fun _ _=>by kernel_rfl) (FE _) (fun W hW=>?_);have mF:=hL.aA hW;have hin:=qE hB;have hx:y∈(tr (A.c y).i.toNat).nodes:=by
   obtain ⟨S,hM,hI⟩:=mF;have:=(ai _ _).1 hin;exact (hI.mem _ y).2 ⟨ω,this.1,ω⟩
  refine (P9 mF _ y hx k s hk hB).mono ?_;rintro e w' ⟨rfl,hu,hL2⟩;exact ⟨rfl,Goes.stay ⟨B,F1,_,_,rfl,rfl,hL2⟩ hu⟩
 has:=fun x h=>by
  obtain ⟨B,F1,st,tr,rfl,rfl,S,hM, -⟩:=h;exact iT 139 (fun _ _=>by kernel_rfl) hM.h0 (KG _ _) (fun W hW=>jN (hM.aA hW).cells x)
 entry:=fun {w p F A} x h=>by
  obtain ⟨B,F1,st,tr,rfl,rfl,S,hM, -⟩:=h;refine iT 137 (fun _ _=>by kernel_rfl) hM.h0 (ER _ _) (fun W hW=>?_);cases hin:bX A x with
  | false=>simpa using mi (hM.aA hW).cells x hin
  | true=>
   obtain ⟨y,rfl⟩:=qD hin;simpa using kN (hM.aA hW).cells y hin
theorem JH (p:Nat) (w:World):Calls Tryz.prog 101 #[.pointer (some ⟨p,0,none⟩),.int .i64 0] w fun e w'=>e=.returned (.tuple #[.iface 190 (.pointer (some ⟨p,0,none⟩)),.int .i64 0])/\w'=w:=by
 go_enter Tryz.func101,Tryz.ntmps101
 go_wp2;go_ret2;exact ⟨rfl,rfl⟩
theorem Iz (n:Nat) (hn:n<=65536):oW wB 7 0 n:=by
 intro w;have kn:=fun W=>SI n W hn;have km:=JH;have hty:wB.ty=190:=rfl;have hat:∀w' B F,mY w' B F (NS.new n) 0 (fun _=>.nil)->wB.at_ w' B.n0 (B.blk F) (NS.new n):=fun w' B F h=>⟨B,F,_,_,rfl,rfl,h⟩
 generalize wB=K at *;rw [hty]
 go_enter Tryz.func81,Tryz.ntmps81
 go_wp2_with (first
  | ((go_at_call 102;(with_reducible refine (kn _).mono ?_));rintro e w1 ⟨B,F,rfl,hS,hu1,hf⟩)
  | ((go_at_call 101;(with_reducible refine (km _ _).mono ?_));rintro e w2 ⟨rfl,rfl⟩)
  | fail)
 go_ret2;exact ⟨B.n0,B.blk F,rfl,hat _ _ _ hS,aa.trans β hu1,fun x hx=>by have:=hf x hx;simp at this;omega⟩
end Go.Proofs.YtklibcncmbofpaaGreat
