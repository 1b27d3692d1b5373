/-
  Lemmas for PathBest: Pa10, PaR2, Pa11, Pa12, PaQ. Conditions: those of each lemma.
-/
import Derived.Test.YtklibcncmbofpaaGreatB06
import Derived.Test.YtklibcncmbofpaaGreatB22
set_option linter.all false
set_option maxHeartbeats 8000000
set_option maxRecDepth 10000
namespace Go.Proofs.YtklibcncmbofpaaGreat
open Go Go.RowKit
theorem qm {P:List Fr} {t:BT} {y:Nat}:y∈(aj P t).nodes↔y∈t.nodes\/y∈dU P:=by
 rw [(aP P t).mem_iff,τ]
theorem Qr {S S' S'':TS} {x:Nat} (h:S.at S' x) (h':S'.at S'' x):S.at S'' x:=⟨h'.1.trans h.1,h'.2.1.trans h.2.1,h'.2.2.trans h.2.2⟩
theorem Cx {A:NS} {x:Nat} {k s:Int} (hB:jo A x k s=true) (hx:x<A.cs.length) {l:BT} (h:fA A (.node x l .nil)) (hn:(BT.node x l .nil).nodes.Nodup):fA (aB A x k s) (.node x l .nil):=by
 simp only [BT.nodes,List.append_nil,List.nodup_cons] at hn;have hle:=tJ hB;rw [π] at hle;have hc:=rA hB hx;have hy:∀y,y≠x->(aB A x k s).c y=A.c y:=fun y e=>by rw [hc,if_neg e]
 have xU:(aB A x k s).c x=⟨(A.c x).i,k,s⟩:=by rw [hc,if_pos rfl]
 refine ⟨fun y m=>mD (h.1 y m) (hy y (fun e=>hn.1 (by rw [←e];exact m))) ?_,fA.frame h.2.1 (fun y m=>hy y (fun e=>hn.1 (by rw [←e];exact m))),trivial⟩;rw [xU];exact hle
section
variable {w:World} {B:PB} {F:List Nat} {gt ct:Nat} {A:NS} {st:Nat} {S:TS} {ak:List Int}
theorem XD (h:iq w B F gt ct A st S ak) {f:Fr} {P:List Fr} {x:Nat} {l r:BT} (hT:cO S (-1) (aj (f::P) (.node x l r)).root (aj (f::P) (.node x l r))) (hn:(aj (f::P) (.node x l r)).nodes.Nodup) (hlt:∀y,y∈(aj (f::P) (.node x l r)).nodes->y<A.cs.length) :
  Calls Tryz.prog 214 #[.pointer (some ⟨B.n0,0,none⟩),.int .i64 (x:Int)] w fun e w'=>e=.returned (.tuple #[])/\iq w' B F gt ct A st (kK S f.1 f.2.1 x) ak/\aa [B.ba] w w':=by
 obtain ⟨-, -, -,k1,k2,k3⟩:=zY hT hn;have h1:=((eU _ _).1 hT).1;have hpn:=(aP (f::P) (.node x l r)).nodup_iff.1 hn;rw [θ] at hpn;obtain ⟨n1,n2,n3⟩:=hpn;simp only [BT.nodes,List.nodup_cons,τ,not_or] at n1;have hfp:f.1∈dU (f::P):=by simp [dU]
 have hfx:f.1≠x:=fun e=>n3 x (by simp [BT.nodes]) f.1 hfp e.symm;have hrn:∀z:Nat,S.r x=(z:Int)->z∈r.nodes:=fun z hz=>by
  have h4:S.r x=r.root:=h1.2.2.2.root;rw [h4] at hz;have h6:r≠.nil:=fun e'=>by rw [e'] at hz;simp [BT.root] at hz
  have h7:=(bM h6).1;rw [hz,π] at h7;exact h7
 have hr:=nY (n:=A.cs.length) h1.2.2.2 (fun z hz=>hlt z (qm.2 (Or.inl (by simp [BT.nodes,hz]))));exact O7 h f.1 x f.2.1 (hlt _ (qm.2 (Or.inr hfp))) (hlt _ (qm.2 (Or.inl (by simp [BT.nodes])))) hfx k1 k2 k3 hr (fun e=>n3 f.1 (by simp [BT.nodes,hrn _ e]) f.1 hfp rfl) (fun e=>n1.1.2 (hrn _ e))
theorem Ox (hM:iq w B F gt ct A st S ak) {g x:Nat} {k s:Int} (hk:-9223372036854775808<=k/\k<=9223372036854775807/\0<=s/\s<=18446744073709551615) (hB:jo A x k s=true)
  (hg:(A.c x).i=g) (hg0:0<g) (hgt:g<ak.length) (htop:ak.getD g 0=x) (hxl:x<A.cs.length) :
  Calls Tryz.prog 207 #[.pointer (some ⟨B.n0,0,none⟩),.int .i64 (x:Int),.agg #[.int .i64 k,.int .u64 s]] w fun e w'=>e=.returned (.bool true)/\aa (B.blk F gt) w w'/\iq w' B F gt ct (aB A x k s) st S ak:=by
 have hcs:=fJ A x k s;have lX:=lN A x k s;have hin':bX (aB A x k s) (x:Int)=true:=(ai _ x).2 ⟨by rw [hcs];exact hxl,by rw [iR hB hxl,hg];omega⟩;have hi':((aB A x k s).c x).i=g:=by rw [iR hB hxl,hg]
 have u1:aa [] w (w.alloc (.cells #[.int .i64 k,.int .u64 s] 129)):=(aa.refl _ _).alloc _;have kp:=fun W (hW:aa [] (w.alloc (.cells #[.int .i64 k,.int .u64 s] 129)) W)=>iP (hM.cells.aA (u1.trans hW)) x k s hk hB;have h0:=hM.h0;have uQ:B.n0∉F:=hM.bI.1;have hlt:=hM.lt;have hsz:w.heap.size∉F:=fun hm=>by have:=hlt w.heap.size (by simp [PB.blk,hm]);omega
 have r0:∀W,aa F (w.alloc (.cells #[.int .i64 k,.int .u64 s] 129)) W->W.cell? ⟨B.n0,0,none⟩=some (.pointer (some ⟨B.c,0,none⟩)):=fun W hW=>hW.kept (u1.was h0) uQ;have r1:∀W,aa F (w.alloc (.cells #[.int .i64 k,.int .u64 s] 129)) W->W.cell? ⟨w.heap.size,0,none⟩=some (.int .i64 k):=fun W h=>h.kept σ hsz;have r2:∀W,aa F (w.alloc (.cells #[.int .i64 k,.int .u64 s] 129)) W->W.cell? ⟨w.heap.size,1,none⟩=some (.int .u64 s):=fun W h=>h.kept σ hsz;have HM:=χ hM;have HG:=χ htop;have Xb:=hM.cells.ok.h1;have htn:ak.length=A.hs.length:=hM.jE;clear hM htop hlt h0 hg;generalize hA':aB A x k s=A' at *
 go_enter Tryz.func207,Tryz.ntmps207
 go_wp2
 go_region_held3 (aa F (w.alloc (.cells #[.int .i64 k,.int .u64 s] 129))) (exact ν)
  ((go_at_call 147;(with_reducible refine (kp _ β).mono ?_);rintro e w1 ⟨rfl,jD,hu1⟩;(have hu2:aa F (w.alloc (.cells #[.int .i64 k,.int .u64 s] 129)) w1:=ν)))
 have uF:aa F w (w.alloc (.cells #[.int .i64 k,.int .u64 s] 129)):=u1.mono σ;have hM1:=HM.out.dB (uF.trans hu2) jD (fun y hy=>Or.inl hy) hcs (by rw [lX]);have kh:=eB hM1.cells x hin';rw [hi'] at kh;have g10:=hM1.h0;have jZ:=χ hM1;have Fq:=χ (uF.trans hu2);have xU:((x:Int) != (x:Int))=false:=σ;have Qk:(g:Int)<(ak.length:Int):=ω;clear r0 r1 r2 kp hu1 hu2 jD hM1 uF htn
 go_wp2_with (first
  | ((go_at_call 140;(with_reducible refine (kh).mono ?_));rintro e w2 ⟨rfl,hC2,hu2⟩;(have hM2:=jZ.out.dB hu2 hC2 (fun y hy=>Or.inl hy) rfl rfl);(have g21:=hM2.h2);(have g22:=hM2.jQ.cell g hgt);rw [HG.out] at g22)
  | fail)
 go_ret;exact ⟨rfl,(Fq.out.trans hu2).mono (fun y hy=>by simp only [PB.blk,ρ];simp [hy]),hM2⟩
theorem QF (hM:iq w B F gt ct A st S ak) {g x:Nat} {f:Fr} {P:List Fr} {l r:BT} {k s:Int} (hk:-9223372036854775808<=k/\k<=9223372036854775807/\0<=s/\s<=18446744073709551615) (hB:jo A x k s=true)
  (hg:(A.c x).i=g) (hg0:0<g) (hgt:g<ak.length) (htop:ak.getD g 0=(aj (f::P) (.node x l r)).root) (hT:cO S (-1) (aj (f::P) (.node x l r)).root (aj (f::P) (.node x l r))) (hn:(aj (f::P) (.node x l r)).nodes.Nodup)
  (hL:Lone (aj (f::P) (.node x l r))) (hall:∀y,y∈(aj (f::P) (.node x l r)).nodes->bX A (y:Int)=true) :
  Calls Tryz.prog 207 #[.pointer (some ⟨B.n0,0,none⟩),.int .i64 (x:Int),.agg #[.int .i64 k,.int .u64 s]] w fun e w'=>e=.returned (.bool true)/\aa (B.blk F gt) w w'/\
   ∃st' S',iq w' B F gt ct (aB A x k s) st' S' (ak.set g (dJ (aB A x k s) (aj (f::P) r) (.node x l .nil)).root)/\cO S' (-1) (dJ (aB A x k s) (aj (f::P) r) (.node x l .nil)).root (dJ (aB A x k s) (aj (f::P) r) (.node x l .nil))/\∀y,y∉(aj (f::P) (.node x l r)).nodes->S.at S' y:=by
 have hcs:=fJ A x k s;have lX:=lN A x k s;have hxl:x<A.cs.length:=by
  have:=hall x (qm.2 (Or.inl (by simp [BT.nodes])));exact ((ai A x).1 this).1
 have hin':bX (aB A x k s) (x:Int)=true:=(ai _ x).2 ⟨by rw [hcs];exact hxl,by rw [iR hB hxl,hg];omega⟩;have hi':((aB A x k s).c x).i=g:=by rw [iR hB hxl,hg]
 have si:∀y,y∈(aj (f::P) (.node x l r)).nodes->bX (aB A x k s) (y:Int)=true:=fun y hy=>by
  have:=(ai A y).1 (hall y hy);exact (ai _ y).2 ⟨by rw [hcs];exact this.1,by rw [iR hB hxl];exact this.2⟩
 have hlt':∀y,y∈(aj (f::P) (.node x l r)).nodes->y<(aB A x k s).cs.length:=fun y hy=>((ai _ y).1 (si y hy)).1;obtain ⟨o1,o2,o3, -⟩:=zY hT hn;have hpm:=vX (f::P) x l r;have sZ:((aj (f::P) r).nodes++(BT.node x l .nil).nodes).Nodup:=xx (hpm.nodup_iff.1 hn);have IK:∀y,y∈(aj (f::P) r).nodes++(BT.node x l .nil).nodes->y∈(aj (f::P) (.node x l r)).nodes:=fun y hy=>by
  rw [hpm.mem_iff,τ];rw [τ] at hy;exact hy.symm
 have MP:Lone (aj (f::P) r):=pW (t:=.node x l r) σ hL;have hrt:(aj (f::P) (.node x l r)).root=(aj (f::P) r).root:=kH _ _ _ _;have hroot:(aj (f::P) r).root≠(x:Int):=fun e=>by
  have h6:aj (f::P) r≠.nil:=fun e'=>by rw [e'] at e;simp [BT.root] at e
  have h7:=(bM h6).1;rw [e,π] at h7;rw [θ] at sZ;exact sZ.2.2 x h7 x (by simp [BT.nodes]) rfl
 rw [hrt] at htop;have hr0:(aj (f::P) r).root=-1\/0<=(aj (f::P) r).root:=by
  have:=nY (n:=A.cs.length) o2 (fun z hz=>((ai _ _).1 (hall z (IK z (by simp [hz])))).1);omega
 have u1:aa [] w (w.alloc (.cells #[.int .i64 k,.int .u64 s] 129)):=(aa.refl _ _).alloc _;have kp:=fun W (hW:aa [] (w.alloc (.cells #[.int .i64 k,.int .u64 s] 129)) W)=>iP (hM.cells.aA (u1.trans hW)) x k s hk hB;have h0:=hM.h0;have uQ:B.n0∉F:=hM.bI.1;have hlt:=hM.lt;have hsz:w.heap.size∉F:=fun hm=>by have:=hlt w.heap.size (by simp [PB.blk,hm]);omega
 have r0:∀W,aa F (w.alloc (.cells #[.int .i64 k,.int .u64 s] 129)) W->W.cell? ⟨B.n0,0,none⟩=some (.pointer (some ⟨B.c,0,none⟩)):=fun W hW=>hW.kept (u1.was h0) uQ;have r1:∀W,aa F (w.alloc (.cells #[.int .i64 k,.int .u64 s] 129)) W->W.cell? ⟨w.heap.size,0,none⟩=some (.int .i64 k):=fun W h=>h.kept σ hsz;have r2:∀W,aa F (w.alloc (.cells #[.int .i64 k,.int .u64 s] 129)) W->W.cell? ⟨w.heap.size,1,none⟩=some (.int .u64 s):=fun W h=>h.kept σ hsz;have HM:=χ hM;have HG:=χ (ψ hT (ψ hn (ψ si hlt')));have HX:=χ (ψ sZ (ψ IK (ψ MP (ψ o1 (ψ o2 o3)))));have HT:=χ htop;have Xb:=hM.cells.ok.h1
 have htn:ak.length=A.hs.length:=hM.jE;clear hM hT hn hall si hlt' hlt h0 hg sZ IK uQ hsz hL MP hrt hpm o1 o2 o3 htop;generalize hA':aB A x k s=A' at *;generalize ET:aj (f::P) r=ta at *
 go_enter Tryz.func207,Tryz.ntmps207
 go_wp2
 go_region_held3 (aa F (w.alloc (.cells #[.int .i64 k,.int .u64 s] 129))) (exact ν)
  ((go_at_call 147;(with_reducible refine (kp _ β).mono ?_);rintro e w1 ⟨rfl,jD,hu1⟩;(have hu2:aa F (w.alloc (.cells #[.int .i64 k,.int .u64 s] 129)) w1:=ν)))
 have uF:aa F w (w.alloc (.cells #[.int .i64 k,.int .u64 s] 129)):=u1.mono σ;have hM1:=HM.out.dB (uF.trans hu2) jD (fun y hy=>Or.inl hy) hcs (by rw [lX]);have kh:=eB hM1.cells x hin';rw [hi'] at kh;have g10:=hM1.h0;have jZ:=χ hM1;have Fq:=χ (uF.trans hu2);have xU:(ta.root != (x:Int))=true:=by simpa using hroot
 have Qk:(g:Int)<(ak.length:Int):=ω;clear r0 r1 r2 kp hu1 hu2 jD hM1 uF htn
 go_wp2_with (first
  | ((go_at_call 140;(with_reducible refine (kh).mono ?_));rintro e w2 ⟨rfl,hC2,hu2⟩;(have hM2:=jZ.out.dB hu2 hC2 (fun y hy=>Or.inl hy) rfl rfl);(have g21:=hM2.h2);(have g22:=hM2.jQ.cell g hgt);rw [HT.out] at g22;(have ko:=XD hM2 HG.out.1 HG.out.2.1 HG.out.2.2.2))
  | ((go_at_call 214;(with_reducible refine (ko).mono ?_));rintro e w3 ⟨rfl,jV,hu3⟩)
  | fail)
 have hw3:aa (B.blk F gt) w w3:=((Fq.out.trans hu2).mono (fun y hy=>by simp only [PB.blk,ρ];simp [hy])).trans (hu3.mono (fun y hy=>by simp at hy;simp [PB.blk,hy]));have km:=fun W (hW:aa [] w3 W)=>wK (jV.aA hW) ta (.node x l .nil) HX.out.2.2.2.2.1 HX.out.2.2.2.1 HX.out.2.2.1 rfl HX.out.1 (fun y hy=>HG.out.2.2.1 y (HX.out.2.1 y hy));rw [show (BT.node x l .nil).root=(x:Int) from rfl] at km;have d4:=jV.jQ.cell g hgt;rw [HT.out] at d4;have f4:=jV.jQ.free g;have h3:=jV.h2;obtain ⟨Ef,hgc⟩:=jV.sepc;have qA:=jV.cF
 have r3:∀W,aa [B.ba,B.c] w3 W->W.cell? ⟨B.n0,2,none⟩=some (.slice (some ⟨gt,0,none⟩) ak.length ct):=fun W hW=>hW.kept h3 (fun hm=>Ef (by simp at hm ⊢;omega));have r4:∀W,aa [B.ba,B.c] w3 W->W.cell? ⟨gt,g,none⟩=some (.int .i64 ta.root)/\W.frozen? ⟨gt,g,none⟩=false:=fun W hW=>⟨hW.kept d4 hgc,hW.aR d4 hgc f4⟩
 have BP:(0:Int)<=(g:Int):=ω;generalize hmt:dJ A' ta (.node x l .nil)=mt at *;clear jV f4 h3 Ef hgc g21 g22 hM2 ko hC2 hu2 hu3 kh g10;have q3:=r3 _ (aa.refl _ _);have q4:=(r4 _ (aa.refl _ _)).1;go_wp2
 go_region_law
  (first
   | (go_simp;go_at_call 215;(with_reducible refine (km _ β).mono ?_);rintro e w5 ⟨rfl,xL,WR,S5,wZ,IL,hs5⟩;(have cu:aa [B.ba,B.c] w3 w5:=aa.trans β xL);obtain ⟨d5,f5⟩:=r4 _ cu;(have q5:=r3 _ cu)))
 all_goals
  go_wp2;go_ret
  have v3:aa (B.blk F gt) w w5:=hw3.trans (cu.mono (fun y hy=>by
   simp only [ρ,ς,or_false] at hy;simp only [PB.blk,ρ];rcases hy with rfl|rfl
   ·simp
   ·simp [qA]))
  subst hmt;exact ⟨rfl,v3.setCell (Or.inl (by simp [PB.blk])) _,WR,S5,wZ.qL g _,IL,fun y hy=>Qr (HX.out.2.2.2.2.2 y hy) (hs5 y (fun hm=>hy (HX.out.2.1 y hm)))⟩
end
end Go.Proofs.YtklibcncmbofpaaGreat
namespace Go.Proofs.YtklibcncmbofpaaGreat
theorem Dl (A:NS):∀ (l:List BT),(∀t,t∈l->fA A t/\Lone t)->(gT l).Nodup->∀t,t∈bY A l->fA A t/\Lone t
 | [],_,_,t,ht=>by cases ht
 | [a],h,_,t,ht=>h t ht
 | a::b::l,h,hn,t,ht=>by
  rw [bL,bL,←List.append_assoc,θ] at hn;have ha:=h a σ;have hb:=h b σ;rcases ρ.1 (show t∈dJ A a b::bY A l from ht) with e|e
  ·subst e;exact ⟨qp ha.2 hb.2 ha.1 hb.1 hn.1,nG A ha.2 hb.2⟩
  ·exact Dl A l (fun u hu=>h u (by simp [hu])) hn.2.1 t e
theorem Dk (A:NS):∀ (l:List BT),(∀t,t∈l->fA A t/\Lone t)->(gT l).Nodup->fA A (gJ A l)
 | [],_,_=>trivial
 | a::l,h,hn=>by
  have ha:=h a σ;have hp:=xZ A l (fun t ht=>(h t (by simp [ht])).2);have ih:=Dk A l (fun u hu=>h u (by simp [hu])) (by rw [bL,θ] at hn;exact hn.2.1);exact qp ha.2 hp.2 ha.1 ih ((hp.1.append_left a.nodes).nodup_iff.2 hn)
theorem xP {A:NS} {l:BT} (h:fA A l) (hn:l.nodes.Nodup):(gJ A (bY A (bD l))).nodes.Perm l.nodes/\Lone (gJ A (bY A (bD l)))/\fA A (gJ A (bY A (bD l))):=by
 have hk:=Ck h;have hkn:=(jG l).nodup_iff.2 hn;have h2:=Dl A _ hk hkn;have p2:=De A (bD l) (fun t ht=>(hk t ht).2);have p3:=xZ A (bY A (bD l)) (fun t ht=>(h2 t ht).2);exact ⟨(p3.1.trans p2).trans (jG l),p3.2,Dk A _ h2 (p2.nodup_iff.2 hkn)⟩
theorem Cn {n:Nat} {l:List Nat} (hn:l.Nodup) (h:∀x,x∈l->x<n):l.length<=n:=by
 induction n generalizing l with
 | zero=>
  cases l with
  | nil=>simp
  | cons a l=>exact absurd (h a σ) ω
 | succ n ih=>
  by_cases hm:n∈l
  ·have h1:=ih (l:=l.erase n) (hn.erase n) (fun x hx=>by
    have h2:=(hn.mem_erase_iff).1 hx;have:=h x h2.2
    omega)
   rw [List.length_erase_of_mem hm] at h1;omega
  ·have:=ih hn (fun x hx=>by
    have h1:=h x hx;have h2:x≠n:=fun e=>hm (by rw [←e];exact hx)
    omega)
   omega
end Go.Proofs.YtklibcncmbofpaaGreat
namespace Go.Proofs.YtklibcncmbofpaaGreat
open Go Go.RowKit
section
variable {w:World} {B:PB} {F:List Nat} {gt ct:Nat} {A:NS} {st:Nat} {S:TS} {ak:List Int}
theorem Nh (hM:iq w B F gt ct A st S ak) {g x:Nat} {l:BT} (hg:(A.c x).i=g) (hg0:0<g) (hgt:g<ak.length) (htop:ak.getD g 0=x) (hT:cO S (-1) x (.node x l .nil)) (hn:(BT.node x l .nil).nodes.Nodup) (hall:∀y,y∈(BT.node x l .nil).nodes->bX A (y:Int)=true) :
  Calls Tryz.prog 208 #[.pointer (some ⟨B.n0,0,none⟩),.int .i64 (x:Int)] w fun e w'=>e=.returned (.bool true)/\aa (B.blk F gt) w w'/\∃st' S',iq w' B F gt ct (bz A x) st' S' (ak.set g (gJ A (bY A (bD l))).root)/\cO S' (-1) (gJ A (bY A (bD l))).root (gJ A (bY A (bD l)))/\(S'.l x=-1/\S'.r x=-1/\S'.u x=-1)/\∀y,y∉(BT.node x l .nil).nodes->S.at S' y:=by
 have hin:bX A (x:Int)=true:=hall x (by simp [BT.nodes]);have hn':(x::l.nodes).Nodup:=by simpa [BT.nodes] using hn
 have hl':∀z,z∈l.nodes->bX A (z:Int)=true:=fun z hz=>hall z (by simp [BT.nodes,hz]);have hsz:l.size<=65536:=by
  rw [←BT.mf];have:=Cn (n:=A.cs.length) (List.nodup_cons.1 hn').2 (fun y hy=>((ai _ _).1 (hl' y hy)).1);have:=hM.cells.ok.c1;omega
 have kh:=eB hM.cells x hin;rw [hg] at kh;have h0:=hM.h0;have HM:=χ hM;have HT:=χ (ψ hT (ψ hn' (ψ hl' (ψ hsz hin))));have Wu:=χ htop;have Xb:=hM.cells.ok.h1;have htn:ak.length=A.hs.length:=hM.jE;have Qk:(g:Int)<(ak.length:Int):=ω;have hA:=hM.cells.ok.c1;have hxl:x<A.cs.length:=((ai _ _).1 hin).1;clear hM hT hn hn' hl' hsz hin hall htop htn hg;generalize hR:gJ A (bY A (bD l))=R at *;have xU:((x:Int) == (x:Int))=true:=σ
 go_enter Tryz.func208,Tryz.ntmps208
 go_wp2_with (first
  | ((go_at_call 140;(with_reducible refine (kh).mono ?_));rintro e w1 ⟨rfl,jD,hu1⟩;(have hM1:=HM.out.dB hu1 jD (fun y hy=>Or.inl hy) rfl rfl);(have g21:=hM1.h2);(have g22:=hM1.jQ.cell g hgt);rw [Wu.out] at g22)
  | fail)
 have ks:=fun W (hW:aa [] w1 W)=>AB (hM1.aA hW) x HT.out.2.2.2.2 l HT.out.1.2.2.1 HT.out.2.1 HT.out.2.2.1 HT.out.2.2.2.1;rw [hR] at ks;have f4:=hM1.jQ.free g;have hnn:B.n0∉B.ba::F/\gt∉B.ba::F:=by
  have a1:=hM1.sep;have a2:=hM1.bI;exact ⟨by simp only [ρ,not_or];exact ⟨a1.1,a2.1⟩,by simp only [ρ,not_or];exact ⟨fun e=>a1.2.2 e.symm,a2.2.2⟩⟩
 obtain ⟨RZ,xx⟩:=hnn;have HS1:=χ hM1.sep;have h3:=hM1.h2;have h00:=hM1.h0;have r3:∀W,aa (B.ba::F) w1 W->W.cell? ⟨B.n0,2,none⟩=some (.slice (some ⟨gt,0,none⟩) ak.length ct):=fun W hW=>hW.kept h3 RZ;have r4:∀W,aa (B.ba::F) w1 W->W.cell? ⟨gt,g,none⟩=some (.int .i64 (x:Int))/\W.frozen? ⟨gt,g,none⟩=false:=fun W hW=>⟨hW.kept g22 xx,hW.aR g22 xx f4⟩
 have BP:(0:Int)<=(g:Int):=ω;have Fq:aa (B.blk F gt) w w1:=hu1.mono (fun y hy=>by simp only [PB.blk,ρ];simp [hy]);have HU:=χ Fq;clear hM1 f4 h3 RZ xx jD hu1 kh Fq;have q3:=r3 _ (aa.refl _ _);have q4:=(r4 _ (aa.refl _ _)).1
 go_upto_region 5 with (fail)
 go_region_law
  (first
   | (go_simp;go_at_call 216;(with_reducible refine (ks _ β).mono ?_);rintro e w5 ⟨rfl,xL,WR,S5,wZ,IL,hl5,Oc,Ut,hs5⟩;(have cu:aa (B.ba::F) w1 w5:=aa.trans β xL);obtain ⟨d5,f5⟩:=r4 _ cu;(have q5:=r3 _ cu)))
 all_goals
  have uB:=wZ.qL g R.root;have kd:=iD uB.cells x HT.out.2.2.2.2;have h06:=uB.h0
  go_wp2_with (first
   | ((go_at_call 151;(with_reducible refine (kd).mono ?_));rintro e w7 ⟨rfl,hC7,kQ⟩)
   | fail)
  go_ret;have hbn:∀y,y∉(BT.node x l .nil).nodes->y∉x::l.nodes:=fun y hy hm=>hy (by simpa [BT.nodes] using hm);have v5:aa (B.blk F gt) w w5:=HU.out.trans (cu.mono (fun y hy=>by simp only [PB.blk,ρ] at hy ⊢;rcases hy with h|h<;>simp [h]));refine ⟨rfl,(v5.setCell (Or.inl (by simp [PB.blk])) _).trans (kQ.mono (fun y hy=>by simp only [PB.blk,ρ];simp [hy])),WR,S5,uB.dB kQ hC7 (fun y hy=>Or.inl hy) (fT _ _) (by rw [je]),IL,⟨hl5,?_,?_⟩,fun y hy=>hs5 y (hbn y hy)⟩
  ·rw [Oc];exact HT.out.1.2.2.2
  ·rw [Ut];exact HT.out.1.2.1
theorem P7 (hM:iq w B F gt ct A st S ak) {g x:Nat} {f:Fr} {P:List Fr} {l r:BT} (hg:(A.c x).i=g) (hg0:0<g) (hgt:g<ak.length) (htop:ak.getD g 0=(aj (f::P) (.node x l r)).root) (hT:cO S (-1) (aj (f::P) (.node x l r)).root (aj (f::P) (.node x l r))) (hn:(aj (f::P) (.node x l r)).nodes.Nodup)
  (hL:Lone (aj (f::P) (.node x l r))) (hH:fA A (aj (f::P) (.node x l r))) (hall:∀y,y∈(aj (f::P) (.node x l r)).nodes->bX A (y:Int)=true) :
  Calls Tryz.prog 208 #[.pointer (some ⟨B.n0,0,none⟩),.int .i64 (x:Int)] w fun e w'=>e=.returned (.bool true)/\aa (B.blk F gt) w w'/\∃st' S',iq w' B F gt ct (bz A x) st' S' (ak.set g (dJ A (aj (f::P) r) (gJ A (bY A (bD l)))).root)/\cO S' (-1) (dJ A (aj (f::P) r) (gJ A (bY A (bD l)))).root (dJ A (aj (f::P) r) (gJ A (bY A (bD l))))/\(S'.l x=-1/\S'.r x=-1/\S'.u x=-1)/\∀y,y∉(aj (f::P) (.node x l r)).nodes->S.at S' y:=by
 have hin:bX A (x:Int)=true:=hall x (qm.2 (Or.inl (by simp [BT.nodes])));obtain ⟨o1,o2,o3, -⟩:=zY hT hn;obtain ⟨oh1, -⟩:=Ak (P:=f::P) hH;have hpm:=vX (f::P) x l r;have sZ:((aj (f::P) r).nodes++(BT.node x l .nil).nodes).Nodup:=xx (hpm.nodup_iff.1 hn);have IK:∀y,y∈(aj (f::P) r).nodes++(BT.node x l .nil).nodes->y∈(aj (f::P) (.node x l r)).nodes:=fun y hy=>by
  rw [hpm.mem_iff,τ];rw [τ] at hy;exact hy.symm
 have MP:Lone (aj (f::P) r):=pW (t:=.node x l r) σ hL;have hrt:(aj (f::P) (.node x l r)).root=(aj (f::P) r).root:=kH _ _ _ _;have hroot:(aj (f::P) r).root≠(x:Int):=fun e=>by
  have h6:aj (f::P) r≠.nil:=fun e'=>by rw [e'] at e;simp [BT.root] at e
  have h7:=(bM h6).1;rw [e,π] at h7;rw [θ] at sZ;exact sZ.2.2 x h7 x (by simp [BT.nodes]) rfl
 rw [hrt] at htop;have hn':(x::l.nodes).Nodup:=by
  rw [θ] at sZ;simpa [BT.nodes] using sZ.2.1
 have hl':∀z,z∈l.nodes->bX A (z:Int)=true:=fun z hz=>hall z (IK z (by simp [BT.nodes,hz]));have hsz:l.size<=65536:=by
  rw [←BT.mf];have:=Cn (n:=A.cs.length) (List.nodup_cons.1 hn').2 (fun y hy=>((ai _ _).1 (hl' y hy)).1);have:=hM.cells.ok.c1;omega
 obtain ⟨t1,t2,t3⟩:=xP oh1.2.1 (List.nodup_cons.1 hn').2;have hXR:((aj (f::P) r).nodes++(gJ A (bY A (bD l))).nodes).Nodup:=by
  have h1:((aj (f::P) r).nodes++l.nodes).Nodup:=by
   rw [θ] at sZ ⊢;exact ⟨sZ.1,(List.nodup_cons.1 hn').2,fun a ha b hb=>sZ.2.2 a ha b (by simp [BT.nodes,hb])⟩
  exact (t1.append_left _).nodup_iff.2 h1
 have hXRm:∀y,y∈(aj (f::P) r).nodes++(gJ A (bY A (bD l))).nodes->y∈(aj (f::P) (.node x l r)).nodes/\y≠x:=fun y hy=>by
  rw [τ,t1.mem_iff] at hy;refine ⟨IK y (by simp only [τ,BT.nodes,List.append_nil,ρ];rcases hy with h|h<;>simp [h]),fun e=>?_⟩;subst e;rw [θ] at sZ;rcases hy with h|h
  ·exact sZ.2.2 y h y (by simp [BT.nodes]) rfl
  ·exact (List.nodup_cons.1 hn').1 h
 have hra:∀y,y∈(aj (f::P) r).nodes->y∉x::l.nodes:=fun y hy hm=>by
  rw [θ] at sZ;exact sZ.2.2 y hy y (by simpa [BT.nodes] using hm) rfl
 have hsub:∀y,y∈x::l.nodes->y∈(aj (f::P) (.node x l r)).nodes:=fun y hy=>IK y (by rw [τ];right;simpa [BT.nodes] using hy);have ko:=fun (w1:World) (hM1:iq w1 B F gt ct A st S ak)=>XD hM1 hT hn (fun y hy=>((ai _ _).1 (hall y hy)).1);have kh:=eB hM.cells x hin;rw [hg] at kh;have h0:=hM.h0;have HM:=χ hM;have HT:=χ (ψ o1 (ψ o2 (ψ o3 (ψ hn' (ψ hl' (ψ hsz hin))))));have HX:=χ (ψ hXR (ψ hXRm (ψ MP (ψ t2 (ψ hra (ψ hsub hall))))));have Wu:=χ htop;have Xb:=hM.cells.ok.h1;have htn:ak.length=A.hs.length:=hM.jE;have Qk:(g:Int)<(ak.length:Int):=ω;have hA:=hM.cells.ok.c1
 have hxl:x<A.cs.length:=((ai _ _).1 hin).1;have hr0:(aj (f::P) r).root=-1\/0<=(aj (f::P) r).root:=by
  have:=nY (n:=A.cs.length) o2 (fun z hz=>((ai _ _).1 (hall z (IK z (by simp [hz])))).1);omega
 clear hM hT hn hn' hl' hsz hin hall htop htn hg o1 o2 o3 oh1 hpm sZ IK MP hrt t1 t2 t3 hXR hXRm hra hsub hL hH;generalize hR:gJ A (bY A (bD l))=R at *;generalize ET:aj (f::P) r=ta at *;have xU:(ta.root == (x:Int))=false:=by simpa using hroot
 go_enter Tryz.func208,Tryz.ntmps208
 go_wp2_with (first
  | ((go_at_call 140;(with_reducible refine (kh).mono ?_));rintro e w1 ⟨rfl,jD,hu1⟩;(have hM1:=HM.out.dB hu1 jD (fun y hy=>Or.inl hy) rfl rfl);(have g21:=hM1.h2);(have g22:=hM1.jQ.cell g hgt);rw [Wu.out] at g22;(have ko1:=ko w1 hM1))
  | ((go_at_call 214;(with_reducible refine (ko1).mono ?_));rintro e w3 ⟨rfl,jV,hu3⟩)
  | fail)
 have ks:=fun W (hW:aa [] w3 W)=>AB (jV.aA hW) x HT.out.2.2.2.2.2.2 l HT.out.1.2.2.1 HT.out.2.2.2.1 HT.out.2.2.2.2.1 HT.out.2.2.2.2.2.1;rw [hR] at ks;have kl:Hid (∀W Xu S4,iq W B F gt ct A Xu S4 ak->cO S4 (-1) R.root R->(∀z,z∉x::l.nodes->(kK S f.1 f.2.1 x).at S4 z)->_):=fun W Xu S4 sG Pm hs4=>wK sG ta R (HT.out.2.1.frame (fun y hy=>hs4 y (HX.out.2.2.2.2.1 y hy))) Pm HX.out.2.2.1 HX.out.2.2.2.1 HX.out.1 (fun y hy=>HX.out.2.2.2.2.2.2 y (HX.out.2.1 y hy).1);have d4:=jV.jQ.cell g hgt;rw [Wu.out] at d4;have f4:=jV.jQ.free g;have hnn:B.n0∉B.ba::F/\gt∉B.ba::F:=by
  have a1:=jV.sep;have a2:=jV.bI;exact ⟨by simp only [ρ,not_or];exact ⟨a1.1,a2.1⟩,by simp only [ρ,not_or];exact ⟨fun e=>a1.2.2 e.symm,a2.2.2⟩⟩
 obtain ⟨RZ,xx⟩:=hnn;have HS1:=χ jV.sep;have qA:=jV.cF;have h3:=jV.h2;have r3:∀W,aa (B.ba::F) w3 W->W.cell? ⟨B.n0,2,none⟩=some (.slice (some ⟨gt,0,none⟩) ak.length ct):=fun W hW=>hW.kept h3 RZ;have r4:∀W,aa (B.ba::F) w3 W->W.cell? ⟨gt,g,none⟩=some (.int .i64 ta.root)/\W.frozen? ⟨gt,g,none⟩=false:=fun W hW=>⟨hW.kept d4 xx,hW.aR d4 xx f4⟩
 have BP:(0:Int)<=(g:Int):=ω;have Fq:aa (B.blk F gt) w w1:=hu1.mono (fun y hy=>by simp only [PB.blk,ρ];simp [hy]);have HU:=χ (Fq.trans (hu3.mono (fun y hy=>by simp at hy;simp [PB.blk,hy])));clear hM1 jV f4 h3 RZ xx jD hu1 kh Fq hu3 ko ko1 g21 g22;have q3:=r3 _ (aa.refl _ _);have q4:=(r4 _ (aa.refl _ _)).1;generalize hmt:dJ A ta R=mt at *
 go_upto_region 8 with (fail)
 go_region_law
  (first
   | (go_simp;go_at_call 216;(with_reducible refine (ks _ β).mono ?_);rintro e w5 ⟨rfl,xL,WR,S5,wZ,IL,hl5,Oc,Ut,hs5⟩;(have cu:aa (B.ba::F) w3 w5:=aa.trans β xL);obtain ⟨d5,f5⟩:=r4 _ cu;(have q5:=r3 _ cu);(have km:=fun W (hW:aa [] w5 W)=>kl W WR S5 (wZ.aA hW) IL hs5))
   | (go_simp;go_at_call 215;(with_reducible refine (km _ β).mono ?_);rintro e w6 ⟨rfl,hu6a,st6,S6,uB,Pf,hs6⟩;(have hu6b:aa [B.ba,B.c] w5 w6:=aa.trans β hu6a);(have iB:aa (B.ba::F) w3 w6:=cu.trans (hu6b.mono (fun y hy=>by simp at hy;rcases hy with h|h<;>simp [h,qA])));obtain ⟨d6,f6⟩:=r4 _ iB;(have q6:=r3 _ iB)))
 all_goals
  subst hmt;have IC:=uB.qL g (dJ A ta R).root;have kd:=iD IC.cells x HT.out.2.2.2.2.2.2;have h06:=IC.h0
  go_wp2_with (first
   | ((go_at_call 151;(with_reducible refine (kd).mono ?_));rintro e w8 ⟨rfl,hC8,Kk⟩)
   | fail)
  go_ret;have hxa:x∉ta.nodes++R.nodes:=fun hm=>(HX.out.2.1 x hm).2 rfl;have a6:=hs6 x hxa;have v5:aa (B.blk F gt) w w6:=HU.out.trans (iB.mono (fun y hy=>by simp only [PB.blk,ρ] at hy ⊢;rcases hy with h|h<;>simp [h]));refine ⟨rfl,(v5.setCell (Or.inl (by simp [PB.blk])) _).trans (Kk.mono (fun y hy=>by simp only [PB.blk,ρ];simp [hy])),st6,S6,IC.dB Kk hC8 (fun y hy=>Or.inl hy) (fT _ _) (by rw [je]),Pf,⟨?_,?_,?_⟩,fun y hy=>?_⟩
  ·rw [a6.1];exact hl5
  ·rw [a6.2.1,Oc];exact HT.out.1.2.2.2
  ·rw [a6.2.2,Ut];exact HT.out.1.2.1
  ·exact Qr (Qr (HT.out.2.2.1 y hy) (hs5 y (fun hm=>hy (HX.out.2.2.2.2.2.1 y hm)))) (hs6 y (fun hm=>hy (HX.out.2.1 y hm).1))
end
section
variable {w:World} {B:PB} {F:List Nat} {gt ct:Nat} {A:NS} {st:Nat} {tr:Nat->BT}
theorem El {ak:List Int} {g:Nat} {v:Int} (hgt:g<ak.length):∀q,(ak.set g v).getD q 0=if q=g then v else ak.getD q 0:=fun q=>by
 by_cases e:q=g
 ·rw [if_pos e,e,φ,List.getElem?_set,if_pos rfl,if_pos hgt];rfl
 ·rw [if_neg e,φ,List.getElem?_set,if_neg (fun h=>e h.symm),←φ]
theorem Mw (h:nE w B F gt ct A st tr) (g x:Nat) (hx:x∈(tr g).nodes) (k s:Int) (hk:-9223372036854775808<=k/\k<=9223372036854775807/\0<=s/\s<=18446744073709551615) (hB:jo A x k s=true) :
  Calls Tryz.prog 207 #[.pointer (some ⟨B.n0,0,none⟩),.int .i64 (x:Int),.agg #[.int .i64 k,.int .u64 s]] w fun e w'=>e=.returned (.bool true)/\aa (B.blk F gt) w w'/\∃st' IG,nE w' B F gt ct (aB A x k s) st' IG:=by
 obtain ⟨S,ak,hM,hI,hL⟩:=h;have hm:=(hI.mem g x).1 hx;have e:=nH hx;generalize (pathOf (tr g) x).1=P at *;generalize (pathOf (tr g) x).2.1=l at *;generalize (pathOf (tr g) x).2.2=r at *;have hgt:g<ak.length:=by rw [hM.jE];have:=(hM.cells.ok.nat x hm.2.1);omega
 have hgh:g<A.hs.length:=by rw [←hM.jE];exact hgt
 have hT:=hI.Dx g;have hn:=hI.nd g;have hH:fA A (tr g):=hI.heap g;have JV:=hL g;have htp:=hI.top g hgh;have hall:∀y,y∈(tr g).nodes->bX A (y:Int)=true:=fun y hy=>by
  have:=(hI.mem g y).1 hy;exact (ai A y).2 ⟨this.2.1,ω⟩
 rw [e] at hT hn hH JV htp hall;cases P with
 | nil=>
  have hr:r=.nil:=JV;subst hr;refine (Ox hM hk hB hm.2.2 hm.1 hgt htp hm.2.1).mono ?_;rintro e' w' ⟨rfl,hu,hE⟩;have e2:tr g=.node x l .nil:=e
  have h2:=hI.low hB hx (t':=tr g) (jv:=ak) (hI.Dx g) (List.Perm.refl _) (by rw [e2];exact Cx hB hm.2.1 hH hn) (fun y _=>⟨rfl,rfl,rfl⟩) (fun q hq=>by
   split
   ·rename_i e3;rw [e3];exact hI.top g hgh
   ·rfl)
  refine ⟨rfl,hu,st,_,S,ak,hE,h2,fun q=>?_⟩
  show Lone (if q=g then tr g else tr q)
  split<;>exact hL _
 | cons f P2=>
  refine (QF hM hk hB hm.2.2 hm.1 hgt htp hT hn JV hall).mono ?_;rintro e' w' ⟨rfl,hu,st',S',q1,q2,q3⟩;have hpm:=vX (f::P2) x l r;obtain ⟨oh1,oh2⟩:=Ak (P:=f::P2) hH;have sZ:((aj (f::P2) r).nodes++(BT.node x l .nil).nodes).Nodup:=xx (hpm.nodup_iff.1 hn);have MP:Lone (aj (f::P2) r):=pW (t:=.node x l r) σ JV;have Bd:x∉(aj (f::P2) r).nodes:=fun hm'=>by
   rw [θ] at sZ;exact sZ.2.2 x hm' x (by simp [BT.nodes]) rfl
  have hc:=rA hB hm.2.1;have hH2:fA (aB A x k s) (aj (f::P2) r):=fA.frame oh2 (fun y hy=>by rw [hc,if_neg (fun e=>Bd (by rw [←e];exact hy))]);have hH1:=Cx hB hm.2.1 oh1 (by rw [θ] at sZ;exact sZ.2.1);have hLx:Lone (BT.node x l .nil):=rfl;have hp:(dJ (aB A x k s) (aj (f::P2) r) (.node x l .nil)).nodes.Perm (tr g).nodes:=by
   rw [e];exact (mg _ MP hLx).trans (List.perm_append_comm.trans hpm.symm)
  have h2:=hI.low hB hx (t':=dJ (aB A x k s) (aj (f::P2) r) (.node x l .nil)) (jv:=ak.set g (dJ (aB A x k s) (aj (f::P2) r) (.node x l .nil)).root) q2 hp (qp MP hLx hH2 hH1 sZ) (fun y hy=>q3 y (by rw [←e];exact hy)) (fun q _=>El hgt q);refine ⟨rfl,hu,st',_,S',_,q1,h2,fun q=>?_⟩
  show Lone (if q=g then _ else tr q)
  split
  ·exact nG _ MP hLx
  ·exact hL q
theorem ND (h:nE w B F gt ct A st tr) (g x:Nat) (hx:x∈(tr g).nodes) :
  Calls Tryz.prog 208 #[.pointer (some ⟨B.n0,0,none⟩),.int .i64 (x:Int)] w fun e w'=>e=.returned (.bool true)/\aa (B.blk F gt) w w'/\∃st' IG,nE w' B F gt ct (bz A x) st' IG:=by
 obtain ⟨S,ak,hM,hI,hL⟩:=h;have hm:=(hI.mem g x).1 hx;have e:=nH hx;generalize (pathOf (tr g) x).1=P at *;generalize (pathOf (tr g) x).2.1=l at *;generalize (pathOf (tr g) x).2.2=r at *;have hgt:g<ak.length:=by rw [hM.jE];have:=(hM.cells.ok.nat x hm.2.1);omega
 have hgh:g<A.hs.length:=by rw [←hM.jE];exact hgt
 have hT:=hI.Dx g;have hn:=hI.nd g;have hH:fA A (tr g):=hI.heap g;have JV:=hL g;have htp:=hI.top g hgh;have hall:∀y,y∈(tr g).nodes->bX A (y:Int)=true:=fun y hy=>by
  have:=(hI.mem g y).1 hy;exact (ai A y).2 ⟨this.2.1,ω⟩
 rw [e] at hT hn hH JV htp hall;cases P with
 | nil=>
  have hr:r=.nil:=JV;subst hr;have e2:tr g=.node x l .nil:=e;refine (Nh hM hm.2.2 hm.1 hgt htp hT hn hall).mono ?_;rintro e' w' ⟨rfl,hu,st',S',q1,q2,q3,q4⟩;have hn':(x::l.nodes).Nodup:=by
   have h9:(BT.node x l .nil).nodes.Nodup:=hn;simpa [BT.nodes] using h9
  have hH':fA A (.node x l .nil):=hH;obtain ⟨t1,t2,t3⟩:=xP hH'.2.1 (List.nodup_cons.1 hn').2;have hp:(x::(gJ A (bY A (bD l))).nodes).Perm (tr g).nodes:=by
   rw [e2];simp only [BT.nodes,List.append_nil];exact List.Perm.cons x t1
  have h2:=hI.del hx (t':=gJ A (bY A (bD l))) (jv:=ak.set g (gJ A (bY A (bD l))).root) q2 hp t3 (fun y hy=>q4 y (by rw [←e2];exact hy)) q3 (fun q _=>El hgt q);refine ⟨rfl,hu,st',_,S',_,q1,h2,fun q=>?_⟩
  show Lone (if q=g then _ else tr q)
  split
  ·exact t2
  ·exact hL q
 | cons f P2=>
  refine (P7 hM hm.2.2 hm.1 hgt htp hT hn JV hH hall).mono ?_;rintro e' w' ⟨rfl,hu,st',S',q1,q2,q3,q4⟩;have hpm:=vX (f::P2) x l r;obtain ⟨oh1,oh2⟩:=Ak (P:=f::P2) hH;have sZ:((aj (f::P2) r).nodes++(BT.node x l .nil).nodes).Nodup:=xx (hpm.nodup_iff.1 hn);have MP:Lone (aj (f::P2) r):=pW (t:=.node x l r) σ JV;have hn':(x::l.nodes).Nodup:=by
   rw [θ] at sZ;simpa [BT.nodes] using sZ.2.1
  obtain ⟨t1,t2,t3⟩:=xP oh1.2.1 (List.nodup_cons.1 hn').2;have hXR:((aj (f::P2) r).nodes++(gJ A (bY A (bD l))).nodes).Nodup:=by
   have h1:((aj (f::P2) r).nodes++l.nodes).Nodup:=by
    rw [θ] at sZ ⊢;exact ⟨sZ.1,(List.nodup_cons.1 hn').2,fun a ha b hb=>sZ.2.2 a ha b (by simp [BT.nodes,hb])⟩
   exact (t1.append_left _).nodup_iff.2 h1
  have hp:(x::(dJ A (aj (f::P2) r) (gJ A (bY A (bD l)))).nodes).Perm (tr g).nodes:=by
   rw [e];refine ((mg A MP t2).cons x).trans ?_;refine ((t1.append_left _).cons x).trans ?_;refine List.Perm.trans ?_ hpm.symm;simp only [BT.nodes,List.append_nil,List.cons_append];exact List.perm_append_comm.cons x
  have h2:=hI.del hx (t':=dJ A (aj (f::P2) r) (gJ A (bY A (bD l)))) (jv:=ak.set g (dJ A (aj (f::P2) r) (gJ A (bY A (bD l)))).root) q2 hp (qp MP t2 oh2 t3 hXR) (fun y hy=>q4 y (by rw [←e];exact hy)) q3 (fun q _=>El hgt q);refine ⟨rfl,hu,st',_,S',_,q1,h2,fun q=>?_⟩
  show Lone (if q=g then _ else tr q)
  split
  ·exact nG _ MP t2
  ·exact hL q
theorem zH (h:nE w B F gt ct A st tr) (g:Nat) (hn:0<dZ A g) :
  Calls Tryz.prog 209 #[.pointer (some ⟨B.n0,0,none⟩),.int .i64 (g:Int)] w fun e w'=>∃m:Nat,dW A g=some m/\e=.returned (.tuple #[.int .i64 (m:Int),.bool true])/\aa (B.blk F gt) w w'/\∃st' IG,nE w' B F gt ct (bz A m) st' IG:=by
 have k:=Am h g hn;have kd:=fun m hm=>ND h g m hm;have hroot:∀m:Nat,(tr g).root=m->m∈(tr g).nodes:=fun m hm=>by
  have hne:tr g≠.nil:=fun e=>by rw [e] at hm;have:(-1:Int)=m:=hm;omega
  have:=(bM hne).1;rw [hm] at this;simpa using this
 clear h
 go_enter Tryz.func209,Tryz.ntmps209
 go_wp2_with (first
  | ((go_at_call 213;(with_reducible refine (k).mono ?_));rintro e w1 ⟨m,hm1,hm2,rfl,rfl⟩;(have XV:=kd m (hroot m hm2)))
  | ((go_at_call 208;(with_reducible refine (XV).mono ?_));rintro e w2 ⟨rfl,hu2,hL2⟩)
  | fail)
 go_ret2;exact ⟨m,hm1,rfl,hu2,hL2⟩
end
theorem J3 (p c:Nat):∀W:World,W.cell? ⟨p,0,none⟩=some (.pointer (some ⟨c,0,none⟩))->(method 429 178 (.pointer (some ⟨p,0,none⟩)) "Has").run Tryz.prog W=.ok (139,.pointer (some ⟨c,0,none⟩)) W:=(by intro W h;unfold method;have hm:∃m,(Array.find? (fun x=>x.name == "Has") Tryz.t178.methods)=some m/\m.path.toList=[⟨215,0,true⟩]/\m.func=some (139,true)/\m.path.isEmpty=false:=⟨(Array.find? (fun x=>x.name == "Has") Tryz.t178.methods).get!,by kernel_rfl,by kernel_rfl,by kernel_rfl,by kernel_rfl⟩;obtain ⟨m,h1,h2,h3,h4⟩:=hm;go_simp;simp only [follow,Place.get];go_simp;(try unfold receiverAt);(try simp only [Place.get]);(try go_simp))
theorem Ew (p c:Nat):∀W:World,W.cell? ⟨p,0,none⟩=some (.pointer (some ⟨c,0,none⟩))->(method 429 178 (.pointer (some ⟨p,0,none⟩)) "Entry").run Tryz.prog W=.ok (137,.pointer (some ⟨c,0,none⟩)) W:=(by intro W h;unfold method;have hm:∃m,(Array.find? (fun x=>x.name == "Entry") Tryz.t178.methods)=some m/\m.path.toList=[⟨215,0,true⟩]/\m.func=some (137,true)/\m.path.isEmpty=false:=⟨(Array.find? (fun x=>x.name == "Entry") Tryz.t178.methods).get!,by kernel_rfl,by kernel_rfl,by kernel_rfl,by kernel_rfl⟩;obtain ⟨m,h1,h2,h3,h4⟩:=hm;go_simp;simp only [follow,Place.get];go_simp;(try unfold receiverAt);(try simp only [Place.get]);(try go_simp))
theorem Wx (p:Nat):∀W:World,(method 429 178 (.pointer (some ⟨p,0,none⟩)) "Make").run Tryz.prog W=.ok (211,.pointer (some ⟨p,0,none⟩)) W:=fun _=>by kernel_rfl
theorem Nu (p:Nat):∀W:World,(method 429 178 (.pointer (some ⟨p,0,none⟩)) "Insert").run Tryz.prog W=.ok (210,.pointer (some ⟨p,0,none⟩)) W:=fun _=>by kernel_rfl
theorem Yq (p:Nat):∀W:World,(method 429 178 (.pointer (some ⟨p,0,none⟩)) "Min").run Tryz.prog W=.ok (213,.pointer (some ⟨p,0,none⟩)) W:=fun _=>by kernel_rfl
theorem KQ (p:Nat):∀W:World,(method 429 178 (.pointer (some ⟨p,0,none⟩)) "Extract").run Tryz.prog W=.ok (209,.pointer (some ⟨p,0,none⟩)) W:=fun _=>by kernel_rfl
theorem H8 (p:Nat):∀W:World,(method 429 178 (.pointer (some ⟨p,0,none⟩)) "Decrease").run Tryz.prog W=.ok (207,.pointer (some ⟨p,0,none⟩)) W:=fun _=>by kernel_rfl
def PaQ (w:World) (p:Nat) (F:List Nat) (A:NS):Prop:=∃B F1 gt ct st tr,p=B.n0/\F=B.blk F1 gt/\nE w B F1 gt ct A st tr
def yU:gV where
 ty:=178
 at_:=PaQ
 upd:=fun h hu hS=>by
  obtain ⟨B,F1,gt,ct,st,tr,rfl,rfl,hL⟩:=h;exact ⟨B,F1,gt,ct,st,tr,rfl,rfl,hL.upd hu hS⟩
 lt:=fun h=>by
  obtain ⟨B,F1,gt,ct,st,tr,rfl,rfl,S,ak,hM, -⟩:=h;exact hM.lt
 ok:=fun h=>by
  obtain ⟨B,F1,gt,ct,st,tr,rfl,rfl,S,ak,hM, -⟩:=h;exact hM.cells.ok
 make:=fun {w p F A} h=>by
  obtain ⟨B,F1,gt,ct,st,tr,rfl,rfl,hL⟩:=h;refine aZ 211 (fun _ _=>by kernel_rfl) (Wx _) (fun W hW=>?_);have mF:=hL.aA hW
  by_cases hl:65536<A.hs.length
  ·have e1:dF A=0:=by unfold dF;rw [if_pos hl]
   have e2:aQ A=A:=by unfold aQ;rw [if_pos hl]
   rw [e1,e2];refine (Ow mF hl).mono ?_;rintro e w' ⟨rfl,F',⟨F2,rfl,hA⟩,hu,hf⟩;exact ⟨rfl,_,⟨B,F2,gt,ct,st,tr,rfl,rfl,hA⟩,hu,hf⟩
  ·have e1:dF A=A.hs.length:=by unfold dF;rw [if_neg hl]
   rw [e1];refine (IQ mF hl).mono ?_;rintro e w' ⟨rfl,F',⟨F2,gt2,ct2,rfl,hA⟩,hu,hf⟩;exact ⟨rfl,_,⟨B,F2,gt2,ct2,st,tr,rfl,rfl,hA⟩,hu,hf⟩
 insert:=fun {w p F A} g y k s hk hB h=>by
  obtain ⟨B,F1,gt,ct,st,tr,rfl,rfl,hL⟩:=h;refine aZ 210 (fun _ _=>by kernel_rfl) (Nu _) (fun W hW=>?_);refine (Dm (hL.aA hW) g y k s hk hB).mono ?_;rintro e w' ⟨rfl,hu,st',hL2⟩;exact ⟨rfl,Goes.stay ⟨B,F1,gt,ct,_,_,rfl,rfl,hL2⟩ hu⟩
 min:=fun {w p F A} y hB h=>by
  obtain ⟨B,F1,gt,ct,st,tr,rfl,rfl,hL⟩:=h;refine aZ 213 (fun _ _=>by kernel_rfl) (Yq _) (fun W hW=>?_);have mF:=hL.aA hW;have hok:A.Ok:=by obtain ⟨S,ak,hM, -⟩:=hL;exact hM.cells.ok
  by_cases hl:dZ A (y:Int)=0
  ·rw [iQ.2 hl];have h4:=(aT _ _).1 hB;have h5:=hok.h1;refine (Jz mF y ω hl).mono ?_;rintro e w' ⟨rfl,rfl⟩;exact ⟨rfl,Goes.stay ⟨B,F1,gt,ct,st,tr,rfl,rfl,mF⟩ (aa.refl _ _)⟩
  ·refine (Am mF y ω).mono ?_;rintro e w' ⟨m,hm, -,rfl,rfl⟩;rw [hm];exact ⟨rfl,Goes.stay ⟨B,F1,gt,ct,st,tr,rfl,rfl,mF⟩ (aa.refl _ _)⟩
 extract:=fun {w p F A} y m hm h=>by
  obtain ⟨B,F1,gt,ct,st,tr,rfl,rfl,hL⟩:=h;refine aZ 209 (fun _ _=>by kernel_rfl) (KQ _) (fun W hW=>?_);have hl:¬dZ A (y:Int)=0:=fun e=>by rw [iQ.2 e] at hm;cases hm
  refine (zH (hL.aA hW) y ω).mono ?_;rintro e w' ⟨m',hm',rfl,hu,st',IG,hL2⟩;rw [hm] at hm';cases hm';exact ⟨rfl,Goes.stay ⟨B,F1,gt,ct,_,_,rfl,rfl,hL2⟩ hu⟩
 mV:=fun {w p F A} y k s hk hB h=>by
  obtain ⟨B,F1,gt,ct,st,tr,rfl,rfl,hL⟩:=h;refine aZ 207 (fun _ _=>by kernel_rfl) (H8 _) (fun W hW=>?_);have mF:=hL.aA hW;have hin:=qE hB;have hx:y∈(tr (A.c y).i.toNat).nodes:=by
   obtain ⟨S,ak,hM,hI, -⟩:=mF;have:=(ai _ _).1 hin;exact (hI.mem _ y).2 ⟨ω,this.1,ω⟩
  refine (Mw mF _ y hx k s hk hB).mono ?_;rintro e w' ⟨rfl,hu,st',IG,hL2⟩;exact ⟨rfl,Goes.stay ⟨B,F1,gt,ct,_,_,rfl,rfl,hL2⟩ hu⟩
 has:=fun x h=>by
  obtain ⟨B,F1,gt,ct,st,tr,rfl,rfl,S,ak,hM, -⟩:=h;exact iT 139 (fun _ _=>by kernel_rfl) hM.h0 (J3 _ _) (fun W hW=>jN (hM.aA hW).cells x)
 entry:=fun {w p F A} x h=>by
  obtain ⟨B,F1,gt,ct,st,tr,rfl,rfl,S,ak,hM, -⟩:=h;refine iT 137 (fun _ _=>by kernel_rfl) hM.h0 (Ew _ _) (fun W hW=>?_);cases hin:bX A x with
  | false=>simpa using mi (hM.aA hW).cells x hin
  | true=>
   obtain ⟨y,rfl⟩:=qD hin;simpa using kN (hM.aA hW).cells y hin
theorem JD (p:Nat) (w:World):Calls Tryz.prog 95 #[.pointer (some ⟨p,0,none⟩),.int .i64 0] w fun e w'=>e=.returned (.tuple #[.iface 178 (.pointer (some ⟨p,0,none⟩)),.int .i64 0])/\w'=w:=by
 go_enter Tryz.func95,Tryz.ntmps95
 go_wp2;go_ret2;exact ⟨rfl,rfl⟩
theorem SG (n:Nat) (hn:n<=65536):oW yU 4 0 n:=by
 intro w;have kn:=fun W=>Nr n W hn;have km:=JD;have hty:yU.ty=178:=rfl;have hat:∀w' B F gt,nE w' B F gt 1 (NS.new n) 0 (fun _=>.nil)->yU.at_ w' B.n0 (B.blk F gt) (NS.new n):=fun w' B F gt h=>⟨B,F,gt,_,_,_,rfl,rfl,h⟩
 generalize yU=K at *;rw [hty]
 go_enter Tryz.func81,Tryz.ntmps81
 go_wp2_with (first
  | ((go_at_call 96;(with_reducible refine (kn _).mono ?_));rintro e w1 ⟨B,F,gt,rfl,hS,hu1,hf⟩)
  | ((go_at_call 95;(with_reducible refine (km _ _).mono ?_));rintro e w2 ⟨rfl,rfl⟩)
  | fail)
 go_ret2;exact ⟨B.n0,B.blk F gt,rfl,hat _ _ _ _ hS,aa.trans β hu1,fun x hx=>by have:=hf x hx;simp at this;omega⟩
end Go.Proofs.YtklibcncmbofpaaGreat
