/-
  Lemmas for RankSorts: Pa4, Pa9, Pa10, PaR2. Conditions: those of each lemma.
-/
import Derived.Test.YtklibcncmbofpaaGreatP38
set_option maxHeartbeats 8000000
set_option maxRecDepth 10000
set_option linter.unusedVariables false
set_option linter.unusedSimpArgs false
namespace Go.Proofs.YtklibcncmbofpaaGreat
open Go Go.RowKit
section
variable {w:World} {B:PB} {F:List Nat} {gt ct:Nat} {A:NS} {st:Nat} {S:TS} {ah:List Int}
theorem IC (h:eZ w B F gt ct A st S ah) (p x:Nat) (s:Bool) (hp:p<A.cs.length) (hx:x<A.cs.length) (hpx:p≠x) (hk:S.kid s p=x) (hs:s=true→S.l p≠x) (hu:S.u x=p) (hr:S.r x=-1∨(0≤S.r x∧S.r x<A.cs.length)) (hrp:S.r x≠p) (hrx:S.r x≠x) :
  Calls Tryz.prog 214 #[.pointer (some ⟨B.n0,0,none⟩),.int .i64 (x:Int)] w fun e w'=>e=.returned (.tuple #[])∧eZ w' B F gt ct A st (iJ S p s x) ah∧aa [B.ba] w w':=by
 cases s with
 | false=>
  by_cases ho:S.r x=-1
  ·exact Nf h p x hp hx hpx hk hu ho
  ·obtain ⟨o,hoo⟩:∃o:Nat,S.r x=o:=⟨(S.r x).toNat,ω⟩
   exact Mo h p x hp hx hpx hk hu o hoo ω (fun e=>hrp (by rw [hoo,e])) (fun e=>hrx (by rw [hoo,e]))
 | true=>
  by_cases ho:S.r x=-1
  ·exact MH h p x hp hx hpx hk (hs rfl) hu ho
  ·obtain ⟨o,hoo⟩:∃o:Nat,S.r x=o:=⟨(S.r x).toNat,ω⟩
   exact MU h p x hp hx hpx hk (hs rfl) hu o hoo ω (fun e=>hrp (by rw [hoo,e])) (fun e=>hrx (by rw [hoo,e]))
end
section
variable {w:World} {B:PB} {F:List Nat} {gt ct:Nat} {A:NS} {st:Nat} {tr:Nat→BT}
theorem eZ.Pv {S:TS} {ah:List Int} (h:eZ w B F gt ct A st S ah):B.n0∉[B.ba,B.c,gt]∧gt∉[B.ba,B.c]:=by
 have a1:=h.sep;have a2:B.n0≠B.c:=fun e=>h.aZ.1 (by rw [e];exact h.cF)
 have a3:gt≠B.c:=fun e=>h.aZ.2.2 (by rw [e];exact h.cF)
 constructor<;>simp<;>omega
theorem AO (h:j4 w B F gt ct A st tr) (hh x:Nat) (k s:Int) (hk:-9223372036854775808≤k∧k≤9223372036854775807∧0≤s∧s≤18446744073709551615) (hB:jy A hh x=true) :
  Calls Tryz.prog 210 #[.pointer (some ⟨B.n0,0,none⟩),.int .i64 (hh:Int),.int .i64 (x:Int),.agg #[.int .i64 k,.int .u64 s]] w fun e w'=>e=.returned (.bool true)∧aa (B.blk F gt) w w'∧
   ∃st',j4 w' B F gt ct (aB A hh x k s) st' (fun q=>if q=hh then bN (aB A hh x k s) (tr hh) (single x) else tr q):=by
 obtain ⟨S,ah,hM,hI,hL⟩:=h;have hlt:=hM.lt;have ok:=hM.cells.ok;have ok':=sG ok hh x k s hk;obtain ⟨b1,b2,b3⟩:=(cB _ _ _).1 hB;have b4:=(aK _ _).1 b1;have hx:x<A.cs.length:=by have:=(dK _ _).1 b2;omega
 have h0x:(A.c x).i=0:=by
  have:=(ok.nat x hx).1;have h3:¬ (0<(A.c x).i):=fun h'=>by rw [(af A x).2 ⟨hx,h'⟩] at b3;cases b3
  omega
 have hcs:(aB A hh x k s).cs.length=A.cs.length:=by unfold aB;rw [if_pos hB,dI]
 have hhs:(aB A hh x k s).hs.length=A.hs.length:=by unfold aB;rw [if_pos hB];rfl
 have hcx:∀y,(aB A hh x k s).c y=if y=x then ⟨hh,k,s⟩ else A.c y:=fun y=>by
  unfold aB;rw [if_pos hB,π,iD]
  by_cases e:y=x
  ·rw [if_pos ⟨e,hx⟩,if_pos e]
  ·rw [if_neg (fun h=>e h.1),if_neg e]
 have hxn:x∉(tr hh).nodes:=hI.out h0x;have hX:((tr hh).nodes++(single x).nodes).Nodup:=by
  rw [List.nodup_append];refine ⟨hI.nd hh,by simp [single,BT.nodes],fun a ha b hb e=>?_⟩
  simp only [single,BT.nodes,List.append_nil,List.mem_singleton] at hb;exact hxn (by rw [←hb,←e];exact ha)
 have hin:∀y,y∈(tr hh).nodes++(single x).nodes→bD (aB A hh x k s) (y:Int)=true:=fun y hy=>by
  rw [af,hcs,hcx];simp only [single,BT.nodes,List.append_nil,List.mem_append,List.mem_singleton] at hy
  by_cases e:y=x
  ·rw [if_pos e,e];exact ⟨hx,by show (0:Int)<(hh:Int);omega⟩
  ·rw [if_neg e];have:=(hI.mem hh y).1 (hy.resolve_right e);exact ⟨this.2.1,ω⟩
 have hHx:cO (aB A hh x k s) (tr hh):=cO.frame (hI.heap hh) (fun y hy=>by rw [hcx,if_neg (fun e=>hxn (by rw [←e];exact hy))])
 have mp:=jD (aB A hh x k s) (hL hh) (show Lone (single x) from rfl)
 have ml:=kQ (aB A hh x k s) (hL hh) (show Lone (single x) from rfl)
 have mh:=nA (hL hh) (show Lone (single x) from rfl) hHx (show cO (aB A hh x k s) (single x) from ⟨by simp [BT.nodes],trivial,trivial⟩) hX
 have hfr:=hI.free x hx h0x;have hLh:=hL hh
 have FI:Hid (∀ (W:World) (S':TS) (st':Nat),eZ W B F gt ct (aB A hh x k s) st' S' (ah.set hh (bN (aB A hh x k s) (tr hh) (single x)).root)→bG S' (-1) (bN (aB A hh x k s) (tr hh) (single x)).root (bN (aB A hh x k s) (tr hh) (single x))→
   (∀y,y∉(tr hh).nodes++(single x).nodes→S.at S' y)→j4 W B F gt ct (aB A hh x k s) st' (fun q=>if q=hh then bN (aB A hh x k s) (tr hh) (single x) else tr q)):=fun W S' st' a1 a2 a4=>by
  refine ⟨S',_,a1,hI.put ok hM.gP hB a2 mp mh a4,fun q=>?_⟩
  show Lone (if q=hh then _ else _)
  split
  ·exact ml
  ·exact hL q
 have hTh:=hI.Aw hh;have htop:=hI.top hh ω;have hgn:hh<ah.length:=by rw [hM.gP];omega
 have u1:aa [] w (w.alloc (.cells #[.int .i64 k,.int .u64 s] 129)):=(aa.refl _ _).alloc _;have kp:=fun W (hW:aa [] (w.alloc (.cells #[.int .i64 k,.int .u64 s] 129)) W)=>kV (hM.cells.aj (u1.trans hW)) hh x k s hk hB
 have h0:=hM.h0;have hbF:B.n0∉F:=hM.aZ.1;have hsz:w.heap.size∉F:=fun hm=>by have:=hlt w.heap.size (by simp [PB.blk,hm]);omega
 have r0:∀W,aa F (w.alloc (.cells #[.int .i64 k,.int .u64 s] 129)) W→W.cell? ⟨B.n0,0,none⟩=some (.pointer (some ⟨B.c,0,none⟩)):=fun W hW=>hW.kept (u1.was h0) hbF
 have r1:∀W,aa F (w.alloc (.cells #[.int .i64 k,.int .u64 s] 129)) W→W.cell? ⟨w.heap.size,0,none⟩=some (.int .i64 k):=fun W h=>h.kept σ hsz
 have r2:∀W,aa F (w.alloc (.cells #[.int .i64 k,.int .u64 s] 129)) W→W.cell? ⟨w.heap.size,1,none⟩=some (.int .u64 s):=fun W h=>h.kept σ hsz
 have HM:=χ hM;have HH:=χ (ψ hX (ψ hin (ψ hTh (ψ hLh hfr))));have hA:=ok.c1;have hAh:=ok.h1;clear hM hI hL ok ok' b1 b2 b3 h0x hcx hxn hX hin hHx mp mh ml hfr h0 hlt hTh hLh;generalize hA':aB A hh x k s=A' at *
 generalize htr:tr hh=th at *
 go_enter Tryz.func210,Tryz.ntmps210
 go_wp2
 go_region_held3 (aa F (w.alloc (.cells #[.int .i64 k,.int .u64 s] 129))) (repeat (first|assumption|exact aa.refl _ _|refine aa.drew ?_|refine aa.alloc ?_ _|refine aa.setCell ?_ ?_ _|focus (left;simp;done)|focus (right;simp;done)|focus (right;simp;omega)|(apply aa.trans;rotate_left;assumption)))
  ((go_at_call 154;(with_reducible refine (kp _ β).mono ?_);rintro e w1 ⟨rfl,hC1,hu1⟩;(have hu2:aa F (w.alloc (.cells #[.int .i64 k,.int .u64 s] 129)) w1:=by (repeat (first|assumption|exact aa.refl _ _|refine aa.drew ?_|refine aa.alloc ?_ _|refine aa.setCell ?_ ?_ _|focus (left;simp;done)|focus (right;simp;done)|focus (right;simp;omega)|(apply aa.trans;rotate_left;assumption))))))
 have uF:aa F w (w.alloc (.cells #[.int .i64 k,.int .u64 s] 129)):=u1.mono σ;have hM1:=HM.out.bI (uF.trans hu2) hC1 (fun y hy=>Or.inl hy) hcs hhs
 have hw1:aa F w w1:=uF.trans hu2;clear r0 r1 r2 kp hu1 hu2 hC1 uF;have km:=fun W (hW:aa [] w1 W)=>sH (hM1.aj hW) th (single x) HH.out.2.2.1 (rD HH.out.2.2.2.2) HH.out.2.2.2.1 rfl HH.out.1 HH.out.2.1
 rw [show (single x).root=(x:Int) from rfl] at km
 have d4:=hM1.ic.cell hh hgn;rw [htop] at d4;have f4:=hM1.ic.free hh;have h3:=hM1.h2;obtain ⟨hn0g,hgc⟩:=hM1.Pv;have r3:∀W,aa [B.ba,B.c] w1 W→W.cell? ⟨B.n0,2,none⟩=some (.slice (some ⟨gt,0,none⟩) ah.length ct):=fun W hW=>hW.kept h3 (fun hm=>hn0g (by simp at hm ⊢;omega))
 have r4:∀W,aa [B.ba,B.c] w1 W→W.cell? ⟨gt,hh,none⟩=some (.int .i64 th.root)∧W.frozen? ⟨gt,hh,none⟩=false:=fun W hW=>⟨hW.kept d4 hgc,hW.aO d4 hgc f4⟩
 have hib1:(0:Int)≤(hh:Int):=ω;have hib2:(hh:Int)<(ah.length:Int):=ω;generalize hmt:bN A' th (single x)=mt at *
 clear hM1 f4 h3 hn0g hgc;have q3:=r3 _ (aa.refl _ _);have q4:=(r4 _ (aa.refl _ _)).1;go_wp2
 go_region_law
  (first
   | (go_simp;go_at_call 215;(with_reducible refine (km _ β).mono ?_);rintro e w5 ⟨rfl,hu5a,st5,S5,hM5,hT5,hs5⟩;(have hu5:aa [B.ba,B.c] w1 w5:=aa.trans β hu5a);obtain ⟨d5,f5⟩:=r4 _ hu5;(have q5:=r3 _ hu5)))
 all_goals
  go_wp2;go_ret;have hcF:=HM.out.cF;have v1:aa (B.blk F gt) w w1:=hw1.mono (fun y hy=>by simp only [PB.blk,List.mem_cons];simp [hy])
  have v3:aa (B.blk F gt) w w5:=v1.trans (hu5.mono (fun y hy=>by
   simp only [List.mem_cons,List.not_mem_nil,or_false] at hy;simp only [PB.blk,List.mem_cons];rcases hy with rfl|rfl
   ·simp
   ·simp [hcF]))
  subst hmt;exact ⟨rfl,v3.setCell (Or.inl (by simp [PB.blk])) _,st5,FI.out _ S5 st5 (hM5.nT hh _) hT5 hs5⟩
end
theorem ny {P:List Fr} {t:BT} {y:Nat}:y∈(ae P t).nodes↔y∈t.nodes∨y∈bV P:=by
 rw [(aJ P t).mem_iff,List.mem_append]
theorem Lg {S S' S'':TS} {x:Nat} (h:S.at S' x) (h':S'.at S'' x):S.at S'' x:=⟨h'.1.trans h.1,h'.2.1.trans h.2.1,h'.2.2.trans h.2.2⟩
theorem yC {A:NS} {x:Nat} {k s:Int} (hB:iy A x k s=true) (hx:x<A.cs.length) {l:BT} (h:cO A (.node x l .nil)) (hn:(BT.node x l .nil).nodes.Nodup):cO (ak A x k s) (.node x l .nil):=by
 simp only [BT.nodes,List.append_nil,List.nodup_cons] at hn;have hle:=qA hB;rw [π] at hle;have hc:=pO hB hx;have hy:∀y,y≠x→(ak A x k s).c y=A.c y:=fun y e=>by rw [hc,if_neg e]
 have hxx:(ak A x k s).c x=⟨(A.c x).i,k,s⟩:=by rw [hc,if_pos rfl]
 refine ⟨fun y m=>jw (h.1 y m) (hy y (fun e=>hn.1 (by rw [←e];exact m))) ?_,cO.frame h.2.1 (fun y m=>hy y (fun e=>hn.1 (by rw [←e];exact m))),trivial⟩
 rw [hxx];exact hle
section
variable {w:World} {B:PB} {F:List Nat} {gt ct:Nat} {A:NS} {st:Nat} {S:TS} {ah:List Int}
theorem NN (h:eZ w B F gt ct A st S ah) {f:Fr} {P:List Fr} {x:Nat} {l r:BT} (hT:bG S (-1) (ae (f::P) (.node x l r)).root (ae (f::P) (.node x l r))) (hn:(ae (f::P) (.node x l r)).nodes.Nodup) (hlt:∀y,y∈(ae (f::P) (.node x l r)).nodes→y<A.cs.length) :
  Calls Tryz.prog 214 #[.pointer (some ⟨B.n0,0,none⟩),.int .i64 (x:Int)] w fun e w'=>e=.returned (.tuple #[])∧eZ w' B F gt ct A st (iJ S f.1 f.2.1 x) ah∧aa [B.ba] w w':=by
 obtain ⟨-, -, -,k1,k2,k3⟩:=xy hT hn;have h1:=((cz _ _).1 hT).1;have hpn:=(aJ (f::P) (.node x l r)).nodup_iff.1 hn;rw [List.nodup_append] at hpn;obtain ⟨n1,n2,n3⟩:=hpn;simp only [BT.nodes,List.nodup_cons,List.mem_append,not_or] at n1;have hfp:f.1∈bV (f::P):=by simp [bV]
 have hfx:f.1≠x:=fun e=>n3 x (by simp [BT.nodes]) f.1 hfp e.symm
 have hrn:∀z:Nat,S.r x=(z:Int)→z∈r.nodes:=fun z hz=>by
  have h4:S.r x=r.root:=h1.2.2.2.root;rw [h4] at hz;have h6:r≠.nil:=fun e'=>by rw [e'] at hz;simp [BT.root] at hz
  have h7:=(bg h6).1;rw [hz,π] at h7;exact h7
 have hr:=kW (n:=A.cs.length) h1.2.2.2 (fun z hz=>hlt z (ny.2 (Or.inl (by simp [BT.nodes,hz]))))
 exact IC h f.1 x f.2.1 (hlt _ (ny.2 (Or.inr hfp))) (hlt _ (ny.2 (Or.inl (by simp [BT.nodes])))) hfx k1 k2 k3 hr (fun e=>n3 f.1 (by simp [BT.nodes,hrn _ e]) f.1 hfp rfl) (fun e=>n1.1.2 (hrn _ e))
theorem G7 (hM:eZ w B F gt ct A st S ah) {g x:Nat} {k s:Int} (hk:-9223372036854775808≤k∧k≤9223372036854775807∧0≤s∧s≤18446744073709551615) (hB:iy A x k s=true)
  (hg:(A.c x).i=g) (hg0:0<g) (hgt:g<ah.length) (htop:ah.getD g 0=x) (hxl:x<A.cs.length) :
  Calls Tryz.prog 207 #[.pointer (some ⟨B.n0,0,none⟩),.int .i64 (x:Int),.agg #[.int .i64 k,.int .u64 s]] w fun e w'=>e=.returned (.bool true)∧aa (B.blk F gt) w w'∧eZ w' B F gt ct (ak A x k s) st S ah:=by
 have hcs:=eB A x k s;have hhs:=jm A x k s;have hin':bD (ak A x k s) (x:Int)=true:=(af _ x).2 ⟨by rw [hcs];exact hxl,by rw [fP hB hxl,hg];omega⟩
 have hi':((ak A x k s).c x).i=g:=by rw [fP hB hxl,hg]
 have u1:aa [] w (w.alloc (.cells #[.int .i64 k,.int .u64 s] 129)):=(aa.refl _ _).alloc _;have kp:=fun W (hW:aa [] (w.alloc (.cells #[.int .i64 k,.int .u64 s] 129)) W)=>fE (hM.cells.aj (u1.trans hW)) x k s hk hB
 have h0:=hM.h0;have hbF:B.n0∉F:=hM.aZ.1;have hlt:=hM.lt;have hsz:w.heap.size∉F:=fun hm=>by have:=hlt w.heap.size (by simp [PB.blk,hm]);omega
 have r0:∀W,aa F (w.alloc (.cells #[.int .i64 k,.int .u64 s] 129)) W→W.cell? ⟨B.n0,0,none⟩=some (.pointer (some ⟨B.c,0,none⟩)):=fun W hW=>hW.kept (u1.was h0) hbF
 have r1:∀W,aa F (w.alloc (.cells #[.int .i64 k,.int .u64 s] 129)) W→W.cell? ⟨w.heap.size,0,none⟩=some (.int .i64 k):=fun W h=>h.kept σ hsz
 have r2:∀W,aa F (w.alloc (.cells #[.int .i64 k,.int .u64 s] 129)) W→W.cell? ⟨w.heap.size,1,none⟩=some (.int .u64 s):=fun W h=>h.kept σ hsz
 have HM:=χ hM;have HG:=χ htop;have hAh:=hM.cells.ok.h1;have htn:ah.length=A.hs.length:=hM.gP;clear hM htop hlt h0 hg;generalize hA':ak A x k s=A' at *
 go_enter Tryz.func207,Tryz.ntmps207
 go_wp2
 go_region_held3 (aa F (w.alloc (.cells #[.int .i64 k,.int .u64 s] 129))) (repeat (first|assumption|exact aa.refl _ _|refine aa.drew ?_|refine aa.alloc ?_ _|refine aa.setCell ?_ ?_ _|focus (left;simp;done)|focus (right;simp;done)|focus (right;simp;omega)|(apply aa.trans;rotate_left;assumption)))
  ((go_at_call 147;(with_reducible refine (kp _ β).mono ?_);rintro e w1 ⟨rfl,hC1,hu1⟩;(have hu2:aa F (w.alloc (.cells #[.int .i64 k,.int .u64 s] 129)) w1:=by (repeat (first|assumption|exact aa.refl _ _|refine aa.drew ?_|refine aa.alloc ?_ _|refine aa.setCell ?_ ?_ _|focus (left;simp;done)|focus (right;simp;done)|focus (right;simp;omega)|(apply aa.trans;rotate_left;assumption))))))
 have uF:aa F w (w.alloc (.cells #[.int .i64 k,.int .u64 s] 129)):=u1.mono σ;have hM1:=HM.out.bI (uF.trans hu2) hC1 (fun y hy=>Or.inl hy) hcs (by rw [hhs])
 have kh:=bZ hM1.cells x hin';rw [hi'] at kh;have g10:=hM1.h0;have HM1:=χ hM1;have u01:=χ (uF.trans hu2);have hxx:((x:Int) != (x:Int))=false:=σ;have hgI:(g:Int)<(ah.length:Int):=ω;clear r0 r1 r2 kp hu1 hu2 hC1 hM1 uF htn
 go_wp2_with (first
  | ((go_at_call 140;(with_reducible refine (kh).mono ?_));rintro e w2 ⟨rfl,hC2,hu2⟩;(have hM2:=HM1.out.bI hu2 hC2 (fun y hy=>Or.inl hy) rfl rfl);(have g21:=hM2.h2);(have g22:=hM2.ic.cell g hgt);rw [HG.out] at g22)
  | fail)
 go_ret;exact ⟨rfl,(u01.out.trans hu2).mono (fun y hy=>by simp only [PB.blk,List.mem_cons];simp [hy]),hM2⟩
theorem Kb (hM:eZ w B F gt ct A st S ah) {g x:Nat} {f:Fr} {P:List Fr} {l r:BT} {k s:Int} (hk:-9223372036854775808≤k∧k≤9223372036854775807∧0≤s∧s≤18446744073709551615) (hB:iy A x k s=true)
  (hg:(A.c x).i=g) (hg0:0<g) (hgt:g<ah.length) (htop:ah.getD g 0=(ae (f::P) (.node x l r)).root) (hT:bG S (-1) (ae (f::P) (.node x l r)).root (ae (f::P) (.node x l r))) (hn:(ae (f::P) (.node x l r)).nodes.Nodup)
  (hL:Lone (ae (f::P) (.node x l r))) (hall:∀y,y∈(ae (f::P) (.node x l r)).nodes→bD A (y:Int)=true) :
  Calls Tryz.prog 207 #[.pointer (some ⟨B.n0,0,none⟩),.int .i64 (x:Int),.agg #[.int .i64 k,.int .u64 s]] w fun e w'=>e=.returned (.bool true)∧aa (B.blk F gt) w w'∧
   ∃st' S',eZ w' B F gt ct (ak A x k s) st' S' (ah.set g (bN (ak A x k s) (ae (f::P) r) (.node x l .nil)).root)∧bG S' (-1) (bN (ak A x k s) (ae (f::P) r) (.node x l .nil)).root (bN (ak A x k s) (ae (f::P) r) (.node x l .nil))∧∀y,y∉(ae (f::P) (.node x l r)).nodes→S.at S' y:=by
 have hcs:=eB A x k s;have hhs:=jm A x k s;have hxl:x<A.cs.length:=by
  have:=hall x (ny.2 (Or.inl (by simp [BT.nodes])))
  exact ((af A x).1 this).1
 have hin':bD (ak A x k s) (x:Int)=true:=(af _ x).2 ⟨by rw [hcs];exact hxl,by rw [fP hB hxl,hg];omega⟩
 have hi':((ak A x k s).c x).i=g:=by rw [fP hB hxl,hg]
 have hall':∀y,y∈(ae (f::P) (.node x l r)).nodes→bD (ak A x k s) (y:Int)=true:=fun y hy=>by
  have:=(af A y).1 (hall y hy);exact (af _ y).2 ⟨by rw [hcs];exact this.1,by rw [fP hB hxl];exact this.2⟩
 have hlt':∀y,y∈(ae (f::P) (.node x l r)).nodes→y<(ak A x k s).cs.length:=fun y hy=>((af _ y).1 (hall' y hy)).1
 obtain ⟨o1,o2,o3, -⟩:=xy hT hn;have hpm:=sD (f::P) x l r;have hXn:((ae (f::P) r).nodes++(BT.node x l .nil).nodes).Nodup:=uz (hpm.nodup_iff.1 hn);have hXm:∀y,y∈(ae (f::P) r).nodes++(BT.node x l .nil).nodes→y∈(ae (f::P) (.node x l r)).nodes:=fun y hy=>by
  rw [hpm.mem_iff,List.mem_append];rw [List.mem_append] at hy;exact hy.symm
 have hLr:Lone (ae (f::P) r):=nD (t:=.node x l r) σ hL;have hrt:(ae (f::P) (.node x l r)).root=(ae (f::P) r).root:=iO _ _ _ _;have hroot:(ae (f::P) r).root≠(x:Int):=fun e=>by
  have h6:ae (f::P) r≠.nil:=fun e'=>by rw [e'] at e;simp [BT.root] at e
  have h7:=(bg h6).1;rw [e,π] at h7;rw [List.nodup_append] at hXn;exact hXn.2.2 x h7 x (by simp [BT.nodes]) rfl
 rw [hrt] at htop;have hr0:(ae (f::P) r).root=-1∨0≤(ae (f::P) r).root:=by
  have:=kW (n:=A.cs.length) o2 (fun z hz=>((af _ _).1 (hall z (hXm z (by simp [hz])))).1)
  omega
 have u1:aa [] w (w.alloc (.cells #[.int .i64 k,.int .u64 s] 129)):=(aa.refl _ _).alloc _;have kp:=fun W (hW:aa [] (w.alloc (.cells #[.int .i64 k,.int .u64 s] 129)) W)=>fE (hM.cells.aj (u1.trans hW)) x k s hk hB
 have h0:=hM.h0;have hbF:B.n0∉F:=hM.aZ.1;have hlt:=hM.lt;have hsz:w.heap.size∉F:=fun hm=>by have:=hlt w.heap.size (by simp [PB.blk,hm]);omega
 have r0:∀W,aa F (w.alloc (.cells #[.int .i64 k,.int .u64 s] 129)) W→W.cell? ⟨B.n0,0,none⟩=some (.pointer (some ⟨B.c,0,none⟩)):=fun W hW=>hW.kept (u1.was h0) hbF
 have r1:∀W,aa F (w.alloc (.cells #[.int .i64 k,.int .u64 s] 129)) W→W.cell? ⟨w.heap.size,0,none⟩=some (.int .i64 k):=fun W h=>h.kept σ hsz
 have r2:∀W,aa F (w.alloc (.cells #[.int .i64 k,.int .u64 s] 129)) W→W.cell? ⟨w.heap.size,1,none⟩=some (.int .u64 s):=fun W h=>h.kept σ hsz
 have HM:=χ hM;have HG:=χ (ψ hT (ψ hn (ψ hall' hlt')));have HX:=χ (ψ hXn (ψ hXm (ψ hLr (ψ o1 (ψ o2 o3)))));have HT:=χ htop;have hAh:=hM.cells.ok.h1;have htn:ah.length=A.hs.length:=hM.gP;clear hM hT hn hall hall' hlt' hlt h0 hg hXn hXm hbF hsz hL hLr hrt hpm o1 o2 o3 htop;generalize hA':ak A x k s=A' at *
 generalize hta:ae (f::P) r=ta at *
 go_enter Tryz.func207,Tryz.ntmps207
 go_wp2
 go_region_held3 (aa F (w.alloc (.cells #[.int .i64 k,.int .u64 s] 129))) (repeat (first|assumption|exact aa.refl _ _|refine aa.drew ?_|refine aa.alloc ?_ _|refine aa.setCell ?_ ?_ _|focus (left;simp;done)|focus (right;simp;done)|focus (right;simp;omega)|(apply aa.trans;rotate_left;assumption)))
  ((go_at_call 147;(with_reducible refine (kp _ β).mono ?_);rintro e w1 ⟨rfl,hC1,hu1⟩;(have hu2:aa F (w.alloc (.cells #[.int .i64 k,.int .u64 s] 129)) w1:=by (repeat (first|assumption|exact aa.refl _ _|refine aa.drew ?_|refine aa.alloc ?_ _|refine aa.setCell ?_ ?_ _|focus (left;simp;done)|focus (right;simp;done)|focus (right;simp;omega)|(apply aa.trans;rotate_left;assumption))))))
 have uF:aa F w (w.alloc (.cells #[.int .i64 k,.int .u64 s] 129)):=u1.mono σ;have hM1:=HM.out.bI (uF.trans hu2) hC1 (fun y hy=>Or.inl hy) hcs (by rw [hhs])
 have kh:=bZ hM1.cells x hin';rw [hi'] at kh;have g10:=hM1.h0;have HM1:=χ hM1;have u01:=χ (uF.trans hu2);have hxx:(ta.root != (x:Int))=true:=by simpa using hroot
 have hgI:(g:Int)<(ah.length:Int):=ω;clear r0 r1 r2 kp hu1 hu2 hC1 hM1 uF htn
 go_wp2_with (first
  | ((go_at_call 140;(with_reducible refine (kh).mono ?_));rintro e w2 ⟨rfl,hC2,hu2⟩;(have hM2:=HM1.out.bI hu2 hC2 (fun y hy=>Or.inl hy) rfl rfl);(have g21:=hM2.h2);(have g22:=hM2.ic.cell g hgt);rw [HT.out] at g22;(have ko:=NN hM2 HG.out.1 HG.out.2.1 HG.out.2.2.2))
  | ((go_at_call 214;(with_reducible refine (ko).mono ?_));rintro e w3 ⟨rfl,hM3,hu3⟩)
  | fail)
 have hw3:aa (B.blk F gt) w w3:=((u01.out.trans hu2).mono (fun y hy=>by simp only [PB.blk,List.mem_cons];simp [hy])).trans (hu3.mono (fun y hy=>by simp at hy;simp [PB.blk,hy]))
 have km:=fun W (hW:aa [] w3 W)=>sH (hM3.aj hW) ta (.node x l .nil) HX.out.2.2.2.2.1 HX.out.2.2.2.1 HX.out.2.2.1 rfl HX.out.1 (fun y hy=>HG.out.2.2.1 y (HX.out.2.1 y hy))
 rw [show (BT.node x l .nil).root=(x:Int) from rfl] at km
 have d4:=hM3.ic.cell g hgt;rw [HT.out] at d4;have f4:=hM3.ic.free g;have h3:=hM3.h2;obtain ⟨hn0g,hgc⟩:=hM3.Pv;have hcF:=hM3.cF;have r3:∀W,aa [B.ba,B.c] w3 W→W.cell? ⟨B.n0,2,none⟩=some (.slice (some ⟨gt,0,none⟩) ah.length ct):=fun W hW=>hW.kept h3 (fun hm=>hn0g (by simp at hm ⊢;omega))
 have r4:∀W,aa [B.ba,B.c] w3 W→W.cell? ⟨gt,g,none⟩=some (.int .i64 ta.root)∧W.frozen? ⟨gt,g,none⟩=false:=fun W hW=>⟨hW.kept d4 hgc,hW.aO d4 hgc f4⟩
 have hib1:(0:Int)≤(g:Int):=ω;generalize hmt:bN A' ta (.node x l .nil)=mt at *
 clear hM3 f4 h3 hn0g hgc g21 g22 hM2 ko hC2 hu2 hu3 kh g10;have q3:=r3 _ (aa.refl _ _);have q4:=(r4 _ (aa.refl _ _)).1;go_wp2
 go_region_law
  (first
   | (go_simp;go_at_call 215;(with_reducible refine (km _ β).mono ?_);rintro e w5 ⟨rfl,hu5a,st5,S5,hM5,hT5,hs5⟩;(have hu5:aa [B.ba,B.c] w3 w5:=aa.trans β hu5a);obtain ⟨d5,f5⟩:=r4 _ hu5;(have q5:=r3 _ hu5)))
 all_goals
  go_wp2;go_ret
  have v3:aa (B.blk F gt) w w5:=hw3.trans (hu5.mono (fun y hy=>by
   simp only [List.mem_cons,List.not_mem_nil,or_false] at hy;simp only [PB.blk,List.mem_cons];rcases hy with rfl|rfl
   ·simp
   ·simp [hcF]))
  subst hmt;exact ⟨rfl,v3.setCell (Or.inl (by simp [PB.blk])) _,st5,S5,hM5.nT g _,hT5,fun y hy=>Lg (HX.out.2.2.2.2.2 y hy) (hs5 y (fun hm=>hy (HX.out.2.1 y hm)))⟩
end
end Go.Proofs.YtklibcncmbofpaaGreat
namespace Go.Proofs.YtklibcncmbofpaaGreat
theorem yO (A:NS):∀ (l:List BT),(∀t,t∈l→cO A t∧Lone t)→(eH l).Nodup→∀t,t∈bB A l→cO A t∧Lone t
 | [],_,_,t,ht=>by cases ht
 | [a],h,_,t,ht=>h t ht
 | a::b::l,h,hn,t,ht=>by
  rw [bf,bf,←List.append_assoc,List.nodup_append] at hn;have ha:=h a σ;have hb:=h b σ;rcases List.mem_cons.1 (show t∈bN A a b::bB A l from ht) with e|e
  ·subst e;exact ⟨nA ha.2 hb.2 ha.1 hb.1 hn.1,kQ A ha.2 hb.2⟩
  ·exact yO A l (fun u hu=>h u (by simp [hu])) hn.2.1 t e
theorem yH (A:NS):∀ (l:List BT),(∀t,t∈l→cO A t∧Lone t)→(eH l).Nodup→cO A (dU A l)
 | [],_,_=>trivial
 | a::l,h,hn=>by
  have ha:=h a σ;have hp:=ug A l (fun t ht=>(h t (by simp [ht])).2)
  have ih:=yH A l (fun u hu=>h u (by simp [hu])) (by rw [bf,List.nodup_append] at hn;exact hn.2.1)
  exact nA ha.2 hp.2 ha.1 ih ((hp.1.append_left a.nodes).nodup_iff.2 hn)
theorem tO {A:NS} {l:BT} (h:cO A l) (hn:l.nodes.Nodup):(dU A (bB A (aX l))).nodes.Perm l.nodes∧Lone (dU A (bB A (aX l)))∧cO A (dU A (bB A (aX l))):=by
 have hk:=zt h;have hkn:=(iw l).nodup_iff.2 hn;have h2:=yO A _ hk hkn;have p2:=zC A (aX l) (fun t ht=>(hk t ht).2)
 have p3:=ug A (bB A (aX l)) (fun t ht=>(h2 t ht).2)
 exact ⟨(p3.1.trans p2).trans (iw l),p3.2,yH A _ h2 (p2.nodup_iff.2 hkn)⟩
theorem zh {n:Nat} {l:List Nat} (hn:l.Nodup) (h:∀x,x∈l→x<n):l.length≤n:=by
 induction n generalizing l with
 | zero=>
  cases l with
  | nil=>simp
  | cons a l=>exact absurd (h a σ) ω
 | succ n ih=>
  by_cases hm:n∈l
  ·have h1:=ih (l:=l.erase n) (hn.erase n) (fun x hx=>by
    have h2:=(hn.mem_erase_iff).1 hx;have:=h x h2.2
    omega)
   rw [List.length_erase_of_mem hm] at h1;omega
  ·have:=ih hn (fun x hx=>by
    have h1:=h x hx;have h2:x≠n:=fun e=>hm (by rw [←e];exact hx)
    omega)
   omega
end Go.Proofs.YtklibcncmbofpaaGreat
