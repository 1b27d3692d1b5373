/-
  Lemmas for PathBest: Bn7, Bn8, BnW. Conditions: those of each lemma.
-/
import Derived.Test.YtklibcncmbofpaaGreatB06
import Derived.Test.YtklibcncmbofpaaGreatB18
set_option linter.all false
set_option maxHeartbeats 8000000
set_option maxRecDepth 10000
namespace Go.Proofs.YtklibcncmbofpaaGreat
open Go Go.RowKit
theorem NL (W:World) (n0 c b3 b4:Nat) (F:List Nat) (A:NS) (st x y:Nat) (h3:W.cell? ⟨b3,0,none⟩=some (.pointer (some ⟨n0,0,none⟩))) (h4:W.cell? ⟨b4,0,none⟩=some (.int .i64 (x:Int))) (h0:W.cell? ⟨n0,0,none⟩=some (.pointer (some ⟨c,0,none⟩)))
  (hC:aG W c F A st) (hx:bX A (x:Int)=true) (hy:bX A (y:Int)=true) (e3:b3≠c) (e4:b4≠c) (e0:n0≠c) :
  Calls Tryz.prog 184 #[.int .i64 (y:Int),.pointer (some ⟨b3,0,none⟩),.pointer (some ⟨b4,0,none⟩)] W fun e w'=>e=.returned (.bool (decide (cZ A x y)))/\aG w' c F A (bZ st 1)/\aa [c] W w':=by
 have ka:=fun W' (hW:aa [] W W')=>fF (hC.aA hW) x y hx hy;have r3:∀W',aa [c] W W'->W'.cell? ⟨b3,0,none⟩=some (.pointer (some ⟨n0,0,none⟩)):=fun W' hW=>hW.kept h3 (by simpa using e3);have r4:∀W',aa [c] W W'->W'.cell? ⟨b4,0,none⟩=some (.int .i64 (x:Int)):=fun W' hW=>hW.kept h4 (by simpa using e4);have r0:∀W',aa [c] W W'->W'.cell? ⟨n0,0,none⟩=some (.pointer (some ⟨c,0,none⟩)):=fun W' hW=>hW.kept h0 (by simpa using e0);clear hC hx hy h3 h4 h0;generalize decide (cZ A x y)=b at *
 go_enter Tryz.func184,Tryz.ntmps184
 go_wp2
 go_region_held3 (aa [c] W) (exact ν)
  (first
   | ((go_at_call 174;(with_reducible refine (ka _ β).mono ?_));rintro e w1 ⟨rfl,jD,hu1⟩;(have hu2:aa [c] W w1:=aa.trans ν hu1)))
 go_wp2;go_ret;exact ⟨rfl,jD.aA β,ν⟩
theorem JZ (w:World) (K:List Nat) (B:BB) (F:List Nat) (A:NS) (b3 b4 x:Nat) (h3:w.cell? ⟨b3,0,none⟩=some (.pointer (some ⟨B.n0,0,none⟩))) (h4:w.cell? ⟨b4,0,none⟩=some (.int .i64 (x:Int))) (hx:bX A (x:Int)=true) (k3:b3∉K) (k4:b4∉K) (hc:B.c∈K) :
  Xr w K B F A 1 (fun y=>decide (cZ A x y)) 184 #[.pointer (some ⟨b3,0,none⟩),.pointer (some ⟨b4,0,none⟩)]:=by
 refine ⟨fun _ _=>by kernel_rfl,fun W st above hu h0 hne hC hin=>?_⟩;exact NL W B.n0 B.c b3 b4 F A st x above (hu.kept h3 k3) (hu.kept h4 k4) h0 hC hx hin (fun e=>k3 (e▸hc)) (fun e=>k4 (e▸hc)) hne
section
variable {w:World} {p:Nat} {FF:List Nat} {A:NS} {st:Nat} {G:BG}
def I7 (A':NS) (x:Nat) (G:BG):BG×Nat:=jd (fun y=>decide (cZ A' x y)) 1 x A'.cs.length G
theorem Za {x:Nat} {k s:Int} (I:Db A G) (hB:jo A x k s=true) (hx:x<A.cs.length):Db (aB A x k s) (I7 (aB A x k s) x G).1:=by
 obtain ⟨X,hk⟩:=CK I hB hx;have hn:=fJ A x k s;have hx':x<(aB A x k s).cs.length:=by rw [hn];exact hx
 have E:=FK (hp:=fun y=>decide (cZ (aB A x k s) x y)) (ct:=1) hx' (aB A x k s).cs.length X ω;have K:=zF (hp:=fun y=>decide (cZ (aB A x k s) x y)) (ct:=1) hx' (fun p _ h=>of_decide_eq_true h) (aB A x k s).cs.length X (by rw [hn];exact hk);refine E.1.done hx' K (fun p hp=>?_);rcases E.2 with h|⟨p',h1,h2⟩
 ·have hp:(I7 (aB A x k s) x G).1.F.u x=p:=hp;have h:(I7 (aB A x k s) x G).1.F.u x=-1:=h;omega
 ·have hp:(I7 (aB A x k s) x G).1.F.u x=p:=hp;have h1:(I7 (aB A x k s) x G).1.F.u x=p':=h1;obtain rfl:p=p':=ω;have hne:x≠p:=fun e=>by
   subst e;exact E.1.fh.f.self hx' (E.1.fh.f.above hx' h1).2
  exact (jm hne).resolve_left (of_decide_eq_false h2)
theorem PK (h:IB w p FF A st G) (x:Nat) (k s:Int) (hk:-9223372036854775808<=k/\k<=9223372036854775807/\0<=s/\s<=18446744073709551615) (hB:jo A x k s=true) :
  Calls Tryz.prog 175 #[.pointer (some ⟨p,0,none⟩),.int .i64 (x:Int),.agg #[.int .i64 k,.int .u64 s]] w fun e w'=>e=.returned (.bool true)/\
   Goes FF w w' (fun Kw=>IB w' p Kw (aB A x k s) (bZ st (I7 (aB A x k s) x G).2) (I7 (aB A x k s) x G).1):=by
 obtain ⟨⟨B,F,gr,cr,lo,S,vs,rfl,rfl,M,eF⟩,I⟩:=h;have hin:=qE hB;obtain ⟨hx,hhome⟩:=(ai _ _).1 hin;obtain ⟨X, -⟩:=CK I hB hx;have I2:=Za I hB hx;have hcs:=fJ A (x:Int) k s;have lX:=lN A (x:Int) k s;have hix:=iR hB hx x;have hin2:bX (aB A x k s) (x:Int)=true:=(ai _ _).2 ⟨ω,ω⟩;have SE:=jf M.cells.ok hin;rw [π] at SE;obtain ⟨q,hq0,hq1,hqv⟩:=M.hq SE;obtain ⟨w3,hw3⟩:∃w3,w3=((w.alloc (.cells #[.pointer (some ⟨B.n0,0,none⟩)] 174)).alloc (.cells #[.int .i64 (x:Int)] 3)).alloc (.cells #[.int .i64 k,.int .u64 s] 129):=⟨_,rfl⟩;have u3:aa [] w w3:=by rw [hw3];exact β
 have s3:w3.heap.size=w.heap.size+3:=by rw [hw3];simp
 have b3:w3.cell? ⟨w.heap.size,0,none⟩=some (.pointer (some ⟨B.n0,0,none⟩)):=by rw [hw3];go_simp
 have b4:w3.cell? ⟨w.heap.size+1,0,none⟩=some (.int .i64 (x:Int)):=by rw [hw3];go_simp
 have b5:w3.cell? ⟨w.heap.size+1+1,0,none⟩=some (.int .i64 k):=by rw [hw3];go_simp
 have b6:w3.cell? ⟨w.heap.size+1+1,1,none⟩=some (.int .u64 s):=by rw [hw3];go_simp
 have nF:∀j,w.heap.size+j∉F:=fun j hm=>by have:=M.cells.lt _ hm;omega
 have kl:=fun W (hW:aa [] w3 W)=>iP (M.cells.aA (u3.trans hW)) x k s hk hB;have h0:=u3.was M.h0;have uQ:=M.d1.1;have r0:∀W,aa F w3 W->W.cell? ⟨B.n0,0,none⟩=some (.pointer (some ⟨B.c,0,none⟩)):=fun W hW=>hW.kept h0 uQ;have r3:∀W,aa F w3 W->W.cell? ⟨w.heap.size,0,none⟩=some (.pointer (some ⟨B.n0,0,none⟩)):=fun W hW=>hW.kept b3 (nF 0);have r4:∀W,aa F w3 W->W.cell? ⟨w.heap.size+1,0,none⟩=some (.int .i64 (x:Int)):=fun W hW=>hW.kept b4 (nF 1);have r5:∀W,aa F w3 W->W.cell? ⟨w.heap.size+1+1,0,none⟩=some (.int .i64 k):=fun W hW=>hW.kept b5 (nF 2)
 have r6:∀W,aa F w3 W->W.cell? ⟨w.heap.size+1+1,1,none⟩=some (.int .u64 s):=fun W hW=>hW.kept b6 (nF 2);have HM:=χ M;have HI:=χ (ψ X (ψ I2 (ψ eF (ψ hcs (ψ lX hin2)))));have HW:=χ hw3;clear M I X I2 eF hcs lX hin SE h0 b3 b4 b5 b6 hB nF hw3;generalize hA':aB A (x:Int) k s=A' at *;rw [hq0] at hix
 go_enter Tryz.func175,Tryz.ntmps175
 go_wp2;rw [←HW.out]
 go_region_held3 (aa F w3) (exact ν)
  (first
   | ((go_at_call 147;(with_reducible refine (kl _ β).mono ?_));rintro e w4 ⟨rfl,Tw,iC⟩;(have YZ:aa F w3 w4:=aa.trans ν iC)))
 have kh:=fun W (hW:aa [] w4 W)=>eB (Tw.aA hW) x HI.out.2.2.2.2.2;rw [hix] at kh;go_wp2
 go_region_held3 (aa F w3) (exact ν)
  (first
   | ((go_at_call 140;(with_reducible refine (kh _ β).mono ?_));rintro e w5 ⟨rfl,Uq,cu⟩;(have Kh:aa F w3 w5:=aa.trans ν cu)))
 have wZ:=(HM.out.aA u3).dB Kh Uq (fun y hy=>Or.inl hy) HI.out.2.2.2.1 (by rw [HI.out.2.2.2.2.1]);have g3:=r3 w5 Kh;have g4:=r4 w5 Kh;have hlt:=HM.out.lt;have hcs:=HI.out.2.2.2.1;have hKK:∀j,w.heap.size+j∉B.blk F gr A'.cs.length S vs:=fun j hm=>by rw [hcs] at hm;have:=hlt _ hm;omega
 have H5:=fun (W:World) (hW:aa [] w5 W)=>JZ W (B.blk F gr A'.cs.length S vs) B F A' w.heap.size (w.heap.size+1) x (hW.was g3) (hW.was g4) HI.out.2.2.2.2.2 (hKK 0) (hKK 1) (yu _ HM.out.cells.mem);have kL:=fun W (hW:aa [] w5 W)=>OH (wZ.aA hW) HI.out.2.2.1 HI.out.1 ω (by rw [hix];omega) hix hqv (H5 W hW);have vD:=χ wZ;clear wZ Uq Tw kh kl r0 r5 r6 hlt hKK r3 r4
 go_wp2_with (first
  | ((go_at_call 183;(with_reducible refine (kL _ β).mono ?_));rintro e w6 ⟨rfl,S6,uB,hF6,iB,hb6⟩)
  | fail)
 go_ret;have hcs:=HI.out.2.2.2.1;have uw:aa (B.blk F gr A.cs.length S vs) w w6:=by
  rw [hcs] at iB;exact ((u3.mono σ).trans (Kh.mono yu)).trans (aa.trans ν iB)
 refine ⟨rfl,B.blk F gr A'.cs.length S6 vs,⟨⟨B,F,gr,cr,lo,S6,vs,rfl,rfl,uB,hF6⟩,HI.out.2.1⟩,uw,fun y hy=>Or.inl ?_⟩;rw [hcs] at hy hb6;simp only [BB.blk,ρ,τ] at hy ⊢;rcases hy with e|e|e|e|e|e|e
 ·exact Or.inl e
 ·exact Or.inr (Or.inl e)
 ·exact Or.inr (Or.inr (Or.inl e))
 ·exact Or.inr (Or.inr (Or.inr (Or.inl e)))
 ·exact Or.inr (Or.inr (Or.inr (Or.inr (Or.inl e))))
 ·exact Or.inr (Or.inr (Or.inr (Or.inr (Or.inr (Or.inl (hb6 y e))))))
 ·exact Or.inr (Or.inr (Or.inr (Or.inr (Or.inr (Or.inr e)))))
end
theorem V6:(Tryz.prog.info? 26).map (fun i=>(i.zero,i.size,i.bytes))=some (some (.slice none 0 0),1,24):=by kernel_rfl
theorem YR {A:NS} {G:BG} (I:Db A G) (ok:A.Ok):G.R A.hs.length=[]:=by
 cases e:G.R A.hs.length with
 | nil=>rfl
 | cons x t=>
  have hx:x∈G.R A.hs.length:=by rw [e];simp
  obtain ⟨y,_,hy,_,hh,_⟩:=TI I hx;have:=ok.nat y hy;omega
theorem Cb (vs:List Value) (v:Value) (k:Nat):(vs++[v]).getD k undef=if k<vs.length then vs.getD k undef else if k=vs.length then v else undef:=by
 simp only [φ]
 by_cases e:k<vs.length
 ·rw [List.getElem?_append_left e,if_pos e]
 ·rw [List.getElem?_append_right ω,if_neg e]
  by_cases e2:k=vs.length
  ·subst e2;simp
  ·rw [if_neg e2,List.getElem?_eq_none ζ];rfl
section
variable {w:World} {p:Nat} {FF:List Nat} {A:NS} {st:Nat} {G:BG}
theorem NG (h:IB w p FF A st G) :
  Calls Tryz.prog 179 #[.pointer (some ⟨p,0,none⟩)] w fun e w'=>e=.returned (.int .i64 (dF A))/\Goes FF w w' (fun Kw=>IB w' p Kw (aQ A) st G):=by
 obtain ⟨⟨B,F,gr,cr,lo,S,vs,rfl,rfl,M,eF⟩,I⟩:=h;have k:=iX M.cells;have h0:=M.h0;have I2:=Va I
 by_cases hl:65536<A.hs.length
 ·have e1:dF A=0:=by unfold dF;rw [if_pos hl]
  have e2:aQ A=A:=by unfold aQ;rw [if_pos hl]
  rw [e1,e2] at k;rw [e1,e2];have HM:=χ M;have HI:=χ (ψ I eF);clear M I eF e1 e2 I2
  go_enter Tryz.func179,Tryz.ntmps179
  go_wp2_with ((go_at_call 156;(with_reducible refine (k).mono ?_));rintro e w1 ⟨rfl,F1,hC,hu,hF⟩)
  go_ret;refine ⟨rfl,B.blk F1 gr A.cs.length S vs,⟨⟨B,F1,gr,cr,lo,S,vs,rfl,rfl,HM.out.dB hu hC hF rfl rfl,HI.out.2⟩,HI.out.1⟩,hu.mono yu,fun y hy=>?_⟩;simp only [BB.blk,ρ,τ] at hy ⊢;rcases hy with e|e|e|e|e|e|e
  ·exact Or.inl (Or.inl e)
  ·exact Or.inl (Or.inr (Or.inl e))
  ·exact Or.inl (Or.inr (Or.inr (Or.inl e)))
  ·exact Or.inl (Or.inr (Or.inr (Or.inr (Or.inl e))))
  ·rcases hF y e with h'|h'
   ·exact Or.inl (Or.inr (Or.inr (Or.inr (Or.inr (Or.inl h')))))
   ·exact Or.inr h'
  ·exact Or.inl (Or.inr (Or.inr (Or.inr (Or.inr (Or.inr (Or.inl e))))))
  ·exact Or.inl (Or.inr (Or.inr (Or.inr (Or.inr (Or.inr (Or.inr e))))))
 ·have e1:dF A=A.hs.length:=by unfold dF;rw [if_neg hl]
  rw [e1] at k;rw [e1];have hcs:(aQ A).cs.length=A.cs.length:=by rw [Mf]
  have lX:(aQ A).hs.length=A.hs.length+1:=by unfold aQ;rw [if_neg hl];simp
  have hh0:=M.cells.ok.h0;have hvl:vs.length<=65536:=by rw [M.len];omega
  have hlen:=M.len;have hpos:(0:Int)<(A.hs.length:Int):=ω;have HM:=χ M;have HI:=χ (ψ I2 (ψ eF (ψ (YR I M.cells.ok) hlen)));clear M I e1 I2 eF hlen
  go_enter Tryz.func179,Tryz.ntmps179
  go_wp2_with (first
   | ((go_at_call 156;(with_reducible refine (k).mono ?_));rintro e w1 ⟨rfl,F1,hC,hu,hF⟩;(have d3:=hu.kept HM.out.h2 HM.out.d1.1);(have f3:=hu.aR HM.out.h2 HM.out.d1.1 (HM.out.head.free 2));(have ho1:=aF HM.out.rows hu (fun g hg=>by simp [Value.ownBlock] at hg;subst hg;exact HM.out.d1.2.2.2));(have g0:B.n0≠gr:=HM.out.d2.2.2.1);(have gl:=Nat.lt_of_lt_of_le HM.out.E8 hu.size))
   | ((at_builtin;refine aW rfl _ _ 51 rfl 0 26 (.slice none 0 0) 1 24 Tryz.underlying51 V6 rfl δ _ _ _ rfl (ho1) [.slice none 0 0] rfl (by simp [Value.oneCell']) (by first|rfl|(rw [World.size_alloc];rfl)) μ ω ω ?_;intro v2 w2 ho2 hu2 mW);(have hu2:aa [gr] w1 w2:=hu2);obtain ⟨EW,cr1,ev,_⟩:=gM ho2 ω;subst ev;(have d4:=hu2.kept d3 ζ);(have f4:=hu2.aR d3 ζ f3)))
  go_ret;have hM:=HM.out;have hlt:=hM.lt;have f:=hM.d1;have q:=hM.d2;have hws:=hu.size;have hw3:aa [B.n0] w2 (w2.setCell ⟨B.n0,2,none⟩ (.slice (some ⟨EW,0,none⟩) (vs.length+1) cr1)):=β;have hg1:EW=gr\/w1.heap.size<EW:=by
   rcases mW with h|h
   ·exact Or.inl (Option.some.inj h)
   ·exact Or.inr (h EW rfl)
  have jD:=hC.lt;have l0:=hlt B.n0 (by simp [BB.blk]);have l1:=hlt B.bt (by simp [BB.blk]);have l2:=hlt B.ba (by simp [BB.blk]);have l4:=hM.E8;have hnF:∀y,y<w.heap.size->y∉F->y∉F1:=fun y hy hn hm=>by rcases hF y hm with h'|h';exact hn h';omega
  have EY:EW∉F1:=by
   rcases hg1 with e|e
   ·rw [e];exact hnF gr l4 f.2.2.2
   ·exact fun hm=>by have:=jD EW hm;omega
  have hgn:∀y,y<w.heap.size->y≠gr->y≠EW:=fun y hy hn e=>by
   rcases hg1 with e2|e2
   ·exact hn (e.trans e2)
   ·omega
  have hcs:=hcs;have hv:(vs++[Value.slice none 0 0]).length=vs.length+1:=σ;have hin:=HI.out.2.2.1;have hhd:=((hM.head.upd hu f.1).upd hu2 ζ).set 2 (.slice (some ⟨EW,0,none⟩) (vs.length+1) cr1);have UI:∀j,j<vs.length+1->∀g,((vs++[Value.slice none 0 0]).getD j undef).ownBlock=some g->j<vs.length/\(vs.getD j undef).ownBlock=some g:=fun j hj g hg=>by
   rw [Cb] at hg
   by_cases e:j<vs.length
   ·rw [if_pos e] at hg;exact ⟨e,hg⟩
   ·rw [if_neg e,if_pos ω] at hg;cases hg
  have hBM:jc (w2.setCell ⟨B.n0,2,none⟩ (.slice (some ⟨EW,0,none⟩) (vs.length+1) cr1)) B F1 EW cr1 lo (aQ A) st S (vs++[.slice none 0 0]) G.R:=by
   refine ⟨?_,?_,?_,?_,by rw [hv,lX,HI.out.2.2.2],fun j hj=>?_,⟨hnF _ l0 f.1,hnF _ l1 f.2.1,hnF _ l2 f.2.2.1,EY⟩,⟨q.1,q.2.1,hgn _ l0 q.2.2.1,hgn _ l1 q.2.2.2.1,hgn _ l2 q.2.2.2.2⟩,fun g hg=>?_,fun j g hj hg=>?_,fun j k g hj hk hne hg=>?_⟩
   ·rw [hv];refine hhd.ext (fun j hj=>?_);rcases (ω:j=0\/j=1\/j=2) with rfl|rfl|rfl<;>rfl
   ·exact (hC.upd hu2 (fun y hy=>by simp at hy;rw [hy];exact hnF gr l4 f.2.2.2)).upd hw3 (fun y hy=>by simp at hy;rw [hy];exact hnF _ l0 f.1)
   ·rw [hcs];exact ((hM.jw.upd hu f.2.1 f.2.2.1 (fun g hg=>(hM.d3 g hg).2.2)).upd hu2 (by simp;exact q.2.2.2.1) (by simp;exact q.2.2.2.2) (fun g hg hm=>by simp at hm;exact (hM.d3 g hg).2.1 hm)).upd hw3 (by simp;exact Ne.symm q.1) (by simp;exact Ne.symm q.2.1) (fun g hg hm=>by simp at hm;exact (hM.d3 g hg).1 hm)
   ·rw [hv];refine aF (l8 ho2 (Nat.zero_le _)) hw3 (fun g hg hm=>?_);simp [Value.ownBlock] at hg hm;exact hgn _ l0 q.2.2.1 ω
   ·rw [hv] at hj;rw [Cb]
    by_cases e:j<vs.length
    ·rw [if_pos e];exact (((hM.each j e).upd hu (fun g hg=>(hM.d4 j g e hg).2.2.2.2.1)).upd hu2 (fun g hg hm=>by simp at hm;exact (hM.d4 j g e hg).2.2.2.1 hm)).upd hw3 (fun g hg hm=>by simp at hm;exact (hM.d4 j g e hg).1 hm)
    ·obtain rfl:j=vs.length:=ω;rw [if_neg e,if_pos rfl,HI.out.2.2.2,hin];exact bq.nil _ _
   ·rw [hcs] at hg;have:=hM.d3 g hg;have hgl:=(hM.jw.nU hg).2;exact ⟨this.1,hgn g hgl this.2.1,hnF g hgl this.2.2⟩
   ·rw [hv] at hj;obtain ⟨e,hg⟩:=UI j hj g hg;have:=hM.d4 j g e hg;have hgl:=hM.xI e hg;rw [hcs];exact ⟨this.1,this.2.1,this.2.2.1,hgn g hgl this.2.2.2.1,hnF g hgl this.2.2.2.2.1,this.2.2.2.2.2⟩
   ·rw [hv] at hj hk;obtain ⟨e,hg⟩:=UI j hj g hg;intro h2;obtain ⟨e2,h2⟩:=UI k hk g h2;exact hM.d5 j k g e e2 hne hg h2
  refine ⟨rfl,B.blk F1 EW (aQ A).cs.length S (vs++[.slice none 0 0]),⟨⟨B,F1,EW,cr1,lo,S,_,rfl,rfl,hBM,HI.out.2.1⟩,HI.out.1⟩,((hu.mono yu).trans (hu2.mono (fun y hy=>by simp at hy;subst hy;simp [BB.blk]))).trans (hw3.mono (fun y hy=>by simp at hy;subst hy;simp [BB.blk])),fun y hy=>?_⟩;rw [hcs] at hy;simp only [BB.blk,ρ,τ] at hy ⊢;rcases hy with e|e|e|e|e|e|e
  ·exact Or.inl (Or.inl e)
  ·exact Or.inl (Or.inr (Or.inl e))
  ·exact Or.inl (Or.inr (Or.inr (Or.inl e)))
  ·rcases hg1 with e2|e2
   ·exact Or.inl (Or.inr (Or.inr (Or.inr (Or.inl (e.trans e2)))))
   ·exact Or.inr ω
  ·rcases hF y e with h'|h'
   ·exact Or.inl (Or.inr (Or.inr (Or.inr (Or.inr (Or.inl h')))))
   ·exact Or.inr h'
  ·exact Or.inl (Or.inr (Or.inr (Or.inr (Or.inr (Or.inr (Or.inl e))))))
  ·obtain ⟨j,hj,hg⟩:=jJ.1 e;rw [hv] at hj;obtain ⟨e3,hg⟩:=UI j hj y hg;exact Or.inl (Or.inr (Or.inr (Or.inr (Or.inr (Or.inr (Or.inr (jJ.2 ⟨j,e3,hg⟩)))))))
end
theorem QS (n:Nat) (w:World) (h:n<=65536) :
  Calls Tryz.prog 94 #[.int .i64 (n:Int)] w fun e w'=>∃p FF,e=.returned (.tuple #[.pointer (some ⟨p,0,none⟩),.int .i64 0])/\IB w' p FF (NS.new n) 0 BG.none/\aa [] w w'/\∀x,x∈FF->w.heap.size<=x:=by
 have k:=oh n w h;have kc:=fun W=>DY n W h
 go_enter Tryz.func94,Tryz.ntmps94
 go_wp2_with (first
  | ((go_at_call 107;(with_reducible refine (k).mono ?_));rintro e w1 ⟨c,F,rfl,hC,hu1,hF⟩)
  | ((go_at_call 109;(with_reducible refine (kc _).mono ?_));rintro e w2 ⟨bt,ba,rfl,hFo,hu2,hbt,Pg⟩))
 go_ret2;have hn:(NS.new n).cs.length=n:=by simp [NS.new]
 obtain ⟨w3,hw3⟩:∃w3,w3=w2.alloc (.cells #[.slice none 0 0] 26):=⟨_,rfl⟩;have hs3:w3.heap.size=w2.heap.size+1:=by rw [hw3];simp
 have u3:aa [] w2 w3:=by rw [hw3];exact (aa.refl _ _).alloc _
 have o3:w3.ownsRow 0 26 1 (.slice (some ⟨w2.heap.size,0,none⟩) 1 1) 1 [.slice none 0 0]:=by rw [hw3];exact qB w2 [.slice none 0 0] 26 0 1 1 rfl (Nat.zero_le _) μ
 rw [←hw3];have hR:=eH w3 [Value.pointer (some ⟨c,0,none⟩),.pointer (some ⟨bt,0,none⟩),.slice (some ⟨w2.heap.size,0,none⟩) 1 1] 212;rw [hs3] at hR;have u4:aa [] w3 (w3.alloc (.cells #[.pointer (some ⟨c,0,none⟩),.pointer (some ⟨bt,0,none⟩),.slice (some ⟨w2.heap.size,0,none⟩) 1 1] 212)):=(aa.refl _ _).alloc _;have z1:=hu1.size;have z2:=hu2.size;have Lh:=hC.lt;have hb1:=hFo.head.lt;have hb2:=hFo.row.lt;have hFn:∀y,w1.heap.size<=y->y∉F:=fun y hy hm=>by have:=Lh y hm;omega
 have hno:∀m g,g∉CS.none.blk m:=fun m g hg=>by
  obtain ⟨y,_,e⟩:=(CS.j6 _ m g).1 hg;cases e
 have hv0:∀h,h < [Value.slice none 0 0].length->[Value.slice none 0 0].getD h undef=Value.slice none 0 0:=fun h hh=>by
  have:h=0:=by simp at hh;omega
  subst this;rfl
 have hBM:jc (w3.alloc (.cells #[.pointer (some ⟨c,0,none⟩),.pointer (some ⟨bt,0,none⟩),.slice (some ⟨w2.heap.size,0,none⟩) 1 1] 212)) ⟨w2.heap.size+1,c,bt,ba⟩ F w2.heap.size 1 w2.heap.size (NS.new n) 0 CS.none [.slice none 0 0] BG.none.R:=by
  refine ⟨hR,hC.aA (hu2.trans (u3.trans u4)),by rw [hn];exact hFo.aA (u3.trans u4),aF o3 u4 σ,rfl,fun h hh=>by rw [hv0 h hh];exact bq.nil _ _,⟨hFn _ (by simp only;omega),hFn _ (by simp only;omega),hFn _ (by simp only;omega),hFn _ ω⟩,⟨?_,?_,?_,?_,?_⟩,fun g hg=>absurd hg (hno _ g),fun h g hh hg=>(by rw [hv0 h hh] at hg;cases hg),fun h k g hh hk _ hg=>(by rw [hv0 h hh] at hg;cases hg)⟩
  all_goals simp only;omega
 refine ⟨w2.heap.size+1,_,by simp [hs3],⟨⟨⟨w2.heap.size+1,c,bt,ba⟩,F,w2.heap.size,1,w2.heap.size,CS.none,[.slice none 0 0],rfl,rfl,hBM,rfl⟩,YK n⟩,hu1.trans (hu2.trans (u3.trans u4)),fun y hy=>?_⟩;simp only [BB.blk,ρ,τ] at hy;rcases hy with e|e|e|e|e|e|e
 ·omega
 ·omega
 ·omega
 ·omega
 ·exact hF y e
 ·exact absurd e (hno _ y)
 ·obtain ⟨j,hj,hg⟩:=jJ.1 e;rw [hv0 j hj] at hg;cases hg
theorem Gc (p c:Nat):∀W:World,W.cell? ⟨p,0,none⟩=some (.pointer (some ⟨c,0,none⟩))->(method 429 174 (.pointer (some ⟨p,0,none⟩)) "Has").run Tryz.prog W=.ok (139,.pointer (some ⟨c,0,none⟩)) W:=(by intro W h;unfold method;have hm:∃m,(Array.find? (fun x=>x.name == "Has") Tryz.t174.methods)=some m/\m.path.toList=[⟨212,0,true⟩]/\m.func=some (139,true)/\m.path.isEmpty=false:=⟨(Array.find? (fun x=>x.name == "Has") Tryz.t174.methods).get!,by kernel_rfl,by kernel_rfl,by kernel_rfl,by kernel_rfl⟩;obtain ⟨m,h1,h2,h3,h4⟩:=hm;go_simp;simp only [follow,Place.get];go_simp;(try unfold receiverAt);(try simp only [Place.get]);(try go_simp))
theorem BL (p c:Nat):∀W:World,W.cell? ⟨p,0,none⟩=some (.pointer (some ⟨c,0,none⟩))->(method 429 174 (.pointer (some ⟨p,0,none⟩)) "Entry").run Tryz.prog W=.ok (137,.pointer (some ⟨c,0,none⟩)) W:=(by intro W h;unfold method;have hm:∃m,(Array.find? (fun x=>x.name == "Entry") Tryz.t174.methods)=some m/\m.path.toList=[⟨212,0,true⟩]/\m.func=some (137,true)/\m.path.isEmpty=false:=⟨(Array.find? (fun x=>x.name == "Entry") Tryz.t174.methods).get!,by kernel_rfl,by kernel_rfl,by kernel_rfl,by kernel_rfl⟩;obtain ⟨m,h1,h2,h3,h4⟩:=hm;go_simp;simp only [follow,Place.get];go_simp;(try unfold receiverAt);(try simp only [Place.get]);(try go_simp))
theorem Sm (p:Nat):∀W:World,(method 429 174 (.pointer (some ⟨p,0,none⟩)) "Make").run Tryz.prog W=.ok (179,.pointer (some ⟨p,0,none⟩)) W:=fun _=>by kernel_rfl
theorem Je (p:Nat):∀W:World,(method 429 174 (.pointer (some ⟨p,0,none⟩)) "Insert").run Tryz.prog W=.ok (178,.pointer (some ⟨p,0,none⟩)) W:=fun _=>by kernel_rfl
theorem VI (p:Nat):∀W:World,(method 429 174 (.pointer (some ⟨p,0,none⟩)) "Min").run Tryz.prog W=.ok (181,.pointer (some ⟨p,0,none⟩)) W:=fun _=>by kernel_rfl
theorem GM (p:Nat):∀W:World,(method 429 174 (.pointer (some ⟨p,0,none⟩)) "Extract").run Tryz.prog W=.ok (177,.pointer (some ⟨p,0,none⟩)) W:=fun _=>by kernel_rfl
theorem EF (p:Nat):∀W:World,(method 429 174 (.pointer (some ⟨p,0,none⟩)) "Decrease").run Tryz.prog W=.ok (175,.pointer (some ⟨p,0,none⟩)) W:=fun _=>by kernel_rfl
theorem xz {w w':World} {p:Nat} {F S:List Nat} {A:NS} {st:Nat} {G:BG} (h:IB w p F A st G) (hu:aa S w w') (hS:∀x,x∈S->x∉F):IB w' p F A st G:=by
 obtain ⟨⟨B,F1,gr,cr,lo,S1,vs,rfl,rfl,M,eF⟩,I⟩:=h;exact ⟨⟨B,F1,gr,cr,lo,S1,vs,rfl,rfl,M.upd hu hS,eF⟩,I⟩
theorem ab0 {w:World} {p:Nat} {F:List Nat} {A:NS} {st:Nat} {G:BG} (h:IB w p F A st G):∀x,x∈F->x<w.heap.size:=by
 obtain ⟨⟨B,F1,gr,cr,lo,S1,vs,rfl,rfl,M,eF⟩,I⟩:=h;exact M.lt
theorem acf {w:World} {p:Nat} {F:List Nat} {A:NS} {st:Nat} {G:BG} (h:IB w p F A st G):A.Ok:=by
 obtain ⟨⟨B,F1,gr,cr,lo,S1,vs,rfl,rfl,M,eF⟩,I⟩:=h;exact M.cells.ok
theorem Xe {w:World} {p:Nat} {F:List Nat} {A:NS} {st:Nat} {G:BG} (h:IB w p F A st G):∃c F1,w.cell? ⟨p,0,none⟩=some (.pointer (some ⟨c,0,none⟩))/\aG w c F1 A st:=by
 obtain ⟨⟨B,F1,gr,cr,lo,S1,vs,rfl,rfl,M,eF⟩,I⟩:=h;exact ⟨B.c,F1,M.h0,M.cells⟩
def BnQ (w:World) (p:Nat) (F:List Nat) (A:NS):Prop:=∃st G,IB w p F A st G
noncomputable def yN:gV where
 ty:=174
 at_:=BnQ
 upd:=fun h hu hS=>by
  obtain ⟨st,G,hL⟩:=h;exact ⟨st,G,xz hL hu hS⟩
 lt:=fun h=>by
  obtain ⟨st,G,hL⟩:=h;exact ab0 hL
 ok:=fun h=>by
  obtain ⟨st,G,hL⟩:=h;exact acf hL
 make:=fun {w p F A} h=>by
  obtain ⟨st,G,hL⟩:=h;refine aZ 179 (fun _ _=>by kernel_rfl) (Sm _) (fun W hW=>?_);refine (NG (xz hL hW σ)).mono ?_;rintro e w' ⟨rfl,F',hA,hu,hf⟩;exact ⟨rfl,F',⟨_,_,hA⟩,hu,hf⟩
 insert:=fun {w p F A} g y k s hk hB h=>by
  obtain ⟨st,G,hL⟩:=h;refine aZ 178 (fun _ _=>by kernel_rfl) (Je _) (fun W hW=>?_);refine (Iw (xz hL hW σ) g y k s hk hB).mono ?_;rintro e w' ⟨rfl,F',hA,hu,hf⟩;exact ⟨rfl,F',⟨_,_,hA⟩,hu,hf⟩
 min:=fun {w p F A} y hB h=>by
  obtain ⟨st,G,hL⟩:=h;refine aZ 181 (fun _ _=>by kernel_rfl) (VI _) (fun W hW=>?_);have mF:=xz hL hW σ;obtain ⟨⟨B,F1,gr,cr,lo,S1,vs,rfl,rfl,M,eF⟩,I⟩:=mF;refine (FM M I (y:Int)).mono ?_;rintro e w' ⟨rfl,hM2,hu⟩;exact ⟨rfl,Goes.stay ⟨_,_,⟨B,F1,gr,cr,lo,S1,vs,rfl,rfl,hM2,eF⟩,I⟩ (hu.mono (fun y hy=>by simp at hy;subst hy;exact yu _ M.cells.mem))⟩
 extract:=fun {w p F A} y m hm h=>by
  obtain ⟨st,G,hL⟩:=h;refine aZ 177 (fun _ _=>by kernel_rfl) (GM _) (fun W hW=>?_);have mF:=xz hL hW σ;have e2:uL A (y:Int)=bz A (m:Int):=by unfold uL;rw [hm]
  have k:=EA mF (y:Int);rw [e2,hm] at k;refine k.mono ?_;rintro e w' ⟨rfl,F',hA,hu,hf⟩;exact ⟨rfl,F',⟨_,_,hA⟩,hu,hf⟩
 mV:=fun {w p F A} y k s hk hB h=>by
  obtain ⟨st,G,hL⟩:=h;refine aZ 175 (fun _ _=>by kernel_rfl) (EF _) (fun W hW=>?_);have mF:=xz hL hW σ;refine (PK mF y k s hk hB).mono ?_;rintro e w' ⟨rfl,F',hA,hu,hf⟩;exact ⟨rfl,F',⟨_,_,hA⟩,hu,hf⟩
 has:=fun x h=>by
  obtain ⟨st,G,hL⟩:=h;obtain ⟨c,F1,h0,hC⟩:=Xe hL;exact iT 139 (fun _ _=>by kernel_rfl) h0 (Gc _ _) (fun W hW=>jN (hC.aA hW) x)
 entry:=fun {w p F A} x h=>by
  obtain ⟨st,G,hL⟩:=h;obtain ⟨c,F1,h0,hC⟩:=Xe hL;refine iT 137 (fun _ _=>by kernel_rfl) h0 (BL _ _) (fun W hW=>?_);cases hin:bX A x with
  | false=>simpa using mi (hC.aA hW) x hin
  | true=>
   obtain ⟨y,rfl⟩:=qD hin;simpa using kN (hC.aA hW) y hin
theorem JQ (p:Nat) (w:World):Calls Tryz.prog 93 #[.pointer (some ⟨p,0,none⟩),.int .i64 0] w fun e w'=>e=.returned (.tuple #[.iface 174 (.pointer (some ⟨p,0,none⟩)),.int .i64 0])/\w'=w:=by
 go_enter Tryz.func93,Tryz.ntmps93
 go_wp2;go_ret2;exact ⟨rfl,rfl⟩
theorem RP (n:Nat) (hn:n<=65536):oW yN 3 0 n:=by
 intro w;have kn:=fun W=>QS n W hn;have km:=JQ;have hty:yN.ty=174:=rfl;have hat:∀w' p FF,IB w' p FF (NS.new n) 0 BG.none->yN.at_ w' p FF (NS.new n):=fun w' p FF h=>⟨_,_,h⟩
 generalize yN=K at *;rw [hty]
 go_enter Tryz.func81,Tryz.ntmps81
 go_wp2_with (first
  | ((go_at_call 94;(with_reducible refine (kn _).mono ?_));rintro e w1 ⟨pn,FF,rfl,hS,hu1,hf⟩)
  | ((go_at_call 93;(with_reducible refine (km _ _).mono ?_));rintro e w2 ⟨rfl,rfl⟩)
  | fail)
 go_ret2;exact ⟨pn,FF,rfl,hat _ _ _ hS,aa.trans β hu1,fun x hx=>by have:=hf x hx;simp at this;omega⟩
end Go.Proofs.YtklibcncmbofpaaGreat
