/-
  Lemmas for PqSorts: Fb5, Fb6, Fb8, Fb9, FbN. Conditions: those of each lemma.
-/
import Derived.Test.YtnpdakpagnpanaaGreatA06
import Derived.Test.YtnpdakpagnpanaaGreatA12
set_option linter.all false
set_option maxHeartbeats 8000000
set_option maxRecDepth 10000
namespace Go.Proofs.YtnpdakpagnpanaaGreat
open Go Go.RowKit
def qL (w:World) (p:Nat) (FF:List Nat) (A:NS) (st:Nat) (G:FG):Prop:=(∃B F gt ct,p=B.n0/\FF=B.blk F gt/\dX w B F gt ct A st G)/\wE A G
theorem je {B:FB} {F:List Nat} {gt:Nat}:∀x,x∈F->x∈B.blk F gt:=λx hx=>by simp [FB.blk,hx]
theorem RN {w:World} {B:FB} {F F':List Nat} {gt:Nat} (hF:∀x,x∈F'->x∈F\/w.heap.size<=x):∀x,x∈B.blk F' gt->x∈B.blk F gt\/w.heap.size<=x:=λx hx=>by
 simp only [FB.blk,ρ] at hx ⊢;rcases hx with e|e|e|e|e|e|e
 ·exact Α (Α e)
 ·exact Α (Β (Α e))
 ·exact Α (Β (Β (Α e)))
 ·exact Α (Β (Β (Β (Α e))))
 ·exact Α (Β (Β (Β (Β (Α e)))))
 ·exact Α (Β (Β (Β (Β (Β (Α e))))))
 ·rcases hF x e with h|h
  ·exact Α (Β (Β (Β (Β (Β (Β h))))))
  ·exact Β h
section
variable {w:World} {p:Nat} {FF:List Nat} {A:NS} {st:Nat} {G:FG}
theorem qL.upd {w':World} {S:List Nat} (h:qL w p FF A st G) (hu:aa S w w') (hS:∀x,x∈S->x∉FF):qL w' p FF A st G:=by
 obtain ⟨⟨B,F,gt,ct,rfl,rfl,M⟩,I⟩:=h;exact ⟨⟨B,F,gt,ct,rfl,rfl,M.upd hu hS⟩,I⟩
theorem qL.ai {w':World} (h:qL w p FF A st G) (hu:aa [] w w'):qL w' p FF A st G:=h.upd hu σ
theorem qL.lt (h:qL w p FF A st G):∀x,x∈FF->x<w.heap.size:=by
 obtain ⟨⟨B,F,gt,ct,rfl,rfl,M⟩,I⟩:=h;exact M.lt
theorem qL.ok (h:qL w p FF A st G):A.Ok:=by
 obtain ⟨⟨B,F,gt,ct,rfl,rfl,M⟩,I⟩:=h;exact M.cells.ok
theorem qL.mH (h:qL w p FF A st G):st<=4611686018427387904:=by
 obtain ⟨⟨B,F,gt,ct,rfl,rfl,M⟩,I⟩:=h;exact M.cells.mH
theorem qL.cl (h:qL w p FF A st G):∃c F1,w.cell? ⟨p,0,none⟩=some (.pointer (some ⟨c,0,none⟩))/\aB w c F1 A st/\c∈FF:=by
 obtain ⟨⟨B,F,gt,ct,rfl,rfl,M⟩,I⟩:=h;exact ⟨B.c,F,M.h0,M.cells,je _ M.cells.mem⟩
theorem Ip (I:wE A G) (ok:A.Ok) {q:Int} {m:Nat} (hm:dM A q=some m):∃ (h:Nat) (s:List Nat),q=h/\1<=h/\h<A.hs.length/\G.R h=m::s/\0<bU A q:=by
 obtain ⟨m1,m2⟩:=I.qF hm;have hx:(A.c m).i=(q.toNat:Int):=m1.2.2;have hnat:=ok.nat m m1.1;refine ⟨q.toNat,?_⟩;have hmem:=((I.fr.all q.toNat).2.1 m).2 ⟨m2,m1⟩;cases hR:G.R q.toNat with
 | nil=>rw [hR] at hmem;cases hmem
 | cons t s=>
  have:=(I.lZ hR).1;rw [show ((q.toNat:Nat):Int)=q by omega,hm] at this
  injection this with this
  subst this;exact ⟨s,ω,m2,ω,rfl,fw.2 ⟨m,m1.1,ω,ω⟩⟩
theorem CU (h:qL w p FF A st G) (q:Int) (Tz:-9223372036854775808<=q/\q<=9223372036854775807) :
  Calls Tryz.prog 214 #[.pointer (some ⟨p,0,none⟩),.int .i64 q] w λe w'=>e=.returned (.tuple #[.int .i64 (pK (dM A q)),.bool (dM A q).isSome])/\w'=w:=by
 obtain ⟨⟨B,F,gt,ct,rfl,rfl,M⟩,I⟩:=h;have h0:=M.h0;have kl:=nJ M.cells q Tz;cases hm:dM A q with
 | none=>
  rw [gI.1 hm] at kl;clear M I hm
  go_enter Tryz.func214,Tryz.ntmps214
  go_wp2_with ((go_at_call 126;(with_reducible refine (kl).mono ?_);rintro e w9 ⟨rfl,aH⟩;rw [aH];clear aH w9))
  go_ret2;exact ⟨rfl,rfl⟩
 | some m=>
  obtain ⟨hh,s,rfl,h1,hl,hR,hp⟩:=Ip I M.cells.ok hm;have h3:=M.h3;have ht:=M.top hl;rw [hR] at ht;have ht':w.cell? ⟨gt,hh,none⟩=some (.int .i64 (m:Int)):=ht;have hcap:=M.cap;have hlI:(hh:Int)<(A.hs.length:Int):=ω;have hne:(((bU A (hh:Int):Nat):Int) == 0)=false:=ζ;generalize bU A (hh:Int)=ln at *;clear M I hm hR ht
  go_enter Tryz.func214,Tryz.ntmps214
  go_wp2_with ((go_at_call 126;(with_reducible refine (kl).mono ?_);rintro e w9 ⟨rfl,aH⟩;rw [aH];clear aH w9))
  go_ret2;exact ⟨rfl,rfl⟩
theorem DD (h:qL w p FF A st G) (q x:Nat) (k s:Int) (hk:-9223372036854775808<=k/\k<=9223372036854775807/\0<=s/\s<=18446744073709551615) (hB:nX A q x=true) :
  Calls Tryz.prog 211 #[.pointer (some ⟨p,0,none⟩),.int .i64 (q:Int),.int .i64 (x:Int),.agg #[.int .i64 k,.int .u64 s]] w λe w'=>e=.returned (.bool true)/\
   Goes FF w w' (λBD=>qL w' p BD (aG A q x k s) (bS st (nG q G)) (NR (aG A q x k s) q x G)):=by
 obtain ⟨⟨B,F,gt,ct,rfl,rfl,M⟩,I⟩:=h;have ok:=M.cells.ok;obtain ⟨I2,_,_,_,h1,hx,hin,hti,hcs⟩:=Vk I ok k s hB;have iN:(aG A q x k s).hs.length=A.hs.length:=by unfold aG;split;rfl;rfl
 have Zy:q<(aG A q x k s).hs.length:=by
  rw [iN];have:=(aA _ _).1 ((dP _ _ _).1 hB).1;omega
 have u1:aa [] w (w.alloc (.cells #[.int .i64 k,.int .u64 s] 97)):=(aa.refl _ _).alloc _;have kp:=λW (hW:aa [] (w.alloc (.cells #[.int .i64 k,.int .u64 s] 97)) W)=>lS (M.cells.ai (u1.trans hW)) q x k s hk hB;have h0:=M.h0;have Nj:B.n0∉F:=M.d1.1;have hsz:w.heap.size∉F:=λhm=>by have:=M.cells.lt _ hm;omega
 have r0:∀W,aa F (w.alloc (.cells #[.int .i64 k,.int .u64 s] 97)) W->W.cell? ⟨B.n0,0,none⟩=some (.pointer (some ⟨B.c,0,none⟩)):=λW hW=>hW.kept (u1.was h0) Nj;have r1:∀W,aa F (w.alloc (.cells #[.int .i64 k,.int .u64 s] 97)) W->W.cell? ⟨w.heap.size,0,none⟩=some (.int .i64 k):=λW h=>h.kept σ hsz;have r2:∀W,aa F (w.alloc (.cells #[.int .i64 k,.int .u64 s] 97)) W->W.cell? ⟨w.heap.size,1,none⟩=some (.int .u64 s):=λW h=>h.kept σ hsz;have ka:=λ(W:World) (hM:dX W B F gt ct (aG A q x k s) st G)=>vI hM [] Zy hin hti;have HM:=χ (ψ M (ψ iN hcs));have HI:=χ I2
 clear M I ok I2 hin hti Zy hx hcs iN h0 hB
 go_enter Tryz.func211,Tryz.ntmps211
 go_wp2
 go_region_held3 (aa F (w.alloc (.cells #[.int .i64 k,.int .u64 s] 97))) (exact ν)
  (first
   | ((go_at_call 138;(with_reducible refine (kp _ β).mono ?_));rintro e w1 ⟨rfl,gK,hu1⟩;(have hu2:aa F (w.alloc (.cells #[.int .i64 k,.int .u64 s] 97)) w1:=ν)))
 have uF:aa F w w1:=(u1.mono σ).trans hu2;have hM1:=HM.out.1.dV uF gK (λy hy=>Α hy) HM.out.2.2 HM.out.2.1;have TB:=λ(W:World) (hW:aa [] w1 W)=>ka W (hM1.ai hW);have HU:=χ uF;have hcm:=HM.out.1.cells.mem;clear kp r0 r1 r2 hM1 ka uF hu2 gK hu1
 go_wp2_with (first
  | ((go_at_call 220;(with_reducible refine (TB _ β).mono ?_));rintro e w2 ⟨rfl,hM2,hu3⟩)
  | fail)
 go_ret;refine ⟨rfl,B.blk F gt,⟨⟨B,F,gt,ct,rfl,rfl,hM2⟩,HI.out⟩,(HU.out.mono je).trans ((β:aa _ w1 _).trans (hu3.mono (λy hy=>?_))),λy hy=>Α hy⟩;simp only [ρ,ς,or_false] at hy;rcases hy with e|e|e|e
 ·rw [e];exact je _ hcm
 all_goals simp [FB.blk,e]
theorem JU (h:qL w p FF A st G) (a b:Nat) (hj:fQ A a b=true) :
  Calls Tryz.prog 213 #[.pointer (some ⟨p,0,none⟩),.int .i64 (a:Int),.int .i64 (b:Int)] w λe w'=>e=.returned (.bool true)/\
   Goes FF w w' (λBD=>qL w' p BD (ah A a b) (bS st (NB a b G)) (tF (ah A a b) a b G)):=by
 obtain ⟨⟨B,F,gt,ct,rfl,rfl,M⟩,I⟩:=h;have hst:=M.cells.mH;obtain ⟨I2,_,_,_,_,hab,hin⟩:=UL I M.cells.ok hj;have kj:=jQ M.cells a b hj;have hcs:=dA A a b;obtain ⟨j1,j2,j3⟩:=(cO _ _ _).1 hj;have a4:=(aA _ _).1 j1;have b4:=(aA _ _).1 j2;have iN:(ah A a b).hs.length=A.hs.length:=by unfold ah;rw [Δ hj];simp
 have hal:a<(ah A a b).hs.length:=ω;have hbl:b<(ah A a b).hs.length:=ω;have h0:=M.h0;have HM:=χ (ψ M (ψ iN hcs));have HI:=χ I2;have hcm:=M.cells.mem;cases hR:G.R b with
 | nil=>
  have eq:NB a b G=0:=by unfold NB;rw [Δ hR]
  have eg:tF (ah A a b) a b G={ G with R:=ae G.R b [] }:=by unfold tF;rw [hR]
  rw [eg] at HI;rw [eq,eg,fB hst];have k2:=λW (hC:aB W B.c F (ah A a b) st) (hu:aa F w W)=>M.dV hu hC (λy hy=>Α hy) hcs iN;have K2:=χ k2;have HR:=χ hR;have hbI:(b:Int)<((ah A a b).hs.length:Int):=ω;have hcap:=M.cap;have hn0:=M.d2.2.2.2.2;clear M I I2 hin hj eq eg k2 hR j1 j2 a4 b4
  go_enter Tryz.func213,Tryz.ntmps213
  go_wp2_with (first
   | ((go_at_call 141;(with_reducible refine (kj).mono ?_));rintro e w1 ⟨rfl,gK,hu1⟩;(have M1:=K2.out _ gK hu1);(have d3:=M1.h3);(have dt:w1.cell? ⟨gt,b,none⟩=some (.int .i64 (-1)):=by (have Ob:=M1.top hbl;rw [HR.out] at Ob;exact Ob));(have df:=M1.ag.free b);(have H1:=χ (ψ M1 hu1));clear M1 gK hu1)
   | fail)
  go_ret;refine ⟨rfl,B.blk F gt,⟨⟨B,F,gt,ct,rfl,rfl,H1.out.1.gY b []⟩,HI.out⟩,(H1.out.2.mono je).setCell (Α (by simp [FB.blk])) _,λy hy=>Α hy⟩
 | cons x r=>
  have eq:NB a b G=nG a G:=by unfold NB;rw [Γ (by rw [hR];simp)]
  have eg:tF (ah A a b) a b G={ eZ (pU (ah A a b)) a (x::r) G with R:=ae (eZ (pU (ah A a b)) a (x::r) G).R b [] }:=by unfold tF;rw [hR]
  rw [eg] at HI;rw [eq,eg];have Yk:=hin x b r hR;have k2:=λW (hC:aB W B.c F (ah A a b) st) (hu:aa F w W)=>M.dV hu hC (λy hy=>Α hy) hcs iN;have kr:=λW (hM:dX W B F gt ct (ah A a b) st G)=>vI hM r hal Yk (λt s' e=>hin t a s' e);have K2:=χ (ψ k2 kr);have HR:=χ hR;have hbI:(b:Int)<((ah A a b).hs.length:Int):=ω;have hcap:=M.cap;have hn0:=M.d2.2.2.2.2;have sD:((x:Int) == -1)=false:=σ;have hRb:(eZ (pU (ah A a b)) a (x::r) G).R b=x::r:=by rw [(lW _ _ _ _).2.2.2 b (Ne.symm hab),hR]
  have HRB:=χ hRb;clear M I I2 hin hj eq eg k2 kr hR j1 j2 a4 b4 Yk hRb
  go_enter Tryz.func213,Tryz.ntmps213
  go_wp2_with (first
   | ((go_at_call 141;(with_reducible refine (kj).mono ?_));rintro e w1 ⟨rfl,gK,hu1⟩;(have M1:=K2.out.1 _ gK hu1);(have d3:=M1.h3);(have dt:w1.cell? ⟨gt,b,none⟩=some (.int .i64 (x:Int)):=by (have Ob:=M1.top hbl;rw [HR.out] at Ob;exact Ob));(have kr1:=K2.out.2 _ M1);(have H1:=χ (ψ M1 hu1));clear M1 gK hu1)
   | ((go_at_call 220;(with_reducible refine (kr1).mono ?_));rintro e w2 ⟨rfl,hM2,hu2⟩;(have d4:=hM2.h3);(have dt2:=hM2.top hbl);(have df2:=hM2.ag.free b);(have H2:=χ (ψ hM2 hu2));clear hM2 hu2)
   | fail)
  go_ret;refine ⟨rfl,B.blk F gt,⟨⟨B,F,gt,ct,rfl,rfl,H2.out.1.gY b []⟩,HI.out⟩,((H1.out.2.mono je).trans (H2.out.2.mono (λy hy=>?_))).setCell (Α (by simp [FB.blk])) _,λy hy=>Α hy⟩;simp only [ρ,ς,or_false] at hy;rcases hy with e|e|e|e
  ·rw [e];exact je _ hcm
  all_goals simp [FB.blk,e]
end
def tailW (a:Option Addr) (n c:Nat):Value:=.slice (if c=1 then a else a.map (·.add 1)) (n-1) (c-1)
theorem Jy (w:World) (a:Option Addr) (n c:Nat) (h1:1<=n) (h2:n<=9223372036854775807) :
  (Instr.slice 77 (.slice a n c) (some (.int .i64 1)) none none).run Tryz.prog w=.ok (tailW a n c) w:=by
 have hs:(sizeOf 3).run Tryz.prog w=.ok 1 w:=by kernel_rfl
 unfold Instr.slice Instr.sliceBounds;simp [run_underlying Tryz.underlying77,go_sem,hs,tailW];intro h;omega
theorem MW {w:World} {F:List Nat} {a:Option Addr} {n c:Nat} {x:Int} {xs:List Int} (h:jc w F (.slice a n c) (x::xs)):jc w F (tailW a n c) xs:=by
 obtain ⟨a',cap,e,h1,h2,h3⟩:=h;cases e;obtain ⟨g,off,rfl,hg,hF,_⟩:=h3 0 x rfl;simp only [Ω] at h1 ⊢;unfold tailW;simp only [Nat.add_sub_cancel];refine ⟨_,_,rfl,ω,ω,λj u hj=>?_⟩;have hjl:j<xs.length:=(List.getElem?_eq_some_iff.1 hj).1;rw [Γ ω];obtain ⟨g2,XQ,he,hg2,hF2,hc⟩:=h3 (j+1) u (by simpa using hj);simp only [ϕ,Addr.mk.injEq,and_true] at he;obtain ⟨rfl,rfl⟩:=he;exact ⟨g,off+1,by simp [Addr.add_lit],hg,hF,by rw [show off+1+j=off+(j+1) by omega];exact hc⟩
theorem jc.turned {w w':World} {F G:List Nat} {v:Value} {xs:List Int} (h:jc w F v xs) (hu:aa G w w') (hG:∀g,g∈G->g∈F\/w.heap.size<=g):jc w' F v xs:=by
 obtain ⟨a,cap,rfl,h1,h2,h3⟩:=h;refine ⟨a,cap,rfl,h1,h2,λj u hj=>?_⟩;obtain ⟨g,off,rfl,hg,hF,hc⟩:=h3 j u hj;exact ⟨g,off,rfl,Ψ hg hu.size,hF,by rw [hu.cell hg (λhm=>(hG _ hm).elim hF (λh'=>by have h2:w.heap.size<=g:=h';omega))];exact hc⟩
theorem jc.fewer {w:World} {F G:List Nat} {v:Value} {xs:List Int} (h:jc w F v xs) (hG:∀g,g∈G->g∈F):jc w G v xs:=by
 obtain ⟨a,cap,rfl,h1,h2,h3⟩:=h;refine ⟨a,cap,rfl,h1,h2,λj u hj=>?_⟩;obtain ⟨g,off,rfl,hg,hF,hc⟩:=h3 j u hj;exact ⟨g,off,rfl,hg,λhm=>hF (hG _ hm),hc⟩
def zM (A:NS) (q:Int) (G:FG):FG:=match dM A q with|some m=>(pO A q.toNat m (kl (G.K m)++(G.R q.toNat).tail) G).1|none=>G
def zB (A:NS) (q:Int) (G:FG):Nat:=match dM A q with|some m=>(qw A q.toNat m (kl (G.K m)++(G.R q.toNat).tail) G).q+(pO A q.toNat m (kl (G.K m)++(G.R q.toNat).tail) G).2|none=>0
theorem Jh (l:List Nat) (x:Nat) (G:FG):rR (l++[x]) G=prt (rR l G) x:=by unfold rR;rw [List.foldl_append];rfl
section
variable {w:World} {p:Nat} {FF:List Nat} {A:NS} {st:Nat} {G:FG}
theorem tX (h:qL w p FF A st G) (q:Int) (Tz:-9223372036854775808<=q/\q<=9223372036854775807) :
  Calls Tryz.prog 210 #[.pointer (some ⟨p,0,none⟩),.int .i64 q] w λe w'=>e=.returned (.tuple #[.int .i64 (pK (dM A q)),.bool (dM A q).isSome])/\
   Goes FF w w' (λBD=>qL w' p BD (pQ A q) (bS st (zB A q G)) (zM A q G)):=by
 have km:=CU h q Tz;have hst:=h.mH;have HK:=χ h;cases hm:dM A q with
 | none=>
  rw [hm] at km;have e1:pQ A q=A:=by unfold pQ;rw [hm]
  have e2:zM A q G=G:=by unfold zM;rw [hm]
  have e3:zB A q G=0:=by unfold zB;rw [hm]
  rw [e1,e2,e3,fB hst];clear h hm e1 e2 e3
  go_enter Tryz.func210,Tryz.ntmps210
  go_wp2_with ((go_at_call 214;(with_reducible refine (km).mono ?_);rintro e w9 ⟨rfl,aH⟩;rw [aH];clear aH w9))
  go_ret2;exact ⟨rfl,Goes.stay HK.out (aa.refl _ _)⟩
 | some m=>
  rw [hm,show pK (some m)=(m:Int) from rfl,show (some m:Option Nat).isSome=true from rfl] at km;have e1:pQ A q=aU A m:=by unfold pQ;rw [hm]
  have e2:zM A q G=(pO A q.toNat m (kl (G.K m)++(G.R q.toNat).tail) G).1:=by unfold zM;rw [hm]
  have e3:zB A q G=(qw A q.toNat m (kl (G.K m)++(G.R q.toNat).tail) G).q+(pO A q.toNat m (kl (G.K m)++(G.R q.toNat).tail) G).2:=by unfold zB;rw [hm]
  rw [e1,e2,e3];obtain ⟨hh,s,rfl,h1,hl,hR,hp⟩:=Ip h.2 h.ok hm;rw [π,hR,List.tail_cons];obtain ⟨⟨XA,XV⟩,T3,yY,Uv,Zo,I4,_,_,_,_,hTy,Li,_⟩:=TU h.2 h.ok hR;obtain ⟨_,hmx,um,hmh,hmin⟩:=h.2.out (h:=hh) (z:=m) (by rw [hR];simp);have O4:=λW F c (hC:aB W c F A (bS st ((qw A hh m (kl (G.K m)++s) G).q+(pO A hh m (kl (G.K m)++s) G).2)))=>fO hC m hmin;obtain ⟨⟨B,F,gt,ct,rfl,rfl,M⟩,I⟩:=h;have WH:=λW (hW:aa [] w W)=>yz (M.ai hW) hmx (I.ff.ring m hmx) (λz hz=>(I.ff.kid m z hmx hz).1);have hlen:(m::(kl (G.K m)++s)).length<=A.cs.length:=iC A.cs.length _ XA.nd XV;have hc1:=M.cells.ok.c1;have hlt:=M.lt
  have hcap:=M.cap;have hhI:(hh:Int)<(A.hs.length:Int):=ω;have iN:=M.cells.ok.h1;have hd:=M.d1;have hd2:=M.d2;have hd3:=M.d3;have hcm:=M.cells.mem;obtain ⟨rs,hrs⟩:∃rs,kl (G.K m)++s=rs:=⟨_,rfl⟩;rw [hrs] at XA XV T3 Uv Zo I4 O4 hlen hTy Li ⊢;obtain ⟨D,hD⟩:∃D,qw A hh m rs G=D:=⟨_,rfl⟩;have hD2:tid (pU A) rs ⟨[],ni hh m rs G,0⟩=D:=hD;have e4:pO A hh m rs G=oL (pU A) hh D.T D.G 0:=by unfold pO;rw [hD]
  rw [hD] at Uv Zo hTy Li O4 ⊢;rw [e4] at I4 O4 ⊢;obtain ⟨R4,WB⟩:∃R4,oL (pU A) hh D.T D.G 0=R4:=⟨_,rfl⟩;rw [WB] at I4 O4 ⊢;have TB:=λW (hW:dX W B F gt ct A st (bf G m))=>Ez hW.rings XA XV;have H0:=χ (ψ XA (ψ XV (ψ T3 (ψ yY (ψ Uv (ψ Zo (ψ I4 (ψ hTy (ψ Li (ψ hD2 WB))))))))));have HD:=χ (ψ hlt (ψ hd (ψ hd2 (ψ hd3 hcm))));have KD:=χ O4;clear M I XA XV T3 yY Uv Zo I4 hR hm e1 e2 e3 hrs hlt hd hd2 hd3 hcm O4 hTy Li hD hD2 e4 WB;have HA:=χ TB;clear TB;rw [Ω] at hlen
  go_enter Tryz.func210,Tryz.ntmps210
  go_wp2_with (first
   | (go_at_call 214;(with_reducible refine (km).mono ?_);rintro e w9 ⟨rfl,aH⟩;rw [aH];clear aH w9)
   | ((go_at_call 216;(with_reducible refine (WH _ β).mono ?_));rintro e w1 ⟨rfl,M1,hu1⟩;(have a1:=HA.out _ M1);(have b1:=M1.h1);(have nC:=χ (ψ M1 hu1));clear M1 hu1 WH)
   | ((go_at_call 218;(with_reducible refine (a1).mono ?_));rintro e w2 ⟨v2,rfl,ho2,hu2⟩;(have hs2:jc w2 (B.blk F gt) v2 (nM (m::rs)):=jc.iO (base:=w1.heap.size) (by rw [j6];exact ho2) (λg hg=>Ψ (HD.out.1 g hg) nC.out.2.size));obtain ⟨x2,c2,hv2,_⟩:=bz ho2;subst hv2;(have b2:=hu2.was b1);obtain ⟨a2',ha2⟩:∃a',tailW x2 (rs.length+1) c2=.slice a' rs.length (c2-1):=⟨_,rfl⟩;(have htl:=λW=>Jy W x2 (rs.length+1) c2 ω ω);rw [ha2] at htl;(have hs3:jc w2 (B.blk F gt) (.slice a2' rs.length (c2-1)) (nM rs):=by (rw [←ha2];exact MW hs2));(have HS2:=χ (ψ hs3 hu2));clear hs3 ha2;(have a2:=HA.out _ (nC.out.1.ai hu2));clear hs2 hu2 ho2 a1 b1)
   | ((go_at_call 218;(with_reducible refine (a2).mono ?_));rintro e w3 ⟨v3,rfl,ho3,hu3⟩;rw [←j6] at ho3;obtain ⟨g3,c3,hv3,hZ3,hb3⟩:=IZ.iO ho3 (by simp [nM]);rw [j6,Ω] at hv3;subst hv3;(have HZ3:=χ (ψ hZ3 (ψ hb3 hu3)));clear ho3 hZ3 hb3 hu3 a2 b2)
   | fail)
  have hlt:=HD.out.1
  go_loopw [38] (λs38 wr=>∃j:Nat,j<=rs.length+1/\s38=.int .i64 (j:Int)/\dX wr B F gt ct A st (rR ((m::rs).take j) (bf G m))/\aa [B.bn,B.bp] w3 wr) (λs38 _=>rs.length+1-(intOf s38).toNat)
  case atStart=>exact ⟨0,ω,rfl,(nC.out.1.ai HS2.out.2).ai HZ3.out.2.2,aa.refl _ _⟩
  case round=>
   obtain ⟨j,hj,rfl,hM,hu⟩:=hrel;rename World=>wr
   by_cases hjl:j<rs.length+1
   ·obtain ⟨y,hy⟩:∃y,(m::rs)[j]?=some y:=⟨_,ε (by simpa using hjl)⟩;have hyn:y<A.cs.length:=H0.out.2.1 y (Η hy);have hg3:g3∉[B.bn,B.bp]:=λhm=>by
     have h3:=HZ3.out.2.1;have h2:=HS2.out.2.size;have h1:=nC.out.2.size;simp at hm;rcases hm with e|e
     ·have:=hlt B.bn (by simp [FB.blk]);omega
     ·have:=hlt B.bp (by simp [FB.blk]);omega
    have hc:=hu.kept (HZ3.out.1.cell j (by rw [j6];simpa using hjl)) hg3;have YC:(nM (m::rs)).getD j 0=(y:Int):=by unfold nM;rw [φ,ϑ,hy];rfl
    rw [YC] at hc;have b1:=hM.h1;have kp:=vT hM.rings hyn;have IW:(j:Int)<(rs.length:Int)+1:=ω;have hw1:IntKind.i64.wrap ((j:Int)+1)=(j:Int)+1:=Μ _ ω;have et:(m::rs).take (j+1)=(m::rs).take j++[y]:=by rw [Ϗ,hy];rfl
    have HR:=χ (ψ hM (ψ hu et));clear hM hu et hy YC hlt
    go_wp2_with (first
     | ((go_at_call 217;(with_reducible refine (kp).mono ?_));rintro e w5 ⟨rfl,LV,cB⟩)
     | fail)
    obtain ⟨hM,hu,et⟩:=HR.out;refine ⟨⟨j+1,ω,by go_num,?_,hu.trans cB⟩,by simp [intOf];omega⟩;rw [et,Jh];exact hM.bH cB LV
   ·obtain rfl:j=rs.length+1:=ω;have et:(m::rs).take (rs.length+1)=m::rs:=List.take_of_length_le σ;rw [et] at hM;have q3:=hM.h3;have qt:=hM.top (q:=hh) hl;have qf:=hM.ag.free hh;have hgtn:B.n0≠gt:=HD.out.2.2.1.2.2.2.2;obtain ⟨w4,hw4⟩:∃w4,w4=wr.setCell ⟨gt,hh,none⟩ (.int .i64 (-1)):=⟨_,rfl⟩;have e3':({ rR (m::rs) (bf G m) with R:=ae (rR (m::rs) (bf G m)).R hh [] }:FG)=ni hh m rs G:=by
     unfold ni;rw [(vO _ _).2.2.2,Ja]
    have M4:dX w4 B F gt ct A st (ni hh m rs G):=by rw [hw4,←e3'];exact hM.gY hh []
    have jJ:aa [gt] wr w4:=by rw [hw4];exact ν
    have hw3:aa (B.blk F gt) w3 w4:=(hu.mono (λz hz=>by simp at hz;rcases hz with e|e<;>simp [FB.blk,e])).trans (jJ.mono (λz hz=>by simp at hz;simp [FB.blk,hz]));have hs4:jc w4 (B.blk F gt) (.slice a2' rs.length (c2-1)) (nM rs):=(HS2.out.1.turned HZ3.out.2.2 σ).turned hw3 (λg hg=>Α hg)
    have kt:=JB M4 h1 H0.out.2.2.2.1 H0.out.2.2.1 (hs4.fewer (λg hg=>by
     simp only [ρ,ς,or_false] at hg;rcases hg with e|e|e|e
     ·rw [e];exact je _ HD.out.2.2.2.2
     all_goals simp [FB.blk,e]))
    rw [H0.out.2.2.2.2.2.2.2.2.2.1] at kt;have Wh:aa (B.blk F gt) w w4:=(((nC.out.2.mono (λz hz=>by simp at hz;rcases hz with e|e|e<;>simp [FB.blk,e])).then HS2.out.2).then HZ3.out.2.2).trans hw3;have H4:=χ (ψ Wh (ψ hw4 hl));rw [hw4] at kt;clear hM hu et M4 jJ hw3 hs4 Wh hw4 e3' hlt
    go_wp2_with (first
     | ((go_at_call 219;(with_reducible refine (kt).mono ?_));rintro e w5 ⟨v5,rfl,Ze,M5,cB⟩;obtain ⟨a5,c5,hv5,_⟩:=bz Ze;subst hv5)
     | fail)
    obtain ⟨Wh,hw4,hl⟩:=H4.out;rw [←hw4] at cB;have hz0:=fB hst;rw [←hw4] at Ze;have hs5:jc w5 (B.blk F gt) (.slice a5 D.T.length c5) D.T:=jc.iO (base:=w4.heap.size) Ze (λg hg=>Ψ (HD.out.1 g hg) Wh.size)
    have su:aa (B.blk F gt) w4 w5:=cB.mono (λz hz=>by
     simp only [ρ,ς,or_false] at hz;rcases hz with e|e|e|e
     ·rw [e];exact je _ HD.out.2.2.2.2
     all_goals simp [FB.blk,e])
    have Yx:=Wh.trans su;have H5:=χ (ψ M5 (ψ hs5 Yx));have Li:D.T.length<=65537:=by have:=H0.out.2.2.2.2.2.2.2.2.1;omega
    clear M5 hs5 Yx cB su Ze Wh hw4 q3 qt qf kt H4
    go_loopw [59] (λs59 wr2=>∃ (i:Nat) (G':FG) (q':Nat),i<=D.T.length/\s59=.int .i64 (i:Int)/\oL (pU A) hh (D.T.drop i) G' q'=R4/\yN A.cs.length (λy=>((aU A (m:Int)).c y).i) (dO A) hh (Dy (D.T.drop i)) G'/\dX wr2 B F gt ct A (bS st (D.q+q')) G'/\aa (B.blk F gt) w5 wr2) (λs59 _=>D.T.length-(intOf s59).toNat)
    case atStart=>exact ⟨0,D.G,0,ω,rfl,H0.out.2.2.2.2.2.2.2.2.2.2,H0.out.2.2.2.2.1,H5.out.1,aa.refl _ _⟩
    case round=>
     obtain ⟨i,G',q',hi,rfl,LX,LH,hM,hu⟩:=hrel;rename World=>wr2
     by_cases hil:i<D.T.length
     ·obtain ⟨y,hy⟩:∃y,D.T[i]?=some y:=⟨_,ε hil⟩;have hdr:D.T.drop i=y::D.T.drop (i+1):=by
       rw [ϛ hil]
       congr 1
       rw [ε hil] at hy
       injection hy
      rw [hdr] at LX LH;unfold oL at LX;rw [qG] at LH;obtain ⟨a6,c6,e6,_,_,hel⟩:=H5.out.2.1;have e7:a5=a6:=by injection e6
      subst e7;obtain ⟨g6,o6,rfl,VQ,hF6,hc6⟩:=hel i y hy;have hc7:=hu.kept hc6 hF6;have Uy:(i:Int)<(D.T.length:Int):=ω;have hw1:IntKind.i64.wrap ((i:Int)+1)=(i:Int)+1:=Μ _ ω;have hTy:=H0.out.2.2.2.2.2.2.2.1 y (Η hy)
      by_cases e:y=-1
      ·rw [Δ e] at LX LH;rw [e] at hc7;have HR:=χ (ψ LX (ψ LH (ψ hM hu)));clear LX LH hM hu hy hdr hel e6 hc6 e;go_wp2;exact ⟨⟨i+1,G',q',ω,by go_num,HR.out.1,HR.out.2.1,HR.out.2.2.1,HR.out.2.2.2⟩,by simp [intOf];omega⟩
      ·rw [Γ e] at LX LH;obtain ⟨z,rfl⟩:∃z:Nat,y=z:=⟨y.toNat,ω⟩;rw [π] at LX LH;have hzn:((z:Int) == -1)=false:=σ;have IY:=(LH.pr z σ).1;have YD:=H0.out.2.2.2.1 z IY.1 IY.2.2
       have kr:=λW (hW:aa [] wr2 W)=>vI (hM.ai hW) [] hl YD (λt s' et=>by
        have hm:=LH.mem t (by rw [et];simp)
        exact H0.out.2.2.2.1 t hm.1 hm.2.2)
       obtain ⟨YB,_⟩:=LH.step h1 (λG=>vU _ _ _ _ _) (λa b c=>dw);have HR:=χ (ψ LX (ψ YB hu));clear LX LH hM hu hy hdr hel e6 hc6 e YB IY YD hTy
       go_wp2_with (first
        | ((go_at_call 220;(with_reducible refine (kr _ β).mono ?_));rintro e w6 ⟨rfl,rV,jy⟩)
        | fail)
       rw [iV] at rV;refine ⟨⟨i+1,_,q'+nG hh G',ω,by go_num,HR.out.1,HR.out.2.1,by rw [←Nat.add_assoc];exact rV,HR.out.2.2.trans (jy.mono (λz hz=>?_))⟩,by simp [intOf];omega⟩;simp only [ρ,ς,or_false] at hz;rcases hz with e|e|e|e
       ·rw [e];exact je _ HD.out.2.2.2.2
       all_goals simp [FB.blk,e]
     ·obtain rfl:i=D.T.length:=ω;have hdr:D.T.drop D.T.length=[]:=List.drop_eq_nil_of_le (Θ _);rw [hdr] at LX;have hRt':(G',q')=R4:=LX;subst hRt';have q0:=hM.h0;have kd:=KD.out wr2 F B.c hM.cells;have HR:=χ (ψ hM hu);clear LX LH hM hu hdr
      go_wp2_with (first
       | ((go_at_call 134;(with_reducible refine (kd).mono ?_));rintro e w7 ⟨rfl,YH,ny⟩)
       | fail)
      go_ret2;refine ⟨rfl,B.blk F gt,⟨⟨B,F,gt,ct,rfl,rfl,HR.out.1.dV ny YH (λy hy=>Α hy) (dK A m) (by rw [gM])⟩,H0.out.2.2.2.2.2.2.1⟩,(H5.out.2.2.trans HR.out.2).trans (ny.mono je),λy hy=>Α hy⟩
end
def SH (A:NS) (x:Nat) (G:FG):FG:=if pV (G.R (A.c x).i.toNat)=x then zM A (A.c x).i G else lh (A.c x).i.toNat x (dJ A.cs.length (A.c x).i.toNat x G)
def Tt (A:NS) (x:Nat) (G:FG):Nat:=if pV (G.R (A.c x).i.toNat)=x then zB A (A.c x).i G else 0
section
variable {w:World} {p:Nat} {FF:List Nat} {A:NS} {st:Nat} {G:FG}
theorem WW (h:qL w p FF A st G) (x:Nat) (hin:bR A (x:Int)=true) :
  Calls Tryz.prog 209 #[.pointer (some ⟨p,0,none⟩),.int .i64 (x:Int)] w λe w'=>e=.returned (.bool true)/\
   Goes FF w w' (λBD=>qL w' p BD (aU A x) (bS st (Tt A x G)) (SH A x G)):=by
 obtain ⟨⟨B,F,gt,ct,rfl,rfl,M⟩,I⟩:=h;have hst:=M.cells.mH;have ok:=M.cells.ok;obtain ⟨hx,hx0⟩:=(ay _ _).1 hin;obtain ⟨hh,hxh⟩:∃hh:Nat,(A.c x).i=hh:=⟨(A.c x).i.toNat,ω⟩;have h1:1<=hh:=ω;have Wp:hh<A.hs.length:=by have:=(ok.nat x hx).2;omega
 unfold SH Tt;rw [hxh,π];obtain ⟨t,s,hR⟩:∃t s,G.R hh=t::s:=by
  cases hRR:G.R hh with
  | nil=>
   have h2:=I.Mc hRR;have h3:=(jg (A:=A) (h:=(hh:Int)) ω).1 h2;have:0<bU A (hh:Int):=fw.2 ⟨x,hx,hxh,ω⟩;omega
  | cons t s=>exact ⟨t,s,rfl⟩
 have kh:=ic M.cells x hin;rw [hxh] at kh;have h0:=M.h0;have ms:=λW (hu:aa F w W) (hC:aB W B.c F A st)=>M.dV hu hC (λy hy=>Α hy) rfl rfl;have iN:=ok.h1;have hhI:(hh:Int)<(A.hs.length:Int):=ω;have hcap:=M.cap;have zS:(x:Int)<(A.cs.length:Int):=ω;have hcm:=M.cells.mem;have hmin:=(I.lZ hR).1
 by_cases htx:t=x
 ·subst htx;rw [hR,Δ (by rfl),Δ (by rfl)];have ee:pQ A (hh:Int)=aU A t:=by unfold pQ;rw [hmin]
  have ke:=λW (hK:qL W B.n0 (B.blk F gt) A st G)=>tX hK (hh:Int) ω;simp only [hmin,ee] at ke;have HK:=χ (ψ ms (ψ I (ψ ke hR)));clear M I ms ke ee hin hR hmin
  go_enter Tryz.func209,Tryz.ntmps209
  go_wp2_with (first
   | ((go_at_call 124;(with_reducible refine (kh).mono ?_));rintro e w1 ⟨rfl,gK,hu1⟩;(have M1:=HK.out.1 _ hu1 gK);(have d3:=M1.h3);(have dt:w1.cell? ⟨gt,hh,none⟩=some (.int .i64 (t:Int)):=by (have Ob:=M1.top Wp;rw [HK.out.2.2.2] at Ob;exact Ob));(have ke1:=HK.out.2.2.1 _ ⟨⟨B,F,gt,ct,rfl,rfl,M1⟩,HK.out.2.1⟩);(have HU:=χ hu1);clear M1 gK hu1)
   | ((go_at_call 210;(with_reducible refine (ke1).mono ?_));rintro e w2 ⟨rfl,FF2,hK2,hu2,hF2⟩)
   | fail)
  go_ret;exact ⟨rfl,FF2,hK2,(HU.out.mono je).trans hu2,λy hy=>(hF2 y hy).imp id (λh=>Χ HU.out.size h)⟩
 ·have hne:¬pV (G.R hh)=(x:Int):=by rw [hR];intro e;exact htx (by have e2:(t:Int)=(x:Int):=e;omega)
  rw [Γ hne,Γ hne,fB hst];obtain ⟨hoff,f1,f2,⟨s',Jq⟩,_,ux,_⟩:=Qy I hR hx hxh htx;obtain ⟨I2,hhd,_⟩:=UH ⟨f1,f2⟩ ok Jq hx ux hxh htx;have kl:=λW (hM:dX W B F gt ct A st G)=>Dk (w:=W) (M:=hM) (bC:=λy=>(A.c y).i) (L:=dO A) (Mx:=dO A) (λa=>ui) (q:=hh) (x:=x) (t:=t) (s:=s) Wp hx (I.ff.mono (λy q hy hu ho=>⟨(I.ff.home y q hy hu).1,(I.ff.home y q hy hu).2,λ_=>ho⟩) I.ff.alone) hR (I.lZ hR).2.2.1 h1
   (λp1 hp1=>⟨(hoff p1 hp1).1,(hoff p1 hp1).2.2.1,(hoff p1 hp1).2.2.2.1,(hoff p1 hp1).2.2.2.2.1,(hoff p1 hp1).2.2.2.2.2⟩) (λy hy hyh WN=>I.first hR hy hyh WN)
  have WH:=λW (hM:dX W B F gt ct A st (dJ A.cs.length hh x G))=>yz hM hx (f1.ring x hx) (λz hz=>(f1.kid x z hx hz).1);have kpa:=λW (hM:dX W B F gt ct A st (bf (dJ A.cs.length hh x G) x))=>vT hM.rings hx;have O4:=λW (hC:aB W B.c F A st)=>fO hC x hin;have htxI:((t:Int) == (x:Int))=false:=ζ;obtain ⟨G1,hG1⟩:∃G1,dJ A.cs.length hh x G=G1:=⟨_,rfl⟩;rw [hG1] at kl WH kpa I2 Jq hhd ⊢;have HK:=χ (ψ ms (ψ kl (ψ WH (ψ kpa (ψ O4 (ψ I2 (ψ hR (ψ Jq hhd))))))));clear M I ms kl WH kpa O4 I2 hR Jq hhd hin hmin hoff f1 f2 ux hG1 hne
  go_enter Tryz.func209,Tryz.ntmps209
  go_wp2_with (first
   | ((go_at_call 124;(with_reducible refine (kh).mono ?_));rintro e w1 ⟨rfl,gK,hu1⟩;(have M1:=HK.out.1 _ hu1 gK);(have d3:=M1.h3);(have dt:w1.cell? ⟨gt,hh,none⟩=some (.int .i64 (t:Int)):=by (have Ob:=M1.top Wp;rw [HK.out.2.2.2.2.2.2.1] at Ob;exact Ob));(have k1:=HK.out.2.1 _ M1);(have HU1:=χ hu1);clear M1 gK hu1)
   | ((go_at_call 215;(with_reducible refine (k1).mono ?_));rintro e w2 ⟨rfl,M2,hu2⟩;(have k2:=HK.out.2.2.1 _ M2);(have TF:=χ hu2);clear M2 hu2 k1)
   | ((go_at_call 216;(with_reducible refine (k2).mono ?_));rintro e w3 ⟨rfl,M3,hu3⟩;(have k3:=HK.out.2.2.2.1 _ M3);(have e3:=M3.h1);(have JI:=χ (ψ M3 hu3));clear M3 hu3 k2)
   | ((go_at_call 217;(with_reducible refine (k3).mono ?_));rintro e w4 ⟨rfl,WB,jJ⟩;(have M4:=JI.out.1.bH jJ WB);(have e4:=M4.h0);(have k4:=HK.out.2.2.2.2.1 _ M4.cells);(have LM:=χ (ψ M4 jJ));clear M4 jJ WB k3)
   | ((go_at_call 134;(with_reducible refine (k4).mono ?_));rintro e w5 ⟨rfl,QD,cB⟩)
   | fail)
  go_ret;have M5:=LM.out.1.dV cB QD (λy hy=>Α hy) (dK A x) (by rw [gM]);have eR:(bf G1 x).R=G1.R:=Ja G1 x
  have M6:=M5.Ic hh (Lx (G1.R hh) (kl (G1.K x)) x) (by
   show pV _=pV ((bf G1 x).R hh)
   rw [eR,HK.out.2.2.2.2.2.2.2.1];have h9:=HK.out.2.2.2.2.2.2.2.2;rw [show (lh hh x G1).R hh=Lx (G1.R hh) (kl (G1.K x)) x from bq _ _ _,HK.out.2.2.2.2.2.2.2.1] at h9
   rw [h9];rfl)
  have eG:lh hh x G1={ prt (bf G1 x) x with R:=ae (bf G1 x).R hh (Lx (G1.R hh) (kl (G1.K x)) x) }:=by unfold lh;rw [eR]
  refine ⟨rfl,B.blk F gt,⟨⟨B,F,gt,ct,rfl,rfl,?_⟩,HK.out.2.2.2.2.2.1⟩,(((HU1.out.mono je).trans (TF.out.mono (λz hz=>by simp at hz;rcases hz with e|e|e<;>simp [FB.blk,e]))).trans (JI.out.2.mono (λz hz=>by simp at hz;rcases hz with e|e|e<;>simp [FB.blk,e]))).trans ((LM.out.2.mono (λz hz=>by simp at hz;rcases hz with e|e<;>simp [FB.blk,e])).trans (cB.mono je)),λy hy=>Α hy⟩;rw [eG];exact M6
theorem VY (I:wE A G) (ok:A.Ok):G.R A.hs.length=[]:=by
 cases e:G.R A.hs.length with
 | nil=>rfl
 | cons x t=>
  have:=I.out (h:=A.hs.length) (z:=x) (by rw [e];simp);have:=ok.nat x this.2.1;omega
theorem JV (h:qL w p FF A st G) :
  Calls Tryz.prog 212 #[.pointer (some ⟨p,0,none⟩)] w λe w'=>e=.returned (.int .i64 (bW A))/\Goes FF w w' (λBD=>qL w' p BD (aI A) st G):=by
 obtain ⟨⟨B,F,gt,ct,rfl,rfl,M⟩,I⟩:=h;have k:=gQ M.cells;have h0:=M.h0;have I2:=Rc I
 by_cases hl:65536<A.hs.length
 ·have e1:bW A=0:=by unfold bW;rw [Δ hl]
  have e2:aI A=A:=by unfold aI;rw [Δ hl]
  rw [e1,e2] at k;rw [e1,e2];have HM:=χ M;have HI:=χ I;clear M I e1 e2 I2
  go_enter Tryz.func212,Tryz.ntmps212
  go_wp2_with ((go_at_call 140;(with_reducible refine (k).mono ?_));rintro e w1 ⟨rfl,F1,hC,hu,hF⟩)
  go_ret;exact ⟨rfl,B.blk F1 gt,⟨⟨B,F1,gt,ct,rfl,rfl,HM.out.dV hu hC hF rfl rfl⟩,HI.out⟩,hu.mono je,RN hF⟩
 ·have e1:bW A=A.hs.length:=by unfold bW;rw [Γ hl]
  rw [e1] at k;rw [e1];have hcs:(aI A).cs.length=A.cs.length:=by unfold aI;rw [Γ hl]
  have iN:(aI A).hs.length=A.hs.length+1:=by unfold aI;rw [Γ hl];simp
  have hh0:=M.cells.ok.h0;have hpos:(0:Int)<(A.hs.length:Int):=ω;have Bo:=VY I M.cells.ok;have HM:=χ M;have HI:=χ (ψ I2 Bo);have hlb:A.hs.length<=65536:=ω;clear M I e1 I2 Bo
  go_enter Tryz.func212,Tryz.ntmps212
  go_wp2_with (first
   | ((go_at_call 140;(with_reducible refine (k).mono ?_));rintro e w1 ⟨rfl,F1,hC,hu,hF⟩;(have d3:=hu.kept HM.out.h3 HM.out.d1.1);(have f3:=hu.aM HM.out.h3 HM.out.d1.1 (HM.out.head.free 3));(have ho1:=au HM.out.ag.own hu (λg hg=>by simp [Value.ownBlock] at hg;subst hg;exact HM.out.d1.2.2.2.2.2));rw [q9] at ho1;(have g0:B.n0≠gt:=HM.out.d2.2.2.2.2);(have gl:=Ψ (HM.out.lt gt (by simp [FB.blk])) hu.size))
   | ((at_builtin;refine aW rfl _ _ 77 rfl 0 3 (.int .i64 0) 1 8 Tryz.underlying77 fF rfl δ _ _ _ rfl (ho1) [.int .i64 (-1)] rfl (by simp [Value.oneCell']) (by first|rfl|(rw [Κ];rfl)) μ ω ω ?_;intro v2 w2 ho2 hu2 kZ);(have hu2:aa [gt] w1 w2:=hu2);obtain ⟨nA,Eo,ev,_⟩:=ed ho2 ω;subst ev;(have d4:=hu2.kept d3 ζ);(have f4:=hu2.aM d3 ζ f3)))
  go_ret;have hM:=HM.out;have hlt:=hM.lt;have f:=hM.d1;have q:=hM.d2;have r:=hM.d3;have hws:=hu.size;have hw3:aa [B.n0] w2 (w2.setCell ⟨B.n0,3,none⟩ (.slice (some ⟨nA,0,none⟩) (A.hs.length+1) Eo)):=β;have hg1:nA=gt\/w1.heap.size<nA:=by
   rcases kZ with h|h
   ·exact Α (Option.some.inj h)
   ·exact Β (h nA rfl)
  have gK:=hC.lt;have l0:=hlt B.n0 (by simp [FB.blk]);have l1:=hlt B.br (by simp [FB.blk]);have l2:=hlt B.bn (by simp [FB.blk]);have l3:=hlt B.bp (by simp [FB.blk]);have l4:=hlt B.bl (by simp [FB.blk]);have l5:=hlt gt (by simp [FB.blk]);have hnF:∀y,y<w.heap.size->y∉F->y∉F1:=λy hy hn hm=>by rcases hF y hm with h'|h';exact hn h';omega
  have sZ:nA∉F1:=by
   rcases hg1 with e|e
   ·rw [e];exact hnF gt l5 f.2.2.2.2.2
   ·exact λhm=>by have:=gK nA hm;omega
  have hgn:∀y,y<w.heap.size->y≠gt->y≠nA:=λy hy hn e=>by
   rcases hg1 with e2|e2
   ·exact hn (e.trans e2)
   ·omega
  have hhd:=((hM.head.upd hu f.1).upd hu2 ζ).set 3 (.slice (some ⟨nA,0,none⟩) (A.hs.length+1) Eo);have n2:∀y,y≠gt->y∉[gt]:=λy h=>by simpa using h
  have n3:∀y,y≠B.n0->y∉[B.n0]:=λy h=>by simpa using h
  have eT:iw G.R (A.hs.length+1)=iw G.R A.hs.length++[-1]:=by
   unfold iw;rw [List.range_succ,List.map_append];simp [HI.out.2,pV]
  have YT:dX (w2.setCell ⟨B.n0,3,none⟩ (.slice (some ⟨nA,0,none⟩) (A.hs.length+1) Eo)) B F1 nA Eo (aI A) st G:=by
   refine ⟨?_,?_,?_,?_,⟨?_⟩,⟨hnF _ l0 f.1,hnF _ l1 f.2.1,hnF _ l2 f.2.2.1,hnF _ l3 f.2.2.2.1,hnF _ l4 f.2.2.2.2.1,sZ⟩,⟨q.1,q.2.1,q.2.2.1,q.2.2.2.1,hgn _ l0 q.2.2.2.2⟩,⟨r.1,r.2.1,r.2.2.1,hgn _ l4 r.2.2.2.1,(hgn _ l1 (Ne.symm r.2.2.2.2.1)).symm,(hgn _ l2 (Ne.symm r.2.2.2.2.2.1)).symm,(hgn _ l3 (Ne.symm r.2.2.2.2.2.2)).symm⟩⟩
   ·rw [hcs,iN];refine hhd.ext (λj hj=>?_);rcases (ω:j=0\/j=1\/j=2\/j=3) with rfl|rfl|rfl|rfl<;>rfl
   ·exact (hC.upd hu2 (λy hy=>by simp at hy;rw [hy];exact hnF gt l5 f.2.2.2.2.2)).upd hw3 (λy hy=>by simp at hy;rw [hy];exact hnF _ l0 f.1)
   ·rw [hcs];exact ((hM.rings.upd hu f.2.1 f.2.2.1 f.2.2.2.1).upd hu2 (n2 _ (Ne.symm r.2.2.2.2.1)) (n2 _ (Ne.symm r.2.2.2.2.2.1)) (n2 _ (Ne.symm r.2.2.2.2.2.2))).upd hw3 (n3 _ (Ne.symm q.1)) (n3 _ (Ne.symm q.2.1)) (n3 _ (Ne.symm q.2.2.1))
   ·rw [hcs];exact ((hM.pl.upd hu f.2.2.2.2.1).upd hu2 (n2 _ r.2.2.2.1)).upd hw3 (n3 _ (Ne.symm q.2.2.2.1))
   ·rw [iN,q9,eT,bZ];refine au (lM ho2 (Nat.zero_le _)) hw3 (λg hg hm=>?_);simp [Value.ownBlock] at hg hm;exact hgn _ l0 q.2.2.2.2 ω
  refine ⟨rfl,B.blk F1 nA,⟨⟨B,F1,nA,Eo,rfl,rfl,YT⟩,HI.out.1⟩,((hu.mono je).trans (hu2.mono (λz hz=>by simp at hz;simp [FB.blk,hz]))).trans (hw3.mono (λz hz=>by simp at hz;simp [FB.blk,hz])),λy hy=>?_⟩;simp only [FB.blk,ρ] at hy ⊢;rcases hy with e|e|e|e|e|e|e
  ·exact Α (Α e)
  ·exact Α (Β (Α e))
  ·exact Α (Β (Β (Α e)))
  ·exact Α (Β (Β (Β (Α e))))
  ·exact Α (Β (Β (Β (Β (Α e)))))
  ·rcases hg1 with e2|e2
   ·exact Α (Β (Β (Β (Β (Β (Α (e.trans e2)))))))
   ·exact Β ω
  ·rcases hF y e with h'|h'
   ·exact Α (Β (Β (Β (Β (Β (Β h'))))))
   ·exact Β h'
end
theorem Kc:(Tryz.prog.info? 198).map (λi=>(i.zero,i.size,i.bytes))=some (some (.agg #[.int .i64 0,.int .i64 0,.int .i64 0,.bool false]),4,32):=by kernel_rfl
theorem FT (n j:Nat) (hj:j<n*4):(madeCells #[Value.int .i64 0,.int .i64 0,.int .i64 0,.bool false] (n*4)).toList.getD j undef=ze (λ_=>0) (λ_=>0) (λ_=>0) (λ_=>false) j:=by
 rw [φ,ε (by simp [size_madeCells];omega)];simp only [Option.getD_some,madeCells,Array.getElem_toList,Array.getElem_map,Array.getElem_range];unfold ze;rcases (ω:j % 4=0\/j % 4=1\/j % 4=2\/j % 4=3) with e|e|e|e<;>simp [e]
def upTo (k:Nat) (v:Int):Nat->Int:=λi=>if i<k then v else 0
theorem OE (k:Nat) (v:Int):ae (upTo k v) k v=upTo (k+1) v:=by
 funext i;unfold ae upTo
 by_cases e:i=k
 ·rw [Δ e,Δ ω]
 ·rw [Γ e]
  by_cases h:i<k
  ·rw [Δ h,Δ ω]
  ·rw [Γ h,Γ ω]
theorem Oh (n:Nat) (w:World) (h:n<=65536):Calls Tryz.prog 64 #[.int .i64 (n:Int)] w λe w'=>∃p FF,e=.returned (.tuple #[.pointer (some ⟨p,0,none⟩),.int .i64 0])/\qL w' p FF (NS.new n) 0 FG.none/\aa [] w w'/\∀x,x∈FF->w.heap.size<=x:=by
 have kc:=lX n w h;have kr:=λW=>DV n W h;have hI:=χ (Vn n)
 go_enter Tryz.func64,Tryz.ntmps64
 go_wp2_with (first
  | ((go_at_call 84;(with_reducible refine (kc).mono ?_));rintro e w1 ⟨c,F,rfl,hC,hu1,hF⟩;(have HC:=χ (ψ hC (ψ hu1 hF)));clear hC hu1 hF)
  | ((go_at_call 87;(with_reducible refine (kr _).mono ?_));rintro e w2 ⟨br,bn,bp,rfl,hR,hu2,hb1,hb2,hb3⟩;(have HR:=χ (ψ hR (ψ hu2 (ψ hb1 (ψ hb2 hb3)))));clear hR hu2 hb1 hb2 hb3 kr)
  | (at_make;refine wpList_make_row rfl _ 194 rfl 198 (.agg #[.int .i64 0,.int .i64 0,.int .i64 0,.bool false]) 4 32 Tryz.underlying194 Kc n rfl ω μ ?_;intro w3 hr3 hu3))
 obtain ⟨W0,hW0⟩:∃W0,W0=(w3.alloc (.cells #[.int .i64 (-1)] 3)).alloc (.cells #[.pointer (some ⟨c,0,none⟩),.pointer (some ⟨br,0,none⟩),.slice (some ⟨w2.heap.size,0,none⟩) n n,.slice (some ⟨w3.heap.size,0,none⟩) 1 1] 196):=⟨_,rfl⟩;have hu0:aa [] w3 W0:=by rw [hW0];exact β
 have hhead:=dL (w3.alloc (.cells #[.int .i64 (-1)] 3)) [.pointer (some ⟨c,0,none⟩),.pointer (some ⟨br,0,none⟩),.slice (some ⟨w2.heap.size,0,none⟩) n n,.slice (some ⟨w3.heap.size,0,none⟩) 1 1] 196;rw [Κ] at hhead;have hz1:IZ (w3.alloc (.cells #[.int .i64 (-1)] 3)) w3.heap.size 1 [-1]:=IZ.lit w3 [-1] σ;have hz0:IZ W0 w3.heap.size 1 [-1]:=by rw [hW0];exact hz1.upd ((aa.refl [] _).alloc _) σ
 have hhd:aJ W0 (w3.heap.size+1) 196 4 (λj=>[Value.pointer (some ⟨c,0,none⟩),.pointer (some ⟨br,0,none⟩),.slice (some ⟨w2.heap.size,0,none⟩) n n,.slice (some ⟨w3.heap.size,0,none⟩) 1 1].getD j undef):=by rw [hW0];exact hhead
 have hzz:(Value.agg #[.int .i64 0,.int .i64 0,.int .i64 0,.bool false]).cells=#[.int .i64 0,.int .i64 0,.int .i64 0,.bool false]:=rfl;rw [hzz] at hr3;have hr0:aJ W0 w2.heap.size 198 (n*4) (ze (upTo 0 (-1)) (upTo 0 (-1)) (λ_=>0) (λ_=>false)):=by
  refine ((hr3.upd hu0 σ).ext (λj hj=>?_));rw [FT n j hj];unfold upTo;simp
 have hl3:=hr3.lt;have hs3:=hu3.size;have H0:=χ (ψ hu0 (ψ hz0 (ψ hhd (ψ hr0 (ψ hu3 hW0)))));have hne:w3.heap.size+1≠w2.heap.size:=ω;clear hu0 hz0 hhd hr0 hz1 hhead hr3 hu3;rw [←hW0];clear hW0
 go_loopw [34] (λs34 wr=>∃k:Nat,k<=n/\s34=.int .i64 (k:Int)/\aJ wr w2.heap.size 198 (n*4) (ze (upTo k (-1)) (upTo k (-1)) (λ_=>0) (λ_=>false))/\aa [w2.heap.size] W0 wr) (λs34 _=>n-(intOf s34).toNat)
 case atStart=>exact ⟨0,ω,rfl,H0.out.2.2.2.1,aa.refl _ _⟩
 case round=>
  obtain ⟨k,hk,rfl,hr,hu⟩:=hrel;rename World=>wr
  by_cases hkn:k<n
  ·have XN:(k:Int)<(n:Int):=ω;have hw1:IntKind.i64.wrap ((k:Int)+1)=(k:Int)+1:=Μ _ ω;have d2:wr.cell? ⟨w3.heap.size+1,2,none⟩=some (.slice (some ⟨w2.heap.size,0,none⟩) n n):=hu.kept (H0.out.2.2.1.cellAt 2 ω rfl) (by simpa using hne);have p0:=hr.cellAt (k*4) ω (wR _ _ _ _ k);have p1:=hr.cellAt (k*4+1) ω (wQ _ _ _ _ k);have p2:=hr.cellAt (k*4+2) ω (wS _ _ _ _ k);have p3:=hr.cellAt (k*4+3) ω (wO _ _ _ _ k);have f0:=hr.free (k*4);have f1:=hr.free (k*4+1);have f2:=hr.free (k*4+2);have f3:=hr.free (k*4+3);have hlr:=hr.lt;have HR2:=χ (ψ hr hu);clear hr hu;go_wp2
   go_region_with (first
    | ((go_at_call 88;(with_reducible refine (xZ _).mono ?_));rintro e w5 ⟨rfl,cB⟩;(have hv:aa [] wr w5:=aa.trans β cB);(have v0:=hv.was p0);(have v1:=hv.was p1);(have v2:=hv.was p2);(have v3:=hv.was p3);(have v4:=hv.was d2);(have z0:=hv.aM p0 σ f0);(have z1:=hv.aM p1 σ f1);(have z2:=hv.aM p2 σ f2);(have z3:=hv.aM p3 σ f3))
    | fail)
   all_goals
    go_wp2;have hr:=HR2.out.1.upd hv σ;have jy:aa [w2.heap.size] W0 w5:=HR2.out.2.then hv;refine ⟨⟨k+1,ω,by go_num,?_,ν⟩,by simp [intOf];omega⟩;have:=nT (p9 (oh (qE hr k (-1)) k (-1)) k 0) k false;rw [OE] at this;refine this.ext (λj _=>?_);rw [show ae (λ_=>(0:Int)) k 0=(λ_=>0) from by funext z;unfold ae;split<;>rfl,show ae (λ_=>false) k false=(λ_=>false) from by funext z;unfold ae;split<;>rfl]
  ·obtain rfl:k=n:=ω;have HR2:=χ (ψ hr hu);clear hr hu;go_wp2;go_ret2;obtain ⟨hr,hu⟩:=HR2.out;obtain ⟨hu0,hz0,hhd,_,hu3,_⟩:=H0.out;obtain ⟨hC,hu1,hF⟩:=HC.out;obtain ⟨hR,hu2,hb1,hb2,hb3⟩:=HR.out;have hcs:(NS.new k).cs.length=k:=by simp [NS.new]
   have iN:(NS.new k).hs.length=1:=rfl;have hCl:=hC.lt;have hRl:=hR.lt;have s1:=hu1.size;have s2:=hu2.size;have s3:=hu3.size;have s0:=hu0.size;have hFn:∀y,w1.heap.size<=y->y∉F:=λy hy hm=>by have:=hCl y hm;omega
   have hM:dX wr ⟨w3.heap.size+1,c,br,bn,bp,w2.heap.size⟩ F w3.heap.size 1 (NS.new k) 0 FG.none:=by
    refine ⟨?_,?_,?_,?_,?_,⟨hFn _ ζ,hFn _ hb1,hFn _ hb2,hFn _ hb3,hFn _ s2,hFn _ ω⟩,⟨ζ,ζ,ζ,ζ,σ⟩,⟨ζ,ζ,ζ,ζ,ζ,ζ,ζ⟩⟩
    ·rw [hcs,iN];exact hhd.upd hu (by simpa using hne)
    ·exact ((hC.ai ((hu2.trans hu3).trans hu0))).upd hu (λy hy=>by simp at hy;rw [hy];exact hFn _ s2)
    ·rw [hcs];exact (hR.ai (hu3.trans hu0)).upd hu ζ ζ ζ
    ·rw [hcs];refine hr.ext (λj hj=>?_);unfold lT;obtain ⟨a,e⟩:=four j;have ha:a<k:=ω;rcases e with rfl|rfl|rfl|rfl
     ·rw [wR,wR];unfold upTo;rw [Δ ha];rfl
     ·rw [wQ,wQ];unfold upTo;rw [Δ ha];rfl
     ·rw [wS,wS];rfl
     ·rw [wO,wO];rfl
    ·exact hz0.upd hu ζ
   refine ⟨_,_,rfl,⟨⟨⟨w3.heap.size+1,c,br,bn,bp,w2.heap.size⟩,F,w3.heap.size,1,rfl,rfl,hM⟩,hI.out⟩,(((hu1.trans hu2).trans hu3).trans hu0).joined hu (λy hy=>by simp at hy;rw [hy];right;omega),λy hy=>?_⟩;simp only [FB.blk,ρ] at hy;rcases hy with e|e|e|e|e|e|e
   ·omega
   ·omega
   ·omega
   ·omega
   ·omega
   ·omega
   ·exact hF y e
theorem CG (p c:Nat):∀W:World,W.cell? ⟨p,0,none⟩=some (.pointer (some ⟨c,0,none⟩))->(method 409 134 (.pointer (some ⟨p,0,none⟩)) "Has").run Tryz.prog W=.ok (123,.pointer (some ⟨c,0,none⟩)) W:=(by intro W h;unfold method;have hm:∃m,(Array.find? (λx=>x.name == "Has") Tryz.t134.methods)=some m/\m.path.toList=[⟨196,0,true⟩]/\m.func=some (123,true)/\m.path.isEmpty=false:=⟨(Array.find? (λx=>x.name == "Has") Tryz.t134.methods).get!,by kernel_rfl,by kernel_rfl,by kernel_rfl,by kernel_rfl⟩;obtain ⟨m,h1,h2,h3,h4⟩:=hm;go_simp;simp only [follow,Place.get];go_simp;(try unfold receiverAt);(try simp only [Place.get]);(try go_simp))
theorem zu (p c:Nat):∀W:World,W.cell? ⟨p,0,none⟩=some (.pointer (some ⟨c,0,none⟩))->(method 409 134 (.pointer (some ⟨p,0,none⟩)) "Entry").run Tryz.prog W=.ok (121,.pointer (some ⟨c,0,none⟩)) W:=(by intro W h;unfold method;have hm:∃m,(Array.find? (λx=>x.name == "Entry") Tryz.t134.methods)=some m/\m.path.toList=[⟨196,0,true⟩]/\m.func=some (121,true)/\m.path.isEmpty=false:=⟨(Array.find? (λx=>x.name == "Entry") Tryz.t134.methods).get!,by kernel_rfl,by kernel_rfl,by kernel_rfl,by kernel_rfl⟩;obtain ⟨m,h1,h2,h3,h4⟩:=hm;go_simp;simp only [follow,Place.get];go_simp;(try unfold receiverAt);(try simp only [Place.get]);(try go_simp))
theorem OD (p:Nat):∀W:World,(method 409 134 (.pointer (some ⟨p,0,none⟩)) "Make").run Tryz.prog W=.ok (212,.pointer (some ⟨p,0,none⟩)) W:=λ_=>by kernel_rfl
theorem Gr (p:Nat):∀W:World,(method 409 134 (.pointer (some ⟨p,0,none⟩)) "Insert").run Tryz.prog W=.ok (211,.pointer (some ⟨p,0,none⟩)) W:=λ_=>by kernel_rfl
theorem QS (p:Nat):∀W:World,(method 409 134 (.pointer (some ⟨p,0,none⟩)) "Min").run Tryz.prog W=.ok (214,.pointer (some ⟨p,0,none⟩)) W:=λ_=>by kernel_rfl
theorem Et (p:Nat):∀W:World,(method 409 134 (.pointer (some ⟨p,0,none⟩)) "Extract").run Tryz.prog W=.ok (210,.pointer (some ⟨p,0,none⟩)) W:=λ_=>by kernel_rfl
theorem xE {w w':World} {p:Nat} {F S:List Nat} {A:NS} {st:Nat} {G:FG} (h:qL w p F A st G) (hu:aa S w w') (hS:∀x,x∈S->x∉F):qL w' p F A st G:=h.upd hu hS
theorem YF {w:World} {p:Nat} {F:List Nat} {A:NS} {st:Nat} {G:FG} (h:qL w p F A st G):∀x,x∈F->x<w.heap.size:=h.lt
theorem Pb {w:World} {p:Nat} {F:List Nat} {A:NS} {st:Nat} {G:FG} (h:qL w p F A st G):A.Ok:=h.ok
theorem OQ {w:World} {p:Nat} {F:List Nat} {A:NS} {st:Nat} {G:FG} (h:qL w p F A st G):∃c F1,w.cell? ⟨p,0,none⟩=some (.pointer (some ⟨c,0,none⟩))/\aB w c F1 A st:=by
 obtain ⟨c,F1,h0,hC, -⟩:=h.cl;exact ⟨c,F1,h0,hC⟩
def FbQ (w:World) (p:Nat) (F:List Nat) (A:NS):Prop:=∃st G,qL w p F A st G
noncomputable def uB:NestQ where
 ty:=134
 at_:=FbQ
 upd:=λh hu hS=>by
  obtain ⟨st,G,hL⟩:=h;exact ⟨st,G,xE hL hu hS⟩
 lt:=λh=>by
  obtain ⟨st,G,hL⟩:=h;exact YF hL
 ok:=λh=>by
  obtain ⟨st,G,hL⟩:=h;exact Pb hL
 make:=λ{w p F A} h=>by
  obtain ⟨st,G,hL⟩:=h;refine aP 212 (λ_ _=>by kernel_rfl) (OD _) (λW hW=>?_);refine (JV (xE hL hW σ)).mono ?_;rintro e w' ⟨rfl,F',hA,hu,hf⟩;exact ⟨rfl,F',⟨_,_,hA⟩,hu,hf⟩
 insert:=λ{w p F A} g y k s hk hB h=>by
  obtain ⟨st,G,hL⟩:=h;refine aP 211 (λ_ _=>by kernel_rfl) (Gr _) (λW hW=>?_);refine (DD (xE hL hW σ) g y k s hk hB).mono ?_;rintro e w' ⟨rfl,F',hA,hu,hf⟩;exact ⟨rfl,F',⟨_,_,hA⟩,hu,hf⟩
 min:=λ{w p F A} y hB h=>by
  obtain ⟨st,G,hL⟩:=h;refine aP 214 (λ_ _=>by kernel_rfl) (QS _) (λW hW=>?_);have mg:=xE hL hW σ;have hok:=Pb hL;have h4:=(aA _ _).1 hB;have h5:=hok.h1;refine (CU mg (y:Int) ω).mono ?_;rintro e w' ⟨rfl,rfl⟩;exact ⟨rfl,Goes.stay ⟨_,_,mg⟩ (aa.refl _ _)⟩
 extract:=λ{w p F A} y m hm h=>by
  obtain ⟨st,G,hL⟩:=h;refine aP 210 (λ_ _=>by kernel_rfl) (Et _) (λW hW=>?_);have mg:=xE hL hW σ;have e2:pQ A (y:Int)=aU A (m:Int):=by unfold pQ;rw [hm]
  have hok:=Pb hL;obtain ⟨m1,m2,m3,m4⟩:=jW hm;have hB:bA A (y:Int)=true:=by rw [←m3];have:=jB hok m4;simpa using this
  have h4:=(aA _ _).1 hB;have h5:=hok.h1;have k:=tX mg (y:Int) ω;rw [e2,hm] at k;refine k.mono ?_;rintro e w' ⟨rfl,F',hA,hu,hf⟩;exact ⟨rfl,F',⟨_,_,hA⟩,hu,hf⟩
 has:=λx h=>by
  obtain ⟨st,G,hL⟩:=h;obtain ⟨c,F1,h0,hC⟩:=OQ hL;exact gN 123 (λ_ _=>by kernel_rfl) h0 (CG _ _) (λW hW=>iM (hC.ai hW) x)
 entry:=λ{w p F A} x h=>by
  obtain ⟨st,G,hL⟩:=h;obtain ⟨c,F1,h0,hC⟩:=OQ hL;refine gN 121 (λ_ _=>by kernel_rfl) h0 (zu _ _) (λW hW=>?_);cases hin:bR A x with
  | false=>simpa using jP (hC.ai hW) x hin
  | true=>
   obtain ⟨y,rfl⟩:=oW hin;simpa using iZ (hC.ai hW) y hin
theorem Gh (p:Nat) (w:World):Calls Tryz.prog 63 #[.pointer (some ⟨p,0,none⟩),.int .i64 0] w λe w'=>e=.returned (.tuple #[.iface 134 (.pointer (some ⟨p,0,none⟩)),.int .i64 0])/\w'=w:=by
 go_enter Tryz.func63,Tryz.ntmps63
 go_wp2;go_ret2;exact ⟨rfl,rfl⟩
theorem Ed (n:Nat) (hn:n<=65536):nW uB 5 0 n:=by
 intro w;have kn:=λW=>Oh n W hn;have km:=Gh;have hty:uB.ty=134:=rfl;have hat:∀w' p FF,qL w' p FF (NS.new n) 0 FG.none->uB.at_ w' p FF (NS.new n)/\Ef w' p n:=λw' p FF h=>⟨⟨_,_,h⟩,OQ h⟩
 generalize uB=K at *;rw [hty]
 go_enter Tryz.func35,Tryz.ntmps35
 go_wp2_with (first
  | ((go_at_call 64;(with_reducible refine (kn _).mono ?_));rintro e w1 ⟨pn,FF,rfl,hS,hu1,hf⟩)
  | ((go_at_call 63;(with_reducible refine (km _ _).mono ?_));rintro e w2 ⟨rfl,rfl⟩)
  | fail)
 go_ret2;exact ⟨pn,FF,rfl,(hat _ _ _ hS).1,(hat _ _ _ hS).2,aa.trans β hu1,λx hx=>by have:=hf x hx;simp at this;omega⟩
end Go.Proofs.YtnpdakpagnpanaaGreat
