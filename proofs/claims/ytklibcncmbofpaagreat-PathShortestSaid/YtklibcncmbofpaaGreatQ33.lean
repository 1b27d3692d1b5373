/-
  Lemmas for PathShortest: Fb5, Fb6, Fb7, Fb8. Conditions: those of each lemma.
-/
import Derived.Test.YtklibcncmbofpaaGreatQ32
set_option linter.all false
set_option maxHeartbeats 8000000
set_option maxRecDepth 10000
namespace Go.Proofs.YtklibcncmbofpaaGreat
open Go Go.RowKit
def xy (w:World) (p:Nat) (FF:List Nat) (A:NS) (st:Nat) (G:FG):Prop:=(∃B F gt ct,p=B.n0/\FF=B.blk F gt/\fI w B F gt ct A st G)/\y5 A G
theorem jS {B:FB} {F:List Nat} {gt:Nat}:∀x,x∈F->x∈B.blk F gt:=fun x hx=>by simp [FB.blk,hx]
theorem Ue {w:World} {B:FB} {F F':List Nat} {gt:Nat} (hF:∀x,x∈F'->x∈F\/w.heap.size<=x):∀x,x∈B.blk F' gt->x∈B.blk F gt\/w.heap.size<=x:=fun x hx=>by
 simp only [FB.blk,ρ] at hx ⊢;rcases hx with e|e|e|e|e|e|e
 ·exact Or.inl (Or.inl e)
 ·exact Or.inl (Or.inr (Or.inl e))
 ·exact Or.inl (Or.inr (Or.inr (Or.inl e)))
 ·exact Or.inl (Or.inr (Or.inr (Or.inr (Or.inl e))))
 ·exact Or.inl (Or.inr (Or.inr (Or.inr (Or.inr (Or.inl e)))))
 ·exact Or.inl (Or.inr (Or.inr (Or.inr (Or.inr (Or.inr (Or.inl e))))))
 ·rcases hF x e with h|h
  ·exact Or.inl (Or.inr (Or.inr (Or.inr (Or.inr (Or.inr (Or.inr h))))))
  ·exact Or.inr h
section
variable {w:World} {p:Nat} {FF:List Nat} {A:NS} {st:Nat} {G:FG}
theorem xy.upd {w':World} {S:List Nat} (h:xy w p FF A st G) (hu:aa S w w') (hS:∀x,x∈S->x∉FF):xy w' p FF A st G:=by
 obtain ⟨⟨B,F,gt,ct,rfl,rfl,M⟩,I⟩:=h;exact ⟨⟨B,F,gt,ct,rfl,rfl,M.upd hu hS⟩,I⟩
theorem xy.lt (h:xy w p FF A st G):∀x,x∈FF->x<w.heap.size:=by
 obtain ⟨⟨B,F,gt,ct,rfl,rfl,M⟩,I⟩:=h;exact M.lt
theorem xy.ok (h:xy w p FF A st G):A.Ok:=by
 obtain ⟨⟨B,F,gt,ct,rfl,rfl,M⟩,I⟩:=h;exact M.cells.ok
theorem xy.oU (h:xy w p FF A st G):st<=4611686018427387904:=by
 obtain ⟨⟨B,F,gt,ct,rfl,rfl,M⟩,I⟩:=h;exact M.cells.oU
theorem xy.cl (h:xy w p FF A st G):∃c F1,w.cell? ⟨p,0,none⟩=some (.pointer (some ⟨c,0,none⟩))/\aG w c F1 A st/\c∈FF:=by
 obtain ⟨⟨B,F,gt,ct,rfl,rfl,M⟩,I⟩:=h;exact ⟨B.c,F,M.h0,M.cells,jS _ M.cells.mem⟩
theorem Lv (I:y5 A G) (ok:A.Ok) {q:Int} {m:Nat} (hm:dW A q=some m):∃ (h:Nat) (s:List Nat),q=h/\1<=h/\h<A.hs.length/\G.R h=m::s/\0<eB A q:=by
 obtain ⟨m1,m2⟩:=I.rV hm;have hx:(A.c m).i=(q.toNat:Int):=m1.2.2;have hnat:=ok.nat m m1.1;refine ⟨q.toNat,?_⟩;have hmem:=((I.fr.all q.toNat).2.1 m).2 ⟨m2,m1⟩;cases hR:G.R q.toNat with
 | nil=>rw [hR] at hmem;cases hmem
 | cons t s=>
  have:=(I.pU hR).1;rw [show ((q.toNat:Nat):Int)=q by omega,hm] at this
  injection this with this
  subst this;exact ⟨s,ω,m2,ω,rfl,fP.2 ⟨m,m1.1,ω,ω⟩⟩
theorem Gy (h:xy w p FF A st G) (q:Int) (ZO:-9223372036854775808<=q/\q<=9223372036854775807) :
  Calls Tryz.prog 224 #[.pointer (some ⟨p,0,none⟩),.int .i64 q] w fun e w'=>e=.returned (.tuple #[.int .i64 (pW (dW A q)),.bool (dW A q).isSome])/\w'=w:=by
 obtain ⟨⟨B,F,gt,ct,rfl,rfl,M⟩,I⟩:=h;have h0:=M.h0;have kl:=qm M.cells q ZO;cases hm:dW A q with
 | none=>
  rw [iQ.1 hm] at kl;clear M I hm
  go_enter Tryz.func224,Tryz.ntmps224
  go_wp2_with ((go_at_call 142;(with_reducible refine (kl).mono ?_);rintro e w9 ⟨rfl,aN⟩;rw [aN];clear aN w9))
  go_ret2;exact ⟨rfl,rfl⟩
 | some m=>
  obtain ⟨hh,s,rfl,h1,hl,hR,hp⟩:=Lv I M.cells.ok hm;have h3:=M.h3;have ht:=M.top hl;rw [hR] at ht;have ht':w.cell? ⟨gt,hh,none⟩=some (.int .i64 (m:Int)):=ht;have hcap:=M.cap;have hlI:(hh:Int)<(A.hs.length:Int):=ω;have hne:(((eB A (hh:Int):Nat):Int) == 0)=false:=ζ;generalize eB A (hh:Int)=ln at *;clear M I hm hR ht
  go_enter Tryz.func224,Tryz.ntmps224
  go_wp2_with ((go_at_call 142;(with_reducible refine (kl).mono ?_);rintro e w9 ⟨rfl,aN⟩;rw [aN];clear aN w9))
  go_ret2;exact ⟨rfl,rfl⟩
theorem GN (h:xy w p FF A st G) (q x:Nat) (k s:Int) (hk:-9223372036854775808<=k/\k<=9223372036854775807/\0<=s/\s<=18446744073709551615) (hB:oz A q x=true) :
  Calls Tryz.prog 221 #[.pointer (some ⟨p,0,none⟩),.int .i64 (q:Int),.int .i64 (x:Int),.agg #[.int .i64 k,.int .u64 s]] w fun e w'=>e=.returned (.bool true)/\
   Goes FF w w' (fun JN=>xy w' p JN (aO A q x k s) (bZ st (sO q G)) (Tn (aO A q x k s) q x G)):=by
 obtain ⟨⟨B,F,gt,ct,rfl,rfl,M⟩,I⟩:=h;have ok:=M.cells.ok;obtain ⟨I2,_,_,_,h1,hx,hin,hti,hcs⟩:=Y7 I ok k s hB;have lQ:(aO A q x k s).hs.length=A.hs.length:=by unfold aO;split;rfl;rfl
 have hql:q<(aO A q x k s).hs.length:=by
  rw [lQ];have:=(aT _ _).1 ((fG _ _ _).1 hB).1;omega
 have u1:aa [] w (w.alloc (.cells #[.int .i64 k,.int .u64 s] 129)):=(aa.refl _ _).alloc _;have kp:=fun W (hW:aa [] (w.alloc (.cells #[.int .i64 k,.int .u64 s] 129)) W)=>oh (M.cells.aA (u1.trans hW)) q x k s hk hB;have h0:=M.h0;have uV:B.n0∉F:=M.d1.1;have hsz:w.heap.size∉F:=fun hm=>by have:=M.cells.lt _ hm;omega
 have r0:∀W,aa F (w.alloc (.cells #[.int .i64 k,.int .u64 s] 129)) W->W.cell? ⟨B.n0,0,none⟩=some (.pointer (some ⟨B.c,0,none⟩)):=fun W hW=>hW.kept (u1.was h0) uV;have r1:∀W,aa F (w.alloc (.cells #[.int .i64 k,.int .u64 s] 129)) W->W.cell? ⟨w.heap.size,0,none⟩=some (.int .i64 k):=fun W h=>h.kept σ hsz;have r2:∀W,aa F (w.alloc (.cells #[.int .i64 k,.int .u64 s] 129)) W->W.cell? ⟨w.heap.size,1,none⟩=some (.int .u64 s):=fun W h=>h.kept σ hsz;have ka:=fun (W:World) (hM:fI W B F gt ct (aO A q x k s) st G)=>Ch hM [] hql hin hti;have HM:=χ (ψ M (ψ lQ hcs));have HI:=χ I2
 clear M I ok I2 hin hti hql hx hcs lQ h0 hB
 go_enter Tryz.func221,Tryz.ntmps221
 go_wp2
 go_region_held3 (aa F (w.alloc (.cells #[.int .i64 k,.int .u64 s] 129))) (exact ν)
  (first
   | ((go_at_call 154;(with_reducible refine (kp _ β).mono ?_));rintro e w1 ⟨rfl,jF,hu1⟩;(have hu2:aa F (w.alloc (.cells #[.int .i64 k,.int .u64 s] 129)) w1:=ν)))
 have uF:aa F w w1:=(u1.mono σ).trans hu2;have hM1:=HM.out.1.dw uF jF (fun y hy=>Or.inl hy) HM.out.2.2 HM.out.2.1;have ZQ:=fun (W:World) (hW:aa [] w1 W)=>ka W (hM1.aA hW);have HU:=χ uF;have hcm:=HM.out.1.cells.mem;clear kp r0 r1 r2 hM1 ka uF hu2 jF hu1
 go_wp2_with (first
  | ((go_at_call 230;(with_reducible refine (ZQ _ β).mono ?_));rintro e w2 ⟨rfl,hM2,hu3⟩)
  | fail)
 go_ret;refine ⟨rfl,B.blk F gt,⟨⟨B,F,gt,ct,rfl,rfl,hM2⟩,HI.out⟩,(HU.out.mono jS).trans ((β:aa _ w1 _).trans (hu3.mono (fun y hy=>?_))),fun y hy=>Or.inl hy⟩;simp only [ρ,ς,or_false] at hy;rcases hy with e|e|e|e
 ·rw [e];exact jS _ hcm
 all_goals simp [FB.blk,e]
end
def tailW (a:Option Addr) (n c:Nat):Value:=.slice (if c=1 then a else a.map (·.add 1)) (n-1) (c-1)
theorem Ov (w:World) (a:Option Addr) (n c:Nat) (h1:1<=n) (h2:n<=9223372036854775807) :
  (Instr.slice 26 (.slice a n c) (some (.int .i64 1)) none none).run Tryz.prog w=.ok (tailW a n c) w:=by
 have hs:(sizeOf 3).run Tryz.prog w=.ok 1 w:=by kernel_rfl
 unfold Instr.slice Instr.sliceBounds;simp [run_underlying Tryz.underlying26,go_sem,hs,tailW];intro h;omega
theorem PD {w:World} {F:List Nat} {a:Option Addr} {n c:Nat} {x:Int} {xs:List Int} (h:iT w F (.slice a n c) (x::xs)):iT w F (tailW a n c) xs:=by
 obtain ⟨a',cap,e,h1,h2,h3⟩:=h;cases e;obtain ⟨g,off,rfl,hg,hF,_⟩:=h3 0 x rfl;simp only [List.length_cons] at h1 ⊢;unfold tailW;simp only [Nat.add_sub_cancel];refine ⟨_,_,rfl,ω,ω,fun j u hj=>?_⟩;have hjl:j<xs.length:=(List.getElem?_eq_some_iff.1 hj).1;rw [if_neg ω];obtain ⟨g2,off2,he,hg2,hF2,hc⟩:=h3 (j+1) u (by simpa using hj);simp only [Option.some.injEq,Addr.mk.injEq,and_true] at he;obtain ⟨rfl,rfl⟩:=he;exact ⟨g,off+1,by simp [Addr.add_lit],hg,hF,by rw [show off+1+j=off+(j+1) by omega];exact hc⟩
theorem iT.turned {w w':World} {F G:List Nat} {v:Value} {xs:List Int} (h:iT w F v xs) (hu:aa G w w') (hG:∀g,g∈G->g∈F\/w.heap.size<=g):iT w' F v xs:=by
 obtain ⟨a,cap,rfl,h1,h2,h3⟩:=h;refine ⟨a,cap,rfl,h1,h2,fun j u hj=>?_⟩;obtain ⟨g,off,rfl,hg,hF,hc⟩:=h3 j u hj;exact ⟨g,off,rfl,Nat.lt_of_lt_of_le hg hu.size,hF,by rw [hu.cell hg (fun hm=>(hG _ hm).elim hF (fun h'=>by have h2:w.heap.size<=g:=h';omega))];exact hc⟩
theorem iT.fewer {w:World} {F G:List Nat} {v:Value} {xs:List Int} (h:iT w F v xs) (hG:∀g,g∈G->g∈F):iT w G v xs:=by
 obtain ⟨a,cap,rfl,h1,h2,h3⟩:=h;refine ⟨a,cap,rfl,h1,h2,fun j u hj=>?_⟩;obtain ⟨g,off,rfl,hg,hF,hc⟩:=h3 j u hj;exact ⟨g,off,rfl,hg,fun hm=>hF (hG _ hm),hc⟩
def Gw (A:NS) (q:Int) (G:FG):FG:=match dW A q with|some m=>(rH A q.toNat m (kl (G.K m)++(G.R q.toNat).tail) G).1|none=>G
def Hr (A:NS) (q:Int) (G:FG):Nat:=match dW A q with|some m=>(sZ A q.toNat m (kl (G.K m)++(G.R q.toNat).tail) G).q+(rH A q.toNat m (kl (G.K m)++(G.R q.toNat).tail) G).2|none=>0
theorem M9 (l:List Nat) (x:Nat) (G:FG):uP (l++[x]) G=prt (uP l G) x:=by unfold uP;rw [List.foldl_append];rfl
section
variable {w:World} {p:Nat} {FF:List Nat} {A:NS} {st:Nat} {G:FG}
theorem Eo (h:xy w p FF A st G) (q:Int) (ZO:-9223372036854775808<=q/\q<=9223372036854775807) :
  Calls Tryz.prog 220 #[.pointer (some ⟨p,0,none⟩),.int .i64 q] w fun e w'=>e=.returned (.tuple #[.int .i64 (pW (dW A q)),.bool (dW A q).isSome])/\
   Goes FF w w' (fun JN=>xy w' p JN (uR A q) (bZ st (Hr A q G)) (Gw A q G)):=by
 have km:=Gy h q ZO;have hst:=h.oU;have HK:=χ h;cases hm:dW A q with
 | none=>
  rw [hm] at km;have e1:uR A q=A:=by unfold uR;rw [hm]
  have e2:Gw A q G=G:=by unfold Gw;rw [hm]
  have e3:Hr A q G=0:=by unfold Hr;rw [hm]
  rw [e1,e2,e3,gN hst];clear h hm e1 e2 e3
  go_enter Tryz.func220,Tryz.ntmps220
  go_wp2_with ((go_at_call 224;(with_reducible refine (km).mono ?_);rintro e w9 ⟨rfl,aN⟩;rw [aN];clear aN w9))
  go_ret2;exact ⟨rfl,Goes.stay HK.out (aa.refl _ _)⟩
 | some m=>
  rw [hm,show pW (some m)=(m:Int) from rfl,show (some m:Option Nat).isSome=true from rfl] at km;have e1:uR A q=bA A m:=by unfold uR;rw [hm]
  have e2:Gw A q G=(rH A q.toNat m (kl (G.K m)++(G.R q.toNat).tail) G).1:=by unfold Gw;rw [hm]
  have e3:Hr A q G=(sZ A q.toNat m (kl (G.K m)++(G.R q.toNat).tail) G).q+(rH A q.toNat m (kl (G.K m)++(G.R q.toNat).tail) G).2:=by unfold Hr;rw [hm]
  rw [e1,e2,e3];obtain ⟨hh,s,rfl,h1,hl,hR,hp⟩:=Lv h.2 h.ok hm;rw [π,hR,List.tail_cons];obtain ⟨⟨rg1,rg2⟩,T3,BC,Yq,hDR,I4,_,_,_,_,hTy,O8,_⟩:=YY h.2 h.ok hR;obtain ⟨_,hmx,um,hmh,hmin⟩:=h.2.out (h:=hh) (z:=m) (by rw [hR];simp);have WS:=fun W F c (hC:aG W c F A (bZ st ((sZ A hh m (kl (G.K m)++s) G).q+(rH A hh m (kl (G.K m)++s) G).2)))=>iA hC m hmin;obtain ⟨⟨B,F,gt,ct,rfl,rfl,M⟩,I⟩:=h;have kra:=fun W (hW:aa [] w W)=>Kz (M.aA hW) hmx (I.ff.ring m hmx) (fun z hz=>(I.ff.kid m z hmx hz).1);have hlen:(m::(kl (G.K m)++s)).length<=A.cs.length:=jR A.cs.length _ rg1.nd rg2;have hc1:=M.cells.ok.c1
  have hlt:=M.lt;have hcap:=M.cap;have hhI:(hh:Int)<(A.hs.length:Int):=ω;have lQ:=M.cells.ok.h1;have hd:=M.d1;have hd2:=M.d2;have hd3:=M.d3;have hcm:=M.cells.mem;obtain ⟨rs,hrs⟩:∃rs,kl (G.K m)++s=rs:=⟨_,rfl⟩;rw [hrs] at rg1 rg2 T3 Yq hDR I4 WS hlen hTy O8 ⊢;obtain ⟨D,hD⟩:∃D,sZ A hh m rs G=D:=⟨_,rfl⟩;have hD2:tid (o9 A) rs ⟨[],pz hh m rs G,0⟩=D:=hD;have e4:rH A hh m rs G=qI (o9 A) hh D.T D.G 0:=by unfold rH;rw [hD]
  rw [hD] at Yq hDR hTy O8 WS ⊢;rw [e4] at I4 WS ⊢;obtain ⟨R4,hR4⟩:∃R4,qI (o9 A) hh D.T D.G 0=R4:=⟨_,rfl⟩;rw [hR4] at I4 WS ⊢;have ZQ:=fun W (hW:fI W B F gt ct A st (dP G m))=>GX hW.rings rg1 rg2;have H0:=χ (ψ rg1 (ψ rg2 (ψ T3 (ψ BC (ψ Yq (ψ hDR (ψ I4 (ψ hTy (ψ O8 (ψ hD2 hR4))))))))));have HD:=χ (ψ hlt (ψ hd (ψ hd2 (ψ hd3 hcm))));have KD:=χ WS;clear M I rg1 rg2 T3 BC Yq hDR I4 hR hm e1 e2 e3 hrs hlt hd hd2 hd3 hcm WS hTy O8 hD hD2 e4 hR4;have HA:=χ ZQ;clear ZQ;rw [List.length_cons] at hlen
  go_enter Tryz.func220,Tryz.ntmps220
  go_wp2_with (first
   | (go_at_call 224;(with_reducible refine (km).mono ?_);rintro e w9 ⟨rfl,aN⟩;rw [aN];clear aN w9)
   | ((go_at_call 226;(with_reducible refine (kra _ β).mono ?_));rintro e w1 ⟨rfl,M1,hu1⟩;(have a1:=HA.out _ M1);(have b1:=M1.h1);(have jX:=χ (ψ M1 hu1));clear M1 hu1 kra)
   | ((go_at_call 227;(with_reducible refine (a1).mono ?_));rintro e w2 ⟨v2,rfl,ho2,hu2⟩;(have hs2:iT w2 (B.blk F gt) v2 (pJ (m::rs)):=iT.iO (base:=w1.heap.size) (by rw [mP];exact ho2) (fun g hg=>Nat.lt_of_lt_of_le (HD.out.1 g hg) jX.out.2.size));obtain ⟨x2,c2,hv2,_⟩:=bu ho2;subst hv2;(have b2:=hu2.was b1);obtain ⟨a2',ha2⟩:∃a',tailW x2 (rs.length+1) c2=.slice a' rs.length (c2-1):=⟨_,rfl⟩;(have htl:=fun W=>Ov W x2 (rs.length+1) c2 ω ω);rw [ha2] at htl;(have hs3:iT w2 (B.blk F gt) (.slice a2' rs.length (c2-1)) (pJ rs):=by (rw [←ha2];exact PD hs2));(have HS2:=χ (ψ hs3 hu2));clear hs3 ha2;(have a2:=HA.out _ (jX.out.1.aA hu2));clear hs2 hu2 ho2 a1 b1)
   | ((go_at_call 227;(with_reducible refine (a2).mono ?_));rintro e w3 ⟨v3,rfl,ho3,hu3⟩;rw [←mP] at ho3;obtain ⟨g3,c3,hv3,hZ3,hb3⟩:=IZ.iO ho3 (by simp [pJ]);rw [mP,List.length_cons] at hv3;subst hv3;(have HZ3:=χ (ψ hZ3 (ψ hb3 hu3)));clear ho3 hZ3 hb3 hu3 a2 b2)
   | fail)
  have hlt:=HD.out.1
  go_loopw [38] (fun s38 wr=>∃j:Nat,j<=rs.length+1/\s38=.int .i64 (j:Int)/\fI wr B F gt ct A st (uP ((m::rs).take j) (dP G m))/\aa [B.bn,B.bp] w3 wr) (fun s38 _=>rs.length+1-(intOf s38).toNat)
  case atStart=>exact ⟨0,ω,rfl,(jX.out.1.aA HS2.out.2).aA HZ3.out.2.2,aa.refl _ _⟩
  case round=>
   obtain ⟨j,hj,rfl,hM,hu⟩:=hrel;rename World=>wr
   by_cases hjl:j<rs.length+1
   ·obtain ⟨y,hy⟩:∃y,(m::rs)[j]?=some y:=⟨_,ε (by simpa using hjl)⟩;have hyn:y<A.cs.length:=H0.out.2.1 y (List.mem_of_getElem? hy);have hg3:g3∉[B.bn,B.bp]:=fun hm=>by
     have h3:=HZ3.out.2.1;have h2:=HS2.out.2.size;have h1:=jX.out.2.size;simp at hm;rcases hm with e|e
     ·have:=hlt B.bn (by simp [FB.blk]);omega
     ·have:=hlt B.bp (by simp [FB.blk]);omega
    have hc:=hu.kept (HZ3.out.1.cell j (by rw [mP];simpa using hjl)) hg3;have hgy:(pJ (m::rs)).getD j 0=(y:Int):=by unfold pJ;rw [φ,List.getElem?_map,hy];rfl
    rw [hgy] at hc;have b1:=hM.h1;have kp:=BZ hM.rings hyn;have ZR:(j:Int)<(rs.length:Int)+1:=ω;have hw1:IntKind.i64.wrap ((j:Int)+1)=(j:Int)+1:=IntWalk.i64_in _ ω;have et:(m::rs).take (j+1)=(m::rs).take j++[y]:=by rw [List.take_add_one,hy];rfl
    have HR:=χ (ψ hM (ψ hu et));clear hM hu et hy hgy hlt
    go_wp2_with (first
     | ((go_at_call 228;(with_reducible refine (kp).mono ?_));rintro e w5 ⟨rfl,KU,dm⟩)
     | fail)
    obtain ⟨hM,hu,et⟩:=HR.out;refine ⟨⟨j+1,ω,by go_num,?_,hu.trans dm⟩,by simp [intOf];omega⟩;rw [et,M9];exact hM.dI dm KU
   ·obtain rfl:j=rs.length+1:=ω;have et:(m::rs).take (rs.length+1)=m::rs:=List.take_of_length_le σ;rw [et] at hM;have q3:=hM.h3;have qt:=hM.top (q:=hh) hl;have qf:=hM.ak.free hh;have hgtn:B.n0≠gt:=HD.out.2.2.1.2.2.2.2;obtain ⟨w4,hw4⟩:∃w4,w4=wr.setCell ⟨gt,hh,none⟩ (.int .i64 (-1)):=⟨_,rfl⟩;have e3':({ uP (m::rs) (dP G m) with R:=az (uP (m::rs) (dP G m)).R hh [] }:FG)=pz hh m rs G:=by
     unfold pz;rw [(xO _ _).2.2.2,Vr]
    have M4:fI w4 B F gt ct A st (pz hh m rs G):=by rw [hw4,←e3'];exact hM.jd hh []
    have iB:aa [gt] wr w4:=by rw [hw4];exact ν
    have hw3:aa (B.blk F gt) w3 w4:=(hu.mono (fun z hz=>by simp at hz;rcases hz with e|e<;>simp [FB.blk,e])).trans (iB.mono (fun z hz=>by simp at hz;simp [FB.blk,hz]));have hs4:iT w4 (B.blk F gt) (.slice a2' rs.length (c2-1)) (pJ rs):=(HS2.out.1.turned HZ3.out.2.2 σ).turned hw3 (fun g hg=>Or.inl hg)
    have kt:=N7 M4 h1 H0.out.2.2.2.1 H0.out.2.2.1 (hs4.fewer (fun g hg=>by
     simp only [ρ,ς,or_false] at hg;rcases hg with e|e|e|e
     ·rw [e];exact jS _ HD.out.2.2.2.2
     all_goals simp [FB.blk,e]))
    rw [H0.out.2.2.2.2.2.2.2.2.2.1] at kt;have Va:aa (B.blk F gt) w w4:=(((jX.out.2.mono (fun z hz=>by simp at hz;rcases hz with e|e|e<;>simp [FB.blk,e])).then HS2.out.2).then HZ3.out.2.2).trans hw3;have H4:=χ (ψ Va (ψ hw4 hl));rw [hw4] at kt;clear hM hu et M4 iB hw3 hs4 Va hw4 e3' hlt
    go_wp2_with (first
     | ((go_at_call 229;(with_reducible refine (kt).mono ?_));rintro e w5 ⟨v5,rfl,YR,M5,dm⟩;obtain ⟨a5,c5,hv5,_⟩:=bu YR;subst hv5)
     | fail)
    obtain ⟨Va,hw4,hl⟩:=H4.out;rw [←hw4] at dm;have hz0:=gN hst;rw [←hw4] at YR;have hs5:iT w5 (B.blk F gt) (.slice a5 D.T.length c5) D.T:=iT.iO (base:=w4.heap.size) YR (fun g hg=>Nat.lt_of_lt_of_le (HD.out.1 g hg) Va.size)
    have qY:aa (B.blk F gt) w4 w5:=dm.mono (fun z hz=>by
     simp only [ρ,ς,or_false] at hz;rcases hz with e|e|e|e
     ·rw [e];exact jS _ HD.out.2.2.2.2
     all_goals simp [FB.blk,e])
    have DV:=Va.trans qY;have H5:=χ (ψ M5 (ψ hs5 DV));have O8:D.T.length<=65537:=by have:=H0.out.2.2.2.2.2.2.2.2.1;omega
    clear M5 hs5 DV dm qY YR Va hw4 q3 qt qf kt H4
    go_loopw [59] (fun s59 wr2=>∃ (i:Nat) (G':FG) (q':Nat),i<=D.T.length/\s59=.int .i64 (i:Int)/\qI (o9 A) hh (D.T.drop i) G' q'=R4/\Au A.cs.length (fun y=>((bA A (m:Int)).c y).i) (cZ A) hh (Ff (D.T.drop i)) G'/\fI wr2 B F gt ct A (bZ st (D.q+q')) G'/\aa (B.blk F gt) w5 wr2) (fun s59 _=>D.T.length-(intOf s59).toNat)
    case atStart=>exact ⟨0,D.G,0,ω,rfl,H0.out.2.2.2.2.2.2.2.2.2.2,H0.out.2.2.2.2.1,H5.out.1,aa.refl _ _⟩
    case round=>
     obtain ⟨i,G',q',hi,rfl,Pn,Pf,hM,hu⟩:=hrel;rename World=>wr2
     by_cases hil:i<D.T.length
     ·obtain ⟨y,hy⟩:∃y,D.T[i]?=some y:=⟨_,ε hil⟩;have hdr:D.T.drop i=y::D.T.drop (i+1):=by
       rw [List.drop_eq_getElem_cons hil]
       congr 1
       rw [ε hil] at hy
       injection hy
      rw [hdr] at Pn Pf;unfold qI at Pn;rw [rO] at Pf;obtain ⟨a6,c6,e6,_,_,hel⟩:=H5.out.2.1;have e7:a5=a6:=by injection e6
      subst e7;obtain ⟨g6,o6,rfl,hg6,hF6,hc6⟩:=hel i y hy;have hc7:=hu.kept hc6 hF6;have hiI:(i:Int)<(D.T.length:Int):=ω;have hw1:IntKind.i64.wrap ((i:Int)+1)=(i:Int)+1:=IntWalk.i64_in _ ω;have hTy:=H0.out.2.2.2.2.2.2.2.1 y (List.mem_of_getElem? hy)
      by_cases e:y=-1
      ·rw [if_pos e] at Pn Pf;rw [e] at hc7;have HR:=χ (ψ Pn (ψ Pf (ψ hM hu)));clear Pn Pf hM hu hy hdr hel e6 hc6 e;go_wp2;exact ⟨⟨i+1,G',q',ω,by go_num,HR.out.1,HR.out.2.1,HR.out.2.2.1,HR.out.2.2.2⟩,by simp [intOf];omega⟩
      ·rw [if_neg e] at Pn Pf;obtain ⟨z,rfl⟩:∃z:Nat,y=z:=⟨y.toNat,ω⟩;rw [π] at Pn Pf;have hzn:((z:Int) == -1)=false:=σ;have Lg:=(Pf.pr z σ).1;have hzin:=H0.out.2.2.2.1 z Lg.1 Lg.2.2
       have kr:=fun W (hW:aa [] wr2 W)=>Ch (hM.aA hW) [] hl hzin (fun t s' et=>by
        have hm:=Pf.mem t (by rw [et];simp)
        exact H0.out.2.2.2.1 t hm.1 hm.2.2)
       obtain ⟨hRI2,_⟩:=Pf.step h1 (fun G=>zA _ _ _ _ _) (fun a b c=>cB);have HR:=χ (ψ Pn (ψ hRI2 hu));clear Pn Pf hM hu hy hdr hel e6 hc6 e hRI2 Lg hzin hTy
       go_wp2_with (first
        | ((go_at_call 230;(with_reducible refine (kr _ β).mono ?_));rintro e w6 ⟨rfl,uz,iU⟩)
        | fail)
       rw [jk] at uz;refine ⟨⟨i+1,_,q'+sO hh G',ω,by go_num,HR.out.1,HR.out.2.1,by rw [←Nat.add_assoc];exact uz,HR.out.2.2.trans (iU.mono (fun z hz=>?_))⟩,by simp [intOf];omega⟩;simp only [ρ,ς,or_false] at hz;rcases hz with e|e|e|e
       ·rw [e];exact jS _ HD.out.2.2.2.2
       all_goals simp [FB.blk,e]
     ·obtain rfl:i=D.T.length:=ω;have hdr:D.T.drop D.T.length=[]:=List.drop_eq_nil_of_le (Nat.le_refl _);rw [hdr] at Pn;have hRt':(G',q')=R4:=Pn;subst hRt';have q0:=hM.h0;have kd:=KD.out wr2 F B.c hM.cells;have HR:=χ (ψ hM hu);clear Pn Pf hM hu hdr
      go_wp2_with (first
       | ((go_at_call 151;(with_reducible refine (kd).mono ?_));rintro e w7 ⟨rfl,hC7,kN⟩)
       | fail)
      go_ret2;refine ⟨rfl,B.blk F gt,⟨⟨B,F,gt,ct,rfl,rfl,HR.out.1.dw kN hC7 (fun y hy=>Or.inl hy) (fQ A m) (by rw [ji])⟩,H0.out.2.2.2.2.2.2.1⟩,(H5.out.2.2.trans HR.out.2).trans (kN.mono jS),fun y hy=>Or.inl hy⟩
end
section
variable {w:World} {p:Nat} {FF:List Nat} {A:NS} {st:Nat} {G:FG}
theorem QD (h:xy w p FF A st G) (x:Nat) (k s:Int) (hk:-9223372036854775808<=k/\k<=9223372036854775807/\0<=s/\s<=18446744073709551615) (hB:jv A x k s=true) {hh:Nat} (hxh:(A.c x).i=hh) :
  Calls Tryz.prog 218 #[.pointer (some ⟨p,0,none⟩),.int .i64 (x:Int),.agg #[.int .i64 k,.int .u64 s]] w fun e w'=>e=.returned (.bool true)/\
   Goes FF w w' (fun JN=>xy w' p JN (aB A x k s) (bZ st (xJ (aB A x k s) hh x G)) (lC (aB A x k s) hh x G)):=by
 obtain ⟨⟨B,F,gt,ct,rfl,rfl,M⟩,I⟩:=h;have hst:=M.cells.oU;have ok:=M.cells.ok;have hin0:=qQ hB;obtain ⟨hx,hx0⟩:=(ai _ _).1 hin0;have h1:1<=hh:=ω;have Y2:hh<A.hs.length:=by have:=(ok.nat x hx).2;omega
 have hcs:=fJ A x k s;have lQ:(aB A x k s).hs.length=A.hs.length:=by rw [lI]
 have hi:=iR hB hx;obtain ⟨t,s0,hR,hoff,f1,f2,⟨s',GH⟩,_,_,_,_,_⟩:=KO I hB hx hxh h1;have I2:=(Ya I hB hx hxh h1).1;have htI:=I.pU hR;have hin:bX (aB A x k s) (x:Int)=true:=(ai _ _).2 ⟨by rw [hcs];exact hx,by rw [hi];exact hx0⟩;have Hy:bX (aB A x k s) (t:Int)=true:=(ai _ _).2 ⟨by rw [hcs];exact htI.2.2.1,by rw [hi];omega⟩;have u1:aa [] w (w.alloc (.cells #[.int .i64 k,.int .u64 s] 129)):=(aa.refl _ _).alloc _;have kp:=fun W (hW:aa [] (w.alloc (.cells #[.int .i64 k,.int .u64 s] 129)) W)=>iP (M.cells.aA (u1.trans hW)) x k s hk hB;have h0:=M.h0;have uV:B.n0∉F:=M.d1.1
 have hsz:w.heap.size∉F:=fun hm=>by have:=M.cells.lt _ hm;omega
 have r0:∀W,aa F (w.alloc (.cells #[.int .i64 k,.int .u64 s] 129)) W->W.cell? ⟨B.n0,0,none⟩=some (.pointer (some ⟨B.c,0,none⟩)):=fun W hW=>hW.kept (u1.was h0) uV;have r1:∀W,aa F (w.alloc (.cells #[.int .i64 k,.int .u64 s] 129)) W->W.cell? ⟨w.heap.size,0,none⟩=some (.int .i64 k):=fun W h=>h.kept σ hsz;have r2:∀W,aa F (w.alloc (.cells #[.int .i64 k,.int .u64 s] 129)) W->W.cell? ⟨w.heap.size,1,none⟩=some (.int .u64 s):=fun W h=>h.kept σ hsz;have H0:=χ (ψ M (ψ I (ψ hoff (ψ I2 (ψ M.cells.mem (ψ lQ (ψ hin Hy)))))));have HX:=χ (ψ hcs (ψ hi (ψ hR GH)))
 have kh:=fun W (hM:fI W B F gt ct (aB A x k s) st G)=>eH hM.cells x hin;have KH:=χ kh;have HLB:=χ hB;clear M I ok hoff I2 hB h0 hcs lQ hi f1 f2 GH hin Hy kh hin0 hR htI
 go_enter Tryz.func218,Tryz.ntmps218
 go_wp2
 go_region_held3 (aa F (w.alloc (.cells #[.int .i64 k,.int .u64 s] 129))) (exact ν)
  (first
   | ((go_at_call 147;(with_reducible refine (kp _ β).mono ?_));rintro e w1 ⟨rfl,jF,hu1⟩;(have hu2:aa F (w.alloc (.cells #[.int .i64 k,.int .u64 s] 129)) w1:=ν)))
 have uF:aa F w w1:=(u1.mono σ).trans hu2;have hM1:=H0.out.1.dw uF jF (fun y hy=>Or.inl hy) HX.out.1 H0.out.2.2.2.2.2.1;have XD:=fun W (hW:aa [] w1 W)=>KH.out W (hM1.aA hW);simp only [HX.out.2.1,hxh] at XD;have b0:=hM1.h0;have jX:=χ (ψ hM1 uF);clear kp r0 r1 r2 hM1 uF hu2 jF hu1 hsz u1;have vv:x<(aB A x k s).cs.length:=by rw [HX.out.1];exact hx
 have BK:(x:Int)<((aB A x k s).cs.length:Int):=ω;have hcb:(aB A x k s).cs.length<=65536:=jX.out.1.cells.ok.c1
 by_cases hup:G.up x=-1
 ·go_wp2_with (first
   | ((go_at_call 140;(with_reducible refine (XD _ β).mono ?_));rintro e w2 ⟨rfl,hC2,hu2⟩;(have M2:=(jX.out.1.aA (w':=_) (β:aa [] w1 _)).dw hu2 hC2 (fun y hy=>Or.inl hy) rfl rfl);(have d2:=M2.h2);(have p0:=M2.p0 vv);rw [hup] at p0;(have nJ:=χ (ψ M2 ((jX.out.2.then (β:aa [] w1 _)).trans hu2)));clear M2 hC2 hu2)
   | fail)
  refine sS (fun W=>fI W B F gt ct (aB A x k s) (bZ st 0) G/\aa (B.blk F gt) w W) ?_ ?_
  ·exact ⟨by rw [gN hst];exact nJ.out.1,nJ.out.2.mono jS⟩
  have e1:fZ (aB A x k s) hh x G=G:=by unfold fZ;rw [if_neg (by simp [hup])]
  have HE:=χ (ψ e1 hup);clear e1 hup d2 p0 XD b0;rintro w5 ⟨M5,DV⟩;have d3:=M5.h3;have dt:w5.cell? ⟨gt,hh,none⟩=some (.int .i64 (t:Int)):=by (have WO:=M5.top (q:=hh) (by rw [H0.out.2.2.2.2.2.1];exact Y2);rw [HX.out.2.2.1] at WO;exact WO)
  have df:=M5.ak.free hh;have hcap:=M5.cap;have hhI:(hh:Int)<((aB A x k s).hs.length:Int):=by rw [H0.out.2.2.2.2.2.1];omega
  have H5:=χ (ψ M5 DV)
  by_cases htx:t=x
  ·subst htx;clear M5 DV
   go_quiet (fail)
   go_wp2;go_ret;have eG:lC (aB A t k s) hh t G=G:=by unfold lC;rw [HE.out.1,HX.out.2.2.1,if_neg (by simp [mU])]
   have eQ:xJ (aB A t k s) hh t G=0+0:=by unfold xJ;rw [HE.out.1,HX.out.2.2.1,if_pos HE.out.2,if_pos (by rfl)]
   refine ⟨rfl,B.blk F gt,⟨⟨B,F,gt,ct,rfl,rfl,?_⟩,H0.out.2.2.2.1⟩,H5.out.2.drewN _,fun y hy=>Or.inl hy⟩;rw [eG,eQ];exact H5.out.1.drewN _
  ·have hxt:((t:Int) == (x:Int))=false:=ζ;have hxt2:((t:Int) != (x:Int))=true:=ζ;have hxt3:¬ ((t:Int)=(x:Int)):=ω;have hin:=H0.out.2.2.2.2.2.2.1;have Hy:=H0.out.2.2.2.2.2.2.2;have kc:=fun W (hW:aa [] w5 W)=>fF (M5.cells.aA hW) x t hin Hy;have hcn:=M5.cn;have mc:∀x,x≠B.c->x∉[B.c]:=fun x h1=>by simp [h1]
   have r0:∀W,aa [B.c] w5 W->W.cell? ⟨B.n0,0,none⟩=some (.pointer (some ⟨B.c,0,none⟩)):=fun W hW=>hW.kept M5.h0 (mc _ hcn.1);have r3:∀W,aa [B.c] w5 W->W.cell? ⟨B.n0,3,none⟩=some (.slice (some ⟨gt,0,none⟩) (aB A x k s).hs.length ct):=fun W hW=>hW.kept M5.h3 (mc _ hcn.1);have rt:∀W,aa [B.c] w5 W->W.cell? ⟨gt,hh,none⟩=some (.int .i64 (t:Int)):=fun W hW=>hW.kept dt (mc _ hcn.2.2.2.2.2);have rf:∀W,aa [B.c] w5 W->W.frozen? ⟨gt,hh,none⟩=false:=fun W hW=>hW.aL dt (mc _ hcn.2.2.2.2.2) df;clear M5 DV d3 dt df;obtain ⟨b2,hb2⟩:∃b2,decide (cZ (aB A x k s) x t)=b2:=⟨_,rfl⟩;rw [hb2] at kc;have HB2:=χ hb2
   clear hb2
   go_region_held3 (aa [B.c] w5) (exact ν)
    (first
     | ((go_at_call 174;(with_reducible refine (kc _ β).mono ?_));rintro e w6 ⟨rfl,Xo,iU⟩;(have kN:aa [B.c] w5 w6:=aa.trans ν iU)))
   have d3:=r3 _ kN;have dt:=rt _ kN;have df:=rf _ kN;have M6:=H5.out.1.setSt kN Xo;have WH:aa (B.blk F gt) w w6:=H5.out.2.trans (kN.mono (fun z hz=>by simp at hz;rw [hz];exact jS _ H0.out.2.2.2.2.1));rw [jk] at M6;have H6:=χ (ψ M6 WH);clear M6 WH kN Xo iU r0 r3 rt rf kc;have eQ:xJ (aB A x k s) hh x G=0+1:=by unfold xJ;rw [HE.out.1,HX.out.2.2.1,if_pos HE.out.2,if_neg (fun e=>htx (by have e2:(t:Int)=(x:Int):=e;omega))]
   have HQ:=χ eQ;clear eQ;cases b2 with
   | false=>
    go_wp2;go_ret;have eG:lC (aB A x k s) hh x G=G:=by unfold lC;rw [HE.out.1,HX.out.2.2.1,if_neg (fun h=>by have h2:=h.2;unfold o9 at h2;rw [show (mU (t::s0)).toNat=t from by unfold mU;simp,HB2.out] at h2;cases h2)]
    refine ⟨rfl,B.blk F gt,⟨⟨B,F,gt,ct,rfl,rfl,?_⟩,H0.out.2.2.2.1⟩,by (have:=H6.out.2);exact ν,fun y hy=>Or.inl hy⟩;rw [eG,HQ.out];exact H6.out.1
   | true=>
    go_wp2;go_ret;have eG:lC (aB A x k s) hh x G=JJ hh x G:=by unfold lC;rw [HE.out.1,HX.out.2.2.1,if_pos ⟨fun e=>htx (by have e2:(t:Int)=(x:Int):=e;omega),by unfold o9;rw [show (mU (t::s0)).toNat=t from by unfold mU;simp];exact HB2.out⟩]
    refine ⟨rfl,B.blk F gt,⟨⟨B,F,gt,ct,rfl,rfl,?_⟩,H0.out.2.2.2.1⟩,(H6.out.2).setCell (Or.inl (by simp [FB.blk])) _,fun y hy=>Or.inl hy⟩;rw [eG,HQ.out];exact H6.out.1.jd hh (x::Ag (G.R hh) x)
 ·obtain ⟨p1,hp1,ux,_⟩:=(H0.out.2.1.ff.EZ x hx).resolve_left hup;have hp1h:(A.c p1).i=hh:=by have:(A.c x).i=(A.c p1).i:=(H0.out.2.1.ff.home x p1 hx ux).1;omega
  have hpin:bX (aB A x k s) (p1:Int)=true:=(ai _ _).2 ⟨by rw [HX.out.1];exact hp1,by rw [HX.out.2.1];omega⟩;have hpn:((p1:Int) == -1)=false:=σ;obtain ⟨b,hb⟩:∃b,decide (cZ (aB A x k s) x p1)=b:=⟨_,rfl⟩;have KA:=χ (fun W st' (hM:fI W B F gt ct (aB A x k s) st' G)=>fF hM.cells x p1 H0.out.2.2.2.2.2.2.1 hpin);have HB:=χ hb;clear hb;cases b with
  | false=>
   go_wp2_with (first
    | ((go_at_call 140;(with_reducible refine (XD _ β).mono ?_));rintro e w2 ⟨rfl,hC2,hu2⟩;(have M2:=(jX.out.1.aA (w':=_) (β:aa [] w1 _)).dw hu2 hC2 (fun y hy=>Or.inl hy) rfl rfl);(have d2:=M2.h2);(have d0:=M2.h0);(have p0:=M2.p0 vv);rw [ux] at p0;(have ka:=KA.out _ _ M2);rw [HB.out] at ka;(have nJ:=χ (ψ M2 ((jX.out.2.then (β:aa [] w1 _)).trans hu2)));clear M2 hC2 hu2)
    | ((go_at_call 174;(with_reducible refine (ka).mono ?_));rintro e w3 ⟨rfl,yG,hu3⟩;(have Kh:=χ (ψ (nJ.out.1.setSt hu3 yG) hu3));clear yG hu3)
    | fail)
   refine sS (fun W=>fI W B F gt ct (aB A x k s) (bZ st 1) G/\aa (B.blk F gt) w W) ?_ ?_
   ·exact ⟨Kh.out.1,(nJ.out.2.mono jS).trans (Kh.out.2.mono (fun z hz=>by simp at hz;rw [hz];exact jS _ H0.out.2.2.2.2.1))⟩
   have e1:fZ (aB A x k s) hh x G=G:=by unfold fZ;rw [if_neg (fun h=>by have h2:=h.2;unfold o9 at h2;rw [ux,π,HB.out] at h2;cases h2)]
   have HE:=χ (ψ e1 hup);clear e1 hup d2 p0 XD b0 d0 ka ux;rintro w5 ⟨M5,DV⟩;have d3:=M5.h3;have dt:w5.cell? ⟨gt,hh,none⟩=some (.int .i64 (t:Int)):=by (have WO:=M5.top (q:=hh) (by rw [H0.out.2.2.2.2.2.1];exact Y2);rw [HX.out.2.2.1] at WO;exact WO)
   have df:=M5.ak.free hh;have hcap:=M5.cap;have hhI:(hh:Int)<((aB A x k s).hs.length:Int):=by rw [H0.out.2.2.2.2.2.1];omega
   have H5:=χ (ψ M5 DV)
   by_cases htx:t=x
   ·subst htx;clear M5 DV
    go_quiet (fail)
    go_wp2;go_ret;have eG:lC (aB A t k s) hh t G=G:=by unfold lC;rw [HE.out.1,HX.out.2.2.1,if_neg (by simp [mU])]
    have eQ:xJ (aB A t k s) hh t G=1+0:=by unfold xJ;rw [HE.out.1,HX.out.2.2.1,if_neg HE.out.2,if_pos (by rfl)]
    refine ⟨rfl,B.blk F gt,⟨⟨B,F,gt,ct,rfl,rfl,?_⟩,H0.out.2.2.2.1⟩,H5.out.2.drewN _,fun y hy=>Or.inl hy⟩;rw [eG,eQ];exact H5.out.1.drewN _
   ·have hxt:((t:Int) == (x:Int))=false:=ζ;have hxt2:((t:Int) != (x:Int))=true:=ζ;have hxt3:¬ ((t:Int)=(x:Int)):=ω;have hin:=H0.out.2.2.2.2.2.2.1;have Hy:=H0.out.2.2.2.2.2.2.2;have kc:=fun W (hW:aa [] w5 W)=>fF (M5.cells.aA hW) x t hin Hy;have hcn:=M5.cn;have mc:∀x,x≠B.c->x∉[B.c]:=fun x h1=>by simp [h1]
    have r0:∀W,aa [B.c] w5 W->W.cell? ⟨B.n0,0,none⟩=some (.pointer (some ⟨B.c,0,none⟩)):=fun W hW=>hW.kept M5.h0 (mc _ hcn.1);have r3:∀W,aa [B.c] w5 W->W.cell? ⟨B.n0,3,none⟩=some (.slice (some ⟨gt,0,none⟩) (aB A x k s).hs.length ct):=fun W hW=>hW.kept M5.h3 (mc _ hcn.1);have rt:∀W,aa [B.c] w5 W->W.cell? ⟨gt,hh,none⟩=some (.int .i64 (t:Int)):=fun W hW=>hW.kept dt (mc _ hcn.2.2.2.2.2);have rf:∀W,aa [B.c] w5 W->W.frozen? ⟨gt,hh,none⟩=false:=fun W hW=>hW.aL dt (mc _ hcn.2.2.2.2.2) df;clear M5 DV d3 dt df;obtain ⟨b2,hb2⟩:∃b2,decide (cZ (aB A x k s) x t)=b2:=⟨_,rfl⟩;rw [hb2] at kc
    have HB2:=χ hb2;clear hb2
    go_region_held3 (aa [B.c] w5) (exact ν)
     (first
      | ((go_at_call 174;(with_reducible refine (kc _ β).mono ?_));rintro e w6 ⟨rfl,Xo,iU⟩;(have kN:aa [B.c] w5 w6:=aa.trans ν iU)))
    have d3:=r3 _ kN;have dt:=rt _ kN;have df:=rf _ kN;have M6:=H5.out.1.setSt kN Xo;have WH:aa (B.blk F gt) w w6:=H5.out.2.trans (kN.mono (fun z hz=>by simp at hz;rw [hz];exact jS _ H0.out.2.2.2.2.1));rw [jk] at M6;have H6:=χ (ψ M6 WH);clear M6 WH kN Xo iU r0 r3 rt rf kc;have eQ:xJ (aB A x k s) hh x G=1+1:=by unfold xJ;rw [HE.out.1,HX.out.2.2.1,if_neg HE.out.2,if_neg (fun e=>htx (by have e2:(t:Int)=(x:Int):=e;omega))]
    have HQ:=χ eQ;clear eQ;cases b2 with
    | false=>
     go_wp2;go_ret;have eG:lC (aB A x k s) hh x G=G:=by unfold lC;rw [HE.out.1,HX.out.2.2.1,if_neg (fun h=>by have h2:=h.2;unfold o9 at h2;rw [show (mU (t::s0)).toNat=t from by unfold mU;simp,HB2.out] at h2;cases h2)]
     refine ⟨rfl,B.blk F gt,⟨⟨B,F,gt,ct,rfl,rfl,?_⟩,H0.out.2.2.2.1⟩,by (have:=H6.out.2);exact ν,fun y hy=>Or.inl hy⟩;rw [eG,HQ.out];exact H6.out.1
    | true=>
     go_wp2;go_ret;have eG:lC (aB A x k s) hh x G=JJ hh x G:=by unfold lC;rw [HE.out.1,HX.out.2.2.1,if_pos ⟨fun e=>htx (by have e2:(t:Int)=(x:Int):=e;omega),by unfold o9;rw [show (mU (t::s0)).toNat=t from by unfold mU;simp];exact HB2.out⟩]
     refine ⟨rfl,B.blk F gt,⟨⟨B,F,gt,ct,rfl,rfl,?_⟩,H0.out.2.2.2.1⟩,(H6.out.2).setCell (Or.inl (by simp [FB.blk])) _,fun y hy=>Or.inl hy⟩;rw [eG,HQ.out];exact H6.out.1.jd hh (x::Ag (G.R hh) x)
  | true=>
   have hlt:cZ (aB A x k s) x p1:=by have:=HB.out;simpa using this
   obtain ⟨hpx,o1,o2,o3,xX⟩:=H0.out.2.2.1 p1 ux
   have KL:=χ (fun W st' (hM:fI W B F gt ct (aB A x k s) st' G)=>by
    have hn:=HX.out.1;have:=FE (w:=W) (M:=hM) (bO:=fun y=>(A.c y).i) (L:=cZ (aB A x k s)) (Mx:=fun a y=>y≠x->cZ (aB A x k s) a y) (fun a=>vS) (q:=hh) (x:=x) (t:=t) (s:=s0) (by rw [H0.out.2.2.2.2.2.1];exact Y2) vv
     (by rw [hn];exact H0.out.2.1.ff.mono (fun y q hy hu ho=>⟨(H0.out.2.1.ff.home y q hy hu).1,(H0.out.2.1.ff.home y q hy hu).2,fun hyx=>by
      have hle:=uD HLB.out;rw [π] at hle;have hc:=ry HLB.out hx
      by_cases e:q=x
      ·subst e;exact lY ho (by rw [hc,if_neg hyx]) (by rw [hc,if_pos rfl];exact hle)
      ·exact (fM (by rw [hc,if_neg e]) (by rw [hc,if_neg hyx])).2 ho⟩) H0.out.2.1.ff.alone) HX.out.2.2.1 (by rw [hn];exact (H0.out.2.1.pU HX.out.2.2.1).2.2.1) h1
     (by
      rw [hn];intro p2 hp2;obtain rfl:p2=p1:=ω
      exact ⟨hpx,hp1h,o1,o2,o3⟩) (by rw [hn];exact fun y hy hyh Ze hyx=>xX y hy hyh Ze hyx)
    rw [hn] at this
    exact this)
   clear o1 o2 o3 xX
   go_wp2_with (first
    | ((go_at_call 140;(with_reducible refine (XD _ β).mono ?_));rintro e w2 ⟨rfl,hC2,hu2⟩;(have M2:=(jX.out.1.aA (w':=_) (β:aa [] w1 _)).dw hu2 hC2 (fun y hy=>Or.inl hy) rfl rfl);(have d2:=M2.h2);(have d0:=M2.h0);(have p0:=M2.p0 vv);rw [ux] at p0;(have ka:=KA.out _ _ M2);rw [HB.out] at ka;(have nJ:=χ (ψ M2 ((jX.out.2.then (β:aa [] w1 _)).trans hu2)));clear M2 hC2 hu2)
    | ((go_at_call 174;(with_reducible refine (ka).mono ?_));rintro e w3 ⟨rfl,yG,hu3⟩;(have kl:=KL.out _ _ (nJ.out.1.setSt hu3 yG));(have Kh:=χ (ψ (nJ.out.1.setSt hu3 yG) hu3));clear yG hu3)
    | ((go_at_call 225;(with_reducible refine (kl).mono ?_));rintro e w4 ⟨rfl,M4,iB⟩;(have Pm:=χ (ψ M4 iB));clear M4 iB)
    | fail)
   have e1:fZ (aB A x k s) hh x G=kH A.cs.length hh x G:=by unfold fZ;rw [if_pos ⟨hup,by unfold o9;rw [ux,π];exact HB.out⟩,HX.out.1]
   have hRL:=HX.out.2.2.2;rw [e1] at hRL;refine sS (fun W=>fI W B F gt ct (aB A x k s) (bZ st 1) (kH A.cs.length hh x G)/\aa (B.blk F gt) w W) ?_ ?_
   ·exact ⟨Pm.out.1,((nJ.out.2.mono jS).trans (Kh.out.2.mono (fun z hz=>by simp at hz;rw [hz];exact jS _ H0.out.2.2.2.2.1))).trans (Pm.out.2.mono (fun z hz=>by simp at hz;rcases hz with e|e|e<;>simp [FB.blk,e]))⟩
   have HE:=χ (ψ e1 hup);have Tp:=χ hRL;clear e1 hup d2 p0 XD b0 d0 ka ux hRL kl;rintro w5 ⟨M5,DV⟩;have d3:=M5.h3;have dt:w5.cell? ⟨gt,hh,none⟩=some (.int .i64 (t:Int)):=by (have WO:=M5.top (q:=hh) (by rw [H0.out.2.2.2.2.2.1];exact Y2);rw [Tp.out] at WO;exact WO)
   have df:=M5.ak.free hh;have hcap:=M5.cap;have hhI:(hh:Int)<((aB A x k s).hs.length:Int):=by rw [H0.out.2.2.2.2.2.1];omega
   have H5:=χ (ψ M5 DV)
   by_cases htx:t=x
   ·subst htx;clear M5 DV
    go_quiet (fail)
    go_wp2;go_ret;have eG:lC (aB A t k s) hh t G=(kH A.cs.length hh t G):=by unfold lC;rw [HE.out.1,Tp.out,if_neg (by simp [mU])]
    have eQ:xJ (aB A t k s) hh t G=1+0:=by unfold xJ;rw [HE.out.1,Tp.out,if_neg HE.out.2,if_pos (by rfl)]
    refine ⟨rfl,B.blk F gt,⟨⟨B,F,gt,ct,rfl,rfl,?_⟩,H0.out.2.2.2.1⟩,H5.out.2.drewN _,fun y hy=>Or.inl hy⟩;rw [eG,eQ];exact H5.out.1.drewN _
   ·have hxt:((t:Int) == (x:Int))=false:=ζ;have hxt2:((t:Int) != (x:Int))=true:=ζ;have hxt3:¬ ((t:Int)=(x:Int)):=ω;have hin:=H0.out.2.2.2.2.2.2.1;have Hy:=H0.out.2.2.2.2.2.2.2;have kc:=fun W (hW:aa [] w5 W)=>fF (M5.cells.aA hW) x t hin Hy;have hcn:=M5.cn;have mc:∀x,x≠B.c->x∉[B.c]:=fun x h1=>by simp [h1]
    have r0:∀W,aa [B.c] w5 W->W.cell? ⟨B.n0,0,none⟩=some (.pointer (some ⟨B.c,0,none⟩)):=fun W hW=>hW.kept M5.h0 (mc _ hcn.1);have r3:∀W,aa [B.c] w5 W->W.cell? ⟨B.n0,3,none⟩=some (.slice (some ⟨gt,0,none⟩) (aB A x k s).hs.length ct):=fun W hW=>hW.kept M5.h3 (mc _ hcn.1);have rt:∀W,aa [B.c] w5 W->W.cell? ⟨gt,hh,none⟩=some (.int .i64 (t:Int)):=fun W hW=>hW.kept dt (mc _ hcn.2.2.2.2.2);have rf:∀W,aa [B.c] w5 W->W.frozen? ⟨gt,hh,none⟩=false:=fun W hW=>hW.aL dt (mc _ hcn.2.2.2.2.2) df;clear M5 DV d3 dt df;obtain ⟨b2,hb2⟩:∃b2,decide (cZ (aB A x k s) x t)=b2:=⟨_,rfl⟩;rw [hb2] at kc
    have HB2:=χ hb2;clear hb2
    go_region_held3 (aa [B.c] w5) (exact ν)
     (first
      | ((go_at_call 174;(with_reducible refine (kc _ β).mono ?_));rintro e w6 ⟨rfl,Xo,iU⟩;(have kN:aa [B.c] w5 w6:=aa.trans ν iU)))
    have d3:=r3 _ kN;have dt:=rt _ kN;have df:=rf _ kN;have M6:=H5.out.1.setSt kN Xo;have WH:aa (B.blk F gt) w w6:=H5.out.2.trans (kN.mono (fun z hz=>by simp at hz;rw [hz];exact jS _ H0.out.2.2.2.2.1));rw [jk] at M6;have H6:=χ (ψ M6 WH);clear M6 WH kN Xo iU r0 r3 rt rf kc;have eQ:xJ (aB A x k s) hh x G=1+1:=by unfold xJ;rw [HE.out.1,Tp.out,if_neg HE.out.2,if_neg (fun e=>htx (by have e2:(t:Int)=(x:Int):=e;omega))]
    have HQ:=χ eQ;clear eQ;cases b2 with
    | false=>
     go_wp2;go_ret;have eG:lC (aB A x k s) hh x G=(kH A.cs.length hh x G):=by unfold lC;rw [HE.out.1,Tp.out,if_neg (fun h=>by have h2:=h.2;unfold o9 at h2;rw [show (mU (t::s')).toNat=t from by unfold mU;simp,HB2.out] at h2;cases h2)]
     refine ⟨rfl,B.blk F gt,⟨⟨B,F,gt,ct,rfl,rfl,?_⟩,H0.out.2.2.2.1⟩,by (have:=H6.out.2);exact ν,fun y hy=>Or.inl hy⟩;rw [eG,HQ.out];exact H6.out.1
    | true=>
     go_wp2;go_ret;have eG:lC (aB A x k s) hh x G=JJ hh x (kH A.cs.length hh x G):=by unfold lC;rw [HE.out.1,Tp.out,if_pos ⟨fun e=>htx (by have e2:(t:Int)=(x:Int):=e;omega),by unfold o9;rw [show (mU (t::s')).toNat=t from by unfold mU;simp];exact HB2.out⟩]
     refine ⟨rfl,B.blk F gt,⟨⟨B,F,gt,ct,rfl,rfl,?_⟩,H0.out.2.2.2.1⟩,(H6.out.2).setCell (Or.inl (by simp [FB.blk])) _,fun y hy=>Or.inl hy⟩;rw [eG,HQ.out];exact H6.out.1.jd hh (x::Ag ((kH A.cs.length hh x G).R hh) x)
end
section
variable {w:World} {p:Nat} {FF:List Nat} {A:NS} {st:Nat} {G:FG}
theorem Yz (I:y5 A G) (ok:A.Ok):G.R A.hs.length=[]:=by
 cases e:G.R A.hs.length with
 | nil=>rfl
 | cons x t=>
  have:=I.out (h:=A.hs.length) (z:=x) (by rw [e];simp);have:=ok.nat x this.2.1;omega
theorem NG (h:xy w p FF A st G) :
  Calls Tryz.prog 222 #[.pointer (some ⟨p,0,none⟩)] w fun e w'=>e=.returned (.int .i64 (dG A))/\Goes FF w w' (fun JN=>xy w' p JN (aS A) st G):=by
 obtain ⟨⟨B,F,gt,ct,rfl,rfl,M⟩,I⟩:=h;have k:=iZ M.cells;have h0:=M.h0;have I2:=VE I
 by_cases hl:65536<A.hs.length
 ·have e1:dG A=0:=by unfold dG;rw [if_pos hl]
  have e2:aS A=A:=by unfold aS;rw [if_pos hl]
  rw [e1,e2] at k;rw [e1,e2];have HM:=χ M;have HI:=χ I;clear M I e1 e2 I2
  go_enter Tryz.func222,Tryz.ntmps222
  go_wp2_with ((go_at_call 156;(with_reducible refine (k).mono ?_));rintro e w1 ⟨rfl,F1,hC,hu,hF⟩)
  go_ret;exact ⟨rfl,B.blk F1 gt,⟨⟨B,F1,gt,ct,rfl,rfl,HM.out.dw hu hC hF rfl rfl⟩,HI.out⟩,hu.mono jS,Ue hF⟩
 ·have e1:dG A=A.hs.length:=by unfold dG;rw [if_neg hl]
  rw [e1] at k;rw [e1];have hcs:(aS A).cs.length=A.cs.length:=by unfold aS;rw [if_neg hl]
  have lQ:(aS A).hs.length=A.hs.length+1:=by unfold aS;rw [if_neg hl];simp
  have hh0:=M.cells.ok.h0;have hpos:(0:Int)<(A.hs.length:Int):=ω;have D5:=Yz I M.cells.ok;have HM:=χ M;have HI:=χ (ψ I2 D5);have hlb:A.hs.length<=65536:=ω;clear M I e1 I2 D5
  go_enter Tryz.func222,Tryz.ntmps222
  go_wp2_with (first
   | ((go_at_call 156;(with_reducible refine (k).mono ?_));rintro e w1 ⟨rfl,F1,hC,hu,hF⟩;(have d3:=hu.kept HM.out.h3 HM.out.d1.1);(have f3:=hu.aL HM.out.h3 HM.out.d1.1 (HM.out.head.free 3));(have ho1:=aF HM.out.ak.own hu (fun g hg=>by simp [Value.ownBlock] at hg;subst hg;exact HM.out.d1.2.2.2.2.2));rw [uC] at ho1;(have g0:B.n0≠gt:=HM.out.d2.2.2.2.2);(have gl:=Nat.lt_of_lt_of_le (HM.out.lt gt (by simp [FB.blk])) hu.size))
   | ((at_builtin;refine aU rfl _ _ 26 rfl 0 3 (.int .i64 0) 1 8 Tryz.underlying26 gz rfl δ _ _ _ rfl (ho1) [.int .i64 (-1)] rfl (by simp [Value.oneCell']) (by first|rfl|(rw [World.size_alloc];rfl)) μ ω ω ?_;intro v2 w2 ho2 hu2 lS);(have hu2:aa [gt] w1 w2:=hu2);obtain ⟨pG,Ic,ev,_⟩:=gM ho2 ω;subst ev;(have d4:=hu2.kept d3 ζ);(have f4:=hu2.aL d3 ζ f3)))
  go_ret;have hM:=HM.out;have hlt:=hM.lt;have f:=hM.d1;have q:=hM.d2;have r:=hM.d3;have hws:=hu.size;have hw3:aa [B.n0] w2 (w2.setCell ⟨B.n0,3,none⟩ (.slice (some ⟨pG,0,none⟩) (A.hs.length+1) Ic)):=β;have hg1:pG=gt\/w1.heap.size<pG:=by
   rcases lS with h|h
   ·exact Or.inl (Option.some.inj h)
   ·exact Or.inr (h pG rfl)
  have jF:=hC.lt;have l0:=hlt B.n0 (by simp [FB.blk]);have l1:=hlt B.br (by simp [FB.blk]);have l2:=hlt B.bn (by simp [FB.blk]);have l3:=hlt B.bp (by simp [FB.blk]);have l4:=hlt B.bl (by simp [FB.blk]);have l5:=hlt gt (by simp [FB.blk]);have hnF:∀y,y<w.heap.size->y∉F->y∉F1:=fun y hy hn hm=>by rcases hF y hm with h'|h';exact hn h';omega
  have ES:pG∉F1:=by
   rcases hg1 with e|e
   ·rw [e];exact hnF gt l5 f.2.2.2.2.2
   ·exact fun hm=>by have:=jF pG hm;omega
  have hgn:∀y,y<w.heap.size->y≠gt->y≠pG:=fun y hy hn e=>by
   rcases hg1 with e2|e2
   ·exact hn (e.trans e2)
   ·omega
  have hhd:=((hM.head.upd hu f.1).upd hu2 ζ).set 3 (.slice (some ⟨pG,0,none⟩) (A.hs.length+1) Ic);have n2:∀y,y≠gt->y∉[gt]:=fun y h=>by simpa using h
  have n3:∀y,y≠B.n0->y∉[B.n0]:=fun y h=>by simpa using h
  have eT:jD G.R (A.hs.length+1)=jD G.R A.hs.length++[-1]:=by
   unfold jD;rw [List.range_succ,List.map_append];simp [HI.out.2,mU]
  have hBM:fI (w2.setCell ⟨B.n0,3,none⟩ (.slice (some ⟨pG,0,none⟩) (A.hs.length+1) Ic)) B F1 pG Ic (aS A) st G:=by
   refine ⟨?_,?_,?_,?_,⟨?_⟩,⟨hnF _ l0 f.1,hnF _ l1 f.2.1,hnF _ l2 f.2.2.1,hnF _ l3 f.2.2.2.1,hnF _ l4 f.2.2.2.2.1,ES⟩,⟨q.1,q.2.1,q.2.2.1,q.2.2.2.1,hgn _ l0 q.2.2.2.2⟩,⟨r.1,r.2.1,r.2.2.1,hgn _ l4 r.2.2.2.1,(hgn _ l1 (Ne.symm r.2.2.2.2.1)).symm,(hgn _ l2 (Ne.symm r.2.2.2.2.2.1)).symm,(hgn _ l3 (Ne.symm r.2.2.2.2.2.2)).symm⟩⟩
   ·rw [hcs,lQ];refine hhd.ext (fun j hj=>?_);rcases (ω:j=0\/j=1\/j=2\/j=3) with rfl|rfl|rfl|rfl<;>rfl
   ·exact (hC.upd hu2 (fun y hy=>by simp at hy;rw [hy];exact hnF gt l5 f.2.2.2.2.2)).upd hw3 (fun y hy=>by simp at hy;rw [hy];exact hnF _ l0 f.1)
   ·rw [hcs];exact ((hM.rings.upd hu f.2.1 f.2.2.1 f.2.2.2.1).upd hu2 (n2 _ (Ne.symm r.2.2.2.2.1)) (n2 _ (Ne.symm r.2.2.2.2.2.1)) (n2 _ (Ne.symm r.2.2.2.2.2.2))).upd hw3 (n3 _ (Ne.symm q.1)) (n3 _ (Ne.symm q.2.1)) (n3 _ (Ne.symm q.2.2.1))
   ·rw [hcs];exact ((hM.pl.upd hu f.2.2.2.2.1).upd hu2 (n2 _ r.2.2.2.1)).upd hw3 (n3 _ (Ne.symm q.2.2.2.1))
   ·rw [lQ,uC,eT,bL];refine aF (ma ho2 (Nat.zero_le _)) hw3 (fun g hg hm=>?_);simp [Value.ownBlock] at hg hm;exact hgn _ l0 q.2.2.2.2 ω
  refine ⟨rfl,B.blk F1 pG,⟨⟨B,F1,pG,Ic,rfl,rfl,hBM⟩,HI.out.1⟩,((hu.mono jS).trans (hu2.mono (fun z hz=>by simp at hz;simp [FB.blk,hz]))).trans (hw3.mono (fun z hz=>by simp at hz;simp [FB.blk,hz])),fun y hy=>?_⟩;simp only [FB.blk,ρ] at hy ⊢;rcases hy with e|e|e|e|e|e|e
  ·exact Or.inl (Or.inl e)
  ·exact Or.inl (Or.inr (Or.inl e))
  ·exact Or.inl (Or.inr (Or.inr (Or.inl e)))
  ·exact Or.inl (Or.inr (Or.inr (Or.inr (Or.inl e))))
  ·exact Or.inl (Or.inr (Or.inr (Or.inr (Or.inr (Or.inl e)))))
  ·rcases hg1 with e2|e2
   ·exact Or.inl (Or.inr (Or.inr (Or.inr (Or.inr (Or.inr (Or.inl (e.trans e2)))))))
   ·exact Or.inr ω
  ·rcases hF y e with h'|h'
   ·exact Or.inl (Or.inr (Or.inr (Or.inr (Or.inr (Or.inr (Or.inr h'))))))
   ·exact Or.inr h'
end
end Go.Proofs.YtklibcncmbofpaaGreat
