/-
  Lemmas for PathBest: Fb5, Fb6, Fb7, Fb8. Conditions: those of each lemma.
-/
import Derived.Test.YtklibcncmbofpaaGreatB27
set_option linter.all false
set_option maxHeartbeats 8000000
set_option maxRecDepth 10000
namespace Go.Proofs.YtklibcncmbofpaaGreat
open Go Go.RowKit
def xn (w:World) (p:Nat) (FF:List Nat) (A:NS) (st:Nat) (G:FG):Prop:=(∃B F gt ct,p=B.n0/\FF=B.blk F gt/\fI w B F gt ct A st G)/\yJ A G
theorem jK {B:FB} {F:List Nat} {gt:Nat}:∀x,x∈F->x∈B.blk F gt:=fun x hx=>by simp [FB.blk,hx]
theorem Vt {w:World} {B:FB} {F F':List Nat} {gt:Nat} (hF:∀x,x∈F'->x∈F\/w.heap.size<=x):∀x,x∈B.blk F' gt->x∈B.blk F gt\/w.heap.size<=x:=fun x hx=>by
 simp only [FB.blk,ρ] at hx ⊢;rcases hx with e|e|e|e|e|e|e
 ·exact Or.inl (Or.inl e)
 ·exact Or.inl (Or.inr (Or.inl e))
 ·exact Or.inl (Or.inr (Or.inr (Or.inl e)))
 ·exact Or.inl (Or.inr (Or.inr (Or.inr (Or.inl e))))
 ·exact Or.inl (Or.inr (Or.inr (Or.inr (Or.inr (Or.inl e)))))
 ·exact Or.inl (Or.inr (Or.inr (Or.inr (Or.inr (Or.inr (Or.inl e))))))
 ·rcases hF x e with h|h
  ·exact Or.inl (Or.inr (Or.inr (Or.inr (Or.inr (Or.inr (Or.inr h))))))
  ·exact Or.inr h
section
variable {w:World} {p:Nat} {FF:List Nat} {A:NS} {st:Nat} {G:FG}
theorem xn.upd {w':World} {S:List Nat} (h:xn w p FF A st G) (hu:aa S w w') (hS:∀x,x∈S->x∉FF):xn w' p FF A st G:=by
 obtain ⟨⟨B,F,gt,ct,rfl,rfl,M⟩,I⟩:=h;exact ⟨⟨B,F,gt,ct,rfl,rfl,M.upd hu hS⟩,I⟩
theorem xn.lt (h:xn w p FF A st G):∀x,x∈FF->x<w.heap.size:=by
 obtain ⟨⟨B,F,gt,ct,rfl,rfl,M⟩,I⟩:=h;exact M.lt
theorem xn.ok (h:xn w p FF A st G):A.Ok:=by
 obtain ⟨⟨B,F,gt,ct,rfl,rfl,M⟩,I⟩:=h;exact M.cells.ok
theorem xn.pI (h:xn w p FF A st G):st<=4611686018427387904:=by
 obtain ⟨⟨B,F,gt,ct,rfl,rfl,M⟩,I⟩:=h;exact M.cells.pI
theorem xn.cl (h:xn w p FF A st G):∃c F1,w.cell? ⟨p,0,none⟩=some (.pointer (some ⟨c,0,none⟩))/\aG w c F1 A st/\c∈FF:=by
 obtain ⟨⟨B,F,gt,ct,rfl,rfl,M⟩,I⟩:=h;exact ⟨B.c,F,M.h0,M.cells,jK _ M.cells.mem⟩
theorem LQ (I:yJ A G) (ok:A.Ok) {q:Int} {m:Nat} (hm:dW A q=some m):∃ (h:Nat) (s:List Nat),q=h/\1<=h/\h<A.hs.length/\G.R h=m::s/\0<dZ A q:=by
 obtain ⟨m1,m2⟩:=I.sO hm;have hx:(A.c m).i=(q.toNat:Int):=m1.2.2;have hnat:=ok.nat m m1.1;refine ⟨q.toNat,?_⟩;have hmem:=((I.fr.all q.toNat).2.1 m).2 ⟨m2,m1⟩;cases hR:G.R q.toNat with
 | nil=>rw [hR] at hmem;cases hmem
 | cons t s=>
  have:=(I.qc hR).1;rw [show ((q.toNat:Nat):Int)=q by omega,hm] at this
  injection this with this
  subst this;exact ⟨s,ω,m2,ω,rfl,fM.2 ⟨m,m1.1,ω,ω⟩⟩
theorem Gz (h:xn w p FF A st G) (q:Int) (hqb:-9223372036854775808<=q/\q<=9223372036854775807) :
  Calls Tryz.prog 224 #[.pointer (some ⟨p,0,none⟩),.int .i64 q] w fun e w'=>e=.returned (.tuple #[.int .i64 (pK (dW A q)),.bool (dW A q).isSome])/\w'=w:=by
 obtain ⟨⟨B,F,gt,ct,rfl,rfl,M⟩,I⟩:=h;have h0:=M.h0;have kl:=pV M.cells q hqb;cases hm:dW A q with
 | none=>
  rw [iQ.1 hm] at kl;clear M I hm
  go_enter Tryz.func224,Tryz.ntmps224
  go_wp2_with ((go_at_call 142;(with_reducible refine (kl).mono ?_);rintro e w9 ⟨rfl,aM⟩;rw [aM];clear aM w9))
  go_ret2;exact ⟨rfl,rfl⟩
 | some m=>
  obtain ⟨hh,s,rfl,h1,hl,hR,hp⟩:=LQ I M.cells.ok hm;have h3:=M.h3;have ht:=M.top hl;rw [hR] at ht;have ht':w.cell? ⟨gt,hh,none⟩=some (.int .i64 (m:Int)):=ht;have hcap:=M.cap;have hlI:(hh:Int)<(A.hs.length:Int):=ω;have hne:(((dZ A (hh:Int):Nat):Int) == 0)=false:=ζ;generalize dZ A (hh:Int)=ln at *;clear M I hm hR ht
  go_enter Tryz.func224,Tryz.ntmps224
  go_wp2_with ((go_at_call 142;(with_reducible refine (kl).mono ?_);rintro e w9 ⟨rfl,aM⟩;rw [aM];clear aM w9))
  go_ret2;exact ⟨rfl,rfl⟩
theorem Hq (h:xn w p FF A st G) (q x:Nat) (k s:Int) (hk:-9223372036854775808<=k/\k<=9223372036854775807/\0<=s/\s<=18446744073709551615) (hB:oF A q x=true) :
  Calls Tryz.prog 221 #[.pointer (some ⟨p,0,none⟩),.int .i64 (q:Int),.int .i64 (x:Int),.agg #[.int .i64 k,.int .u64 s]] w fun e w'=>e=.returned (.bool true)/\
   Goes FF w w' (fun Kw=>xn w' p Kw (aN A q x k s) (bZ st (sW q G)) (P8 (aN A q x k s) q x G)):=by
 obtain ⟨⟨B,F,gt,ct,rfl,rfl,M⟩,I⟩:=h;have ok:=M.cells.ok;obtain ⟨I2,_,_,_,h1,hx,hin,hti,hcs⟩:=X8 I ok k s hB;have lX:(aN A q x k s).hs.length=A.hs.length:=by unfold aN;split;rfl;rfl
 have hql:q<(aN A q x k s).hs.length:=by
  rw [lX];have:=(aT _ _).1 ((fE _ _ _).1 hB).1;omega
 have u1:aa [] w (w.alloc (.cells #[.int .i64 k,.int .u64 s] 129)):=(aa.refl _ _).alloc _;have kp:=fun W (hW:aa [] (w.alloc (.cells #[.int .i64 k,.int .u64 s] 129)) W)=>oC (M.cells.aA (u1.trans hW)) q x k s hk hB;have h0:=M.h0;have uQ:B.n0∉F:=M.d1.1;have hsz:w.heap.size∉F:=fun hm=>by have:=M.cells.lt _ hm;omega
 have r0:∀W,aa F (w.alloc (.cells #[.int .i64 k,.int .u64 s] 129)) W->W.cell? ⟨B.n0,0,none⟩=some (.pointer (some ⟨B.c,0,none⟩)):=fun W hW=>hW.kept (u1.was h0) uQ;have r1:∀W,aa F (w.alloc (.cells #[.int .i64 k,.int .u64 s] 129)) W->W.cell? ⟨w.heap.size,0,none⟩=some (.int .i64 k):=fun W h=>h.kept σ hsz;have r2:∀W,aa F (w.alloc (.cells #[.int .i64 k,.int .u64 s] 129)) W->W.cell? ⟨w.heap.size,1,none⟩=some (.int .u64 s):=fun W h=>h.kept σ hsz;have ka:=fun (W:World) (hM:fI W B F gt ct (aN A q x k s) st G)=>CQ hM [] hql hin hti;have HM:=χ (ψ M (ψ lX hcs));have HI:=χ I2
 clear M I ok I2 hin hti hql hx hcs lX h0 hB
 go_enter Tryz.func221,Tryz.ntmps221
 go_wp2
 go_region_held3 (aa F (w.alloc (.cells #[.int .i64 k,.int .u64 s] 129))) (exact ν)
  (first
   | ((go_at_call 154;(with_reducible refine (kp _ β).mono ?_));rintro e w1 ⟨rfl,jD,hu1⟩;(have hu2:aa F (w.alloc (.cells #[.int .i64 k,.int .u64 s] 129)) w1:=ν)))
 have uF:aa F w w1:=(u1.mono σ).trans hu2;have hM1:=HM.out.1.dB uF jD (fun y hy=>Or.inl hy) HM.out.2.2 HM.out.2.1;have ZW:=fun (W:World) (hW:aa [] w1 W)=>ka W (hM1.aA hW);have HU:=χ uF;have hcm:=HM.out.1.cells.mem;clear kp r0 r1 r2 hM1 ka uF hu2 jD hu1
 go_wp2_with (first
  | ((go_at_call 230;(with_reducible refine (ZW _ β).mono ?_));rintro e w2 ⟨rfl,hM2,hu3⟩)
  | fail)
 go_ret;refine ⟨rfl,B.blk F gt,⟨⟨B,F,gt,ct,rfl,rfl,hM2⟩,HI.out⟩,(HU.out.mono jK).trans ((β:aa _ w1 _).trans (hu3.mono (fun y hy=>?_))),fun y hy=>Or.inl hy⟩;simp only [ρ,ς,or_false] at hy;rcases hy with e|e|e|e
 ·rw [e];exact jK _ hcm
 all_goals simp [FB.blk,e]
end
def tailW (a:Option Addr) (n c:Nat):Value:=.slice (if c=1 then a else a.map (·.add 1)) (n-1) (c-1)
theorem Oe (w:World) (a:Option Addr) (n c:Nat) (h1:1<=n) (h2:n<=9223372036854775807) :
  (Instr.slice 26 (.slice a n c) (some (.int .i64 1)) none none).run Tryz.prog w=.ok (tailW a n c) w:=by
 have hs:(sizeOf 3).run Tryz.prog w=.ok 1 w:=by kernel_rfl
 unfold Instr.slice Instr.sliceBounds;simp [run_underlying Tryz.underlying26,go_sem,hs,tailW];intro h;omega
theorem P5 {w:World} {F:List Nat} {a:Option Addr} {n c:Nat} {x:Int} {xs:List Int} (h:iw w F (.slice a n c) (x::xs)):iw w F (tailW a n c) xs:=by
 obtain ⟨a',cap,e,h1,h2,h3⟩:=h;cases e;obtain ⟨g,off,rfl,hg,hF,_⟩:=h3 0 x rfl;simp only [List.length_cons] at h1 ⊢;unfold tailW;simp only [Nat.add_sub_cancel];refine ⟨_,_,rfl,ω,ω,fun j u hj=>?_⟩;have hjl:j<xs.length:=(List.getElem?_eq_some_iff.1 hj).1;rw [if_neg ω];obtain ⟨g2,off2,he,hg2,hF2,hc⟩:=h3 (j+1) u (by simpa using hj);simp only [Option.some.injEq,Addr.mk.injEq,and_true] at he;obtain ⟨rfl,rfl⟩:=he;exact ⟨g,off+1,by simp [Addr.add_lit],hg,hF,by rw [show off+1+j=off+(j+1) by omega];exact hc⟩
theorem iw.turned {w w':World} {F G:List Nat} {v:Value} {xs:List Int} (h:iw w F v xs) (hu:aa G w w') (hG:∀g,g∈G->g∈F\/w.heap.size<=g):iw w' F v xs:=by
 obtain ⟨a,cap,rfl,h1,h2,h3⟩:=h;refine ⟨a,cap,rfl,h1,h2,fun j u hj=>?_⟩;obtain ⟨g,off,rfl,hg,hF,hc⟩:=h3 j u hj;exact ⟨g,off,rfl,Nat.lt_of_lt_of_le hg hu.size,hF,by rw [hu.cell hg (fun hm=>(hG _ hm).elim hF (fun h'=>by have h2:w.heap.size<=g:=h';omega))];exact hc⟩
theorem iw.fewer {w:World} {F G:List Nat} {v:Value} {xs:List Int} (h:iw w F v xs) (hG:∀g,g∈G->g∈F):iw w G v xs:=by
 obtain ⟨a,cap,rfl,h1,h2,h3⟩:=h;refine ⟨a,cap,rfl,h1,h2,fun j u hj=>?_⟩;obtain ⟨g,off,rfl,hg,hF,hc⟩:=h3 j u hj;exact ⟨g,off,rfl,hg,fun hm=>hF (hG _ hm),hc⟩
def Hr (A:NS) (q:Int) (G:FG):FG:=match dW A q with|some m=>(rH A q.toNat m (kl (G.K m)++(G.R q.toNat).tail) G).1|none=>G
def FC (A:NS) (q:Int) (G:FG):Nat:=match dW A q with|some m=>(rW A q.toNat m (kl (G.K m)++(G.R q.toNat).tail) G).q+(rH A q.toNat m (kl (G.K m)++(G.R q.toNat).tail) G).2|none=>0
theorem Oy (l:List Nat) (x:Nat) (G:FG):uK (l++[x]) G=prt (uK l G) x:=by unfold uK;rw [List.foldl_append];rfl
section
variable {w:World} {p:Nat} {FF:List Nat} {A:NS} {st:Nat} {G:FG}
theorem Dp (h:xn w p FF A st G) (q:Int) (hqb:-9223372036854775808<=q/\q<=9223372036854775807) :
  Calls Tryz.prog 220 #[.pointer (some ⟨p,0,none⟩),.int .i64 q] w fun e w'=>e=.returned (.tuple #[.int .i64 (pK (dW A q)),.bool (dW A q).isSome])/\
   Goes FF w w' (fun Kw=>xn w' p Kw (uL A q) (bZ st (FC A q G)) (Hr A q G)):=by
 have km:=Gz h q hqb;have hst:=h.pI;have HK:=χ h;cases hm:dW A q with
 | none=>
  rw [hm] at km;have e1:uL A q=A:=by unfold uL;rw [hm]
  have e2:Hr A q G=G:=by unfold Hr;rw [hm]
  have e3:FC A q G=0:=by unfold FC;rw [hm]
  rw [e1,e2,e3,gL hst];clear h hm e1 e2 e3
  go_enter Tryz.func220,Tryz.ntmps220
  go_wp2_with ((go_at_call 224;(with_reducible refine (km).mono ?_);rintro e w9 ⟨rfl,aM⟩;rw [aM];clear aM w9))
  go_ret2;exact ⟨rfl,Goes.stay HK.out (aa.refl _ _)⟩
 | some m=>
  rw [hm,show pK (some m)=(m:Int) from rfl,show (some m:Option Nat).isSome=true from rfl] at km;have e1:uL A q=bz A m:=by unfold uL;rw [hm]
  have e2:Hr A q G=(rH A q.toNat m (kl (G.K m)++(G.R q.toNat).tail) G).1:=by unfold Hr;rw [hm]
  have e3:FC A q G=(rW A q.toNat m (kl (G.K m)++(G.R q.toNat).tail) G).q+(rH A q.toNat m (kl (G.K m)++(G.R q.toNat).tail) G).2:=by unfold FC;rw [hm]
  rw [e1,e2,e3];obtain ⟨hh,s,rfl,h1,hl,hR,hp⟩:=LQ h.2 h.ok hm;rw [π,hR,List.tail_cons];obtain ⟨⟨rg1,rg2⟩,T3,Bo,Yl,hDR,I4,_,_,_,_,hTy,Nv,_⟩:=XT h.2 h.ok hR;obtain ⟨_,hmx,um,hmh,hmin⟩:=h.2.out (h:=hh) (z:=m) (by rw [hR];simp);have XG:=fun W F c (hC:aG W c F A (bZ st ((rW A hh m (kl (G.K m)++s) G).q+(rH A hh m (kl (G.K m)++s) G).2)))=>iD hC m hmin;obtain ⟨⟨B,F,gt,ct,rfl,rfl,M⟩,I⟩:=h;have kra:=fun W (hW:aa [] w W)=>JF (M.aA hW) hmx (I.ff.ring m hmx) (fun z hz=>(I.ff.kid m z hmx hz).1);have hlen:(m::(kl (G.K m)++s)).length<=A.cs.length:=jM A.cs.length _ rg1.nd rg2;have hc1:=M.cells.ok.c1
  have hlt:=M.lt;have hcap:=M.cap;have hhI:(hh:Int)<(A.hs.length:Int):=ω;have lX:=M.cells.ok.h1;have hd:=M.d1;have hd2:=M.d2;have hd3:=M.d3;have hcm:=M.cells.mem;obtain ⟨rs,hrs⟩:∃rs,kl (G.K m)++s=rs:=⟨_,rfl⟩;rw [hrs] at rg1 rg2 T3 Yl hDR I4 XG hlen hTy Nv ⊢;obtain ⟨D,hD⟩:∃D,rW A hh m rs G=D:=⟨_,rfl⟩;have hD2:tid (o9 A) rs ⟨[],oZ hh m rs G,0⟩=D:=hD;have e4:rH A hh m rs G=ru (o9 A) hh D.T D.G 0:=by unfold rH;rw [hD]
  rw [hD] at Yl hDR hTy Nv XG ⊢;rw [e4] at I4 XG ⊢;obtain ⟨R4,hR4⟩:∃R4,ru (o9 A) hh D.T D.G 0=R4:=⟨_,rfl⟩;rw [hR4] at I4 XG ⊢;have ZW:=fun W (hW:fI W B F gt ct A st (dO G m))=>Fw hW.rings rg1 rg2;have H0:=χ (ψ rg1 (ψ rg2 (ψ T3 (ψ Bo (ψ Yl (ψ hDR (ψ I4 (ψ hTy (ψ Nv (ψ hD2 hR4))))))))));have HD:=χ (ψ hlt (ψ hd (ψ hd2 (ψ hd3 hcm))));have KD:=χ XG;clear M I rg1 rg2 T3 Bo Yl hDR I4 hR hm e1 e2 e3 hrs hlt hd hd2 hd3 hcm XG hTy Nv hD hD2 e4 hR4;have HA:=χ ZW;clear ZW;rw [List.length_cons] at hlen
  go_enter Tryz.func220,Tryz.ntmps220
  go_wp2_with (first
   | (go_at_call 224;(with_reducible refine (km).mono ?_);rintro e w9 ⟨rfl,aM⟩;rw [aM];clear aM w9)
   | ((go_at_call 226;(with_reducible refine (kra _ β).mono ?_));rintro e w1 ⟨rfl,M1,hu1⟩;(have a1:=HA.out _ M1);(have b1:=M1.h1);(have jZ:=χ (ψ M1 hu1));clear M1 hu1 kra)
   | ((go_at_call 227;(with_reducible refine (a1).mono ?_));rintro e w2 ⟨v2,rfl,ho2,hu2⟩;(have hs2:iw w2 (B.blk F gt) v2 (pM (m::rs)):=iw.iY (base:=w1.heap.size) (by rw [mQ];exact ho2) (fun g hg=>Nat.lt_of_lt_of_le (HD.out.1 g hg) jZ.out.2.size));obtain ⟨x2,c2,hv2,_⟩:=bu ho2;subst hv2;(have b2:=hu2.was b1);obtain ⟨a2',ha2⟩:∃a',tailW x2 (rs.length+1) c2=.slice a' rs.length (c2-1):=⟨_,rfl⟩;(have htl:=fun W=>Oe W x2 (rs.length+1) c2 ω ω);rw [ha2] at htl;(have hs3:iw w2 (B.blk F gt) (.slice a2' rs.length (c2-1)) (pM rs):=by (rw [←ha2];exact P5 hs2));(have HS2:=χ (ψ hs3 hu2));clear hs3 ha2;(have a2:=HA.out _ (jZ.out.1.aA hu2));clear hs2 hu2 ho2 a1 b1)
   | ((go_at_call 227;(with_reducible refine (a2).mono ?_));rintro e w3 ⟨v3,rfl,ho3,hu3⟩;rw [←mQ] at ho3;obtain ⟨g3,c3,hv3,hZ3,hb3⟩:=IZ.iY ho3 (by simp [pM]);rw [mQ,List.length_cons] at hv3;subst hv3;(have HZ3:=χ (ψ hZ3 (ψ hb3 hu3)));clear ho3 hZ3 hb3 hu3 a2 b2)
   | fail)
  have hlt:=HD.out.1
  go_loopw [38] (fun s38 wr=>∃j:Nat,j<=rs.length+1/\s38=.int .i64 (j:Int)/\fI wr B F gt ct A st (uK ((m::rs).take j) (dO G m))/\aa [B.bn,B.bp] w3 wr) (fun s38 _=>rs.length+1-(intOf s38).toNat)
  case atStart=>exact ⟨0,ω,rfl,(jZ.out.1.aA HS2.out.2).aA HZ3.out.2.2,aa.refl _ _⟩
  case round=>
   obtain ⟨j,hj,rfl,hM,hu⟩:=hrel;rename World=>wr
   by_cases hjl:j<rs.length+1
   ·obtain ⟨y,hy⟩:∃y,(m::rs)[j]?=some y:=⟨_,ε (by simpa using hjl)⟩;have hyn:y<A.cs.length:=H0.out.2.1 y (List.mem_of_getElem? hy);have hg3:g3∉[B.bn,B.bp]:=fun hm=>by
     have h3:=HZ3.out.2.1;have h2:=HS2.out.2.size;have h1:=jZ.out.2.size;simp at hm;rcases hm with e|e
     ·have:=hlt B.bn (by simp [FB.blk]);omega
     ·have:=hlt B.bp (by simp [FB.blk]);omega
    have hc:=hu.kept (HZ3.out.1.cell j (by rw [mQ];simpa using hjl)) hg3;have hgy:(pM (m::rs)).getD j 0=(y:Int):=by unfold pM;rw [φ,List.getElem?_map,hy];rfl
    rw [hgy] at hc;have b1:=hM.h1;have kp:=BX hM.rings hyn;have Xi:(j:Int)<(rs.length:Int)+1:=ω;have hw1:IntKind.i64.wrap ((j:Int)+1)=(j:Int)+1:=IntWalk.i64_in _ ω;have et:(m::rs).take (j+1)=(m::rs).take j++[y]:=by rw [List.take_add_one,hy];rfl
    have HR:=χ (ψ hM (ψ hu et));clear hM hu et hy hgy hlt
    go_wp2_with (first
     | ((go_at_call 228;(with_reducible refine (kp).mono ?_));rintro e w5 ⟨rfl,Mm,cu⟩)
     | fail)
    obtain ⟨hM,hu,et⟩:=HR.out;refine ⟨⟨j+1,ω,by go_num,?_,hu.trans cu⟩,by simp [intOf];omega⟩;rw [et,Oy];exact hM.dG cu Mm
   ·obtain rfl:j=rs.length+1:=ω;have et:(m::rs).take (rs.length+1)=m::rs:=List.take_of_length_le σ;rw [et] at hM;have q3:=hM.h3;have qt:=hM.top (q:=hh) hl;have qf:=hM.ak.free hh;have hgtn:B.n0≠gt:=HD.out.2.2.1.2.2.2.2;obtain ⟨w4,hw4⟩:∃w4,w4=wr.setCell ⟨gt,hh,none⟩ (.int .i64 (-1)):=⟨_,rfl⟩;have e3':({ uK (m::rs) (dO G m) with R:=az (uK (m::rs) (dO G m)).R hh [] }:FG)=oZ hh m rs G:=by
     unfold oZ;rw [(xA _ _).2.2.2,Vp]
    have M4:fI w4 B F gt ct A st (oZ hh m rs G):=by rw [hw4,←e3'];exact hM.iV hh []
    have iC:aa [gt] wr w4:=by rw [hw4];exact ν
    have hw3:aa (B.blk F gt) w3 w4:=(hu.mono (fun z hz=>by simp at hz;rcases hz with e|e<;>simp [FB.blk,e])).trans (iC.mono (fun z hz=>by simp at hz;simp [FB.blk,hz]));have hs4:iw w4 (B.blk F gt) (.slice a2' rs.length (c2-1)) (pM rs):=(HS2.out.1.turned HZ3.out.2.2 σ).turned hw3 (fun g hg=>Or.inl hg)
    have kt:=NA M4 h1 H0.out.2.2.2.1 H0.out.2.2.1 (hs4.fewer (fun g hg=>by
     simp only [ρ,ς,or_false] at hg;rcases hg with e|e|e|e
     ·rw [e];exact jK _ HD.out.2.2.2.2
     all_goals simp [FB.blk,e]))
    rw [H0.out.2.2.2.2.2.2.2.2.2.1] at kt;have Wi:aa (B.blk F gt) w w4:=(((jZ.out.2.mono (fun z hz=>by simp at hz;rcases hz with e|e|e<;>simp [FB.blk,e])).then HS2.out.2).then HZ3.out.2.2).trans hw3;have H4:=χ (ψ Wi (ψ hw4 hl));rw [hw4] at kt;clear hM hu et M4 iC hw3 hs4 Wi hw4 e3' hlt
    go_wp2_with (first
     | ((go_at_call 229;(with_reducible refine (kt).mono ?_));rintro e w5 ⟨v5,rfl,ZG,M5,cu⟩;obtain ⟨a5,c5,hv5,_⟩:=bu ZG;subst hv5)
     | fail)
    obtain ⟨Wi,hw4,hl⟩:=H4.out;rw [←hw4] at cu;have hz0:=gL hst;rw [←hw4] at ZG;have hs5:iw w5 (B.blk F gt) (.slice a5 D.T.length c5) D.T:=iw.iY (base:=w4.heap.size) ZG (fun g hg=>Nat.lt_of_lt_of_le (HD.out.1 g hg) Wi.size)
    have qI:aa (B.blk F gt) w4 w5:=cu.mono (fun z hz=>by
     simp only [ρ,ς,or_false] at hz;rcases hz with e|e|e|e
     ·rw [e];exact jK _ HD.out.2.2.2.2
     all_goals simp [FB.blk,e])
    have DN:=Wi.trans qI;have H5:=χ (ψ M5 (ψ hs5 DN));have Nv:D.T.length<=65537:=by have:=H0.out.2.2.2.2.2.2.2.2.1;omega
    clear M5 hs5 DN cu qI ZG Wi hw4 q3 qt qf kt H4
    go_loopw [59] (fun s59 wr2=>∃ (i:Nat) (G':FG) (q':Nat),i<=D.T.length/\s59=.int .i64 (i:Int)/\ru (o9 A) hh (D.T.drop i) G' q'=R4/\Aj A.cs.length (fun y=>((bz A (m:Int)).c y).i) (cZ A) hh (Gh (D.T.drop i)) G'/\fI wr2 B F gt ct A (bZ st (D.q+q')) G'/\aa (B.blk F gt) w5 wr2) (fun s59 _=>D.T.length-(intOf s59).toNat)
    case atStart=>exact ⟨0,D.G,0,ω,rfl,H0.out.2.2.2.2.2.2.2.2.2.2,H0.out.2.2.2.2.1,H5.out.1,aa.refl _ _⟩
    case round=>
     obtain ⟨i,G',q',hi,rfl,Px,Py,hM,hu⟩:=hrel;rename World=>wr2
     by_cases hil:i<D.T.length
     ·obtain ⟨y,hy⟩:∃y,D.T[i]?=some y:=⟨_,ε hil⟩;have hdr:D.T.drop i=y::D.T.drop (i+1):=by
       rw [List.drop_eq_getElem_cons hil]
       congr 1
       rw [ε hil] at hy
       injection hy
      rw [hdr] at Px Py;unfold ru at Px;rw [sD] at Py;obtain ⟨a6,c6,e6,_,_,hel⟩:=H5.out.2.1;have e7:a5=a6:=by injection e6
      subst e7;obtain ⟨g6,o6,rfl,hg6,hF6,hc6⟩:=hel i y hy;have hc7:=hu.kept hc6 hF6;have hiI:(i:Int)<(D.T.length:Int):=ω;have hw1:IntKind.i64.wrap ((i:Int)+1)=(i:Int)+1:=IntWalk.i64_in _ ω;have hTy:=H0.out.2.2.2.2.2.2.2.1 y (List.mem_of_getElem? hy)
      by_cases e:y=-1
      ·rw [if_pos e] at Px Py;rw [e] at hc7;have HR:=χ (ψ Px (ψ Py (ψ hM hu)));clear Px Py hM hu hy hdr hel e6 hc6 e;go_wp2;exact ⟨⟨i+1,G',q',ω,by go_num,HR.out.1,HR.out.2.1,HR.out.2.2.1,HR.out.2.2.2⟩,by simp [intOf];omega⟩
      ·rw [if_neg e] at Px Py;obtain ⟨z,rfl⟩:∃z:Nat,y=z:=⟨y.toNat,ω⟩;rw [π] at Px Py;have hzn:((z:Int) == -1)=false:=σ;have Mk:=(Py.pr z σ).1;have hzin:=H0.out.2.2.2.1 z Mk.1 Mk.2.2
       have kr:=fun W (hW:aa [] wr2 W)=>CQ (hM.aA hW) [] hl hzin (fun t s' et=>by
        have hm:=Py.mem t (by rw [et];simp)
        exact H0.out.2.2.2.1 t hm.1 hm.2.2)
       obtain ⟨hRI2,_⟩:=Py.step h1 (fun G=>zU _ _ _ _ _) (fun a b c=>cz);have HR:=χ (ψ Px (ψ hRI2 hu));clear Px Py hM hu hy hdr hel e6 hc6 e hRI2 Mk hzin hTy
       go_wp2_with (first
        | ((go_at_call 230;(with_reducible refine (kr _ β).mono ?_));rintro e w6 ⟨rfl,uB,iB⟩)
        | fail)
       rw [jg] at uB;refine ⟨⟨i+1,_,q'+sW hh G',ω,by go_num,HR.out.1,HR.out.2.1,by rw [←Nat.add_assoc];exact uB,HR.out.2.2.trans (iB.mono (fun z hz=>?_))⟩,by simp [intOf];omega⟩;simp only [ρ,ς,or_false] at hz;rcases hz with e|e|e|e
       ·rw [e];exact jK _ HD.out.2.2.2.2
       all_goals simp [FB.blk,e]
     ·obtain rfl:i=D.T.length:=ω;have hdr:D.T.drop D.T.length=[]:=List.drop_eq_nil_of_le (Nat.le_refl _);rw [hdr] at Px;have hRt':(G',q')=R4:=Px;subst hRt';have q0:=hM.h0;have kd:=KD.out wr2 F B.c hM.cells;have HR:=χ (ψ hM hu);clear Px Py hM hu hdr
      go_wp2_with (first
       | ((go_at_call 151;(with_reducible refine (kd).mono ?_));rintro e w7 ⟨rfl,hC7,kQ⟩)
       | fail)
      go_ret2;refine ⟨rfl,B.blk F gt,⟨⟨B,F,gt,ct,rfl,rfl,HR.out.1.dB kQ hC7 (fun y hy=>Or.inl hy) (fT A m) (by rw [je])⟩,H0.out.2.2.2.2.2.2.1⟩,(H5.out.2.2.trans HR.out.2).trans (kQ.mono jK),fun y hy=>Or.inl hy⟩
end
section
variable {w:World} {p:Nat} {FF:List Nat} {A:NS} {st:Nat} {G:FG}
theorem Sg (h:xn w p FF A st G) (x:Nat) (k s:Int) (hk:-9223372036854775808<=k/\k<=9223372036854775807/\0<=s/\s<=18446744073709551615) (hB:jo A x k s=true) {hh:Nat} (hxh:(A.c x).i=hh) :
  Calls Tryz.prog 218 #[.pointer (some ⟨p,0,none⟩),.int .i64 (x:Int),.agg #[.int .i64 k,.int .u64 s]] w fun e w'=>e=.returned (.bool true)/\
   Goes FF w w' (fun Kw=>xn w' p Kw (aB A x k s) (bZ st (xC (aB A x k s) hh x G)) (lQ (aB A x k s) hh x G)):=by
 obtain ⟨⟨B,F,gt,ct,rfl,rfl,M⟩,I⟩:=h;have hst:=M.cells.pI;have ok:=M.cells.ok;have hin0:=qE hB;obtain ⟨hx,hx0⟩:=(ai _ _).1 hin0;have h1:1<=hh:=ω;have YU:hh<A.hs.length:=by have:=(ok.nat x hx).2;omega
 have hcs:=fJ A x k s;have lX:(aB A x k s).hs.length=A.hs.length:=by rw [lN]
 have hi:=iR hB hx;obtain ⟨t,s0,hR,hoff,f1,f2,⟨s',FX⟩,_,_,_,_,_⟩:=LD I hB hx hxh h1;have I2:=(XZ I hB hx hxh h1).1;have htI:=I.qc hR;have hin:bX (aB A x k s) (x:Int)=true:=(ai _ _).2 ⟨by rw [hcs];exact hx,by rw [hi];exact hx0⟩;have He:bX (aB A x k s) (t:Int)=true:=(ai _ _).2 ⟨by rw [hcs];exact htI.2.2.1,by rw [hi];omega⟩;have u1:aa [] w (w.alloc (.cells #[.int .i64 k,.int .u64 s] 129)):=(aa.refl _ _).alloc _;have kp:=fun W (hW:aa [] (w.alloc (.cells #[.int .i64 k,.int .u64 s] 129)) W)=>iP (M.cells.aA (u1.trans hW)) x k s hk hB;have h0:=M.h0;have uQ:B.n0∉F:=M.d1.1
 have hsz:w.heap.size∉F:=fun hm=>by have:=M.cells.lt _ hm;omega
 have r0:∀W,aa F (w.alloc (.cells #[.int .i64 k,.int .u64 s] 129)) W->W.cell? ⟨B.n0,0,none⟩=some (.pointer (some ⟨B.c,0,none⟩)):=fun W hW=>hW.kept (u1.was h0) uQ;have r1:∀W,aa F (w.alloc (.cells #[.int .i64 k,.int .u64 s] 129)) W->W.cell? ⟨w.heap.size,0,none⟩=some (.int .i64 k):=fun W h=>h.kept σ hsz;have r2:∀W,aa F (w.alloc (.cells #[.int .i64 k,.int .u64 s] 129)) W->W.cell? ⟨w.heap.size,1,none⟩=some (.int .u64 s):=fun W h=>h.kept σ hsz;have H0:=χ (ψ M (ψ I (ψ hoff (ψ I2 (ψ M.cells.mem (ψ lX (ψ hin He)))))));have HX:=χ (ψ hcs (ψ hi (ψ hR FX)))
 have kh:=fun W (hM:fI W B F gt ct (aB A x k s) st G)=>eB hM.cells x hin;have KH:=χ kh;have HLB:=χ hB;clear M I ok hoff I2 hB h0 hcs lX hi f1 f2 FX hin He kh hin0 hR htI
 go_enter Tryz.func218,Tryz.ntmps218
 go_wp2
 go_region_held3 (aa F (w.alloc (.cells #[.int .i64 k,.int .u64 s] 129))) (exact ν)
  (first
   | ((go_at_call 147;(with_reducible refine (kp _ β).mono ?_));rintro e w1 ⟨rfl,jD,hu1⟩;(have hu2:aa F (w.alloc (.cells #[.int .i64 k,.int .u64 s] 129)) w1:=ν)))
 have uF:aa F w w1:=(u1.mono σ).trans hu2;have hM1:=H0.out.1.dB uF jD (fun y hy=>Or.inl hy) HX.out.1 H0.out.2.2.2.2.2.1;have Yx:=fun W (hW:aa [] w1 W)=>KH.out W (hM1.aA hW);simp only [HX.out.2.1,hxh] at Yx;have b0:=hM1.h0;have jZ:=χ (ψ hM1 uF);clear kp r0 r1 r2 hM1 uF hu2 jD hu1 hsz u1;have rO:x<(aB A x k s).cs.length:=by rw [HX.out.1];exact hx
 have CR:(x:Int)<((aB A x k s).cs.length:Int):=ω;have hcb:(aB A x k s).cs.length<=65536:=jZ.out.1.cells.ok.c1
 by_cases hup:G.up x=-1
 ·go_wp2_with (first
   | ((go_at_call 140;(with_reducible refine (Yx _ β).mono ?_));rintro e w2 ⟨rfl,hC2,hu2⟩;(have M2:=(jZ.out.1.aA (w':=_) (β:aa [] w1 _)).dB hu2 hC2 (fun y hy=>Or.inl hy) rfl rfl);(have d2:=M2.h2);(have p0:=M2.p0 rO);rw [hup] at p0;(have nI:=χ (ψ M2 ((jZ.out.2.then (β:aa [] w1 _)).trans hu2)));clear M2 hC2 hu2)
   | fail)
  refine sj (fun W=>fI W B F gt ct (aB A x k s) (bZ st 0) G/\aa (B.blk F gt) w W) ?_ ?_
  ·exact ⟨by rw [gL hst];exact nI.out.1,nI.out.2.mono jK⟩
  have e1:gu (aB A x k s) hh x G=G:=by unfold gu;rw [if_neg (by simp [hup])]
  have HE:=χ (ψ e1 hup);clear e1 hup d2 p0 Yx b0;rintro w5 ⟨M5,DN⟩;have d3:=M5.h3;have dt:w5.cell? ⟨gt,hh,none⟩=some (.int .i64 (t:Int)):=by (have WQ:=M5.top (q:=hh) (by rw [H0.out.2.2.2.2.2.1];exact YU);rw [HX.out.2.2.1] at WQ;exact WQ)
  have df:=M5.ak.free hh;have hcap:=M5.cap;have hhI:(hh:Int)<((aB A x k s).hs.length:Int):=by rw [H0.out.2.2.2.2.2.1];omega
  have H5:=χ (ψ M5 DN)
  by_cases htx:t=x
  ·subst htx;clear M5 DN
   go_quiet (fail)
   go_wp2;go_ret;have eG:lQ (aB A t k s) hh t G=G:=by unfold lQ;rw [HE.out.1,HX.out.2.2.1,if_neg (by simp [mX])]
   have eQ:xC (aB A t k s) hh t G=0+0:=by unfold xC;rw [HE.out.1,HX.out.2.2.1,if_pos HE.out.2,if_pos (by rfl)]
   refine ⟨rfl,B.blk F gt,⟨⟨B,F,gt,ct,rfl,rfl,?_⟩,H0.out.2.2.2.1⟩,H5.out.2.drewN _,fun y hy=>Or.inl hy⟩;rw [eG,eQ];exact H5.out.1.drewN _
  ·have hxt:((t:Int) == (x:Int))=false:=ζ;have hxt2:((t:Int) != (x:Int))=true:=ζ;have hxt3:¬ ((t:Int)=(x:Int)):=ω;have hin:=H0.out.2.2.2.2.2.2.1;have He:=H0.out.2.2.2.2.2.2.2;have kc:=fun W (hW:aa [] w5 W)=>fF (M5.cells.aA hW) x t hin He;have hcn:=M5.cn;have mc:∀x,x≠B.c->x∉[B.c]:=fun x h1=>by simp [h1]
   have r0:∀W,aa [B.c] w5 W->W.cell? ⟨B.n0,0,none⟩=some (.pointer (some ⟨B.c,0,none⟩)):=fun W hW=>hW.kept M5.h0 (mc _ hcn.1);have r3:∀W,aa [B.c] w5 W->W.cell? ⟨B.n0,3,none⟩=some (.slice (some ⟨gt,0,none⟩) (aB A x k s).hs.length ct):=fun W hW=>hW.kept M5.h3 (mc _ hcn.1);have rt:∀W,aa [B.c] w5 W->W.cell? ⟨gt,hh,none⟩=some (.int .i64 (t:Int)):=fun W hW=>hW.kept dt (mc _ hcn.2.2.2.2.2);have rf:∀W,aa [B.c] w5 W->W.frozen? ⟨gt,hh,none⟩=false:=fun W hW=>hW.aR dt (mc _ hcn.2.2.2.2.2) df;clear M5 DN d3 dt df;obtain ⟨b2,hb2⟩:∃b2,decide (cZ (aB A x k s) x t)=b2:=⟨_,rfl⟩;rw [hb2] at kc;have HB2:=χ hb2
   clear hb2
   go_region_held3 (aa [B.c] w5) (exact ν)
    (first
     | ((go_at_call 174;(with_reducible refine (kc _ β).mono ?_));rintro e w6 ⟨rfl,XH,iB⟩;(have kQ:aa [B.c] w5 w6:=aa.trans ν iB)))
   have d3:=r3 _ kQ;have dt:=rt _ kQ;have df:=rf _ kQ;have M6:=H5.out.1.setSt kQ XH;have Xq:aa (B.blk F gt) w w6:=H5.out.2.trans (kQ.mono (fun z hz=>by simp at hz;rw [hz];exact jK _ H0.out.2.2.2.2.1));rw [jg] at M6;have H6:=χ (ψ M6 Xq);clear M6 Xq kQ XH iB r0 r3 rt rf kc;have eQ:xC (aB A x k s) hh x G=0+1:=by unfold xC;rw [HE.out.1,HX.out.2.2.1,if_pos HE.out.2,if_neg (fun e=>htx (by have e2:(t:Int)=(x:Int):=e;omega))]
   have HQ:=χ eQ;clear eQ;cases b2 with
   | false=>
    go_wp2;go_ret;have eG:lQ (aB A x k s) hh x G=G:=by unfold lQ;rw [HE.out.1,HX.out.2.2.1,if_neg (fun h=>by have h2:=h.2;unfold o9 at h2;rw [show (mX (t::s0)).toNat=t from by unfold mX;simp,HB2.out] at h2;cases h2)]
    refine ⟨rfl,B.blk F gt,⟨⟨B,F,gt,ct,rfl,rfl,?_⟩,H0.out.2.2.2.1⟩,by (have:=H6.out.2);exact ν,fun y hy=>Or.inl hy⟩;rw [eG,HQ.out];exact H6.out.1
   | true=>
    go_wp2;go_ret;have eG:lQ (aB A x k s) hh x G=KO hh x G:=by unfold lQ;rw [HE.out.1,HX.out.2.2.1,if_pos ⟨fun e=>htx (by have e2:(t:Int)=(x:Int):=e;omega),by unfold o9;rw [show (mX (t::s0)).toNat=t from by unfold mX;simp];exact HB2.out⟩]
    refine ⟨rfl,B.blk F gt,⟨⟨B,F,gt,ct,rfl,rfl,?_⟩,H0.out.2.2.2.1⟩,(H6.out.2).setCell (Or.inl (by simp [FB.blk])) _,fun y hy=>Or.inl hy⟩;rw [eG,HQ.out];exact H6.out.1.iV hh (x::zh (G.R hh) x)
 ·obtain ⟨p1,hp1,ux,_⟩:=(H0.out.2.1.ff.FQ x hx).resolve_left hup;have hp1h:(A.c p1).i=hh:=by have:(A.c x).i=(A.c p1).i:=(H0.out.2.1.ff.home x p1 hx ux).1;omega
  have hpin:bX (aB A x k s) (p1:Int)=true:=(ai _ _).2 ⟨by rw [HX.out.1];exact hp1,by rw [HX.out.2.1];omega⟩;have hpn:((p1:Int) == -1)=false:=σ;obtain ⟨b,hb⟩:∃b,decide (cZ (aB A x k s) x p1)=b:=⟨_,rfl⟩;have KA:=χ (fun W st' (hM:fI W B F gt ct (aB A x k s) st' G)=>fF hM.cells x p1 H0.out.2.2.2.2.2.2.1 hpin);have HB:=χ hb;clear hb;cases b with
  | false=>
   go_wp2_with (first
    | ((go_at_call 140;(with_reducible refine (Yx _ β).mono ?_));rintro e w2 ⟨rfl,hC2,hu2⟩;(have M2:=(jZ.out.1.aA (w':=_) (β:aa [] w1 _)).dB hu2 hC2 (fun y hy=>Or.inl hy) rfl rfl);(have d2:=M2.h2);(have d0:=M2.h0);(have p0:=M2.p0 rO);rw [ux] at p0;(have ka:=KA.out _ _ M2);rw [HB.out] at ka;(have nI:=χ (ψ M2 ((jZ.out.2.then (β:aa [] w1 _)).trans hu2)));clear M2 hC2 hu2)
    | ((go_at_call 174;(with_reducible refine (ka).mono ?_));rintro e w3 ⟨rfl,yG,hu3⟩;(have I5:=χ (ψ (nI.out.1.setSt hu3 yG) hu3));clear yG hu3)
    | fail)
   refine sj (fun W=>fI W B F gt ct (aB A x k s) (bZ st 1) G/\aa (B.blk F gt) w W) ?_ ?_
   ·exact ⟨I5.out.1,(nI.out.2.mono jK).trans (I5.out.2.mono (fun z hz=>by simp at hz;rw [hz];exact jK _ H0.out.2.2.2.2.1))⟩
   have e1:gu (aB A x k s) hh x G=G:=by unfold gu;rw [if_neg (fun h=>by have h2:=h.2;unfold o9 at h2;rw [ux,π,HB.out] at h2;cases h2)]
   have HE:=χ (ψ e1 hup);clear e1 hup d2 p0 Yx b0 d0 ka ux;rintro w5 ⟨M5,DN⟩;have d3:=M5.h3;have dt:w5.cell? ⟨gt,hh,none⟩=some (.int .i64 (t:Int)):=by (have WQ:=M5.top (q:=hh) (by rw [H0.out.2.2.2.2.2.1];exact YU);rw [HX.out.2.2.1] at WQ;exact WQ)
   have df:=M5.ak.free hh;have hcap:=M5.cap;have hhI:(hh:Int)<((aB A x k s).hs.length:Int):=by rw [H0.out.2.2.2.2.2.1];omega
   have H5:=χ (ψ M5 DN)
   by_cases htx:t=x
   ·subst htx;clear M5 DN
    go_quiet (fail)
    go_wp2;go_ret;have eG:lQ (aB A t k s) hh t G=G:=by unfold lQ;rw [HE.out.1,HX.out.2.2.1,if_neg (by simp [mX])]
    have eQ:xC (aB A t k s) hh t G=1+0:=by unfold xC;rw [HE.out.1,HX.out.2.2.1,if_neg HE.out.2,if_pos (by rfl)]
    refine ⟨rfl,B.blk F gt,⟨⟨B,F,gt,ct,rfl,rfl,?_⟩,H0.out.2.2.2.1⟩,H5.out.2.drewN _,fun y hy=>Or.inl hy⟩;rw [eG,eQ];exact H5.out.1.drewN _
   ·have hxt:((t:Int) == (x:Int))=false:=ζ;have hxt2:((t:Int) != (x:Int))=true:=ζ;have hxt3:¬ ((t:Int)=(x:Int)):=ω;have hin:=H0.out.2.2.2.2.2.2.1;have He:=H0.out.2.2.2.2.2.2.2;have kc:=fun W (hW:aa [] w5 W)=>fF (M5.cells.aA hW) x t hin He;have hcn:=M5.cn;have mc:∀x,x≠B.c->x∉[B.c]:=fun x h1=>by simp [h1]
    have r0:∀W,aa [B.c] w5 W->W.cell? ⟨B.n0,0,none⟩=some (.pointer (some ⟨B.c,0,none⟩)):=fun W hW=>hW.kept M5.h0 (mc _ hcn.1);have r3:∀W,aa [B.c] w5 W->W.cell? ⟨B.n0,3,none⟩=some (.slice (some ⟨gt,0,none⟩) (aB A x k s).hs.length ct):=fun W hW=>hW.kept M5.h3 (mc _ hcn.1);have rt:∀W,aa [B.c] w5 W->W.cell? ⟨gt,hh,none⟩=some (.int .i64 (t:Int)):=fun W hW=>hW.kept dt (mc _ hcn.2.2.2.2.2);have rf:∀W,aa [B.c] w5 W->W.frozen? ⟨gt,hh,none⟩=false:=fun W hW=>hW.aR dt (mc _ hcn.2.2.2.2.2) df;clear M5 DN d3 dt df;obtain ⟨b2,hb2⟩:∃b2,decide (cZ (aB A x k s) x t)=b2:=⟨_,rfl⟩;rw [hb2] at kc
    have HB2:=χ hb2;clear hb2
    go_region_held3 (aa [B.c] w5) (exact ν)
     (first
      | ((go_at_call 174;(with_reducible refine (kc _ β).mono ?_));rintro e w6 ⟨rfl,XH,iB⟩;(have kQ:aa [B.c] w5 w6:=aa.trans ν iB)))
    have d3:=r3 _ kQ;have dt:=rt _ kQ;have df:=rf _ kQ;have M6:=H5.out.1.setSt kQ XH;have Xq:aa (B.blk F gt) w w6:=H5.out.2.trans (kQ.mono (fun z hz=>by simp at hz;rw [hz];exact jK _ H0.out.2.2.2.2.1));rw [jg] at M6;have H6:=χ (ψ M6 Xq);clear M6 Xq kQ XH iB r0 r3 rt rf kc;have eQ:xC (aB A x k s) hh x G=1+1:=by unfold xC;rw [HE.out.1,HX.out.2.2.1,if_neg HE.out.2,if_neg (fun e=>htx (by have e2:(t:Int)=(x:Int):=e;omega))]
    have HQ:=χ eQ;clear eQ;cases b2 with
    | false=>
     go_wp2;go_ret;have eG:lQ (aB A x k s) hh x G=G:=by unfold lQ;rw [HE.out.1,HX.out.2.2.1,if_neg (fun h=>by have h2:=h.2;unfold o9 at h2;rw [show (mX (t::s0)).toNat=t from by unfold mX;simp,HB2.out] at h2;cases h2)]
     refine ⟨rfl,B.blk F gt,⟨⟨B,F,gt,ct,rfl,rfl,?_⟩,H0.out.2.2.2.1⟩,by (have:=H6.out.2);exact ν,fun y hy=>Or.inl hy⟩;rw [eG,HQ.out];exact H6.out.1
    | true=>
     go_wp2;go_ret;have eG:lQ (aB A x k s) hh x G=KO hh x G:=by unfold lQ;rw [HE.out.1,HX.out.2.2.1,if_pos ⟨fun e=>htx (by have e2:(t:Int)=(x:Int):=e;omega),by unfold o9;rw [show (mX (t::s0)).toNat=t from by unfold mX;simp];exact HB2.out⟩]
     refine ⟨rfl,B.blk F gt,⟨⟨B,F,gt,ct,rfl,rfl,?_⟩,H0.out.2.2.2.1⟩,(H6.out.2).setCell (Or.inl (by simp [FB.blk])) _,fun y hy=>Or.inl hy⟩;rw [eG,HQ.out];exact H6.out.1.iV hh (x::zh (G.R hh) x)
  | true=>
   have hlt:cZ (aB A x k s) x p1:=by have:=HB.out;simpa using this
   obtain ⟨hpx,o1,o2,o3,lK⟩:=H0.out.2.2.1 p1 ux
   have KL:=χ (fun W st' (hM:fI W B F gt ct (aB A x k s) st' G)=>by
    have hn:=HX.out.1;have:=Fs (w:=W) (M:=hM) (bO:=fun y=>(A.c y).i) (L:=cZ (aB A x k s)) (Mx:=fun a y=>y≠x->cZ (aB A x k s) a y) (fun a=>vQ) (q:=hh) (x:=x) (t:=t) (s:=s0) (by rw [H0.out.2.2.2.2.2.1];exact YU) rO
     (by rw [hn];exact H0.out.2.1.ff.mono (fun y q hy hu ho=>⟨(H0.out.2.1.ff.home y q hy hu).1,(H0.out.2.1.ff.home y q hy hu).2,fun hyx=>by
      have hle:=tJ HLB.out;rw [π] at hle;have hc:=rA HLB.out hx
      by_cases e:q=x
      ·subst e;exact mD ho (by rw [hc,if_neg hyx]) (by rw [hc,if_pos rfl];exact hle)
      ·exact (fP (by rw [hc,if_neg e]) (by rw [hc,if_neg hyx])).2 ho⟩) H0.out.2.1.ff.alone) HX.out.2.2.1 (by rw [hn];exact (H0.out.2.1.qc HX.out.2.2.1).2.2.1) h1
     (by
      rw [hn];intro p2 hp2;obtain rfl:p2=p1:=ω
      exact ⟨hpx,hp1h,o1,o2,o3⟩) (by rw [hn];exact fun y hy hyh XK hyx=>lK y hy hyh XK hyx)
    rw [hn] at this
    exact this)
   clear o1 o2 o3 lK
   go_wp2_with (first
    | ((go_at_call 140;(with_reducible refine (Yx _ β).mono ?_));rintro e w2 ⟨rfl,hC2,hu2⟩;(have M2:=(jZ.out.1.aA (w':=_) (β:aa [] w1 _)).dB hu2 hC2 (fun y hy=>Or.inl hy) rfl rfl);(have d2:=M2.h2);(have d0:=M2.h0);(have p0:=M2.p0 rO);rw [ux] at p0;(have ka:=KA.out _ _ M2);rw [HB.out] at ka;(have nI:=χ (ψ M2 ((jZ.out.2.then (β:aa [] w1 _)).trans hu2)));clear M2 hC2 hu2)
    | ((go_at_call 174;(with_reducible refine (ka).mono ?_));rintro e w3 ⟨rfl,yG,hu3⟩;(have kl:=KL.out _ _ (nI.out.1.setSt hu3 yG));(have I5:=χ (ψ (nI.out.1.setSt hu3 yG) hu3));clear yG hu3)
    | ((go_at_call 225;(with_reducible refine (kl).mono ?_));rintro e w4 ⟨rfl,M4,iC⟩;(have Ps:=χ (ψ M4 iC));clear M4 iC)
    | fail)
   have e1:gu (aB A x k s) hh x G=kT A.cs.length hh x G:=by unfold gu;rw [if_pos ⟨hup,by unfold o9;rw [ux,π];exact HB.out⟩,HX.out.1]
   have hRL:=HX.out.2.2.2;rw [e1] at hRL;refine sj (fun W=>fI W B F gt ct (aB A x k s) (bZ st 1) (kT A.cs.length hh x G)/\aa (B.blk F gt) w W) ?_ ?_
   ·exact ⟨Ps.out.1,((nI.out.2.mono jK).trans (I5.out.2.mono (fun z hz=>by simp at hz;rw [hz];exact jK _ H0.out.2.2.2.2.1))).trans (Ps.out.2.mono (fun z hz=>by simp at hz;rcases hz with e|e|e<;>simp [FB.blk,e]))⟩
   have HE:=χ (ψ e1 hup);have R5:=χ hRL;clear e1 hup d2 p0 Yx b0 d0 ka ux hRL kl;rintro w5 ⟨M5,DN⟩;have d3:=M5.h3;have dt:w5.cell? ⟨gt,hh,none⟩=some (.int .i64 (t:Int)):=by (have WQ:=M5.top (q:=hh) (by rw [H0.out.2.2.2.2.2.1];exact YU);rw [R5.out] at WQ;exact WQ)
   have df:=M5.ak.free hh;have hcap:=M5.cap;have hhI:(hh:Int)<((aB A x k s).hs.length:Int):=by rw [H0.out.2.2.2.2.2.1];omega
   have H5:=χ (ψ M5 DN)
   by_cases htx:t=x
   ·subst htx;clear M5 DN
    go_quiet (fail)
    go_wp2;go_ret;have eG:lQ (aB A t k s) hh t G=(kT A.cs.length hh t G):=by unfold lQ;rw [HE.out.1,R5.out,if_neg (by simp [mX])]
    have eQ:xC (aB A t k s) hh t G=1+0:=by unfold xC;rw [HE.out.1,R5.out,if_neg HE.out.2,if_pos (by rfl)]
    refine ⟨rfl,B.blk F gt,⟨⟨B,F,gt,ct,rfl,rfl,?_⟩,H0.out.2.2.2.1⟩,H5.out.2.drewN _,fun y hy=>Or.inl hy⟩;rw [eG,eQ];exact H5.out.1.drewN _
   ·have hxt:((t:Int) == (x:Int))=false:=ζ;have hxt2:((t:Int) != (x:Int))=true:=ζ;have hxt3:¬ ((t:Int)=(x:Int)):=ω;have hin:=H0.out.2.2.2.2.2.2.1;have He:=H0.out.2.2.2.2.2.2.2;have kc:=fun W (hW:aa [] w5 W)=>fF (M5.cells.aA hW) x t hin He;have hcn:=M5.cn;have mc:∀x,x≠B.c->x∉[B.c]:=fun x h1=>by simp [h1]
    have r0:∀W,aa [B.c] w5 W->W.cell? ⟨B.n0,0,none⟩=some (.pointer (some ⟨B.c,0,none⟩)):=fun W hW=>hW.kept M5.h0 (mc _ hcn.1);have r3:∀W,aa [B.c] w5 W->W.cell? ⟨B.n0,3,none⟩=some (.slice (some ⟨gt,0,none⟩) (aB A x k s).hs.length ct):=fun W hW=>hW.kept M5.h3 (mc _ hcn.1);have rt:∀W,aa [B.c] w5 W->W.cell? ⟨gt,hh,none⟩=some (.int .i64 (t:Int)):=fun W hW=>hW.kept dt (mc _ hcn.2.2.2.2.2);have rf:∀W,aa [B.c] w5 W->W.frozen? ⟨gt,hh,none⟩=false:=fun W hW=>hW.aR dt (mc _ hcn.2.2.2.2.2) df;clear M5 DN d3 dt df;obtain ⟨b2,hb2⟩:∃b2,decide (cZ (aB A x k s) x t)=b2:=⟨_,rfl⟩;rw [hb2] at kc
    have HB2:=χ hb2;clear hb2
    go_region_held3 (aa [B.c] w5) (exact ν)
     (first
      | ((go_at_call 174;(with_reducible refine (kc _ β).mono ?_));rintro e w6 ⟨rfl,XH,iB⟩;(have kQ:aa [B.c] w5 w6:=aa.trans ν iB)))
    have d3:=r3 _ kQ;have dt:=rt _ kQ;have df:=rf _ kQ;have M6:=H5.out.1.setSt kQ XH;have Xq:aa (B.blk F gt) w w6:=H5.out.2.trans (kQ.mono (fun z hz=>by simp at hz;rw [hz];exact jK _ H0.out.2.2.2.2.1));rw [jg] at M6;have H6:=χ (ψ M6 Xq);clear M6 Xq kQ XH iB r0 r3 rt rf kc;have eQ:xC (aB A x k s) hh x G=1+1:=by unfold xC;rw [HE.out.1,R5.out,if_neg HE.out.2,if_neg (fun e=>htx (by have e2:(t:Int)=(x:Int):=e;omega))]
    have HQ:=χ eQ;clear eQ;cases b2 with
    | false=>
     go_wp2;go_ret;have eG:lQ (aB A x k s) hh x G=(kT A.cs.length hh x G):=by unfold lQ;rw [HE.out.1,R5.out,if_neg (fun h=>by have h2:=h.2;unfold o9 at h2;rw [show (mX (t::s')).toNat=t from by unfold mX;simp,HB2.out] at h2;cases h2)]
     refine ⟨rfl,B.blk F gt,⟨⟨B,F,gt,ct,rfl,rfl,?_⟩,H0.out.2.2.2.1⟩,by (have:=H6.out.2);exact ν,fun y hy=>Or.inl hy⟩;rw [eG,HQ.out];exact H6.out.1
    | true=>
     go_wp2;go_ret;have eG:lQ (aB A x k s) hh x G=KO hh x (kT A.cs.length hh x G):=by unfold lQ;rw [HE.out.1,R5.out,if_pos ⟨fun e=>htx (by have e2:(t:Int)=(x:Int):=e;omega),by unfold o9;rw [show (mX (t::s')).toNat=t from by unfold mX;simp];exact HB2.out⟩]
     refine ⟨rfl,B.blk F gt,⟨⟨B,F,gt,ct,rfl,rfl,?_⟩,H0.out.2.2.2.1⟩,(H6.out.2).setCell (Or.inl (by simp [FB.blk])) _,fun y hy=>Or.inl hy⟩;rw [eG,HQ.out];exact H6.out.1.iV hh (x::zh ((kT A.cs.length hh x G).R hh) x)
end
section
variable {w:World} {p:Nat} {FF:List Nat} {A:NS} {st:Nat} {G:FG}
theorem Zx (I:yJ A G) (ok:A.Ok):G.R A.hs.length=[]:=by
 cases e:G.R A.hs.length with
 | nil=>rfl
 | cons x t=>
  have:=I.out (h:=A.hs.length) (z:=x) (by rw [e];simp);have:=ok.nat x this.2.1;omega
theorem M0 (h:xn w p FF A st G) :
  Calls Tryz.prog 222 #[.pointer (some ⟨p,0,none⟩)] w fun e w'=>e=.returned (.int .i64 (dF A))/\Goes FF w w' (fun Kw=>xn w' p Kw (aQ A) st G):=by
 obtain ⟨⟨B,F,gt,ct,rfl,rfl,M⟩,I⟩:=h;have k:=iX M.cells;have h0:=M.h0;have I2:=U8 I
 by_cases hl:65536<A.hs.length
 ·have e1:dF A=0:=by unfold dF;rw [if_pos hl]
  have e2:aQ A=A:=by unfold aQ;rw [if_pos hl]
  rw [e1,e2] at k;rw [e1,e2];have HM:=χ M;have HI:=χ I;clear M I e1 e2 I2
  go_enter Tryz.func222,Tryz.ntmps222
  go_wp2_with ((go_at_call 156;(with_reducible refine (k).mono ?_));rintro e w1 ⟨rfl,F1,hC,hu,hF⟩)
  go_ret;exact ⟨rfl,B.blk F1 gt,⟨⟨B,F1,gt,ct,rfl,rfl,HM.out.dB hu hC hF rfl rfl⟩,HI.out⟩,hu.mono jK,Vt hF⟩
 ·have e1:dF A=A.hs.length:=by unfold dF;rw [if_neg hl]
  rw [e1] at k;rw [e1];have hcs:(aQ A).cs.length=A.cs.length:=by unfold aQ;rw [if_neg hl]
  have lX:(aQ A).hs.length=A.hs.length+1:=by unfold aQ;rw [if_neg hl];simp
  have hh0:=M.cells.ok.h0;have hpos:(0:Int)<(A.hs.length:Int):=ω;have zG:=Zx I M.cells.ok;have HM:=χ M;have HI:=χ (ψ I2 zG);have hlb:A.hs.length<=65536:=ω;clear M I e1 I2 zG
  go_enter Tryz.func222,Tryz.ntmps222
  go_wp2_with (first
   | ((go_at_call 156;(with_reducible refine (k).mono ?_));rintro e w1 ⟨rfl,F1,hC,hu,hF⟩;(have d3:=hu.kept HM.out.h3 HM.out.d1.1);(have f3:=hu.aR HM.out.h3 HM.out.d1.1 (HM.out.head.free 3));(have ho1:=aF HM.out.ak.own hu (fun g hg=>by simp [Value.ownBlock] at hg;subst hg;exact HM.out.d1.2.2.2.2.2));rw [uA] at ho1;(have g0:B.n0≠gt:=HM.out.d2.2.2.2.2);(have gl:=Nat.lt_of_lt_of_le (HM.out.lt gt (by simp [FB.blk])) hu.size))
   | ((at_builtin;refine aW rfl _ _ 26 rfl 0 3 (.int .i64 0) 1 8 Tryz.underlying26 fK rfl δ _ _ _ rfl (ho1) [.int .i64 (-1)] rfl (by simp [Value.oneCell']) (by first|rfl|(rw [World.size_alloc];rfl)) μ ω ω ?_;intro v2 w2 ho2 hu2 mW);(have hu2:aa [gt] w1 w2:=hu2);obtain ⟨pJ,Gd,ev,_⟩:=gM ho2 ω;subst ev;(have d4:=hu2.kept d3 ζ);(have f4:=hu2.aR d3 ζ f3)))
  go_ret;have hM:=HM.out;have hlt:=hM.lt;have f:=hM.d1;have q:=hM.d2;have r:=hM.d3;have hws:=hu.size;have hw3:aa [B.n0] w2 (w2.setCell ⟨B.n0,3,none⟩ (.slice (some ⟨pJ,0,none⟩) (A.hs.length+1) Gd)):=β;have hg1:pJ=gt\/w1.heap.size<pJ:=by
   rcases mW with h|h
   ·exact Or.inl (Option.some.inj h)
   ·exact Or.inr (h pJ rfl)
  have jD:=hC.lt;have l0:=hlt B.n0 (by simp [FB.blk]);have l1:=hlt B.br (by simp [FB.blk]);have l2:=hlt B.bn (by simp [FB.blk]);have l3:=hlt B.bp (by simp [FB.blk]);have l4:=hlt B.bl (by simp [FB.blk]);have l5:=hlt gt (by simp [FB.blk]);have hnF:∀y,y<w.heap.size->y∉F->y∉F1:=fun y hy hn hm=>by rcases hF y hm with h'|h';exact hn h';omega
  have EY:pJ∉F1:=by
   rcases hg1 with e|e
   ·rw [e];exact hnF gt l5 f.2.2.2.2.2
   ·exact fun hm=>by have:=jD pJ hm;omega
  have hgn:∀y,y<w.heap.size->y≠gt->y≠pJ:=fun y hy hn e=>by
   rcases hg1 with e2|e2
   ·exact hn (e.trans e2)
   ·omega
  have hhd:=((hM.head.upd hu f.1).upd hu2 ζ).set 3 (.slice (some ⟨pJ,0,none⟩) (A.hs.length+1) Gd);have n2:∀y,y≠gt->y∉[gt]:=fun y h=>by simpa using h
  have n3:∀y,y≠B.n0->y∉[B.n0]:=fun y h=>by simpa using h
  have eT:jB G.R (A.hs.length+1)=jB G.R A.hs.length++[-1]:=by
   unfold jB;rw [List.range_succ,List.map_append];simp [HI.out.2,mX]
  have hBM:fI (w2.setCell ⟨B.n0,3,none⟩ (.slice (some ⟨pJ,0,none⟩) (A.hs.length+1) Gd)) B F1 pJ Gd (aQ A) st G:=by
   refine ⟨?_,?_,?_,?_,⟨?_⟩,⟨hnF _ l0 f.1,hnF _ l1 f.2.1,hnF _ l2 f.2.2.1,hnF _ l3 f.2.2.2.1,hnF _ l4 f.2.2.2.2.1,EY⟩,⟨q.1,q.2.1,q.2.2.1,q.2.2.2.1,hgn _ l0 q.2.2.2.2⟩,⟨r.1,r.2.1,r.2.2.1,hgn _ l4 r.2.2.2.1,(hgn _ l1 (Ne.symm r.2.2.2.2.1)).symm,(hgn _ l2 (Ne.symm r.2.2.2.2.2.1)).symm,(hgn _ l3 (Ne.symm r.2.2.2.2.2.2)).symm⟩⟩
   ·rw [hcs,lX];refine hhd.ext (fun j hj=>?_);rcases (ω:j=0\/j=1\/j=2\/j=3) with rfl|rfl|rfl|rfl<;>rfl
   ·exact (hC.upd hu2 (fun y hy=>by simp at hy;rw [hy];exact hnF gt l5 f.2.2.2.2.2)).upd hw3 (fun y hy=>by simp at hy;rw [hy];exact hnF _ l0 f.1)
   ·rw [hcs];exact ((hM.rings.upd hu f.2.1 f.2.2.1 f.2.2.2.1).upd hu2 (n2 _ (Ne.symm r.2.2.2.2.1)) (n2 _ (Ne.symm r.2.2.2.2.2.1)) (n2 _ (Ne.symm r.2.2.2.2.2.2))).upd hw3 (n3 _ (Ne.symm q.1)) (n3 _ (Ne.symm q.2.1)) (n3 _ (Ne.symm q.2.2.1))
   ·rw [hcs];exact ((hM.pl.upd hu f.2.2.2.2.1).upd hu2 (n2 _ r.2.2.2.1)).upd hw3 (n3 _ (Ne.symm q.2.2.2.1))
   ·rw [lX,uA,eT,bN];refine aF (l8 ho2 (Nat.zero_le _)) hw3 (fun g hg hm=>?_);simp [Value.ownBlock] at hg hm;exact hgn _ l0 q.2.2.2.2 ω
  refine ⟨rfl,B.blk F1 pJ,⟨⟨B,F1,pJ,Gd,rfl,rfl,hBM⟩,HI.out.1⟩,((hu.mono jK).trans (hu2.mono (fun z hz=>by simp at hz;simp [FB.blk,hz]))).trans (hw3.mono (fun z hz=>by simp at hz;simp [FB.blk,hz])),fun y hy=>?_⟩;simp only [FB.blk,ρ] at hy ⊢;rcases hy with e|e|e|e|e|e|e
  ·exact Or.inl (Or.inl e)
  ·exact Or.inl (Or.inr (Or.inl e))
  ·exact Or.inl (Or.inr (Or.inr (Or.inl e)))
  ·exact Or.inl (Or.inr (Or.inr (Or.inr (Or.inl e))))
  ·exact Or.inl (Or.inr (Or.inr (Or.inr (Or.inr (Or.inl e)))))
  ·rcases hg1 with e2|e2
   ·exact Or.inl (Or.inr (Or.inr (Or.inr (Or.inr (Or.inr (Or.inl (e.trans e2)))))))
   ·exact Or.inr ω
  ·rcases hF y e with h'|h'
   ·exact Or.inl (Or.inr (Or.inr (Or.inr (Or.inr (Or.inr (Or.inr h'))))))
   ·exact Or.inr h'
end
end Go.Proofs.YtklibcncmbofpaaGreat
