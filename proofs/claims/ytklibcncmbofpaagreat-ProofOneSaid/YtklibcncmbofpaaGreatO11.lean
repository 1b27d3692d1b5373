/-
  Lemmas for ProofOne: Fb6, Fb7, Fb8, Fb9, FbN. Conditions: those of each lemma.
-/
import Derived.Test.YtklibcncmbofpaaGreatO03
import Derived.Test.YtklibcncmbofpaaGreatO10
set_option linter.all false
set_option maxHeartbeats 8000000
set_option maxRecDepth 10000
namespace Go.Proofs.YtklibcncmbofpaaGreat
open Go Go.RowKit
def tailW (a:Option Addr) (n c:Nat):Value:=.slice (if c=1 then a else a.map (·.add 1)) (n-1) (c-1)
theorem NA (w:World) (a:Option Addr) (n c:Nat) (h1:1<=n) (h2:n<=9223372036854775807) :
  (Instr.slice 26 (.slice a n c) (some (.int .i64 1)) none none).run Tryz.prog w=.ok (tailW a n c) w:=by
 have hs:(sizeOf 3).run Tryz.prog w=.ok 1 w:=by kernel_rfl
 unfold Instr.slice Instr.sliceBounds;simp [run_underlying Tryz.underlying26,go_sem,hs,tailW];intro h;omega
theorem Tc {w:World} {F:List Nat} {a:Option Addr} {n c:Nat} {x:Int} {xs:List Int} (h:fw w F (.slice a n c) (x::xs)):fw w F (tailW a n c) xs:=by
 obtain ⟨a',cap,e,h1,h2,h3⟩:=h;cases e;obtain ⟨g,off,rfl,hg,hF,_⟩:=h3 0 x rfl;simp only [Ω] at h1 ⊢;unfold tailW;simp only [Nat.add_sub_cancel];refine ⟨_,_,rfl,ω,ω,fun j u hj=>?_⟩;have hjl:j<xs.length:=(List.getElem?_eq_some_iff.1 hj).1;rw [Γ ω];obtain ⟨g2,YH,he,hg2,hF2,hc⟩:=h3 (j+1) u (by simpa using hj);simp only [Ϙ,Addr.mk.injEq,and_true] at he;obtain ⟨rfl,rfl⟩:=he;exact ⟨g,off+1,by simp [Addr.add_lit],hg,hF,by rw [show off+1+j=off+(j+1) by omega];exact hc⟩
theorem fw.turned {w w':World} {F G:List Nat} {v:Value} {xs:List Int} (h:fw w F v xs) (hu:aa G w w') (hG:∀g,g∈G->g∈F\/w.heap.size<=g):fw w' F v xs:=by
 obtain ⟨a,cap,rfl,h1,h2,h3⟩:=h;refine ⟨a,cap,rfl,h1,h2,fun j u hj=>?_⟩;obtain ⟨g,off,rfl,hg,hF,hc⟩:=h3 j u hj;exact ⟨g,off,rfl,Ψ hg hu.size,hF,by rw [hu.cell hg (fun hm=>(hG _ hm).elim hF (fun h'=>by have h2:w.heap.size<=g:=h';omega))];exact hc⟩
theorem fw.fewer {w:World} {F G:List Nat} {v:Value} {xs:List Int} (h:fw w F v xs) (hG:∀g,g∈G->g∈F):fw w G v xs:=by
 obtain ⟨a,cap,rfl,h1,h2,h3⟩:=h;refine ⟨a,cap,rfl,h1,h2,fun j u hj=>?_⟩;obtain ⟨g,off,rfl,hg,hF,hc⟩:=h3 j u hj;exact ⟨g,off,rfl,hg,fun hm=>hF (hG _ hm),hc⟩
def Fv (A:NS) (q:Int) (G:FG):FG:=match dD A q with|some m=>(rC A q.toNat m (kl (G.K m)++(G.R q.toNat).tail) G).1|none=>G
def F4 (A:NS) (q:Int) (G:FG):Nat:=match dD A q with|some m=>(r9 A q.toNat m (kl (G.K m)++(G.R q.toNat).tail) G).q+(rC A q.toNat m (kl (G.K m)++(G.R q.toNat).tail) G).2|none=>0
theorem O9 (l:List Nat) (x:Nat) (G:FG):uK (l++[x]) G=prt (uK l G) x:=by unfold uK;rw [List.foldl_append];rfl
section
variable {w:World} {p:Nat} {FF:List Nat} {A:NS} {st:Nat} {G:FG}
theorem EG (h:xn w p FF A st G) (q:Int) (hqb:-9223372036854775808<=q/\q<=9223372036854775807) :
  Calls Tryz.prog 220 #[.pointer (some ⟨p,0,none⟩),.int .i64 q] w fun e w'=>e=.returned (.tuple #[.int .i64 (oU (dD A q)),.bool (dD A q).isSome])/\
   Goes FF w w' (fun Jc=>xn w' p Jc (uH A q) (bO st (F4 A q G)) (Fv A q G)):=by
 have km:=Gq h q hqb;have hst:=h.oO;have HK:=χ h;cases hm:dD A q with
 | none=>
  rw [hm] at km;have e1:uH A q=A:=by unfold uH;rw [hm]
  have e2:Fv A q G=G:=by unfold Fv;rw [hm]
  have e3:F4 A q G=0:=by unfold F4;rw [hm]
  rw [e1,e2,e3,fT hst];clear h hm e1 e2 e3
  go_enter Tryz.func220,Tryz.ntmps220
  go_wp2_with ((go_at_call 224;(with_reducible refine (km).mono ?_);rintro e w9 ⟨rfl,aG⟩;rw [aG];clear aG w9))
  go_ret2;exact ⟨rfl,Goes.stay HK.out (aa.refl _ _)⟩
 | some m=>
  rw [hm,show oU (some m)=(m:Int) from rfl,show (some m:Option Nat).isSome=true from rfl] at km;have e1:uH A q=aY A m:=by unfold uH;rw [hm]
  have e2:Fv A q G=(rC A q.toNat m (kl (G.K m)++(G.R q.toNat).tail) G).1:=by unfold Fv;rw [hm]
  have e3:F4 A q G=(r9 A q.toNat m (kl (G.K m)++(G.R q.toNat).tail) G).q+(rC A q.toNat m (kl (G.K m)++(G.R q.toNat).tail) G).2:=by unfold F4;rw [hm]
  rw [e1,e2,e3];obtain ⟨hh,s,rfl,h1,hl,hR,hp⟩:=MF h.2 h.ok hm;rw [π,hR,List.tail_cons];obtain ⟨⟨rg1,rg2⟩,T3,BC,Ye,hDR,I4,_,_,_,_,hTy,Pp,_⟩:=Z9 h.2 h.ok hR;obtain ⟨_,hmx,um,hmh,hmin⟩:=h.2.out (h:=hh) (z:=m) (by rw [hR];simp);have Xx:=fun W F c (hC:az W c F A (bO st ((r9 A hh m (kl (G.K m)++s) G).q+(rC A hh m (kl (G.K m)++s) G).2)))=>gM hC m hmin;obtain ⟨⟨B,F,gt,ct,rfl,rfl,M⟩,I⟩:=h;have kra:=fun W (hW:aa [] w W)=>I6 (M.aj hW) hmx (I.ff.ring m hmx) (fun z hz=>(I.ff.kid m z hmx hz).1);have hlen:(m::(kl (G.K m)++s)).length<=A.cs.length:=jv A.cs.length _ rg1.nd rg2;have hc1:=M.cells.ok.c1
  have hlt:=M.lt;have hcap:=M.cap;have hhI:(hh:Int)<(A.hs.length:Int):=ω;have lC:=M.cells.ok.h1;have hd:=M.d1;have hd2:=M.d2;have hd3:=M.d3;have hcm:=M.cells.mem;obtain ⟨rs,hrs⟩:∃rs,kl (G.K m)++s=rs:=⟨_,rfl⟩;rw [hrs] at rg1 rg2 T3 Ye hDR I4 Xx hlen hTy Pp ⊢;obtain ⟨D,hD⟩:∃D,r9 A hh m rs G=D:=⟨_,rfl⟩;have hD2:tid (oJ A) rs ⟨[],oH hh m rs G,0⟩=D:=hD;have e4:rC A hh m rs G=qx (oJ A) hh D.T D.G 0:=by unfold rC;rw [hD]
  rw [hD] at Ye hDR hTy Pp Xx ⊢;rw [e4] at I4 Xx ⊢;obtain ⟨R4,hR4⟩:∃R4,qx (oJ A) hh D.T D.G 0=R4:=⟨_,rfl⟩;rw [hR4] at I4 Xx ⊢;have ka1:=fun W (hW:dX W B F gt ct A st (cO G m))=>Gt hW.rings rg1 rg2;have H0:=χ (ψ rg1 (ψ rg2 (ψ T3 (ψ BC (ψ Ye (ψ hDR (ψ I4 (ψ hTy (ψ Pp (ψ hD2 hR4))))))))));have HD:=χ (ψ hlt (ψ hd (ψ hd2 (ψ hd3 hcm))));have KD:=χ Xx;clear M I rg1 rg2 T3 BC Ye hDR I4 hR hm e1 e2 e3 hrs hlt hd hd2 hd3 hcm Xx hTy Pp hD hD2 e4 hR4;have HA:=χ ka1;clear ka1;rw [Ω] at hlen
  go_enter Tryz.func220,Tryz.ntmps220
  go_wp2_with (first
   | (go_at_call 224;(with_reducible refine (km).mono ?_);rintro e w9 ⟨rfl,aG⟩;rw [aG];clear aG w9)
   | ((go_at_call 226;(with_reducible refine (kra _ β).mono ?_));rintro e w1 ⟨rfl,M1,hu1⟩;(have a1:=HA.out _ M1);(have b1:=M1.h1);(have jJ:=χ (ψ M1 hu1));clear M1 hu1 kra)
   | ((go_at_call 227;(with_reducible refine (a1).mono ?_));rintro e w2 ⟨v2,rfl,ho2,hu2⟩;(have hs2:fw w2 (B.blk F gt) v2 (pO (m::rs)):=fw.iJ (base:=w1.heap.size) (by rw [mD];exact ho2) (fun g hg=>Ψ (HD.out.1 g hg) jJ.out.2.size));obtain ⟨x2,c2,hv2,_⟩:=aV ho2;subst hv2;(have b2:=hu2.was b1);obtain ⟨a2',ha2⟩:∃a',tailW x2 (rs.length+1) c2=.slice a' rs.length (c2-1):=⟨_,rfl⟩;(have htl:=fun W=>NA W x2 (rs.length+1) c2 ω ω);rw [ha2] at htl;(have hs3:fw w2 (B.blk F gt) (.slice a2' rs.length (c2-1)) (pO rs):=by (rw [←ha2];exact Tc hs2));(have HS2:=χ (ψ hs3 hu2));clear hs3 ha2;(have a2:=HA.out _ (jJ.out.1.aj hu2));clear hs2 hu2 ho2 a1 b1)
   | ((go_at_call 227;(with_reducible refine (a2).mono ?_));rintro e w3 ⟨v3,rfl,ho3,hu3⟩;rw [←mD] at ho3;obtain ⟨g3,c3,hv3,hZ3,hb3⟩:=IZ.iJ ho3 (by simp [pO]);rw [mD,Ω] at hv3;subst hv3;(have HZ3:=χ (ψ hZ3 (ψ hb3 hu3)));clear ho3 hZ3 hb3 hu3 a2 b2)
   | fail)
  have hlt:=HD.out.1
  go_loopw [38] (fun s38 wr=>∃j:Nat,j<=rs.length+1/\s38=.int .i64 (j:Int)/\dX wr B F gt ct A st (uK ((m::rs).take j) (cO G m))/\aa [B.bn,B.bp] w3 wr) (fun s38 _=>rs.length+1-(intOf s38).toNat)
  case atStart=>exact ⟨0,ω,rfl,(jJ.out.1.aj HS2.out.2).aj HZ3.out.2.2,aa.refl _ _⟩
  case round=>
   obtain ⟨j,hj,rfl,hM,hu⟩:=hrel;rename World=>wr
   by_cases hjl:j<rs.length+1
   ·obtain ⟨y,hy⟩:∃y,(m::rs)[j]?=some y:=⟨_,ε (by simpa using hjl)⟩;have hyn:y<A.cs.length:=H0.out.2.1 y (Η hy);have hg3:g3∉[B.bn,B.bp]:=fun hm=>by
     have h3:=HZ3.out.2.1;have h2:=HS2.out.2.size;have h1:=jJ.out.2.size;simp at hm;rcases hm with e|e
     ·have:=hlt B.bn (by simp [FB.blk]);omega
     ·have:=hlt B.bp (by simp [FB.blk]);omega
    have hc:=hu.kept (HZ3.out.1.cell j (by rw [mD];simpa using hjl)) hg3;have hgy:(pO (m::rs)).getD j 0=(y:Int):=by unfold pO;rw [φ,ϓ,hy];rfl
    rw [hgy] at hc;have b1:=hM.h1;have kp:=Cu hM.rings hyn;have hjI:(j:Int)<(rs.length:Int)+1:=ω;have hw1:IntKind.i64.wrap ((j:Int)+1)=(j:Int)+1:=Μ _ ω;have et:(m::rs).take (j+1)=(m::rs).take j++[y]:=by rw [ϐ,hy];rfl
    have HR:=χ (ψ hM (ψ hu et));clear hM hu et hy hgy hlt
    go_wp2_with (first
     | ((go_at_call 228;(with_reducible refine (kp).mono ?_));rintro e w5 ⟨rfl,Mg,bP⟩)
     | fail)
    obtain ⟨hM,hu,et⟩:=HR.out;refine ⟨⟨j+1,ω,by go_num,?_,hu.trans bP⟩,by simp [intOf];omega⟩;rw [et,O9];exact hM.bX bP Mg
   ·obtain rfl:j=rs.length+1:=ω;have et:(m::rs).take (rs.length+1)=m::rs:=List.take_of_length_le σ;rw [et] at hM;have q3:=hM.h3;have qt:=hM.top (q:=hh) hl;have qf:=hM.ah.free hh;have hgtn:B.n0≠gt:=HD.out.2.2.1.2.2.2.2;obtain ⟨w4,hw4⟩:∃w4,w4=wr.setCell ⟨gt,hh,none⟩ (.int .i64 (-1)):=⟨_,rfl⟩;have e3':({ uK (m::rs) (cO G m) with R:=ai (uK (m::rs) (cO G m)).R hh [] }:FG)=oH hh m rs G:=by
     unfold oH;rw [(xx _ _).2.2.2,Ws]
    have M4:dX w4 B F gt ct A st (oH hh m rs G):=by rw [hw4,←e3'];exact hM.iA hh []
    have fP:aa [gt] wr w4:=by rw [hw4];exact ν
    have hw3:aa (B.blk F gt) w3 w4:=(hu.mono (fun z hz=>by simp at hz;rcases hz with e|e<;>simp [FB.blk,e])).trans (fP.mono (fun z hz=>by simp at hz;simp [FB.blk,hz]));have hs4:fw w4 (B.blk F gt) (.slice a2' rs.length (c2-1)) (pO rs):=(HS2.out.1.turned HZ3.out.2.2 σ).turned hw3 (fun g hg=>Α hg)
    have kt:=Pk M4 h1 H0.out.2.2.2.1 H0.out.2.2.1 (hs4.fewer (fun g hg=>by
     simp only [ρ,ς,or_false] at hg;rcases hg with e|e|e|e
     ·rw [e];exact jA _ HD.out.2.2.2.2
     all_goals simp [FB.blk,e]))
    rw [H0.out.2.2.2.2.2.2.2.2.2.1] at kt;have V8:aa (B.blk F gt) w w4:=(((jJ.out.2.mono (fun z hz=>by simp at hz;rcases hz with e|e|e<;>simp [FB.blk,e])).then HS2.out.2).then HZ3.out.2.2).trans hw3;have H4:=χ (ψ V8 (ψ hw4 hl));rw [hw4] at kt;clear hM hu et M4 fP hw3 hs4 V8 hw4 e3' hlt
    go_wp2_with (first
     | ((go_at_call 229;(with_reducible refine (kt).mono ?_));rintro e w5 ⟨v5,rfl,YQ,M5,bP⟩;obtain ⟨a5,c5,hv5,_⟩:=aV YQ;subst hv5)
     | fail)
    obtain ⟨V8,hw4,hl⟩:=H4.out;rw [←hw4] at bP;have hz0:=fT hst;rw [←hw4] at YQ;have hs5:fw w5 (B.blk F gt) (.slice a5 D.T.length c5) D.T:=fw.iJ (base:=w4.heap.size) YQ (fun g hg=>Ψ (HD.out.1 g hg) V8.size)
    have qQ:aa (B.blk F gt) w4 w5:=bP.mono (fun z hz=>by
     simp only [ρ,ς,or_false] at hz;rcases hz with e|e|e|e
     ·rw [e];exact jA _ HD.out.2.2.2.2
     all_goals simp [FB.blk,e])
    have DY:=V8.trans qQ;have H5:=χ (ψ M5 (ψ hs5 DY));have Pp:D.T.length<=65537:=by have:=H0.out.2.2.2.2.2.2.2.2.1;omega
    clear M5 hs5 DY bP qQ YQ V8 hw4 q3 qt qf kt H4
    go_loopw [59] (fun s59 wr2=>∃ (i:Nat) (G':FG) (q':Nat),i<=D.T.length/\s59=.int .i64 (i:Int)/\qx (oJ A) hh (D.T.drop i) G' q'=R4/\zm A.cs.length (fun y=>((aY A (m:Int)).c y).i) (bU A) hh (Hl (D.T.drop i)) G'/\dX wr2 B F gt ct A (bO st (D.q+q')) G'/\aa (B.blk F gt) w5 wr2) (fun s59 _=>D.T.length-(intOf s59).toNat)
    case atStart=>exact ⟨0,D.G,0,ω,rfl,H0.out.2.2.2.2.2.2.2.2.2.2,H0.out.2.2.2.2.1,H5.out.1,aa.refl _ _⟩
    case round=>
     obtain ⟨i,G',q',hi,rfl,PT,PR,hM,hu⟩:=hrel;rename World=>wr2
     by_cases hil:i<D.T.length
     ·obtain ⟨y,hy⟩:∃y,D.T[i]?=some y:=⟨_,ε hil⟩;have hdr:D.T.drop i=y::D.T.drop (i+1):=by
       rw [ϝ hil]
       congr 1
       rw [ε hil] at hy
       injection hy
      rw [hdr] at PT PR;unfold qx at PT;rw [sH] at PR;obtain ⟨a6,c6,e6,_,_,hel⟩:=H5.out.2.1;have e7:a5=a6:=by injection e6
      subst e7;obtain ⟨g6,o6,rfl,hg6,hF6,hc6⟩:=hel i y hy;have hc7:=hu.kept hc6 hF6;have XX:(i:Int)<(D.T.length:Int):=ω;have hw1:IntKind.i64.wrap ((i:Int)+1)=(i:Int)+1:=Μ _ ω;have hTy:=H0.out.2.2.2.2.2.2.2.1 y (Η hy)
      by_cases e:y=-1
      ·rw [Δ e] at PT PR;rw [e] at hc7;have HR:=χ (ψ PT (ψ PR (ψ hM hu)));clear PT PR hM hu hy hdr hel e6 hc6 e;go_wp2;exact ⟨⟨i+1,G',q',ω,by go_num,HR.out.1,HR.out.2.1,HR.out.2.2.1,HR.out.2.2.2⟩,by simp [intOf];omega⟩
      ·rw [Γ e] at PT PR;obtain ⟨z,rfl⟩:∃z:Nat,y=z:=⟨y.toNat,ω⟩;rw [π] at PT PR;have hzn:((z:Int) == -1)=false:=σ;have Mm:=(PR.pr z σ).1;have hzin:=H0.out.2.2.2.1 z Mm.1 Mm.2.2
       have kr:=fun W (hW:aa [] wr2 W)=>Di (hM.aj hW) [] hl hzin (fun t s' et=>by
        have hm:=PR.mem t (by rw [et];simp)
        exact H0.out.2.2.2.1 t hm.1 hm.2.2)
       obtain ⟨hRI2,_⟩:=PR.step h1 (fun G=>AO _ _ _ _ _) (fun a b c=>bQ);have HR:=χ (ψ PT (ψ hRI2 hu));clear PT PR hM hu hy hdr hel e6 hc6 e hRI2 Mm hzin hTy
       go_wp2_with (first
        | ((go_at_call 230;(with_reducible refine (kr _ β).mono ?_));rintro e w6 ⟨rfl,tH,gN⟩)
        | fail)
       rw [iM] at tH;refine ⟨⟨i+1,_,q'+sO hh G',ω,by go_num,HR.out.1,HR.out.2.1,by rw [←Nat.add_assoc];exact tH,HR.out.2.2.trans (gN.mono (fun z hz=>?_))⟩,by simp [intOf];omega⟩;simp only [ρ,ς,or_false] at hz;rcases hz with e|e|e|e
       ·rw [e];exact jA _ HD.out.2.2.2.2
       all_goals simp [FB.blk,e]
     ·obtain rfl:i=D.T.length:=ω;have hdr:D.T.drop D.T.length=[]:=List.drop_eq_nil_of_le (Θ _);rw [hdr] at PT;have hRt':(G',q')=R4:=PT;subst hRt';have q0:=hM.h0;have kd:=KD.out wr2 F B.c hM.cells;have HR:=χ (ψ hM hu);clear PT PR hM hu hdr
      go_wp2_with (first
       | ((go_at_call 151;(with_reducible refine (kd).mono ?_));rintro e w7 ⟨rfl,hC7,iG⟩)
       | fail)
      go_ret2;refine ⟨rfl,B.blk F gt,⟨⟨B,F,gt,ct,rfl,rfl,HR.out.1.bV iG hC7 (fun y hy=>Α hy) (eO A m) (by rw [iL])⟩,H0.out.2.2.2.2.2.2.1⟩,(H5.out.2.2.trans HR.out.2).trans (iG.mono jA),fun y hy=>Α hy⟩
end
section
variable {w:World} {p:Nat} {FF:List Nat} {A:NS} {st:Nat} {G:FG}
theorem Qa (h:xn w p FF A st G) (x:Nat) (k s:Int) (hk:-9223372036854775808<=k/\k<=9223372036854775807/\0<=s/\s<=18446744073709551615) (hB:iT A x k s=true) {hh:Nat} (hxh:(A.c x).i=hh) :
  Calls Tryz.prog 218 #[.pointer (some ⟨p,0,none⟩),.int .i64 (x:Int),.agg #[.int .i64 k,.int .u64 s]] w fun e w'=>e=.returned (.bool true)/\
   Goes FF w w' (fun Jc=>xn w' p Jc (ak A x k s) (bO st (xJ (ak A x k s) hh x G)) (kT (ak A x k s) hh x G)):=by
 obtain ⟨⟨B,F,gt,ct,rfl,rfl,M⟩,I⟩:=h;have hst:=M.cells.oO;have ok:=M.cells.ok;have hin0:=qN hB;obtain ⟨hx,hx0⟩:=(ae _ _).1 hin0;have h1:1<=hh:=ω;have ZN:hh<A.hs.length:=by have:=(ok.nat x hx).2;omega
 have hcs:=dY A x k s;have lC:(ak A x k s).hs.length=A.hs.length:=by rw [kZ]
 have hi:=iw hB hx;obtain ⟨t,s0,hR,hoff,f1,f2,⟨s',Ho⟩,_,_,_,_,_⟩:=LX I hB hx hxh h1;have I2:=(Za I hB hx hxh h1).1;have htI:=I.oV hR;have hin:bM (ak A x k s) (x:Int)=true:=(ae _ _).2 ⟨by rw [hcs];exact hx,by rw [hi];exact hx0⟩;have Gg:bM (ak A x k s) (t:Int)=true:=(ae _ _).2 ⟨by rw [hcs];exact htI.2.2.1,by rw [hi];omega⟩;have u1:aa [] w (w.alloc (.cells #[.int .i64 k,.int .u64 s] 129)):=(aa.refl _ _).alloc _;have kp:=fun W (hW:aa [] (w.alloc (.cells #[.int .i64 k,.int .u64 s] 129)) W)=>gX (M.cells.aj (u1.trans hW)) x k s hk hB;have h0:=M.h0;have uM:B.n0∉F:=M.d1.1
 have hsz:w.heap.size∉F:=fun hm=>by have:=M.cells.lt _ hm;omega
 have r0:∀W,aa F (w.alloc (.cells #[.int .i64 k,.int .u64 s] 129)) W->W.cell? ⟨B.n0,0,none⟩=some (.pointer (some ⟨B.c,0,none⟩)):=fun W hW=>hW.kept (u1.was h0) uM;have r1:∀W,aa F (w.alloc (.cells #[.int .i64 k,.int .u64 s] 129)) W->W.cell? ⟨w.heap.size,0,none⟩=some (.int .i64 k):=fun W h=>h.kept σ hsz;have r2:∀W,aa F (w.alloc (.cells #[.int .i64 k,.int .u64 s] 129)) W->W.cell? ⟨w.heap.size,1,none⟩=some (.int .u64 s):=fun W h=>h.kept σ hsz;have H0:=χ (ψ M (ψ I (ψ hoff (ψ I2 (ψ M.cells.mem (ψ lC (ψ hin Gg)))))));have HX:=χ (ψ hcs (ψ hi (ψ hR Ho)))
 have kh:=fun W (hM:dX W B F gt ct (ak A x k s) st G)=>dG hM.cells x hin;have KH:=χ kh;have HLB:=χ hB;clear M I ok hoff I2 hB h0 hcs lC hi f1 f2 Ho hin Gg kh hin0 hR htI
 go_enter Tryz.func218,Tryz.ntmps218
 go_wp2
 go_region_held3 (aa F (w.alloc (.cells #[.int .i64 k,.int .u64 s] 129))) (exact ν)
  (first
   | ((go_at_call 147;(with_reducible refine (kp _ β).mono ?_));rintro e w1 ⟨rfl,jc,hu1⟩;(have hu2:aa F (w.alloc (.cells #[.int .i64 k,.int .u64 s] 129)) w1:=ν)))
 have uF:aa F w w1:=(u1.mono σ).trans hu2;have hM1:=H0.out.1.bV uF jc (fun y hy=>Α hy) HX.out.1 H0.out.2.2.2.2.2.1;have Yz:=fun W (hW:aa [] w1 W)=>KH.out W (hM1.aj hW);simp only [HX.out.2.1,hxh] at Yz;have b0:=hM1.h0;have jJ:=χ (ψ hM1 uF);clear kp r0 r1 r2 hM1 uF hu2 jc hu1 hsz u1;have uQ:x<(ak A x k s).cs.length:=by rw [HX.out.1];exact hx
 have BP:(x:Int)<((ak A x k s).cs.length:Int):=ω;have hcb:(ak A x k s).cs.length<=65536:=jJ.out.1.cells.ok.c1
 by_cases hup:G.up x=-1
 ·go_wp2_with (first
   | ((go_at_call 140;(with_reducible refine (Yz _ β).mono ?_));rintro e w2 ⟨rfl,hC2,hu2⟩;(have M2:=(jJ.out.1.aj (w':=_) (β:aa [] w1 _)).bV hu2 hC2 (fun y hy=>Α hy) rfl rfl);(have d2:=M2.h2);(have p0:=M2.p0 uQ);rw [hup] at p0;(have nE:=χ (ψ M2 ((jJ.out.2.then (β:aa [] w1 _)).trans hu2)));clear M2 hC2 hu2)
   | fail)
  refine sK (fun W=>dX W B F gt ct (ak A x k s) (bO st 0) G/\aa (B.blk F gt) w W) ?_ ?_
  ·exact ⟨by rw [fT hst];exact nE.out.1,nE.out.2.mono jA⟩
  have e1:fq (ak A x k s) hh x G=G:=by unfold fq;rw [Γ (by simp [hup])]
  have HE:=χ (ψ e1 hup);clear e1 hup d2 p0 Yz b0;rintro w5 ⟨M5,DY⟩;have d3:=M5.h3;have dt:w5.cell? ⟨gt,hh,none⟩=some (.int .i64 (t:Int)):=by (have XC:=M5.top (q:=hh) (by rw [H0.out.2.2.2.2.2.1];exact ZN);rw [HX.out.2.2.1] at XC;exact XC)
  have df:=M5.ah.free hh;have hcap:=M5.cap;have hhI:(hh:Int)<((ak A x k s).hs.length:Int):=by rw [H0.out.2.2.2.2.2.1];omega
  have H5:=χ (ψ M5 DY)
  by_cases htx:t=x
  ·subst htx;clear M5 DY
   go_quiet (fail)
   go_wp2;go_ret;have eG:kT (ak A t k s) hh t G=G:=by unfold kT;rw [HE.out.1,HX.out.2.2.1,Γ (by simp [l9])]
   have eQ:xJ (ak A t k s) hh t G=0+0:=by unfold xJ;rw [HE.out.1,HX.out.2.2.1,Δ HE.out.2,Δ (by rfl)]
   refine ⟨rfl,B.blk F gt,⟨⟨B,F,gt,ct,rfl,rfl,?_⟩,H0.out.2.2.2.1⟩,H5.out.2.drewN _,fun y hy=>Α hy⟩;rw [eG,eQ];exact H5.out.1.drewN _
  ·have hxt:((t:Int) == (x:Int))=false:=ζ;have hxt2:((t:Int) != (x:Int))=true:=ζ;have hxt3:¬ ((t:Int)=(x:Int)):=ω;have hin:=H0.out.2.2.2.2.2.2.1;have Gg:=H0.out.2.2.2.2.2.2.2;have kc:=fun W (hW:aa [] w5 W)=>dU (M5.cells.aj hW) x t hin Gg;have hcn:=M5.cn;have mc:∀x,x≠B.c->x∉[B.c]:=fun x h1=>by simp [h1]
   have r0:∀W,aa [B.c] w5 W->W.cell? ⟨B.n0,0,none⟩=some (.pointer (some ⟨B.c,0,none⟩)):=fun W hW=>hW.kept M5.h0 (mc _ hcn.1);have r3:∀W,aa [B.c] w5 W->W.cell? ⟨B.n0,3,none⟩=some (.slice (some ⟨gt,0,none⟩) (ak A x k s).hs.length ct):=fun W hW=>hW.kept M5.h3 (mc _ hcn.1);have rt:∀W,aa [B.c] w5 W->W.cell? ⟨gt,hh,none⟩=some (.int .i64 (t:Int)):=fun W hW=>hW.kept dt (mc _ hcn.2.2.2.2.2);have rf:∀W,aa [B.c] w5 W->W.frozen? ⟨gt,hh,none⟩=false:=fun W hW=>hW.aK dt (mc _ hcn.2.2.2.2.2) df;clear M5 DY d3 dt df;obtain ⟨b2,hb2⟩:∃b2,decide (bU (ak A x k s) x t)=b2:=⟨_,rfl⟩;rw [hb2] at kc;have HB2:=χ hb2
   clear hb2
   go_region_held3 (aa [B.c] w5) (exact ν)
    (first
     | ((go_at_call 174;(with_reducible refine (kc _ β).mono ?_));rintro e w6 ⟨rfl,Xv,gN⟩;(have iG:aa [B.c] w5 w6:=aa.trans ν gN)))
   have d3:=r3 _ iG;have dt:=rt _ iG;have df:=rf _ iG;have M6:=H5.out.1.setSt iG Xv;have Xp:aa (B.blk F gt) w w6:=H5.out.2.trans (iG.mono (fun z hz=>by simp at hz;rw [hz];exact jA _ H0.out.2.2.2.2.1));rw [iM] at M6;have H6:=χ (ψ M6 Xp);clear M6 Xp iG Xv gN r0 r3 rt rf kc;have eQ:xJ (ak A x k s) hh x G=0+1:=by unfold xJ;rw [HE.out.1,HX.out.2.2.1,Δ HE.out.2,Γ (fun e=>htx (by have e2:(t:Int)=(x:Int):=e;omega))]
   have HQ:=χ eQ;clear eQ;cases b2 with
   | false=>
    go_wp2;go_ret;have eG:kT (ak A x k s) hh x G=G:=by unfold kT;rw [HE.out.1,HX.out.2.2.1,Γ (fun h=>by have h2:=h.2;unfold oJ at h2;rw [show (l9 (t::s0)).toNat=t from by unfold l9;simp,HB2.out] at h2;cases h2)]
    refine ⟨rfl,B.blk F gt,⟨⟨B,F,gt,ct,rfl,rfl,?_⟩,H0.out.2.2.2.1⟩,by (have:=H6.out.2);exact ν,fun y hy=>Α hy⟩;rw [eG,HQ.out];exact H6.out.1
   | true=>
    go_wp2;go_ret;have eG:kT (ak A x k s) hh x G=KE hh x G:=by unfold kT;rw [HE.out.1,HX.out.2.2.1,Δ ⟨fun e=>htx (by have e2:(t:Int)=(x:Int):=e;omega),by unfold oJ;rw [show (l9 (t::s0)).toNat=t from by unfold l9;simp];exact HB2.out⟩]
    refine ⟨rfl,B.blk F gt,⟨⟨B,F,gt,ct,rfl,rfl,?_⟩,H0.out.2.2.2.1⟩,(H6.out.2).setCell (Α (by simp [FB.blk])) _,fun y hy=>Α hy⟩;rw [eG,HQ.out];exact H6.out.1.iA hh (x::Bg (G.R hh) x)
 ·obtain ⟨p1,hp1,ux,_⟩:=(H0.out.2.1.ff.GH x hx).resolve_left hup;have hp1h:(A.c p1).i=hh:=by have:(A.c x).i=(A.c p1).i:=(H0.out.2.1.ff.home x p1 hx ux).1;omega
  have hpin:bM (ak A x k s) (p1:Int)=true:=(ae _ _).2 ⟨by rw [HX.out.1];exact hp1,by rw [HX.out.2.1];omega⟩;have hpn:((p1:Int) == -1)=false:=σ;obtain ⟨b,hb⟩:∃b,decide (bU (ak A x k s) x p1)=b:=⟨_,rfl⟩;have KA:=χ (fun W st' (hM:dX W B F gt ct (ak A x k s) st' G)=>dU hM.cells x p1 H0.out.2.2.2.2.2.2.1 hpin);have HB:=χ hb;clear hb;cases b with
  | false=>
   go_wp2_with (first
    | ((go_at_call 140;(with_reducible refine (Yz _ β).mono ?_));rintro e w2 ⟨rfl,hC2,hu2⟩;(have M2:=(jJ.out.1.aj (w':=_) (β:aa [] w1 _)).bV hu2 hC2 (fun y hy=>Α hy) rfl rfl);(have d2:=M2.h2);(have d0:=M2.h0);(have p0:=M2.p0 uQ);rw [ux] at p0;(have ka:=KA.out _ _ M2);rw [HB.out] at ka;(have nE:=χ (ψ M2 ((jJ.out.2.then (β:aa [] w1 _)).trans hu2)));clear M2 hC2 hu2)
    | ((go_at_call 174;(with_reducible refine (ka).mono ?_));rintro e w3 ⟨rfl,yH,hu3⟩;(have I5:=χ (ψ (nE.out.1.setSt hu3 yH) hu3));clear yH hu3)
    | fail)
   refine sK (fun W=>dX W B F gt ct (ak A x k s) (bO st 1) G/\aa (B.blk F gt) w W) ?_ ?_
   ·exact ⟨I5.out.1,(nE.out.2.mono jA).trans (I5.out.2.mono (fun z hz=>by simp at hz;rw [hz];exact jA _ H0.out.2.2.2.2.1))⟩
   have e1:fq (ak A x k s) hh x G=G:=by unfold fq;rw [Γ (fun h=>by have h2:=h.2;unfold oJ at h2;rw [ux,π,HB.out] at h2;cases h2)]
   have HE:=χ (ψ e1 hup);clear e1 hup d2 p0 Yz b0 d0 ka ux;rintro w5 ⟨M5,DY⟩;have d3:=M5.h3;have dt:w5.cell? ⟨gt,hh,none⟩=some (.int .i64 (t:Int)):=by (have XC:=M5.top (q:=hh) (by rw [H0.out.2.2.2.2.2.1];exact ZN);rw [HX.out.2.2.1] at XC;exact XC)
   have df:=M5.ah.free hh;have hcap:=M5.cap;have hhI:(hh:Int)<((ak A x k s).hs.length:Int):=by rw [H0.out.2.2.2.2.2.1];omega
   have H5:=χ (ψ M5 DY)
   by_cases htx:t=x
   ·subst htx;clear M5 DY
    go_quiet (fail)
    go_wp2;go_ret;have eG:kT (ak A t k s) hh t G=G:=by unfold kT;rw [HE.out.1,HX.out.2.2.1,Γ (by simp [l9])]
    have eQ:xJ (ak A t k s) hh t G=1+0:=by unfold xJ;rw [HE.out.1,HX.out.2.2.1,Γ HE.out.2,Δ (by rfl)]
    refine ⟨rfl,B.blk F gt,⟨⟨B,F,gt,ct,rfl,rfl,?_⟩,H0.out.2.2.2.1⟩,H5.out.2.drewN _,fun y hy=>Α hy⟩;rw [eG,eQ];exact H5.out.1.drewN _
   ·have hxt:((t:Int) == (x:Int))=false:=ζ;have hxt2:((t:Int) != (x:Int))=true:=ζ;have hxt3:¬ ((t:Int)=(x:Int)):=ω;have hin:=H0.out.2.2.2.2.2.2.1;have Gg:=H0.out.2.2.2.2.2.2.2;have kc:=fun W (hW:aa [] w5 W)=>dU (M5.cells.aj hW) x t hin Gg;have hcn:=M5.cn;have mc:∀x,x≠B.c->x∉[B.c]:=fun x h1=>by simp [h1]
    have r0:∀W,aa [B.c] w5 W->W.cell? ⟨B.n0,0,none⟩=some (.pointer (some ⟨B.c,0,none⟩)):=fun W hW=>hW.kept M5.h0 (mc _ hcn.1);have r3:∀W,aa [B.c] w5 W->W.cell? ⟨B.n0,3,none⟩=some (.slice (some ⟨gt,0,none⟩) (ak A x k s).hs.length ct):=fun W hW=>hW.kept M5.h3 (mc _ hcn.1);have rt:∀W,aa [B.c] w5 W->W.cell? ⟨gt,hh,none⟩=some (.int .i64 (t:Int)):=fun W hW=>hW.kept dt (mc _ hcn.2.2.2.2.2);have rf:∀W,aa [B.c] w5 W->W.frozen? ⟨gt,hh,none⟩=false:=fun W hW=>hW.aK dt (mc _ hcn.2.2.2.2.2) df;clear M5 DY d3 dt df;obtain ⟨b2,hb2⟩:∃b2,decide (bU (ak A x k s) x t)=b2:=⟨_,rfl⟩;rw [hb2] at kc
    have HB2:=χ hb2;clear hb2
    go_region_held3 (aa [B.c] w5) (exact ν)
     (first
      | ((go_at_call 174;(with_reducible refine (kc _ β).mono ?_));rintro e w6 ⟨rfl,Xv,gN⟩;(have iG:aa [B.c] w5 w6:=aa.trans ν gN)))
    have d3:=r3 _ iG;have dt:=rt _ iG;have df:=rf _ iG;have M6:=H5.out.1.setSt iG Xv;have Xp:aa (B.blk F gt) w w6:=H5.out.2.trans (iG.mono (fun z hz=>by simp at hz;rw [hz];exact jA _ H0.out.2.2.2.2.1));rw [iM] at M6;have H6:=χ (ψ M6 Xp);clear M6 Xp iG Xv gN r0 r3 rt rf kc;have eQ:xJ (ak A x k s) hh x G=1+1:=by unfold xJ;rw [HE.out.1,HX.out.2.2.1,Γ HE.out.2,Γ (fun e=>htx (by have e2:(t:Int)=(x:Int):=e;omega))]
    have HQ:=χ eQ;clear eQ;cases b2 with
    | false=>
     go_wp2;go_ret;have eG:kT (ak A x k s) hh x G=G:=by unfold kT;rw [HE.out.1,HX.out.2.2.1,Γ (fun h=>by have h2:=h.2;unfold oJ at h2;rw [show (l9 (t::s0)).toNat=t from by unfold l9;simp,HB2.out] at h2;cases h2)]
     refine ⟨rfl,B.blk F gt,⟨⟨B,F,gt,ct,rfl,rfl,?_⟩,H0.out.2.2.2.1⟩,by (have:=H6.out.2);exact ν,fun y hy=>Α hy⟩;rw [eG,HQ.out];exact H6.out.1
    | true=>
     go_wp2;go_ret;have eG:kT (ak A x k s) hh x G=KE hh x G:=by unfold kT;rw [HE.out.1,HX.out.2.2.1,Δ ⟨fun e=>htx (by have e2:(t:Int)=(x:Int):=e;omega),by unfold oJ;rw [show (l9 (t::s0)).toNat=t from by unfold l9;simp];exact HB2.out⟩]
     refine ⟨rfl,B.blk F gt,⟨⟨B,F,gt,ct,rfl,rfl,?_⟩,H0.out.2.2.2.1⟩,(H6.out.2).setCell (Α (by simp [FB.blk])) _,fun y hy=>Α hy⟩;rw [eG,HQ.out];exact H6.out.1.iA hh (x::Bg (G.R hh) x)
  | true=>
   have hlt:bU (ak A x k s) x p1:=by have:=HB.out;simpa using this
   obtain ⟨hpx,o1,o2,o3,xz⟩:=H0.out.2.2.1 p1 ux
   have KL:=χ (fun W st' (hM:dX W B F gt ct (ak A x k s) st' G)=>by
    have hn:=HX.out.1;have:=Hz (w:=W) (M:=hM) (bH:=fun y=>(A.c y).i) (L:=bU (ak A x k s)) (Mx:=fun a y=>y≠x->bU (ak A x k s) a y) (fun a=>vP) (q:=hh) (x:=x) (t:=t) (s:=s0) (by rw [H0.out.2.2.2.2.2.1];exact ZN) uQ
     (by rw [hn];exact H0.out.2.1.ff.mono (fun y q hy hu ho=>⟨(H0.out.2.1.ff.home y q hy hu).1,(H0.out.2.1.ff.home y q hy hu).2,fun hyx=>by
      have hle:=tN HLB.out;rw [π] at hle;have hc:=qU HLB.out hx
      by_cases e:q=x
      ·subst e;exact lS ho (by rw [hc,Γ hyx]) (by rw [hc,Δ rfl];exact hle)
      ·exact (eY (by rw [hc,Γ e]) (by rw [hc,Γ hyx])).2 ho⟩) H0.out.2.1.ff.alone) HX.out.2.2.1 (by rw [hn];exact (H0.out.2.1.oV HX.out.2.2.1).2.2.1) h1
     (by
      rw [hn];intro p2 hp2;obtain rfl:p2=p1:=ω
      exact ⟨hpx,hp1h,o1,o2,o3⟩) (by rw [hn];exact fun y hy hyh ZT hyx=>xz y hy hyh ZT hyx)
    rw [hn] at this
    exact this)
   clear o1 o2 o3 xz
   go_wp2_with (first
    | ((go_at_call 140;(with_reducible refine (Yz _ β).mono ?_));rintro e w2 ⟨rfl,hC2,hu2⟩;(have M2:=(jJ.out.1.aj (w':=_) (β:aa [] w1 _)).bV hu2 hC2 (fun y hy=>Α hy) rfl rfl);(have d2:=M2.h2);(have d0:=M2.h0);(have p0:=M2.p0 uQ);rw [ux] at p0;(have ka:=KA.out _ _ M2);rw [HB.out] at ka;(have nE:=χ (ψ M2 ((jJ.out.2.then (β:aa [] w1 _)).trans hu2)));clear M2 hC2 hu2)
    | ((go_at_call 174;(with_reducible refine (ka).mono ?_));rintro e w3 ⟨rfl,yH,hu3⟩;(have kl:=KL.out _ _ (nE.out.1.setSt hu3 yH));(have I5:=χ (ψ (nE.out.1.setSt hu3 yH) hu3));clear yH hu3)
    | ((go_at_call 225;(with_reducible refine (kl).mono ?_));rintro e w4 ⟨rfl,M4,fP⟩;(have PN:=χ (ψ M4 fP));clear M4 fP)
    | fail)
   have e1:fq (ak A x k s) hh x G=jV A.cs.length hh x G:=by unfold fq;rw [Δ ⟨hup,by unfold oJ;rw [ux,π];exact HB.out⟩,HX.out.1]
   have hRL:=HX.out.2.2.2;rw [e1] at hRL;refine sK (fun W=>dX W B F gt ct (ak A x k s) (bO st 1) (jV A.cs.length hh x G)/\aa (B.blk F gt) w W) ?_ ?_
   ·exact ⟨PN.out.1,((nE.out.2.mono jA).trans (I5.out.2.mono (fun z hz=>by simp at hz;rw [hz];exact jA _ H0.out.2.2.2.2.1))).trans (PN.out.2.mono (fun z hz=>by simp at hz;rcases hz with e|e|e<;>simp [FB.blk,e]))⟩
   have HE:=χ (ψ e1 hup);have Tx:=χ hRL;clear e1 hup d2 p0 Yz b0 d0 ka ux hRL kl;rintro w5 ⟨M5,DY⟩;have d3:=M5.h3;have dt:w5.cell? ⟨gt,hh,none⟩=some (.int .i64 (t:Int)):=by (have XC:=M5.top (q:=hh) (by rw [H0.out.2.2.2.2.2.1];exact ZN);rw [Tx.out] at XC;exact XC)
   have df:=M5.ah.free hh;have hcap:=M5.cap;have hhI:(hh:Int)<((ak A x k s).hs.length:Int):=by rw [H0.out.2.2.2.2.2.1];omega
   have H5:=χ (ψ M5 DY)
   by_cases htx:t=x
   ·subst htx;clear M5 DY
    go_quiet (fail)
    go_wp2;go_ret;have eG:kT (ak A t k s) hh t G=(jV A.cs.length hh t G):=by unfold kT;rw [HE.out.1,Tx.out,Γ (by simp [l9])]
    have eQ:xJ (ak A t k s) hh t G=1+0:=by unfold xJ;rw [HE.out.1,Tx.out,Γ HE.out.2,Δ (by rfl)]
    refine ⟨rfl,B.blk F gt,⟨⟨B,F,gt,ct,rfl,rfl,?_⟩,H0.out.2.2.2.1⟩,H5.out.2.drewN _,fun y hy=>Α hy⟩;rw [eG,eQ];exact H5.out.1.drewN _
   ·have hxt:((t:Int) == (x:Int))=false:=ζ;have hxt2:((t:Int) != (x:Int))=true:=ζ;have hxt3:¬ ((t:Int)=(x:Int)):=ω;have hin:=H0.out.2.2.2.2.2.2.1;have Gg:=H0.out.2.2.2.2.2.2.2;have kc:=fun W (hW:aa [] w5 W)=>dU (M5.cells.aj hW) x t hin Gg;have hcn:=M5.cn;have mc:∀x,x≠B.c->x∉[B.c]:=fun x h1=>by simp [h1]
    have r0:∀W,aa [B.c] w5 W->W.cell? ⟨B.n0,0,none⟩=some (.pointer (some ⟨B.c,0,none⟩)):=fun W hW=>hW.kept M5.h0 (mc _ hcn.1);have r3:∀W,aa [B.c] w5 W->W.cell? ⟨B.n0,3,none⟩=some (.slice (some ⟨gt,0,none⟩) (ak A x k s).hs.length ct):=fun W hW=>hW.kept M5.h3 (mc _ hcn.1);have rt:∀W,aa [B.c] w5 W->W.cell? ⟨gt,hh,none⟩=some (.int .i64 (t:Int)):=fun W hW=>hW.kept dt (mc _ hcn.2.2.2.2.2);have rf:∀W,aa [B.c] w5 W->W.frozen? ⟨gt,hh,none⟩=false:=fun W hW=>hW.aK dt (mc _ hcn.2.2.2.2.2) df;clear M5 DY d3 dt df;obtain ⟨b2,hb2⟩:∃b2,decide (bU (ak A x k s) x t)=b2:=⟨_,rfl⟩;rw [hb2] at kc
    have HB2:=χ hb2;clear hb2
    go_region_held3 (aa [B.c] w5) (exact ν)
     (first
      | ((go_at_call 174;(with_reducible refine (kc _ β).mono ?_));rintro e w6 ⟨rfl,Xv,gN⟩;(have iG:aa [B.c] w5 w6:=aa.trans ν gN)))
    have d3:=r3 _ iG;have dt:=rt _ iG;have df:=rf _ iG;have M6:=H5.out.1.setSt iG Xv;have Xp:aa (B.blk F gt) w w6:=H5.out.2.trans (iG.mono (fun z hz=>by simp at hz;rw [hz];exact jA _ H0.out.2.2.2.2.1));rw [iM] at M6;have H6:=χ (ψ M6 Xp);clear M6 Xp iG Xv gN r0 r3 rt rf kc;have eQ:xJ (ak A x k s) hh x G=1+1:=by unfold xJ;rw [HE.out.1,Tx.out,Γ HE.out.2,Γ (fun e=>htx (by have e2:(t:Int)=(x:Int):=e;omega))]
    have HQ:=χ eQ;clear eQ;cases b2 with
    | false=>
     go_wp2;go_ret;have eG:kT (ak A x k s) hh x G=(jV A.cs.length hh x G):=by unfold kT;rw [HE.out.1,Tx.out,Γ (fun h=>by have h2:=h.2;unfold oJ at h2;rw [show (l9 (t::s')).toNat=t from by unfold l9;simp,HB2.out] at h2;cases h2)]
     refine ⟨rfl,B.blk F gt,⟨⟨B,F,gt,ct,rfl,rfl,?_⟩,H0.out.2.2.2.1⟩,by (have:=H6.out.2);exact ν,fun y hy=>Α hy⟩;rw [eG,HQ.out];exact H6.out.1
    | true=>
     go_wp2;go_ret;have eG:kT (ak A x k s) hh x G=KE hh x (jV A.cs.length hh x G):=by unfold kT;rw [HE.out.1,Tx.out,Δ ⟨fun e=>htx (by have e2:(t:Int)=(x:Int):=e;omega),by unfold oJ;rw [show (l9 (t::s')).toNat=t from by unfold l9;simp];exact HB2.out⟩]
     refine ⟨rfl,B.blk F gt,⟨⟨B,F,gt,ct,rfl,rfl,?_⟩,H0.out.2.2.2.1⟩,(H6.out.2).setCell (Α (by simp [FB.blk])) _,fun y hy=>Α hy⟩;rw [eG,HQ.out];exact H6.out.1.iA hh (x::Bg ((jV A.cs.length hh x G).R hh) x)
end
section
variable {w:World} {p:Nat} {FF:List Nat} {A:NS} {st:Nat} {G:FG}
theorem Ya (I:y9 A G) (ok:A.Ok):G.R A.hs.length=[]:=by
 cases e:G.R A.hs.length with
 | nil=>rfl
 | cons x t=>
  have:=I.out (h:=A.hs.length) (z:=x) (by rw [e];simp);have:=ok.nat x this.2.1;omega
theorem PK (h:xn w p FF A st G) :
  Calls Tryz.prog 222 #[.pointer (some ⟨p,0,none⟩)] w fun e w'=>e=.returned (.int .i64 (bW A))/\Goes FF w w' (fun Jc=>xn w' p Jc (aL A) st G):=by
 obtain ⟨⟨B,F,gt,ct,rfl,rfl,M⟩,I⟩:=h;have k:=iD M.cells;have h0:=M.h0;have I2:=Xc I
 by_cases hl:65536<A.hs.length
 ·have e1:bW A=0:=by unfold bW;rw [Δ hl]
  have e2:aL A=A:=by unfold aL;rw [Δ hl]
  rw [e1,e2] at k;rw [e1,e2];have HM:=χ M;have HI:=χ I;clear M I e1 e2 I2
  go_enter Tryz.func222,Tryz.ntmps222
  go_wp2_with ((go_at_call 156;(with_reducible refine (k).mono ?_));rintro e w1 ⟨rfl,F1,hC,hu,hF⟩)
  go_ret;exact ⟨rfl,B.blk F1 gt,⟨⟨B,F1,gt,ct,rfl,rfl,HM.out.bV hu hC hF rfl rfl⟩,HI.out⟩,hu.mono jA,VO hF⟩
 ·have e1:bW A=A.hs.length:=by unfold bW;rw [Γ hl]
  rw [e1] at k;rw [e1];have hcs:(aL A).cs.length=A.cs.length:=by unfold aL;rw [Γ hl]
  have lC:(aL A).hs.length=A.hs.length+1:=by unfold aL;rw [Γ hl];simp
  have hh0:=M.cells.ok.h0;have hpos:(0:Int)<(A.hs.length:Int):=ω;have Et:=Ya I M.cells.ok;have HM:=χ M;have HI:=χ (ψ I2 Et);have hlb:A.hs.length<=65536:=ω;clear M I e1 I2 Et
  go_enter Tryz.func222,Tryz.ntmps222
  go_wp2_with (first
   | ((go_at_call 156;(with_reducible refine (k).mono ?_));rintro e w1 ⟨rfl,F1,hC,hu,hF⟩;(have d3:=hu.kept HM.out.h3 HM.out.d1.1);(have f3:=hu.aK HM.out.h3 HM.out.d1.1 (HM.out.head.free 3));(have ho1:=ay HM.out.ah.own hu (fun g hg=>by simp [Value.ownBlock] at hg;subst hg;exact HM.out.d1.2.2.2.2.2));rw [tJ] at ho1;(have g0:B.n0≠gt:=HM.out.d2.2.2.2.2);(have gl:=Ψ (HM.out.lt gt (by simp [FB.blk])) hu.size))
   | ((at_builtin;refine aQ rfl _ _ 26 rfl 0 3 (.int .i64 0) 1 8 Tryz.underlying26 dQ rfl δ _ _ _ rfl (ho1) [.int .i64 (-1)] rfl (by simp [Value.oneCell']) (by first|rfl|(rw [Κ];rfl)) μ ω ω ?_;intro v2 w2 ho2 hu2 lZ);(have hu2:aa [gt] w1 w2:=hu2);obtain ⟨oP,Fu,ev,_⟩:=fQ ho2 ω;subst ev;(have d4:=hu2.kept d3 ζ);(have f4:=hu2.aK d3 ζ f3)))
  go_ret;have hM:=HM.out;have hlt:=hM.lt;have f:=hM.d1;have q:=hM.d2;have r:=hM.d3;have hws:=hu.size;have hw3:aa [B.n0] w2 (w2.setCell ⟨B.n0,3,none⟩ (.slice (some ⟨oP,0,none⟩) (A.hs.length+1) Fu)):=β;have hg1:oP=gt\/w1.heap.size<oP:=by
   rcases lZ with h|h
   ·exact Α (Option.some.inj h)
   ·exact Β (h oP rfl)
  have jc:=hC.lt;have l0:=hlt B.n0 (by simp [FB.blk]);have l1:=hlt B.br (by simp [FB.blk]);have l2:=hlt B.bn (by simp [FB.blk]);have l3:=hlt B.bp (by simp [FB.blk]);have l4:=hlt B.bl (by simp [FB.blk]);have l5:=hlt gt (by simp [FB.blk]);have hnF:∀y,y<w.heap.size->y∉F->y∉F1:=fun y hy hn hm=>by rcases hF y hm with h'|h';exact hn h';omega
  have E9:oP∉F1:=by
   rcases hg1 with e|e
   ·rw [e];exact hnF gt l5 f.2.2.2.2.2
   ·exact fun hm=>by have:=jc oP hm;omega
  have hgn:∀y,y<w.heap.size->y≠gt->y≠oP:=fun y hy hn e=>by
   rcases hg1 with e2|e2
   ·exact hn (e.trans e2)
   ·omega
  have hhd:=((hM.head.upd hu f.1).upd hu2 ζ).set 3 (.slice (some ⟨oP,0,none⟩) (A.hs.length+1) Fu);have n2:∀y,y≠gt->y∉[gt]:=fun y h=>by simpa using h
  have n3:∀y,y≠B.n0->y∉[B.n0]:=fun y h=>by simpa using h
  have eT:iZ G.R (A.hs.length+1)=iZ G.R A.hs.length++[-1]:=by
   unfold iZ;rw [List.range_succ,List.map_append];simp [HI.out.2,l9]
  have hBM:dX (w2.setCell ⟨B.n0,3,none⟩ (.slice (some ⟨oP,0,none⟩) (A.hs.length+1) Fu)) B F1 oP Fu (aL A) st G:=by
   refine ⟨?_,?_,?_,?_,⟨?_⟩,⟨hnF _ l0 f.1,hnF _ l1 f.2.1,hnF _ l2 f.2.2.1,hnF _ l3 f.2.2.2.1,hnF _ l4 f.2.2.2.2.1,E9⟩,⟨q.1,q.2.1,q.2.2.1,q.2.2.2.1,hgn _ l0 q.2.2.2.2⟩,⟨r.1,r.2.1,r.2.2.1,hgn _ l4 r.2.2.2.1,(hgn _ l1 (Ne.symm r.2.2.2.2.1)).symm,(hgn _ l2 (Ne.symm r.2.2.2.2.2.1)).symm,(hgn _ l3 (Ne.symm r.2.2.2.2.2.2)).symm⟩⟩
   ·rw [hcs,lC];refine hhd.ext (fun j hj=>?_);rcases (ω:j=0\/j=1\/j=2\/j=3) with rfl|rfl|rfl|rfl<;>rfl
   ·exact (hC.upd hu2 (fun y hy=>by simp at hy;rw [hy];exact hnF gt l5 f.2.2.2.2.2)).upd hw3 (fun y hy=>by simp at hy;rw [hy];exact hnF _ l0 f.1)
   ·rw [hcs];exact ((hM.rings.upd hu f.2.1 f.2.2.1 f.2.2.2.1).upd hu2 (n2 _ (Ne.symm r.2.2.2.2.1)) (n2 _ (Ne.symm r.2.2.2.2.2.1)) (n2 _ (Ne.symm r.2.2.2.2.2.2))).upd hw3 (n3 _ (Ne.symm q.1)) (n3 _ (Ne.symm q.2.1)) (n3 _ (Ne.symm q.2.2.1))
   ·rw [hcs];exact ((hM.pl.upd hu f.2.2.2.2.1).upd hu2 (n2 _ r.2.2.2.1)).upd hw3 (n3 _ (Ne.symm q.2.2.2.1))
   ·rw [lC,tJ,eT,bG];refine ay (jE ho2 (Nat.zero_le _)) hw3 (fun g hg hm=>?_);simp [Value.ownBlock] at hg hm;exact hgn _ l0 q.2.2.2.2 ω
  refine ⟨rfl,B.blk F1 oP,⟨⟨B,F1,oP,Fu,rfl,rfl,hBM⟩,HI.out.1⟩,((hu.mono jA).trans (hu2.mono (fun z hz=>by simp at hz;simp [FB.blk,hz]))).trans (hw3.mono (fun z hz=>by simp at hz;simp [FB.blk,hz])),fun y hy=>?_⟩;simp only [FB.blk,ρ] at hy ⊢;rcases hy with e|e|e|e|e|e|e
  ·exact Α (Α e)
  ·exact Α (Β (Α e))
  ·exact Α (Β (Β (Α e)))
  ·exact Α (Β (Β (Β (Α e))))
  ·exact Α (Β (Β (Β (Β (Α e)))))
  ·rcases hg1 with e2|e2
   ·exact Α (Β (Β (Β (Β (Β (Α (e.trans e2)))))))
   ·exact Β ω
  ·rcases hF y e with h'|h'
   ·exact Α (Β (Β (Β (Β (Β (Β h'))))))
   ·exact Β h'
end
theorem Oy:(Tryz.prog.info? 225).map (fun i=>(i.zero,i.size,i.bytes))=some (some (.agg #[.int .i64 0,.int .i64 0,.int .i64 0,.bool false]),4,32):=by kernel_rfl
theorem La (n j:Nat) (hj:j<n*4):(madeCells #[Value.int .i64 0,.int .i64 0,.int .i64 0,.bool false] (n*4)).toList.getD j undef=BQ (fun _=>0) (fun _=>0) (fun _=>0) (fun _=>false) j:=by
 rw [φ,ε (by simp [size_madeCells];omega)];simp only [Option.getD_some,madeCells,Array.getElem_toList,Array.getElem_map,Array.getElem_range];unfold BQ;rcases (ω:j % 4=0\/j % 4=1\/j % 4=2\/j % 4=3) with e|e|e|e<;>simp [e]
def upTo (k:Nat) (v:Int):Nat->Int:=fun i=>if i<k then v else 0
theorem Qy (k:Nat) (v:Int):ai (upTo k v) k v=upTo (k+1) v:=by
 funext i;unfold ai upTo
 by_cases e:i=k
 ·rw [Δ e,Δ ω]
 ·rw [Γ e]
  by_cases h:i<k
  ·rw [Δ h,Δ ω]
  ·rw [Γ h,Γ ω]
theorem TI (n:Nat) (w:World) (h:n<=65536):Calls Tryz.prog 98 #[.int .i64 (n:Int)] w fun e w'=>∃p FF,e=.returned (.tuple #[.pointer (some ⟨p,0,none⟩),.int .i64 0])/\xn w' p FF (NS.new n) 0 FG.none/\aa [] w w'/\∀x,x∈FF->w.heap.size<=x:=by
 have kc:=nP n w h;have kr:=fun W=>Fy n W h;have hI:=χ (Yb n)
 go_enter Tryz.func98,Tryz.ntmps98
 go_wp2_with (first
  | ((go_at_call 107;(with_reducible refine (kc).mono ?_));rintro e w1 ⟨c,F,rfl,hC,hu1,hF⟩;(have HC:=χ (ψ hC (ψ hu1 hF)));clear hC hu1 hF)
  | ((go_at_call 110;(with_reducible refine (kr _).mono ?_));rintro e w2 ⟨br,bn,bp,rfl,hR,hu2,hb1,hb2,hb3⟩;(have HR:=χ (ψ hR (ψ hu2 (ψ hb1 (ψ hb2 hb3)))));clear hR hu2 hb1 hb2 hb3 kr)
  | (at_make;refine wpList_make_row rfl _ 221 rfl 225 (.agg #[.int .i64 0,.int .i64 0,.int .i64 0,.bool false]) 4 32 Tryz.underlying221 Oy n rfl ω μ ?_;intro w3 hr3 hu3))
 obtain ⟨W0,hW0⟩:∃W0,W0=(w3.alloc (.cells #[.int .i64 (-1)] 3)).alloc (.cells #[.pointer (some ⟨c,0,none⟩),.pointer (some ⟨br,0,none⟩),.slice (some ⟨w2.heap.size,0,none⟩) n n,.slice (some ⟨w3.heap.size,0,none⟩) 1 1] 223):=⟨_,rfl⟩;have hu0:aa [] w3 W0:=by rw [hW0];exact β
 have hhead:=dH (w3.alloc (.cells #[.int .i64 (-1)] 3)) [.pointer (some ⟨c,0,none⟩),.pointer (some ⟨br,0,none⟩),.slice (some ⟨w2.heap.size,0,none⟩) n n,.slice (some ⟨w3.heap.size,0,none⟩) 1 1] 223;rw [Κ] at hhead;have hz1:IZ (w3.alloc (.cells #[.int .i64 (-1)] 3)) w3.heap.size 1 [-1]:=IZ.lit w3 [-1] σ;have hz0:IZ W0 w3.heap.size 1 [-1]:=by rw [hW0];exact hz1.upd ((aa.refl [] _).alloc _) σ
 have hhd:aI W0 (w3.heap.size+1) 223 4 (fun j=>[Value.pointer (some ⟨c,0,none⟩),.pointer (some ⟨br,0,none⟩),.slice (some ⟨w2.heap.size,0,none⟩) n n,.slice (some ⟨w3.heap.size,0,none⟩) 1 1].getD j undef):=by rw [hW0];exact hhead
 have hzz:(Value.agg #[.int .i64 0,.int .i64 0,.int .i64 0,.bool false]).cells=#[.int .i64 0,.int .i64 0,.int .i64 0,.bool false]:=rfl;rw [hzz] at hr3;have hr0:aI W0 w2.heap.size 225 (n*4) (BQ (upTo 0 (-1)) (upTo 0 (-1)) (fun _=>0) (fun _=>false)):=by
  refine ((hr3.upd hu0 σ).ext (fun j hj=>?_));rw [La n j hj];unfold upTo;simp
 have hl3:=hr3.lt;have hs3:=hu3.size;have H0:=χ (ψ hu0 (ψ hz0 (ψ hhd (ψ hr0 (ψ hu3 hW0)))));have hne:w3.heap.size+1≠w2.heap.size:=ω;clear hu0 hz0 hhd hr0 hz1 hhead hr3 hu3;rw [←hW0];clear hW0
 go_loopw [34] (fun s34 wr=>∃k:Nat,k<=n/\s34=.int .i64 (k:Int)/\aI wr w2.heap.size 225 (n*4) (BQ (upTo k (-1)) (upTo k (-1)) (fun _=>0) (fun _=>false))/\aa [w2.heap.size] W0 wr) (fun s34 _=>n-(intOf s34).toNat)
 case atStart=>exact ⟨0,ω,rfl,H0.out.2.2.2.1,aa.refl _ _⟩
 case round=>
  obtain ⟨k,hk,rfl,hr,hu⟩:=hrel;rename World=>wr
  by_cases hkn:k<n
  ·have hkI:(k:Int)<(n:Int):=ω;have hw1:IntKind.i64.wrap ((k:Int)+1)=(k:Int)+1:=Μ _ ω;have d2:wr.cell? ⟨w3.heap.size+1,2,none⟩=some (.slice (some ⟨w2.heap.size,0,none⟩) n n):=hu.kept (H0.out.2.2.1.cellAt 2 ω rfl) (by simpa using hne);have p0:=hr.cellAt (k*4) ω (yD _ _ _ _ k);have p1:=hr.cellAt (k*4+1) ω (yE _ _ _ _ k);have p2:=hr.cellAt (k*4+2) ω (yF _ _ _ _ k);have p3:=hr.cellAt (k*4+3) ω (yG _ _ _ _ k);have f0:=hr.free (k*4);have f1:=hr.free (k*4+1);have f2:=hr.free (k*4+2);have f3:=hr.free (k*4+3);have hlr:=hr.lt;have HR2:=χ (ψ hr hu);clear hr hu;go_wp2
   go_region_with (first
    | ((go_at_call 111;(with_reducible refine (zu _).mono ?_));rintro e w5 ⟨rfl,bP⟩;(have hv:aa [] wr w5:=aa.trans β bP);(have v0:=hv.was p0);(have v1:=hv.was p1);(have v2:=hv.was p2);(have v3:=hv.was p3);(have v4:=hv.was d2);(have z0:=hv.aK p0 σ f0);(have z1:=hv.aK p1 σ f1);(have z2:=hv.aK p2 σ f2);(have z3:=hv.aK p3 σ f3))
    | fail)
   all_goals
    go_wp2;have hr:=HR2.out.1.upd hv σ;have gN:aa [w2.heap.size] W0 w5:=HR2.out.2.then hv;refine ⟨⟨k+1,ω,by go_num,?_,ν⟩,by simp [intOf];omega⟩;have:=p9 (rU (pg (rZ hr k (-1)) k (-1)) k 0) k false;rw [Qy] at this;refine this.ext (fun j _=>?_);rw [show ai (fun _=>(0:Int)) k 0=(fun _=>0) from by funext z;unfold ai;split<;>rfl,show ai (fun _=>false) k false=(fun _=>false) from by funext z;unfold ai;split<;>rfl]
  ·obtain rfl:k=n:=ω;have HR2:=χ (ψ hr hu);clear hr hu;go_wp2;go_ret2;obtain ⟨hr,hu⟩:=HR2.out;obtain ⟨hu0,hz0,hhd,_,hu3,_⟩:=H0.out;obtain ⟨hC,hu1,hF⟩:=HC.out;obtain ⟨hR,hu2,hb1,hb2,hb3⟩:=HR.out;have hcs:(NS.new k).cs.length=k:=by simp [NS.new]
   have lC:(NS.new k).hs.length=1:=rfl;have hCl:=hC.lt;have hRl:=hR.lt;have s1:=hu1.size;have s2:=hu2.size;have s3:=hu3.size;have s0:=hu0.size;have hFn:∀y,w1.heap.size<=y->y∉F:=fun y hy hm=>by have:=hCl y hm;omega
   have hM:dX wr ⟨w3.heap.size+1,c,br,bn,bp,w2.heap.size⟩ F w3.heap.size 1 (NS.new k) 0 FG.none:=by
    refine ⟨?_,?_,?_,?_,?_,⟨hFn _ ζ,hFn _ hb1,hFn _ hb2,hFn _ hb3,hFn _ s2,hFn _ ω⟩,⟨ζ,ζ,ζ,ζ,σ⟩,⟨ζ,ζ,ζ,ζ,ζ,ζ,ζ⟩⟩
    ·rw [hcs,lC];exact hhd.upd hu (by simpa using hne)
    ·exact ((hC.aj ((hu2.trans hu3).trans hu0))).upd hu (fun y hy=>by simp at hy;rw [hy];exact hFn _ s2)
    ·rw [hcs];exact (hR.aj (hu3.trans hu0)).upd hu ζ ζ ζ
    ·rw [hcs];refine hr.ext (fun j hj=>?_);unfold nS;obtain ⟨a,e⟩:=four j;have ha:a<k:=ω;rcases e with rfl|rfl|rfl|rfl
     ·rw [yD,yD];unfold upTo;rw [Δ ha];rfl
     ·rw [yE,yE];unfold upTo;rw [Δ ha];rfl
     ·rw [yF,yF];rfl
     ·rw [yG,yG];rfl
    ·exact hz0.upd hu ζ
   refine ⟨_,_,rfl,⟨⟨⟨w3.heap.size+1,c,br,bn,bp,w2.heap.size⟩,F,w3.heap.size,1,rfl,rfl,hM⟩,hI.out⟩,(((hu1.trans hu2).trans hu3).trans hu0).joined hu (fun y hy=>by simp at hy;rw [hy];right;omega),fun y hy=>?_⟩;simp only [FB.blk,ρ] at hy;rcases hy with e|e|e|e|e|e|e
   ·omega
   ·omega
   ·omega
   ·omega
   ·omega
   ·omega
   ·exact hF y e
theorem FV (p c:Nat):∀W:World,W.cell? ⟨p,0,none⟩=some (.pointer (some ⟨c,0,none⟩))->(method 429 182 (.pointer (some ⟨p,0,none⟩)) "Has").run Tryz.prog W=.ok (139,.pointer (some ⟨c,0,none⟩)) W:=(by intro W h;unfold method;have hm:∃m,(Array.find? (fun x=>x.name == "Has") Tryz.t182.methods)=some m/\m.path.toList=[⟨223,0,true⟩]/\m.func=some (139,true)/\m.path.isEmpty=false:=⟨(Array.find? (fun x=>x.name == "Has") Tryz.t182.methods).get!,by kernel_rfl,by kernel_rfl,by kernel_rfl,by kernel_rfl⟩;obtain ⟨m,h1,h2,h3,h4⟩:=hm;go_simp;simp only [follow,Place.get];go_simp;(try unfold receiverAt);(try simp only [Place.get]);(try go_simp))
theorem BX (p c:Nat):∀W:World,W.cell? ⟨p,0,none⟩=some (.pointer (some ⟨c,0,none⟩))->(method 429 182 (.pointer (some ⟨p,0,none⟩)) "Entry").run Tryz.prog W=.ok (137,.pointer (some ⟨c,0,none⟩)) W:=(by intro W h;unfold method;have hm:∃m,(Array.find? (fun x=>x.name == "Entry") Tryz.t182.methods)=some m/\m.path.toList=[⟨223,0,true⟩]/\m.func=some (137,true)/\m.path.isEmpty=false:=⟨(Array.find? (fun x=>x.name == "Entry") Tryz.t182.methods).get!,by kernel_rfl,by kernel_rfl,by kernel_rfl,by kernel_rfl⟩;obtain ⟨m,h1,h2,h3,h4⟩:=hm;go_simp;simp only [follow,Place.get];go_simp;(try unfold receiverAt);(try simp only [Place.get]);(try go_simp))
theorem Qv (p:Nat):∀W:World,(method 429 182 (.pointer (some ⟨p,0,none⟩)) "Make").run Tryz.prog W=.ok (222,.pointer (some ⟨p,0,none⟩)) W:=fun _=>by kernel_rfl
theorem KG (p:Nat):∀W:World,(method 429 182 (.pointer (some ⟨p,0,none⟩)) "Insert").run Tryz.prog W=.ok (221,.pointer (some ⟨p,0,none⟩)) W:=fun _=>by kernel_rfl
theorem Vr (p:Nat):∀W:World,(method 429 182 (.pointer (some ⟨p,0,none⟩)) "Min").run Tryz.prog W=.ok (224,.pointer (some ⟨p,0,none⟩)) W:=fun _=>by kernel_rfl
theorem IA (p:Nat):∀W:World,(method 429 182 (.pointer (some ⟨p,0,none⟩)) "Extract").run Tryz.prog W=.ok (220,.pointer (some ⟨p,0,none⟩)) W:=fun _=>by kernel_rfl
theorem EL (p:Nat):∀W:World,(method 429 182 (.pointer (some ⟨p,0,none⟩)) "Decrease").run Tryz.prog W=.ok (218,.pointer (some ⟨p,0,none⟩)) W:=fun _=>by kernel_rfl
theorem xZ {w w':World} {p:Nat} {F S:List Nat} {A:NS} {st:Nat} {G:FG} (h:xn w p F A st G) (hu:aa S w w') (hS:∀x,x∈S->x∉F):xn w' p F A st G:=h.upd hu hS
theorem aaT {w:World} {p:Nat} {F:List Nat} {A:NS} {st:Nat} {G:FG} (h:xn w p F A st G):∀x,x∈F->x<w.heap.size:=h.lt
theorem TE {w:World} {p:Nat} {F:List Nat} {A:NS} {st:Nat} {G:FG} (h:xn w p F A st G):A.Ok:=h.ok
theorem X5 {w:World} {p:Nat} {F:List Nat} {A:NS} {st:Nat} {G:FG} (h:xn w p F A st G):∃c F1,w.cell? ⟨p,0,none⟩=some (.pointer (some ⟨c,0,none⟩))/\az w c F1 A st:=by
 obtain ⟨c,F1,h0,hC, -⟩:=h.cl;exact ⟨c,F1,h0,hC⟩
def FbQ (w:World) (p:Nat) (F:List Nat) (A:NS):Prop:=∃st G,xn w p F A st G
noncomputable def yQ:gB where
 ty:=182
 at_:=FbQ
 upd:=fun h hu hS=>by
  obtain ⟨st,G,hL⟩:=h;exact ⟨st,G,xZ hL hu hS⟩
 lt:=fun h=>by
  obtain ⟨st,G,hL⟩:=h;exact aaT hL
 ok:=fun h=>by
  obtain ⟨st,G,hL⟩:=h;exact TE hL
 make:=fun {w p F A} h=>by
  obtain ⟨st,G,hL⟩:=h;refine aS 222 (fun _ _=>by kernel_rfl) (Qv _) (fun W hW=>?_);refine (PK (xZ hL hW σ)).mono ?_;rintro e w' ⟨rfl,F',hA,hu,hf⟩;exact ⟨rfl,F',⟨_,_,hA⟩,hu,hf⟩
 insert:=fun {w p F A} g y k s hk hB h=>by
  obtain ⟨st,G,hL⟩:=h;refine aS 221 (fun _ _=>by kernel_rfl) (KG _) (fun W hW=>?_);refine (Gl (xZ hL hW σ) g y k s hk hB).mono ?_;rintro e w' ⟨rfl,F',hA,hu,hf⟩;exact ⟨rfl,F',⟨_,_,hA⟩,hu,hf⟩
 min:=fun {w p F A} y hB h=>by
  obtain ⟨st,G,hL⟩:=h;refine aS 224 (fun _ _=>by kernel_rfl) (Vr _) (fun W hW=>?_);have lU:=xZ hL hW σ;have hok:=TE hL;have h4:=(aP _ _).1 hB;have h5:=hok.h1;refine (Gq lU (y:Int) ω).mono ?_;rintro e w' ⟨rfl,rfl⟩;exact ⟨rfl,Goes.stay ⟨_,_,lU⟩ (aa.refl _ _)⟩
 extract:=fun {w p F A} y m hm h=>by
  obtain ⟨st,G,hL⟩:=h;refine aS 220 (fun _ _=>by kernel_rfl) (IA _) (fun W hW=>?_);have lU:=xZ hL hW σ;have e2:uH A (y:Int)=aY A (m:Int):=by unfold uH;rw [hm]
  have hok:=TE hL;obtain ⟨m1,m2,m3,m4⟩:=lg hm;have hB:bB A (y:Int)=true:=by rw [←m3];have:=iK hok m4;simpa using this
  have h4:=(aP _ _).1 hB;have h5:=hok.h1;have k:=EG lU (y:Int) ω;rw [e2,hm] at k;refine k.mono ?_;rintro e w' ⟨rfl,F',hA,hu,hf⟩;exact ⟨rfl,F',⟨_,_,hA⟩,hu,hf⟩
 lW:=fun {w p F A} y k s hk hB h=>by
  obtain ⟨st,G,hL⟩:=h;refine aS 218 (fun _ _=>by kernel_rfl) (EL _) (fun W hW=>?_);have lU:=xZ hL hW σ;have hin:=qN hB;have hi:=(ae _ _).1 hin;obtain ⟨hh,hxh⟩:∃hh:Nat,(A.c y).i=hh:=⟨(A.c y).i.toNat,ω⟩;refine (Qa lU y k s hk hB hxh).mono ?_;rintro e w' ⟨rfl,F',hA,hu,hf⟩;exact ⟨rfl,F',⟨_,_,hA⟩,hu,hf⟩
 has:=fun x h=>by
  obtain ⟨st,G,hL⟩:=h;obtain ⟨c,F1,h0,hC⟩:=X5 hL;exact iy 139 (fun _ _=>by kernel_rfl) h0 (FV _ _) (fun W hW=>jg (hC.aj hW) x)
 entry:=fun {w p F A} x h=>by
  obtain ⟨st,G,hL⟩:=h;obtain ⟨c,F1,h0,hC⟩:=X5 hL;refine iy 137 (fun _ _=>by kernel_rfl) h0 (BX _ _) (fun W hW=>?_);cases hin:bM A x with
  | false=>simpa using lG (hC.aj hW) x hin
  | true=>
   obtain ⟨y,rfl⟩:=qy hin;simpa using jX (hC.aj hW) y hin
theorem Jg (p:Nat) (w:World):Calls Tryz.prog 97 #[.pointer (some ⟨p,0,none⟩),.int .i64 0] w fun e w'=>e=.returned (.tuple #[.iface 182 (.pointer (some ⟨p,0,none⟩)),.int .i64 0])/\w'=w:=by
 go_enter Tryz.func97,Tryz.ntmps97
 go_wp2;go_ret2;exact ⟨rfl,rfl⟩
theorem Qk (n:Nat) (hn:n<=65536):om yQ 5 0 n:=by
 intro w;have kn:=fun W=>TI n W hn;have km:=Jg;have hty:yQ.ty=182:=rfl;have hat:∀w' p FF,xn w' p FF (NS.new n) 0 FG.none->yQ.at_ w' p FF (NS.new n):=fun w' p FF h=>⟨_,_,h⟩
 generalize yQ=K at *;rw [hty]
 go_enter Tryz.func81,Tryz.ntmps81
 go_wp2_with (first
  | ((go_at_call 98;(with_reducible refine (kn _).mono ?_));rintro e w1 ⟨pn,FF,rfl,hS,hu1,hf⟩)
  | ((go_at_call 97;(with_reducible refine (km _ _).mono ?_));rintro e w2 ⟨rfl,rfl⟩)
  | fail)
 go_ret2;exact ⟨pn,FF,rfl,hat _ _ _ hS,aa.trans β hu1,fun x hx=>by have:=hf x hx;simp at this;omega⟩
end Go.Proofs.YtklibcncmbofpaaGreat
