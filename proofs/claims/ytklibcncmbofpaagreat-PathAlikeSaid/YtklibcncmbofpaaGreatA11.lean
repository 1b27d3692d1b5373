/-
  Lemmas for PathAlike: Fb6, Fb7, Fb8, Fb9, FbN. Conditions: those of each lemma.
-/
import Derived.Test.YtklibcncmbofpaaGreatA03
import Derived.Test.YtklibcncmbofpaaGreatA10
set_option linter.all false
set_option maxHeartbeats 8000000
set_option maxRecDepth 10000
namespace Go.Proofs.YtklibcncmbofpaaGreat
open Go Go.RowKit
def tailW (a:Option Addr) (n c:Nat):Value:=.slice (if c=1 then a else a.map (·.add 1)) (n-1) (c-1)
theorem Oi (w:World) (a:Option Addr) (n c:Nat) (h1:1<=n) (h2:n<=9223372036854775807) :
  (Instr.slice 26 (.slice a n c) (some (.int .i64 1)) none none).run Tryz.prog w=.ok (tailW a n c) w:=by
 have hs:(sizeOf 3).run Tryz.prog w=.ok 1 w:=by kernel_rfl
 unfold Instr.slice Instr.sliceBounds;simp [run_underlying Tryz.underlying26,go_sem,hs,tailW];intro h;omega
theorem QG {w:World} {F:List Nat} {a:Option Addr} {n c:Nat} {x:Int} {xs:List Int} (h:iC w F (.slice a n c) (x::xs)):iC w F (tailW a n c) xs:=by
 obtain ⟨a',cap,e,h1,h2,h3⟩:=h;cases e;obtain ⟨g,off,rfl,hg,hF,_⟩:=h3 0 x rfl;simp only [Ω] at h1 ⊢;unfold tailW;simp only [Nat.add_sub_cancel];refine ⟨_,_,rfl,ω,ω,fun j u hj=>?_⟩;have hjl:j<xs.length:=(List.getElem?_eq_some_iff.1 hj).1;rw [Γ ω];obtain ⟨g2,off2,he,hg2,hF2,hc⟩:=h3 (j+1) u (by simpa using hj);simp only [ϖ,Addr.mk.injEq,and_true] at he;obtain ⟨rfl,rfl⟩:=he;exact ⟨g,off+1,by simp [Addr.add_lit],hg,hF,by rw [show off+1+j=off+(j+1) by omega];exact hc⟩
theorem iC.turned {w w':World} {F G:List Nat} {v:Value} {xs:List Int} (h:iC w F v xs) (hu:aa G w w') (hG:∀g,g∈G->g∈F\/w.heap.size<=g):iC w' F v xs:=by
 obtain ⟨a,cap,rfl,h1,h2,h3⟩:=h;refine ⟨a,cap,rfl,h1,h2,fun j u hj=>?_⟩;obtain ⟨g,off,rfl,hg,hF,hc⟩:=h3 j u hj;exact ⟨g,off,rfl,Ψ hg hu.size,hF,by rw [hu.cell hg (fun hm=>(hG _ hm).elim hF (fun h'=>by have h2:w.heap.size<=g:=h';omega))];exact hc⟩
theorem iC.fewer {w:World} {F G:List Nat} {v:Value} {xs:List Int} (h:iC w F v xs) (hG:∀g,g∈G->g∈F):iC w G v xs:=by
 obtain ⟨a,cap,rfl,h1,h2,h3⟩:=h;refine ⟨a,cap,rfl,h1,h2,fun j u hj=>?_⟩;obtain ⟨g,off,rfl,hg,hF,hc⟩:=h3 j u hj;exact ⟨g,off,rfl,hg,fun hm=>hF (hG _ hm),hc⟩
def FZ (A:NS) (q:Int) (G:FG):FG:=match dF A q with|some m=>(qU A q.toNat m (kl (G.K m)++(G.R q.toNat).tail) G).1|none=>G
def GI (A:NS) (q:Int) (G:FG):Nat:=match dF A q with|some m=>(rH A q.toNat m (kl (G.K m)++(G.R q.toNat).tail) G).q+(qU A q.toNat m (kl (G.K m)++(G.R q.toNat).tail) G).2|none=>0
theorem O0 (l:List Nat) (x:Nat) (G:FG):uB (l++[x]) G=prt (uB l G) x:=by unfold uB;rw [List.foldl_append];rfl
section
variable {w:World} {p:Nat} {FF:List Nat} {A:NS} {st:Nat} {G:FG}
theorem Db (h:wT w p FF A st G) (q:Int) (ZE:-9223372036854775808<=q/\q<=9223372036854775807) :
  Calls Tryz.prog 220 #[.pointer (some ⟨p,0,none⟩),.int .i64 q] w fun e w'=>e=.returned (.tuple #[.int .i64 (pQ (dF A q)),.bool (dF A q).isSome])/\
   Goes FF w w' (fun JY=>wT w' p JY (uo A q) (bR st (GI A q G)) (FZ A q G)):=by
 have km:=Fx h q ZE;have hst:=h.ou;have HK:=χ h;cases hm:dF A q with
 | none=>
  rw [hm] at km;have e1:uo A q=A:=by unfold uo;rw [hm]
  have e2:FZ A q G=G:=by unfold FZ;rw [hm]
  have e3:GI A q G=0:=by unfold GI;rw [hm]
  rw [e1,e2,e3,fO hst];clear h hm e1 e2 e3
  go_enter Tryz.func220,Tryz.ntmps220
  go_wp2_with ((go_at_call 224;(with_reducible refine (km).mono ?_);rintro e w9 ⟨rfl,aI⟩;rw [aI];clear aI w9))
  go_ret2;exact ⟨rfl,Goes.stay HK.out (aa.refl _ _)⟩
 | some m=>
  rw [hm,show pQ (some m)=(m:Int) from rfl,show (some m:Option Nat).isSome=true from rfl] at km;have e1:uo A q=aZ A m:=by unfold uo;rw [hm]
  have e2:FZ A q G=(qU A q.toNat m (kl (G.K m)++(G.R q.toNat).tail) G).1:=by unfold FZ;rw [hm]
  have e3:GI A q G=(rH A q.toNat m (kl (G.K m)++(G.R q.toNat).tail) G).q+(qU A q.toNat m (kl (G.K m)++(G.R q.toNat).tail) G).2:=by unfold GI;rw [hm]
  rw [e1,e2,e3];obtain ⟨hh,s,rfl,h1,hl,hR,hp⟩:=Lr h.2 h.ok hm;rw [π,hR,List.tail_cons];obtain ⟨⟨rg1,rg2⟩,T3,Bd,YW,hDR,I4,_,_,_,_,hTy,Nq,_⟩:=Yk h.2 h.ok hR;obtain ⟨_,hmx,um,hmh,hmin⟩:=h.2.out (h:=hh) (z:=m) (by rw [hR];simp);have Xo:=fun W F c (hC:aC W c F A (bR st ((rH A hh m (kl (G.K m)++s) G).q+(qU A hh m (kl (G.K m)++s) G).2)))=>gP hC m hmin;obtain ⟨⟨B,F,gt,ct,rfl,rfl,M⟩,I⟩:=h;have kra:=fun W (hW:aa [] w W)=>JW (M.aj hW) hmx (I.ff.ring m hmx) (fun z hz=>(I.ff.kid m z hmx hz).1);have hlen:(m::(kl (G.K m)++s)).length<=A.cs.length:=jq A.cs.length _ rg1.nd rg2;have hc1:=M.cells.ok.c1
  have hlt:=M.lt;have hcap:=M.cap;have hhI:(hh:Int)<(A.hs.length:Int):=ω;have kY:=M.cells.ok.h1;have hd:=M.d1;have hd2:=M.d2;have hd3:=M.d3;have hcm:=M.cells.mem;obtain ⟨rs,hrs⟩:∃rs,kl (G.K m)++s=rs:=⟨_,rfl⟩;rw [hrs] at rg1 rg2 T3 YW hDR I4 Xo hlen hTy Nq ⊢;obtain ⟨D,hD⟩:∃D,rH A hh m rs G=D:=⟨_,rfl⟩;have hD2:tid (ow A) rs ⟨[],oG hh m rs G,0⟩=D:=hD;have e4:qU A hh m rs G=qD (ow A) hh D.T D.G 0:=by unfold qU;rw [hD]
  rw [hD] at YW hDR hTy Nq Xo ⊢;rw [e4] at I4 Xo ⊢;obtain ⟨R4,hR4⟩:∃R4,qD (ow A) hh D.T D.G 0=R4:=⟨_,rfl⟩;rw [hR4] at I4 Xo ⊢;have Zv:=fun W (hW:dZ W B F gt ct A st (dB G m))=>GM hW.rings rg1 rg2;have H0:=χ (ψ rg1 (ψ rg2 (ψ T3 (ψ Bd (ψ YW (ψ hDR (ψ I4 (ψ hTy (ψ Nq (ψ hD2 hR4))))))))));have HD:=χ (ψ hlt (ψ hd (ψ hd2 (ψ hd3 hcm))));have KD:=χ Xo;clear M I rg1 rg2 T3 Bd YW hDR I4 hR hm e1 e2 e3 hrs hlt hd hd2 hd3 hcm Xo hTy Nq hD hD2 e4 hR4;have HA:=χ Zv;clear Zv;rw [Ω] at hlen
  go_enter Tryz.func220,Tryz.ntmps220
  go_wp2_with (first
   | (go_at_call 224;(with_reducible refine (km).mono ?_);rintro e w9 ⟨rfl,aI⟩;rw [aI];clear aI w9)
   | ((go_at_call 226;(with_reducible refine (kra _ β).mono ?_));rintro e w1 ⟨rfl,M1,hu1⟩;(have a1:=HA.out _ M1);(have b1:=M1.h1);(have jI:=χ (ψ M1 hu1));clear M1 hu1 kra)
   | ((go_at_call 227;(with_reducible refine (a1).mono ?_));rintro e w2 ⟨v2,rfl,ho2,hu2⟩;(have hs2:iC w2 (B.blk F gt) v2 (pU (m::rs)):=iC.gW (base:=w1.heap.size) (by rw [lV];exact ho2) (fun g hg=>Ψ (HD.out.1 g hg) jI.out.2.size));obtain ⟨x2,c2,hv2,_⟩:=aY ho2;subst hv2;(have b2:=hu2.was b1);obtain ⟨a2',ha2⟩:∃a',tailW x2 (rs.length+1) c2=.slice a' rs.length (c2-1):=⟨_,rfl⟩;(have htl:=fun W=>Oi W x2 (rs.length+1) c2 ω ω);rw [ha2] at htl;(have hs3:iC w2 (B.blk F gt) (.slice a2' rs.length (c2-1)) (pU rs):=by (rw [←ha2];exact QG hs2));(have HS2:=χ (ψ hs3 hu2));clear hs3 ha2;(have a2:=HA.out _ (jI.out.1.aj hu2));clear hs2 hu2 ho2 a1 b1)
   | ((go_at_call 227;(with_reducible refine (a2).mono ?_));rintro e w3 ⟨v3,rfl,ho3,hu3⟩;rw [←lV] at ho3;obtain ⟨g3,c3,hv3,hZ3,hb3⟩:=IZ.gW ho3 (by simp [pU]);rw [lV,Ω] at hv3;subst hv3;(have HZ3:=χ (ψ hZ3 (ψ hb3 hu3)));clear ho3 hZ3 hb3 hu3 a2 b2)
   | fail)
  have hlt:=HD.out.1
  go_loopw [38] (fun s38 wr=>∃j:Nat,j<=rs.length+1/\s38=.int .i64 (j:Int)/\dZ wr B F gt ct A st (uB ((m::rs).take j) (dB G m))/\aa [B.bn,B.bp] w3 wr) (fun s38 _=>rs.length+1-(intOf s38).toNat)
  case atStart=>exact ⟨0,ω,rfl,(jI.out.1.aj HS2.out.2).aj HZ3.out.2.2,aa.refl _ _⟩
  case round=>
   obtain ⟨j,hj,rfl,hM,hu⟩:=hrel;rename World=>wr
   by_cases hjl:j<rs.length+1
   ·obtain ⟨y,hy⟩:∃y,(m::rs)[j]?=some y:=⟨_,ε (by simpa using hjl)⟩;have hyn:y<A.cs.length:=H0.out.2.1 y (Η hy);have hg3:g3∉[B.bn,B.bp]:=fun hm=>by
     have h3:=HZ3.out.2.1;have h2:=HS2.out.2.size;have h1:=jI.out.2.size;simp at hm;rcases hm with e|e
     ·have:=hlt B.bn (by simp [FB.blk]);omega
     ·have:=hlt B.bp (by simp [FB.blk]);omega
    have hc:=hu.kept (HZ3.out.1.cell j (by rw [lV];simpa using hjl)) hg3;have hgy:(pU (m::rs)).getD j 0=(y:Int):=by unfold pU;rw [φ,ϑ,hy];rfl
    rw [hgy] at hc;have b1:=hM.h1;have kp:=CW hM.rings hyn;have ZP:(j:Int)<(rs.length:Int)+1:=ω;have hw1:IntKind.i64.wrap ((j:Int)+1)=(j:Int)+1:=Μ _ ω;have et:(m::rs).take (j+1)=(m::rs).take j++[y]:=by rw [Ϗ,hy];rfl
    have HR:=χ (ψ hM (ψ hu et));clear hM hu et hy hgy hlt
    go_wp2_with (first
     | ((go_at_call 228;(with_reducible refine (kp).mono ?_));rintro e w5 ⟨rfl,LQ,bK⟩)
     | fail)
    obtain ⟨hM,hu,et⟩:=HR.out;refine ⟨⟨j+1,ω,by go_num,?_,hu.trans bK⟩,by simp [intOf];omega⟩;rw [et,O0];exact hM.cz bK LQ
   ·obtain rfl:j=rs.length+1:=ω;have et:(m::rs).take (rs.length+1)=m::rs:=List.take_of_length_le σ;rw [et] at hM;have q3:=hM.h3;have qt:=hM.top (q:=hh) hl;have qf:=hM.ah.free hh;have hgtn:B.n0≠gt:=HD.out.2.2.1.2.2.2.2;obtain ⟨w4,hw4⟩:∃w4,w4=wr.setCell ⟨gt,hh,none⟩ (.int .i64 (-1)):=⟨_,rfl⟩;have e3':({ uB (m::rs) (dB G m) with R:=ai (uB (m::rs) (dB G m)).R hh [] }:FG)=oG hh m rs G:=by
     unfold oG;rw [(xQ _ _).2.2.2,Vz]
    have M4:dZ w4 B F gt ct A st (oG hh m rs G):=by rw [hw4,←e3'];exact hM.iE hh []
    have fZ:aa [gt] wr w4:=by rw [hw4];exact ν
    have hw3:aa (B.blk F gt) w3 w4:=(hu.mono (fun z hz=>by simp at hz;rcases hz with e|e<;>simp [FB.blk,e])).trans (fZ.mono (fun z hz=>by simp at hz;simp [FB.blk,hz]));have hs4:iC w4 (B.blk F gt) (.slice a2' rs.length (c2-1)) (pU rs):=(HS2.out.1.turned HZ3.out.2.2 σ).turned hw3 (fun g hg=>Α hg)
    have kt:=Nr M4 h1 H0.out.2.2.2.1 H0.out.2.2.1 (hs4.fewer (fun g hg=>by
     simp only [ρ,ς,or_false] at hg;rcases hg with e|e|e|e
     ·rw [e];exact jh _ HD.out.2.2.2.2
     all_goals simp [FB.blk,e]))
    rw [H0.out.2.2.2.2.2.2.2.2.2.1] at kt;have V6:aa (B.blk F gt) w w4:=(((jI.out.2.mono (fun z hz=>by simp at hz;rcases hz with e|e|e<;>simp [FB.blk,e])).then HS2.out.2).then HZ3.out.2.2).trans hw3;have H4:=χ (ψ V6 (ψ hw4 hl));rw [hw4] at kt;clear hM hu et M4 fZ hw3 hs4 V6 hw4 e3' hlt
    go_wp2_with (first
     | ((go_at_call 229;(with_reducible refine (kt).mono ?_));rintro e w5 ⟨v5,rfl,Zi,M5,bK⟩;obtain ⟨a5,c5,hv5,_⟩:=aY Zi;subst hv5)
     | fail)
    obtain ⟨V6,hw4,hl⟩:=H4.out;rw [←hw4] at bK;have hz0:=fO hst;rw [←hw4] at Zi;have hs5:iC w5 (B.blk F gt) (.slice a5 D.T.length c5) D.T:=iC.gW (base:=w4.heap.size) Zi (fun g hg=>Ψ (HD.out.1 g hg) V6.size)
    have qF:aa (B.blk F gt) w4 w5:=bK.mono (fun z hz=>by
     simp only [ρ,ς,or_false] at hz;rcases hz with e|e|e|e
     ·rw [e];exact jh _ HD.out.2.2.2.2
     all_goals simp [FB.blk,e])
    have EA:=V6.trans qF;have H5:=χ (ψ M5 (ψ hs5 EA));have Nq:D.T.length<=65537:=by have:=H0.out.2.2.2.2.2.2.2.2.1;omega
    clear M5 hs5 EA bK qF Zi V6 hw4 q3 qt qf kt H4
    go_loopw [59] (fun s59 wr2=>∃ (i:Nat) (G':FG) (q':Nat),i<=D.T.length/\s59=.int .i64 (i:Int)/\qD (ow A) hh (D.T.drop i) G' q'=R4/\yT A.cs.length (fun y=>((aZ A (m:Int)).c y).i) (bX A) hh (FJ (D.T.drop i)) G'/\dZ wr2 B F gt ct A (bR st (D.q+q')) G'/\aa (B.blk F gt) w5 wr2) (fun s59 _=>D.T.length-(intOf s59).toNat)
    case atStart=>exact ⟨0,D.G,0,ω,rfl,H0.out.2.2.2.2.2.2.2.2.2.2,H0.out.2.2.2.2.1,H5.out.1,aa.refl _ _⟩
    case round=>
     obtain ⟨i,G',q',hi,rfl,Pm,Ps,hM,hu⟩:=hrel;rename World=>wr2
     by_cases hil:i<D.T.length
     ·obtain ⟨y,hy⟩:∃y,D.T[i]?=some y:=⟨_,ε hil⟩;have hdr:D.T.drop i=y::D.T.drop (i+1):=by
       rw [ϛ hil]
       congr 1
       rw [ε hil] at hy
       injection hy
      rw [hdr] at Pm Ps;unfold qD at Pm;rw [si] at Ps;obtain ⟨a6,c6,e6,_,_,hel⟩:=H5.out.2.1;have e7:a5=a6:=by injection e6
      subst e7;obtain ⟨g6,o6,rfl,hg6,hF6,hc6⟩:=hel i y hy;have hc7:=hu.kept hc6 hF6;have hiI:(i:Int)<(D.T.length:Int):=ω;have hw1:IntKind.i64.wrap ((i:Int)+1)=(i:Int)+1:=Μ _ ω;have hTy:=H0.out.2.2.2.2.2.2.2.1 y (Η hy)
      by_cases e:y=-1
      ·rw [Δ e] at Pm Ps;rw [e] at hc7;have HR:=χ (ψ Pm (ψ Ps (ψ hM hu)));clear Pm Ps hM hu hy hdr hel e6 hc6 e;go_wp2;exact ⟨⟨i+1,G',q',ω,by go_num,HR.out.1,HR.out.2.1,HR.out.2.2.1,HR.out.2.2.2⟩,by simp [intOf];omega⟩
      ·rw [Γ e] at Pm Ps;obtain ⟨z,rfl⟩:∃z:Nat,y=z:=⟨y.toNat,ω⟩;rw [π] at Pm Ps;have hzn:((z:Int) == -1)=false:=σ;have Md:=(Ps.pr z σ).1;have hzin:=H0.out.2.2.2.1 z Md.1 Md.2.2
       have kr:=fun W (hW:aa [] wr2 W)=>BQ (hM.aj hW) [] hl hzin (fun t s' et=>by
        have hm:=Ps.mem t (by rw [et];simp)
        exact H0.out.2.2.2.1 t hm.1 hm.2.2)
       obtain ⟨hRI2,_⟩:=Ps.step h1 (fun G=>Ah _ _ _ _ _) (fun a b c=>bT);have HR:=χ (ψ Pm (ψ hRI2 hu));clear Pm Ps hM hu hy hdr hel e6 hc6 e hRI2 Md hzin hTy
       go_wp2_with (first
        | ((go_at_call 230;(with_reducible refine (kr _ β).mono ?_));rintro e w6 ⟨rfl,tF,gF⟩)
        | fail)
       rw [iN] at tF;refine ⟨⟨i+1,_,q'+rJ hh G',ω,by go_num,HR.out.1,HR.out.2.1,by rw [←Nat.add_assoc];exact tF,HR.out.2.2.trans (gF.mono (fun z hz=>?_))⟩,by simp [intOf];omega⟩;simp only [ρ,ς,or_false] at hz;rcases hz with e|e|e|e
       ·rw [e];exact jh _ HD.out.2.2.2.2
       all_goals simp [FB.blk,e]
     ·obtain rfl:i=D.T.length:=ω;have hdr:D.T.drop D.T.length=[]:=List.drop_eq_nil_of_le (Θ _);rw [hdr] at Pm;have hRt':(G',q')=R4:=Pm;subst hRt';have q0:=hM.h0;have kd:=KD.out wr2 F B.c hM.cells;have HR:=χ (ψ hM hu);clear Pm Ps hM hu hdr
      go_wp2_with (first
       | ((go_at_call 151;(with_reducible refine (kd).mono ?_));rintro e w7 ⟨rfl,hC7,jC⟩)
       | fail)
      go_ret2;refine ⟨rfl,B.blk F gt,⟨⟨B,F,gt,ct,rfl,rfl,HR.out.1.bY jC hC7 (fun y hy=>Α hy) (eU A m) (by rw [iK])⟩,H0.out.2.2.2.2.2.2.1⟩,(H5.out.2.2.trans HR.out.2).trans (jC.mono jh),fun y hy=>Α hy⟩
end
section
variable {w:World} {p:Nat} {FF:List Nat} {A:NS} {st:Nat} {G:FG}
theorem Qs (h:wT w p FF A st G) (x:Nat) (k s:Int) (hk:-9223372036854775808<=k/\k<=9223372036854775807/\0<=s/\s<=18446744073709551615) (hB:iT A x k s=true) {hh:Nat} (hxh:(A.c x).i=hh) :
  Calls Tryz.prog 218 #[.pointer (some ⟨p,0,none⟩),.int .i64 (x:Int),.agg #[.int .i64 k,.int .u64 s]] w fun e w'=>e=.returned (.bool true)/\
   Goes FF w w' (fun JY=>wT w' p JY (ak A x k s) (bR st (wW (ak A x k s) hh x G)) (kH (ak A x k s) hh x G)):=by
 obtain ⟨⟨B,F,gt,ct,rfl,rfl,M⟩,I⟩:=h;have hst:=M.cells.ou;have ok:=M.cells.ok;have hin0:=qw hB;obtain ⟨hx,hx0⟩:=(ae _ _).1 hin0;have h1:1<=hh:=ω;have XN:hh<A.hs.length:=by have:=(ok.nat x hx).2;omega
 have hcs:=eB A x k s;have kY:(ak A x k s).hs.length=A.hs.length:=by rw [kV]
 have hi:=iy hB hx;obtain ⟨t,s0,hR,hoff,f1,f2,⟨s',Hw⟩,_,_,_,_,_⟩:=K8 I hB hx hxh h1;have I2:=(Xq I hB hx hxh h1).1;have htI:=I.pK hR;have hin:bQ (ak A x k s) (x:Int)=true:=(ae _ _).2 ⟨by rw [hcs];exact hx,by rw [hi];exact hx0⟩;have Hg:bQ (ak A x k s) (t:Int)=true:=(ae _ _).2 ⟨by rw [hcs];exact htI.2.2.1,by rw [hi];omega⟩;have u1:aa [] w (w.alloc (.cells #[.int .i64 k,.int .u64 s] 129)):=(aa.refl _ _).alloc _;have kp:=fun W (hW:aa [] (w.alloc (.cells #[.int .i64 k,.int .u64 s] 129)) W)=>ig (M.cells.aj (u1.trans hW)) x k s hk hB;have h0:=M.h0;have uH:B.n0∉F:=M.d1.1
 have hsz:w.heap.size∉F:=fun hm=>by have:=M.cells.lt _ hm;omega
 have r0:∀W,aa F (w.alloc (.cells #[.int .i64 k,.int .u64 s] 129)) W->W.cell? ⟨B.n0,0,none⟩=some (.pointer (some ⟨B.c,0,none⟩)):=fun W hW=>hW.kept (u1.was h0) uH;have r1:∀W,aa F (w.alloc (.cells #[.int .i64 k,.int .u64 s] 129)) W->W.cell? ⟨w.heap.size,0,none⟩=some (.int .i64 k):=fun W h=>h.kept σ hsz;have r2:∀W,aa F (w.alloc (.cells #[.int .i64 k,.int .u64 s] 129)) W->W.cell? ⟨w.heap.size,1,none⟩=some (.int .u64 s):=fun W h=>h.kept σ hsz;have H0:=χ (ψ M (ψ I (ψ hoff (ψ I2 (ψ M.cells.mem (ψ kY (ψ hin Hg)))))));have HX:=χ (ψ hcs (ψ hi (ψ hR Hw)))
 have kh:=fun W (hM:dZ W B F gt ct (ak A x k s) st G)=>dK hM.cells x hin;have KH:=χ kh;have HLB:=χ hB;clear M I ok hoff I2 hB h0 hcs kY hi f1 f2 Hw hin Hg kh hin0 hR htI
 go_enter Tryz.func218,Tryz.ntmps218
 go_wp2
 go_region_held3 (aa F (w.alloc (.cells #[.int .i64 k,.int .u64 s] 129))) (exact ν)
  (first
   | ((go_at_call 147;(with_reducible refine (kp _ β).mono ?_));rintro e w1 ⟨rfl,jd,hu1⟩;(have hu2:aa F (w.alloc (.cells #[.int .i64 k,.int .u64 s] 129)) w1:=ν)))
 have uF:aa F w w1:=(u1.mono σ).trans hu2;have hM1:=H0.out.1.bY uF jd (fun y hy=>Α hy) HX.out.1 H0.out.2.2.2.2.2.1;have Y7:=fun W (hW:aa [] w1 W)=>KH.out W (hM1.aj hW);simp only [HX.out.2.1,hxh] at Y7;have b0:=hM1.h0;have jI:=χ (ψ hM1 uF);clear kp r0 r1 r2 hM1 uF hu2 jd hu1 hsz u1;have uJ:x<(ak A x k s).cs.length:=by rw [HX.out.1];exact hx
 have Bl:(x:Int)<((ak A x k s).cs.length:Int):=ω;have hcb:(ak A x k s).cs.length<=65536:=jI.out.1.cells.ok.c1
 by_cases hup:G.up x=-1
 ·go_wp2_with (first
   | ((go_at_call 140;(with_reducible refine (Y7 _ β).mono ?_));rintro e w2 ⟨rfl,hC2,hu2⟩;(have M2:=(jI.out.1.aj (w':=_) (β:aa [] w1 _)).bY hu2 hC2 (fun y hy=>Α hy) rfl rfl);(have d2:=M2.h2);(have p0:=M2.p0 uJ);rw [hup] at p0;(have mU:=χ (ψ M2 ((jI.out.2.then (β:aa [] w1 _)).trans hu2)));clear M2 hC2 hu2)
   | fail)
  refine rY (fun W=>dZ W B F gt ct (ak A x k s) (bR st 0) G/\aa (B.blk F gt) w W) ?_ ?_
  ·exact ⟨by rw [fO hst];exact mU.out.1,mU.out.2.mono jh⟩
  have e1:fw (ak A x k s) hh x G=G:=by unfold fw;rw [Γ (by simp [hup])]
  have HE:=χ (ψ e1 hup);clear e1 hup d2 p0 Y7 b0;rintro w5 ⟨M5,EA⟩;have d3:=M5.h3;have dt:w5.cell? ⟨gt,hh,none⟩=some (.int .i64 (t:Int)):=by (have Xj:=M5.top (q:=hh) (by rw [H0.out.2.2.2.2.2.1];exact XN);rw [HX.out.2.2.1] at Xj;exact Xj)
  have df:=M5.ah.free hh;have hcap:=M5.cap;have hhI:(hh:Int)<((ak A x k s).hs.length:Int):=by rw [H0.out.2.2.2.2.2.1];omega
  have H5:=χ (ψ M5 EA)
  by_cases htx:t=x
  ·subst htx;clear M5 EA
   go_quiet (fail)
   go_wp2;go_ret;have eG:kH (ak A t k s) hh t G=G:=by unfold kH;rw [HE.out.1,HX.out.2.2.1,Γ (by simp [lW])]
   have eQ:wW (ak A t k s) hh t G=0+0:=by unfold wW;rw [HE.out.1,HX.out.2.2.1,Δ HE.out.2,Δ (by rfl)]
   refine ⟨rfl,B.blk F gt,⟨⟨B,F,gt,ct,rfl,rfl,?_⟩,H0.out.2.2.2.1⟩,H5.out.2.drewN _,fun y hy=>Α hy⟩;rw [eG,eQ];exact H5.out.1.drewN _
  ·have hxt:((t:Int) == (x:Int))=false:=ζ;have hxt2:((t:Int) != (x:Int))=true:=ζ;have hxt3:¬ ((t:Int)=(x:Int)):=ω;have hin:=H0.out.2.2.2.2.2.2.1;have Hg:=H0.out.2.2.2.2.2.2.2;have kc:=fun W (hW:aa [] w5 W)=>dX (M5.cells.aj hW) x t hin Hg;have hcn:=M5.cn;have mc:∀x,x≠B.c->x∉[B.c]:=fun x h1=>by simp [h1]
   have r0:∀W,aa [B.c] w5 W->W.cell? ⟨B.n0,0,none⟩=some (.pointer (some ⟨B.c,0,none⟩)):=fun W hW=>hW.kept M5.h0 (mc _ hcn.1);have r3:∀W,aa [B.c] w5 W->W.cell? ⟨B.n0,3,none⟩=some (.slice (some ⟨gt,0,none⟩) (ak A x k s).hs.length ct):=fun W hW=>hW.kept M5.h3 (mc _ hcn.1);have rt:∀W,aa [B.c] w5 W->W.cell? ⟨gt,hh,none⟩=some (.int .i64 (t:Int)):=fun W hW=>hW.kept dt (mc _ hcn.2.2.2.2.2);have rf:∀W,aa [B.c] w5 W->W.frozen? ⟨gt,hh,none⟩=false:=fun W hW=>hW.aH dt (mc _ hcn.2.2.2.2.2) df;clear M5 EA d3 dt df;obtain ⟨b2,hb2⟩:∃b2,decide (bX (ak A x k s) x t)=b2:=⟨_,rfl⟩;rw [hb2] at kc;have HB2:=χ hb2
   clear hb2
   go_region_held3 (aa [B.c] w5) (exact ν)
    (first
     | ((go_at_call 174;(with_reducible refine (kc _ β).mono ?_));rintro e w6 ⟨rfl,WY,gF⟩;(have jC:aa [B.c] w5 w6:=aa.trans ν gF)))
   have d3:=r3 _ jC;have dt:=rt _ jC;have df:=rf _ jC;have M6:=H5.out.1.setSt jC WY;have Wv:aa (B.blk F gt) w w6:=H5.out.2.trans (jC.mono (fun z hz=>by simp at hz;rw [hz];exact jh _ H0.out.2.2.2.2.1));rw [iN] at M6;have H6:=χ (ψ M6 Wv);clear M6 Wv jC WY gF r0 r3 rt rf kc;have eQ:wW (ak A x k s) hh x G=0+1:=by unfold wW;rw [HE.out.1,HX.out.2.2.1,Δ HE.out.2,Γ (fun e=>htx (by have e2:(t:Int)=(x:Int):=e;omega))]
   have HQ:=χ eQ;clear eQ;cases b2 with
   | false=>
    go_wp2;go_ret;have eG:kH (ak A x k s) hh x G=G:=by unfold kH;rw [HE.out.1,HX.out.2.2.1,Γ (fun h=>by have h2:=h.2;unfold ow at h2;rw [show (lW (t::s0)).toNat=t from by unfold lW;simp,HB2.out] at h2;cases h2)]
    refine ⟨rfl,B.blk F gt,⟨⟨B,F,gt,ct,rfl,rfl,?_⟩,H0.out.2.2.2.1⟩,by (have:=H6.out.2);exact ν,fun y hy=>Α hy⟩;rw [eG,HQ.out];exact H6.out.1
   | true=>
    go_wp2;go_ret;have eG:kH (ak A x k s) hh x G=JR hh x G:=by unfold kH;rw [HE.out.1,HX.out.2.2.1,Δ ⟨fun e=>htx (by have e2:(t:Int)=(x:Int):=e;omega),by unfold ow;rw [show (lW (t::s0)).toNat=t from by unfold lW;simp];exact HB2.out⟩]
    refine ⟨rfl,B.blk F gt,⟨⟨B,F,gt,ct,rfl,rfl,?_⟩,H0.out.2.2.2.1⟩,(H6.out.2).setCell (Α (by simp [FB.blk])) _,fun y hy=>Α hy⟩;rw [eG,HQ.out];exact H6.out.1.iE hh (x::zh (G.R hh) x)
 ·obtain ⟨p1,hp1,ux,_⟩:=(H0.out.2.1.ff.Ir x hx).resolve_left hup;have hp1h:(A.c p1).i=hh:=by have:(A.c x).i=(A.c p1).i:=(H0.out.2.1.ff.home x p1 hx ux).1;omega
  have hpin:bQ (ak A x k s) (p1:Int)=true:=(ae _ _).2 ⟨by rw [HX.out.1];exact hp1,by rw [HX.out.2.1];omega⟩;have hpn:((p1:Int) == -1)=false:=σ;obtain ⟨b,hb⟩:∃b,decide (bX (ak A x k s) x p1)=b:=⟨_,rfl⟩;have KA:=χ (fun W st' (hM:dZ W B F gt ct (ak A x k s) st' G)=>dX hM.cells x p1 H0.out.2.2.2.2.2.2.1 hpin);have HB:=χ hb;clear hb;cases b with
  | false=>
   go_wp2_with (first
    | ((go_at_call 140;(with_reducible refine (Y7 _ β).mono ?_));rintro e w2 ⟨rfl,hC2,hu2⟩;(have M2:=(jI.out.1.aj (w':=_) (β:aa [] w1 _)).bY hu2 hC2 (fun y hy=>Α hy) rfl rfl);(have d2:=M2.h2);(have d0:=M2.h0);(have p0:=M2.p0 uJ);rw [ux] at p0;(have ka:=KA.out _ _ M2);rw [HB.out] at ka;(have mU:=χ (ψ M2 ((jI.out.2.then (β:aa [] w1 _)).trans hu2)));clear M2 hC2 hu2)
    | ((go_at_call 174;(with_reducible refine (ka).mono ?_));rintro e w3 ⟨rfl,yj,hu3⟩;(have JC:=χ (ψ (mU.out.1.setSt hu3 yj) hu3));clear yj hu3)
    | fail)
   refine rY (fun W=>dZ W B F gt ct (ak A x k s) (bR st 1) G/\aa (B.blk F gt) w W) ?_ ?_
   ·exact ⟨JC.out.1,(mU.out.2.mono jh).trans (JC.out.2.mono (fun z hz=>by simp at hz;rw [hz];exact jh _ H0.out.2.2.2.2.1))⟩
   have e1:fw (ak A x k s) hh x G=G:=by unfold fw;rw [Γ (fun h=>by have h2:=h.2;unfold ow at h2;rw [ux,π,HB.out] at h2;cases h2)]
   have HE:=χ (ψ e1 hup);clear e1 hup d2 p0 Y7 b0 d0 ka ux;rintro w5 ⟨M5,EA⟩;have d3:=M5.h3;have dt:w5.cell? ⟨gt,hh,none⟩=some (.int .i64 (t:Int)):=by (have Xj:=M5.top (q:=hh) (by rw [H0.out.2.2.2.2.2.1];exact XN);rw [HX.out.2.2.1] at Xj;exact Xj)
   have df:=M5.ah.free hh;have hcap:=M5.cap;have hhI:(hh:Int)<((ak A x k s).hs.length:Int):=by rw [H0.out.2.2.2.2.2.1];omega
   have H5:=χ (ψ M5 EA)
   by_cases htx:t=x
   ·subst htx;clear M5 EA
    go_quiet (fail)
    go_wp2;go_ret;have eG:kH (ak A t k s) hh t G=G:=by unfold kH;rw [HE.out.1,HX.out.2.2.1,Γ (by simp [lW])]
    have eQ:wW (ak A t k s) hh t G=1+0:=by unfold wW;rw [HE.out.1,HX.out.2.2.1,Γ HE.out.2,Δ (by rfl)]
    refine ⟨rfl,B.blk F gt,⟨⟨B,F,gt,ct,rfl,rfl,?_⟩,H0.out.2.2.2.1⟩,H5.out.2.drewN _,fun y hy=>Α hy⟩;rw [eG,eQ];exact H5.out.1.drewN _
   ·have hxt:((t:Int) == (x:Int))=false:=ζ;have hxt2:((t:Int) != (x:Int))=true:=ζ;have hxt3:¬ ((t:Int)=(x:Int)):=ω;have hin:=H0.out.2.2.2.2.2.2.1;have Hg:=H0.out.2.2.2.2.2.2.2;have kc:=fun W (hW:aa [] w5 W)=>dX (M5.cells.aj hW) x t hin Hg;have hcn:=M5.cn;have mc:∀x,x≠B.c->x∉[B.c]:=fun x h1=>by simp [h1]
    have r0:∀W,aa [B.c] w5 W->W.cell? ⟨B.n0,0,none⟩=some (.pointer (some ⟨B.c,0,none⟩)):=fun W hW=>hW.kept M5.h0 (mc _ hcn.1);have r3:∀W,aa [B.c] w5 W->W.cell? ⟨B.n0,3,none⟩=some (.slice (some ⟨gt,0,none⟩) (ak A x k s).hs.length ct):=fun W hW=>hW.kept M5.h3 (mc _ hcn.1);have rt:∀W,aa [B.c] w5 W->W.cell? ⟨gt,hh,none⟩=some (.int .i64 (t:Int)):=fun W hW=>hW.kept dt (mc _ hcn.2.2.2.2.2);have rf:∀W,aa [B.c] w5 W->W.frozen? ⟨gt,hh,none⟩=false:=fun W hW=>hW.aH dt (mc _ hcn.2.2.2.2.2) df;clear M5 EA d3 dt df;obtain ⟨b2,hb2⟩:∃b2,decide (bX (ak A x k s) x t)=b2:=⟨_,rfl⟩;rw [hb2] at kc
    have HB2:=χ hb2;clear hb2
    go_region_held3 (aa [B.c] w5) (exact ν)
     (first
      | ((go_at_call 174;(with_reducible refine (kc _ β).mono ?_));rintro e w6 ⟨rfl,WY,gF⟩;(have jC:aa [B.c] w5 w6:=aa.trans ν gF)))
    have d3:=r3 _ jC;have dt:=rt _ jC;have df:=rf _ jC;have M6:=H5.out.1.setSt jC WY;have Wv:aa (B.blk F gt) w w6:=H5.out.2.trans (jC.mono (fun z hz=>by simp at hz;rw [hz];exact jh _ H0.out.2.2.2.2.1));rw [iN] at M6;have H6:=χ (ψ M6 Wv);clear M6 Wv jC WY gF r0 r3 rt rf kc;have eQ:wW (ak A x k s) hh x G=1+1:=by unfold wW;rw [HE.out.1,HX.out.2.2.1,Γ HE.out.2,Γ (fun e=>htx (by have e2:(t:Int)=(x:Int):=e;omega))]
    have HQ:=χ eQ;clear eQ;cases b2 with
    | false=>
     go_wp2;go_ret;have eG:kH (ak A x k s) hh x G=G:=by unfold kH;rw [HE.out.1,HX.out.2.2.1,Γ (fun h=>by have h2:=h.2;unfold ow at h2;rw [show (lW (t::s0)).toNat=t from by unfold lW;simp,HB2.out] at h2;cases h2)]
     refine ⟨rfl,B.blk F gt,⟨⟨B,F,gt,ct,rfl,rfl,?_⟩,H0.out.2.2.2.1⟩,by (have:=H6.out.2);exact ν,fun y hy=>Α hy⟩;rw [eG,HQ.out];exact H6.out.1
    | true=>
     go_wp2;go_ret;have eG:kH (ak A x k s) hh x G=JR hh x G:=by unfold kH;rw [HE.out.1,HX.out.2.2.1,Δ ⟨fun e=>htx (by have e2:(t:Int)=(x:Int):=e;omega),by unfold ow;rw [show (lW (t::s0)).toNat=t from by unfold lW;simp];exact HB2.out⟩]
     refine ⟨rfl,B.blk F gt,⟨⟨B,F,gt,ct,rfl,rfl,?_⟩,H0.out.2.2.2.1⟩,(H6.out.2).setCell (Α (by simp [FB.blk])) _,fun y hy=>Α hy⟩;rw [eG,HQ.out];exact H6.out.1.iE hh (x::zh (G.R hh) x)
  | true=>
   have hlt:bX (ak A x k s) x p1:=by have:=HB.out;simpa using this
   obtain ⟨hpx,o1,o2,o3,wY⟩:=H0.out.2.2.1 p1 ux
   have KL:=χ (fun W st' (hM:dZ W B F gt ct (ak A x k s) st' G)=>by
    have hn:=HX.out.1;have:=FO (w:=W) (M:=hM) (bJ:=fun y=>(A.c y).i) (L:=bX (ak A x k s)) (Mx:=fun a y=>y≠x->bX (ak A x k s) a y) (fun a=>vV) (q:=hh) (x:=x) (t:=t) (s:=s0) (by rw [H0.out.2.2.2.2.2.1];exact XN) uJ
     (by rw [hn];exact H0.out.2.1.ff.mono (fun y q hy hu ho=>⟨(H0.out.2.1.ff.home y q hy hu).1,(H0.out.2.1.ff.home y q hy hu).2,fun hyx=>by
      have hle:=sP HLB.out;rw [π] at hle;have hc:=qN HLB.out hx
      by_cases e:q=x
      ·subst e;exact lI ho (by rw [hc,Γ hyx]) (by rw [hc,Δ rfl];exact hle)
      ·exact (eZ (by rw [hc,Γ e]) (by rw [hc,Γ hyx])).2 ho⟩) H0.out.2.1.ff.alone) HX.out.2.2.1 (by rw [hn];exact (H0.out.2.1.pK HX.out.2.2.1).2.2.1) h1
     (by
      rw [hn];intro p2 hp2;obtain rfl:p2=p1:=ω
      exact ⟨hpx,hp1h,o1,o2,o3⟩) (by rw [hn];exact fun y hy hyh YL hyx=>wY y hy hyh YL hyx)
    rw [hn] at this
    exact this)
   clear o1 o2 o3 wY
   go_wp2_with (first
    | ((go_at_call 140;(with_reducible refine (Y7 _ β).mono ?_));rintro e w2 ⟨rfl,hC2,hu2⟩;(have M2:=(jI.out.1.aj (w':=_) (β:aa [] w1 _)).bY hu2 hC2 (fun y hy=>Α hy) rfl rfl);(have d2:=M2.h2);(have d0:=M2.h0);(have p0:=M2.p0 uJ);rw [ux] at p0;(have ka:=KA.out _ _ M2);rw [HB.out] at ka;(have mU:=χ (ψ M2 ((jI.out.2.then (β:aa [] w1 _)).trans hu2)));clear M2 hC2 hu2)
    | ((go_at_call 174;(with_reducible refine (ka).mono ?_));rintro e w3 ⟨rfl,yj,hu3⟩;(have kl:=KL.out _ _ (mU.out.1.setSt hu3 yj));(have JC:=χ (ψ (mU.out.1.setSt hu3 yj) hu3));clear yj hu3)
    | ((go_at_call 225;(with_reducible refine (kl).mono ?_));rintro e w4 ⟨rfl,M4,fZ⟩;(have Pt:=χ (ψ M4 fZ));clear M4 fZ)
    | fail)
   have e1:fw (ak A x k s) hh x G=jS A.cs.length hh x G:=by unfold fw;rw [Δ ⟨hup,by unfold ow;rw [ux,π];exact HB.out⟩,HX.out.1]
   have hRL:=HX.out.2.2.2;rw [e1] at hRL;refine rY (fun W=>dZ W B F gt ct (ak A x k s) (bR st 1) (jS A.cs.length hh x G)/\aa (B.blk F gt) w W) ?_ ?_
   ·exact ⟨Pt.out.1,((mU.out.2.mono jh).trans (JC.out.2.mono (fun z hz=>by simp at hz;rw [hz];exact jh _ H0.out.2.2.2.2.1))).trans (Pt.out.2.mono (fun z hz=>by simp at hz;rcases hz with e|e|e<;>simp [FB.blk,e]))⟩
   have HE:=χ (ψ e1 hup);have Tw:=χ hRL;clear e1 hup d2 p0 Y7 b0 d0 ka ux hRL kl;rintro w5 ⟨M5,EA⟩;have d3:=M5.h3;have dt:w5.cell? ⟨gt,hh,none⟩=some (.int .i64 (t:Int)):=by (have Xj:=M5.top (q:=hh) (by rw [H0.out.2.2.2.2.2.1];exact XN);rw [Tw.out] at Xj;exact Xj)
   have df:=M5.ah.free hh;have hcap:=M5.cap;have hhI:(hh:Int)<((ak A x k s).hs.length:Int):=by rw [H0.out.2.2.2.2.2.1];omega
   have H5:=χ (ψ M5 EA)
   by_cases htx:t=x
   ·subst htx;clear M5 EA
    go_quiet (fail)
    go_wp2;go_ret;have eG:kH (ak A t k s) hh t G=(jS A.cs.length hh t G):=by unfold kH;rw [HE.out.1,Tw.out,Γ (by simp [lW])]
    have eQ:wW (ak A t k s) hh t G=1+0:=by unfold wW;rw [HE.out.1,Tw.out,Γ HE.out.2,Δ (by rfl)]
    refine ⟨rfl,B.blk F gt,⟨⟨B,F,gt,ct,rfl,rfl,?_⟩,H0.out.2.2.2.1⟩,H5.out.2.drewN _,fun y hy=>Α hy⟩;rw [eG,eQ];exact H5.out.1.drewN _
   ·have hxt:((t:Int) == (x:Int))=false:=ζ;have hxt2:((t:Int) != (x:Int))=true:=ζ;have hxt3:¬ ((t:Int)=(x:Int)):=ω;have hin:=H0.out.2.2.2.2.2.2.1;have Hg:=H0.out.2.2.2.2.2.2.2;have kc:=fun W (hW:aa [] w5 W)=>dX (M5.cells.aj hW) x t hin Hg;have hcn:=M5.cn;have mc:∀x,x≠B.c->x∉[B.c]:=fun x h1=>by simp [h1]
    have r0:∀W,aa [B.c] w5 W->W.cell? ⟨B.n0,0,none⟩=some (.pointer (some ⟨B.c,0,none⟩)):=fun W hW=>hW.kept M5.h0 (mc _ hcn.1);have r3:∀W,aa [B.c] w5 W->W.cell? ⟨B.n0,3,none⟩=some (.slice (some ⟨gt,0,none⟩) (ak A x k s).hs.length ct):=fun W hW=>hW.kept M5.h3 (mc _ hcn.1);have rt:∀W,aa [B.c] w5 W->W.cell? ⟨gt,hh,none⟩=some (.int .i64 (t:Int)):=fun W hW=>hW.kept dt (mc _ hcn.2.2.2.2.2);have rf:∀W,aa [B.c] w5 W->W.frozen? ⟨gt,hh,none⟩=false:=fun W hW=>hW.aH dt (mc _ hcn.2.2.2.2.2) df;clear M5 EA d3 dt df;obtain ⟨b2,hb2⟩:∃b2,decide (bX (ak A x k s) x t)=b2:=⟨_,rfl⟩;rw [hb2] at kc
    have HB2:=χ hb2;clear hb2
    go_region_held3 (aa [B.c] w5) (exact ν)
     (first
      | ((go_at_call 174;(with_reducible refine (kc _ β).mono ?_));rintro e w6 ⟨rfl,WY,gF⟩;(have jC:aa [B.c] w5 w6:=aa.trans ν gF)))
    have d3:=r3 _ jC;have dt:=rt _ jC;have df:=rf _ jC;have M6:=H5.out.1.setSt jC WY;have Wv:aa (B.blk F gt) w w6:=H5.out.2.trans (jC.mono (fun z hz=>by simp at hz;rw [hz];exact jh _ H0.out.2.2.2.2.1));rw [iN] at M6;have H6:=χ (ψ M6 Wv);clear M6 Wv jC WY gF r0 r3 rt rf kc;have eQ:wW (ak A x k s) hh x G=1+1:=by unfold wW;rw [HE.out.1,Tw.out,Γ HE.out.2,Γ (fun e=>htx (by have e2:(t:Int)=(x:Int):=e;omega))]
    have HQ:=χ eQ;clear eQ;cases b2 with
    | false=>
     go_wp2;go_ret;have eG:kH (ak A x k s) hh x G=(jS A.cs.length hh x G):=by unfold kH;rw [HE.out.1,Tw.out,Γ (fun h=>by have h2:=h.2;unfold ow at h2;rw [show (lW (t::s')).toNat=t from by unfold lW;simp,HB2.out] at h2;cases h2)]
     refine ⟨rfl,B.blk F gt,⟨⟨B,F,gt,ct,rfl,rfl,?_⟩,H0.out.2.2.2.1⟩,by (have:=H6.out.2);exact ν,fun y hy=>Α hy⟩;rw [eG,HQ.out];exact H6.out.1
    | true=>
     go_wp2;go_ret;have eG:kH (ak A x k s) hh x G=JR hh x (jS A.cs.length hh x G):=by unfold kH;rw [HE.out.1,Tw.out,Δ ⟨fun e=>htx (by have e2:(t:Int)=(x:Int):=e;omega),by unfold ow;rw [show (lW (t::s')).toNat=t from by unfold lW;simp];exact HB2.out⟩]
     refine ⟨rfl,B.blk F gt,⟨⟨B,F,gt,ct,rfl,rfl,?_⟩,H0.out.2.2.2.1⟩,(H6.out.2).setCell (Α (by simp [FB.blk])) _,fun y hy=>Α hy⟩;rw [eG,HQ.out];exact H6.out.1.iE hh (x::zh ((jS A.cs.length hh x G).R hh) x)
end
section
variable {w:World} {p:Nat} {FF:List Nat} {A:NS} {st:Nat} {G:FG}
theorem XV (I:yB A G) (ok:A.Ok):G.R A.hs.length=[]:=by
 cases e:G.R A.hs.length with
 | nil=>rfl
 | cons x t=>
  have:=I.out (h:=A.hs.length) (z:=x) (by rw [e];simp);have:=ok.nat x this.2.1;omega
theorem OJ (h:wT w p FF A st G) :
  Calls Tryz.prog 222 #[.pointer (some ⟨p,0,none⟩)] w fun e w'=>e=.returned (.int .i64 (cu A))/\Goes FF w w' (fun JY=>wT w' p JY (aN A) st G):=by
 obtain ⟨⟨B,F,gt,ct,rfl,rfl,M⟩,I⟩:=h;have k:=iF M.cells;have h0:=M.h0;have I2:=VW I
 by_cases hl:65536<A.hs.length
 ·have e1:cu A=0:=by unfold cu;rw [Δ hl]
  have e2:aN A=A:=by unfold aN;rw [Δ hl]
  rw [e1,e2] at k;rw [e1,e2];have HM:=χ M;have HI:=χ I;clear M I e1 e2 I2
  go_enter Tryz.func222,Tryz.ntmps222
  go_wp2_with ((go_at_call 156;(with_reducible refine (k).mono ?_));rintro e w1 ⟨rfl,F1,hC,hu,hF⟩)
  go_ret;exact ⟨rfl,B.blk F1 gt,⟨⟨B,F1,gt,ct,rfl,rfl,HM.out.bY hu hC hF rfl rfl⟩,HI.out⟩,hu.mono jh,UA hF⟩
 ·have e1:cu A=A.hs.length:=by unfold cu;rw [Γ hl]
  rw [e1] at k;rw [e1];have hcs:(aN A).cs.length=A.cs.length:=by unfold aN;rw [Γ hl]
  have kY:(aN A).hs.length=A.hs.length+1:=by unfold aN;rw [Γ hl];simp
  have hh0:=M.cells.ok.h0;have hpos:(0:Int)<(A.hs.length:Int):=ω;have D5:=XV I M.cells.ok;have HM:=χ M;have HI:=χ (ψ I2 D5);have hlb:A.hs.length<=65536:=ω;clear M I e1 I2 D5
  go_enter Tryz.func222,Tryz.ntmps222
  go_wp2_with (first
   | ((go_at_call 156;(with_reducible refine (k).mono ?_));rintro e w1 ⟨rfl,F1,hC,hu,hF⟩;(have d3:=hu.kept HM.out.h3 HM.out.d1.1);(have f3:=hu.aH HM.out.h3 HM.out.d1.1 (HM.out.head.free 3));(have ho1:=ay HM.out.ah.own hu (fun g hg=>by simp [Value.ownBlock] at hg;subst hg;exact HM.out.d1.2.2.2.2.2));rw [sV] at ho1;(have g0:B.n0≠gt:=HM.out.d2.2.2.2.2);(have gl:=Ψ (HM.out.lt gt (by simp [FB.blk])) hu.size))
   | ((at_builtin;refine aV rfl _ _ 26 rfl 0 3 (.int .i64 0) 1 8 Tryz.underlying26 fE rfl δ _ _ _ rfl (ho1) [.int .i64 (-1)] rfl (by simp [Value.oneCell']) (by first|rfl|(rw [Κ];rfl)) μ ω ω ?_;intro v2 w2 ho2 hu2 mG);(have hu2:aa [gt] w1 w2:=hu2);obtain ⟨oJ,Gv,ev,_⟩:=fM ho2 ω;subst ev;(have d4:=hu2.kept d3 ζ);(have f4:=hu2.aH d3 ζ f3)))
  go_ret;have hM:=HM.out;have hlt:=hM.lt;have f:=hM.d1;have q:=hM.d2;have r:=hM.d3;have hws:=hu.size;have hw3:aa [B.n0] w2 (w2.setCell ⟨B.n0,3,none⟩ (.slice (some ⟨oJ,0,none⟩) (A.hs.length+1) Gv)):=β;have hg1:oJ=gt\/w1.heap.size<oJ:=by
   rcases mG with h|h
   ·exact Α (Option.some.inj h)
   ·exact Β (h oJ rfl)
  have jd:=hC.lt;have l0:=hlt B.n0 (by simp [FB.blk]);have l1:=hlt B.br (by simp [FB.blk]);have l2:=hlt B.bn (by simp [FB.blk]);have l3:=hlt B.bp (by simp [FB.blk]);have l4:=hlt B.bl (by simp [FB.blk]);have l5:=hlt gt (by simp [FB.blk]);have hnF:∀y,y<w.heap.size->y∉F->y∉F1:=fun y hy hn hm=>by rcases hF y hm with h'|h';exact hn h';omega
  have EU:oJ∉F1:=by
   rcases hg1 with e|e
   ·rw [e];exact hnF gt l5 f.2.2.2.2.2
   ·exact fun hm=>by have:=jd oJ hm;omega
  have hgn:∀y,y<w.heap.size->y≠gt->y≠oJ:=fun y hy hn e=>by
   rcases hg1 with e2|e2
   ·exact hn (e.trans e2)
   ·omega
  have hhd:=((hM.head.upd hu f.1).upd hu2 ζ).set 3 (.slice (some ⟨oJ,0,none⟩) (A.hs.length+1) Gv);have n2:∀y,y≠gt->y∉[gt]:=fun y h=>by simpa using h
  have n3:∀y,y≠B.n0->y∉[B.n0]:=fun y h=>by simpa using h
  have eT:iX G.R (A.hs.length+1)=iX G.R A.hs.length++[-1]:=by
   unfold iX;rw [List.range_succ,List.map_append];simp [HI.out.2,lW]
  have hBM:dZ (w2.setCell ⟨B.n0,3,none⟩ (.slice (some ⟨oJ,0,none⟩) (A.hs.length+1) Gv)) B F1 oJ Gv (aN A) st G:=by
   refine ⟨?_,?_,?_,?_,⟨?_⟩,⟨hnF _ l0 f.1,hnF _ l1 f.2.1,hnF _ l2 f.2.2.1,hnF _ l3 f.2.2.2.1,hnF _ l4 f.2.2.2.2.1,EU⟩,⟨q.1,q.2.1,q.2.2.1,q.2.2.2.1,hgn _ l0 q.2.2.2.2⟩,⟨r.1,r.2.1,r.2.2.1,hgn _ l4 r.2.2.2.1,(hgn _ l1 (Ne.symm r.2.2.2.2.1)).symm,(hgn _ l2 (Ne.symm r.2.2.2.2.2.1)).symm,(hgn _ l3 (Ne.symm r.2.2.2.2.2.2)).symm⟩⟩
   ·rw [hcs,kY];refine hhd.ext (fun j hj=>?_);rcases (ω:j=0\/j=1\/j=2\/j=3) with rfl|rfl|rfl|rfl<;>rfl
   ·exact (hC.upd hu2 (fun y hy=>by simp at hy;rw [hy];exact hnF gt l5 f.2.2.2.2.2)).upd hw3 (fun y hy=>by simp at hy;rw [hy];exact hnF _ l0 f.1)
   ·rw [hcs];exact ((hM.rings.upd hu f.2.1 f.2.2.1 f.2.2.2.1).upd hu2 (n2 _ (Ne.symm r.2.2.2.2.1)) (n2 _ (Ne.symm r.2.2.2.2.2.1)) (n2 _ (Ne.symm r.2.2.2.2.2.2))).upd hw3 (n3 _ (Ne.symm q.1)) (n3 _ (Ne.symm q.2.1)) (n3 _ (Ne.symm q.2.2.1))
   ·rw [hcs];exact ((hM.pl.upd hu f.2.2.2.2.1).upd hu2 (n2 _ r.2.2.2.1)).upd hw3 (n3 _ (Ne.symm q.2.2.2.1))
   ·rw [kY,sV,eT,bP];refine ay (lF ho2 (Nat.zero_le _)) hw3 (fun g hg hm=>?_);simp [Value.ownBlock] at hg hm;exact hgn _ l0 q.2.2.2.2 ω
  refine ⟨rfl,B.blk F1 oJ,⟨⟨B,F1,oJ,Gv,rfl,rfl,hBM⟩,HI.out.1⟩,((hu.mono jh).trans (hu2.mono (fun z hz=>by simp at hz;simp [FB.blk,hz]))).trans (hw3.mono (fun z hz=>by simp at hz;simp [FB.blk,hz])),fun y hy=>?_⟩;simp only [FB.blk,ρ] at hy ⊢;rcases hy with e|e|e|e|e|e|e
  ·exact Α (Α e)
  ·exact Α (Β (Α e))
  ·exact Α (Β (Β (Α e)))
  ·exact Α (Β (Β (Β (Α e))))
  ·exact Α (Β (Β (Β (Β (Α e)))))
  ·rcases hg1 with e2|e2
   ·exact Α (Β (Β (Β (Β (Β (Α (e.trans e2)))))))
   ·exact Β ω
  ·rcases hF y e with h'|h'
   ·exact Α (Β (Β (Β (Β (Β (Β h'))))))
   ·exact Β h'
end
theorem Nw:(Tryz.prog.info? 225).map (fun i=>(i.zero,i.size,i.bytes))=some (some (.agg #[.int .i64 0,.int .i64 0,.int .i64 0,.bool false]),4,32):=by kernel_rfl
theorem Kh (n j:Nat) (hj:j<n*4):(madeCells #[Value.int .i64 0,.int .i64 0,.int .i64 0,.bool false] (n*4)).toList.getD j undef=Bv (fun _=>0) (fun _=>0) (fun _=>0) (fun _=>false) j:=by
 rw [φ,ε (by simp [size_madeCells];omega)];simp only [Option.getD_some,madeCells,Array.getElem_toList,Array.getElem_map,Array.getElem_range];unfold Bv;rcases (ω:j % 4=0\/j % 4=1\/j % 4=2\/j % 4=3) with e|e|e|e<;>simp [e]
def upTo (k:Nat) (v:Int):Nat->Int:=fun i=>if i<k then v else 0
theorem Ru (k:Nat) (v:Int):ai (upTo k v) k v=upTo (k+1) v:=by
 funext i;unfold ai upTo
 by_cases e:i=k
 ·rw [Δ e,Δ ω]
 ·rw [Γ e]
  by_cases h:i<k
  ·rw [Δ h,Δ ω]
  ·rw [Γ h,Γ ω]
theorem RY (n:Nat) (w:World) (h:n<=65536):Calls Tryz.prog 98 #[.int .i64 (n:Int)] w fun e w'=>∃p FF,e=.returned (.tuple #[.pointer (some ⟨p,0,none⟩),.int .i64 0])/\wT w' p FF (NS.new n) 0 FG.none/\aa [] w w'/\∀x,x∈FF->w.heap.size<=x:=by
 have kc:=nO n w h;have kr:=fun W=>G5 n W h;have hI:=χ (YT n)
 go_enter Tryz.func98,Tryz.ntmps98
 go_wp2_with (first
  | ((go_at_call 107;(with_reducible refine (kc).mono ?_));rintro e w1 ⟨c,F,rfl,hC,hu1,hF⟩;(have HC:=χ (ψ hC (ψ hu1 hF)));clear hC hu1 hF)
  | ((go_at_call 110;(with_reducible refine (kr _).mono ?_));rintro e w2 ⟨br,bn,bp,rfl,hR,hu2,hb1,hb2,hb3⟩;(have HR:=χ (ψ hR (ψ hu2 (ψ hb1 (ψ hb2 hb3)))));clear hR hu2 hb1 hb2 hb3 kr)
  | (at_make;refine wpList_make_row rfl _ 221 rfl 225 (.agg #[.int .i64 0,.int .i64 0,.int .i64 0,.bool false]) 4 32 Tryz.underlying221 Nw n rfl ω μ ?_;intro w3 hr3 hu3))
 obtain ⟨W0,hW0⟩:∃W0,W0=(w3.alloc (.cells #[.int .i64 (-1)] 3)).alloc (.cells #[.pointer (some ⟨c,0,none⟩),.pointer (some ⟨br,0,none⟩),.slice (some ⟨w2.heap.size,0,none⟩) n n,.slice (some ⟨w3.heap.size,0,none⟩) 1 1] 223):=⟨_,rfl⟩;have hu0:aa [] w3 W0:=by rw [hW0];exact β
 have hhead:=dJ (w3.alloc (.cells #[.int .i64 (-1)] 3)) [.pointer (some ⟨c,0,none⟩),.pointer (some ⟨br,0,none⟩),.slice (some ⟨w2.heap.size,0,none⟩) n n,.slice (some ⟨w3.heap.size,0,none⟩) 1 1] 223;rw [Κ] at hhead;have hz1:IZ (w3.alloc (.cells #[.int .i64 (-1)] 3)) w3.heap.size 1 [-1]:=IZ.lit w3 [-1] σ;have hz0:IZ W0 w3.heap.size 1 [-1]:=by rw [hW0];exact hz1.upd ((aa.refl [] _).alloc _) σ
 have hhd:aK W0 (w3.heap.size+1) 223 4 (fun j=>[Value.pointer (some ⟨c,0,none⟩),.pointer (some ⟨br,0,none⟩),.slice (some ⟨w2.heap.size,0,none⟩) n n,.slice (some ⟨w3.heap.size,0,none⟩) 1 1].getD j undef):=by rw [hW0];exact hhead
 have hzz:(Value.agg #[.int .i64 0,.int .i64 0,.int .i64 0,.bool false]).cells=#[.int .i64 0,.int .i64 0,.int .i64 0,.bool false]:=rfl;rw [hzz] at hr3;have hr0:aK W0 w2.heap.size 225 (n*4) (Bv (upTo 0 (-1)) (upTo 0 (-1)) (fun _=>0) (fun _=>false)):=by
  refine ((hr3.upd hu0 σ).ext (fun j hj=>?_));rw [Kh n j hj];unfold upTo;simp
 have hl3:=hr3.lt;have hs3:=hu3.size;have H0:=χ (ψ hu0 (ψ hz0 (ψ hhd (ψ hr0 (ψ hu3 hW0)))));have hne:w3.heap.size+1≠w2.heap.size:=ω;clear hu0 hz0 hhd hr0 hz1 hhead hr3 hu3;rw [←hW0];clear hW0
 go_loopw [34] (fun s34 wr=>∃k:Nat,k<=n/\s34=.int .i64 (k:Int)/\aK wr w2.heap.size 225 (n*4) (Bv (upTo k (-1)) (upTo k (-1)) (fun _=>0) (fun _=>false))/\aa [w2.heap.size] W0 wr) (fun s34 _=>n-(intOf s34).toNat)
 case atStart=>exact ⟨0,ω,rfl,H0.out.2.2.2.1,aa.refl _ _⟩
 case round=>
  obtain ⟨k,hk,rfl,hr,hu⟩:=hrel;rename World=>wr
  by_cases hkn:k<n
  ·have WZ:(k:Int)<(n:Int):=ω;have hw1:IntKind.i64.wrap ((k:Int)+1)=(k:Int)+1:=Μ _ ω;have d2:wr.cell? ⟨w3.heap.size+1,2,none⟩=some (.slice (some ⟨w2.heap.size,0,none⟩) n n):=hu.kept (H0.out.2.2.1.cellAt 2 ω rfl) (by simpa using hne);have p0:=hr.cellAt (k*4) ω (ym _ _ _ _ k);have p1:=hr.cellAt (k*4+1) ω (yg _ _ _ _ k);have p2:=hr.cellAt (k*4+2) ω (yh _ _ _ _ k);have p3:=hr.cellAt (k*4+3) ω (yt _ _ _ _ k);have f0:=hr.free (k*4);have f1:=hr.free (k*4+1);have f2:=hr.free (k*4+2);have f3:=hr.free (k*4+3);have hlr:=hr.lt;have HR2:=χ (ψ hr hu);clear hr hu;go_wp2
   go_region_with (first
    | ((go_at_call 111;(with_reducible refine (zM _).mono ?_));rintro e w5 ⟨rfl,bK⟩;(have hv:aa [] wr w5:=aa.trans β bK);(have v0:=hv.was p0);(have v1:=hv.was p1);(have v2:=hv.was p2);(have v3:=hv.was p3);(have v4:=hv.was d2);(have z0:=hv.aH p0 σ f0);(have z1:=hv.aH p1 σ f1);(have z2:=hv.aH p2 σ f2);(have z3:=hv.aH p3 σ f3))
    | fail)
   all_goals
    go_wp2;have hr:=HR2.out.1.upd hv σ;have gF:aa [w2.heap.size] W0 w5:=HR2.out.2.then hv;refine ⟨⟨k+1,ω,by go_num,?_,ν⟩,by simp [intOf];omega⟩;have:=pO (rR (oV (sD hr k (-1)) k (-1)) k 0) k false;rw [Ru] at this;refine this.ext (fun j _=>?_);rw [show ai (fun _=>(0:Int)) k 0=(fun _=>0) from by funext z;unfold ai;split<;>rfl,show ai (fun _=>false) k false=(fun _=>false) from by funext z;unfold ai;split<;>rfl]
  ·obtain rfl:k=n:=ω;have HR2:=χ (ψ hr hu);clear hr hu;go_wp2;go_ret2;obtain ⟨hr,hu⟩:=HR2.out;obtain ⟨hu0,hz0,hhd,_,hu3,_⟩:=H0.out;obtain ⟨hC,hu1,hF⟩:=HC.out;obtain ⟨hR,hu2,hb1,hb2,hb3⟩:=HR.out;have hcs:(NS.new k).cs.length=k:=by simp [NS.new]
   have kY:(NS.new k).hs.length=1:=rfl;have hCl:=hC.lt;have hRl:=hR.lt;have s1:=hu1.size;have s2:=hu2.size;have s3:=hu3.size;have s0:=hu0.size;have hFn:∀y,w1.heap.size<=y->y∉F:=fun y hy hm=>by have:=hCl y hm;omega
   have hM:dZ wr ⟨w3.heap.size+1,c,br,bn,bp,w2.heap.size⟩ F w3.heap.size 1 (NS.new k) 0 FG.none:=by
    refine ⟨?_,?_,?_,?_,?_,⟨hFn _ ζ,hFn _ hb1,hFn _ hb2,hFn _ hb3,hFn _ s2,hFn _ ω⟩,⟨ζ,ζ,ζ,ζ,σ⟩,⟨ζ,ζ,ζ,ζ,ζ,ζ,ζ⟩⟩
    ·rw [hcs,kY];exact hhd.upd hu (by simpa using hne)
    ·exact ((hC.aj ((hu2.trans hu3).trans hu0))).upd hu (fun y hy=>by simp at hy;rw [hy];exact hFn _ s2)
    ·rw [hcs];exact (hR.aj (hu3.trans hu0)).upd hu ζ ζ ζ
    ·rw [hcs];refine hr.ext (fun j hj=>?_);unfold nz;obtain ⟨a,e⟩:=four j;have ha:a<k:=ω;rcases e with rfl|rfl|rfl|rfl
     ·rw [ym,ym];unfold upTo;rw [Δ ha];rfl
     ·rw [yg,yg];unfold upTo;rw [Δ ha];rfl
     ·rw [yh,yh];rfl
     ·rw [yt,yt];rfl
    ·exact hz0.upd hu ζ
   refine ⟨_,_,rfl,⟨⟨⟨w3.heap.size+1,c,br,bn,bp,w2.heap.size⟩,F,w3.heap.size,1,rfl,rfl,hM⟩,hI.out⟩,(((hu1.trans hu2).trans hu3).trans hu0).joined hu (fun y hy=>by simp at hy;rw [hy];right;omega),fun y hy=>?_⟩;simp only [FB.blk,ρ] at hy;rcases hy with e|e|e|e|e|e|e
   ·omega
   ·omega
   ·omega
   ·omega
   ·omega
   ·omega
   ·exact hF y e
theorem Hd (p c:Nat):∀W:World,W.cell? ⟨p,0,none⟩=some (.pointer (some ⟨c,0,none⟩))->(method 429 182 (.pointer (some ⟨p,0,none⟩)) "Has").run Tryz.prog W=.ok (139,.pointer (some ⟨c,0,none⟩)) W:=(by intro W h;unfold method;have hm:∃m,(Array.find? (fun x=>x.name == "Has") Tryz.t182.methods)=some m/\m.path.toList=[⟨223,0,true⟩]/\m.func=some (139,true)/\m.path.isEmpty=false:=⟨(Array.find? (fun x=>x.name == "Has") Tryz.t182.methods).get!,by kernel_rfl,by kernel_rfl,by kernel_rfl,by kernel_rfl⟩;obtain ⟨m,h1,h2,h3,h4⟩:=hm;go_simp;simp only [follow,Place.get];go_simp;(try unfold receiverAt);(try simp only [Place.get]);(try go_simp))
theorem BC (p c:Nat):∀W:World,W.cell? ⟨p,0,none⟩=some (.pointer (some ⟨c,0,none⟩))->(method 429 182 (.pointer (some ⟨p,0,none⟩)) "Entry").run Tryz.prog W=.ok (137,.pointer (some ⟨c,0,none⟩)) W:=(by intro W h;unfold method;have hm:∃m,(Array.find? (fun x=>x.name == "Entry") Tryz.t182.methods)=some m/\m.path.toList=[⟨223,0,true⟩]/\m.func=some (137,true)/\m.path.isEmpty=false:=⟨(Array.find? (fun x=>x.name == "Entry") Tryz.t182.methods).get!,by kernel_rfl,by kernel_rfl,by kernel_rfl,by kernel_rfl⟩;obtain ⟨m,h1,h2,h3,h4⟩:=hm;go_simp;simp only [follow,Place.get];go_simp;(try unfold receiverAt);(try simp only [Place.get]);(try go_simp))
theorem Rj (p:Nat):∀W:World,(method 429 182 (.pointer (some ⟨p,0,none⟩)) "Make").run Tryz.prog W=.ok (222,.pointer (some ⟨p,0,none⟩)) W:=fun _=>by kernel_rfl
theorem JV (p:Nat):∀W:World,(method 429 182 (.pointer (some ⟨p,0,none⟩)) "Insert").run Tryz.prog W=.ok (221,.pointer (some ⟨p,0,none⟩)) W:=fun _=>by kernel_rfl
theorem Vb (p:Nat):∀W:World,(method 429 182 (.pointer (some ⟨p,0,none⟩)) "Min").run Tryz.prog W=.ok (224,.pointer (some ⟨p,0,none⟩)) W:=fun _=>by kernel_rfl
theorem GG (p:Nat):∀W:World,(method 429 182 (.pointer (some ⟨p,0,none⟩)) "Extract").run Tryz.prog W=.ok (220,.pointer (some ⟨p,0,none⟩)) W:=fun _=>by kernel_rfl
theorem Dz (p:Nat):∀W:World,(method 429 182 (.pointer (some ⟨p,0,none⟩)) "Decrease").run Tryz.prog W=.ok (218,.pointer (some ⟨p,0,none⟩)) W:=fun _=>by kernel_rfl
theorem xe {w w':World} {p:Nat} {F S:List Nat} {A:NS} {st:Nat} {G:FG} (h:wT w p F A st G) (hu:aa S w w') (hS:∀x,x∈S->x∉F):wT w' p F A st G:=h.upd hu hS
theorem aar {w:World} {p:Nat} {F:List Nat} {A:NS} {st:Nat} {G:FG} (h:wT w p F A st G):∀x,x∈F->x<w.heap.size:=h.lt
theorem RU {w:World} {p:Nat} {F:List Nat} {A:NS} {st:Nat} {G:FG} (h:wT w p F A st G):A.Ok:=h.ok
theorem WV {w:World} {p:Nat} {F:List Nat} {A:NS} {st:Nat} {G:FG} (h:wT w p F A st G):∃c F1,w.cell? ⟨p,0,none⟩=some (.pointer (some ⟨c,0,none⟩))/\aC w c F1 A st:=by
 obtain ⟨c,F1,h0,hC, -⟩:=h.cl;exact ⟨c,F1,h0,hC⟩
def FbQ (w:World) (p:Nat) (F:List Nat) (A:NS):Prop:=∃st G,wT w p F A st G
noncomputable def yE:gD where
 ty:=182
 at_:=FbQ
 upd:=fun h hu hS=>by
  obtain ⟨st,G,hL⟩:=h;exact ⟨st,G,xe hL hu hS⟩
 lt:=fun h=>by
  obtain ⟨st,G,hL⟩:=h;exact aar hL
 ok:=fun h=>by
  obtain ⟨st,G,hL⟩:=h;exact RU hL
 make:=fun {w p F A} h=>by
  obtain ⟨st,G,hL⟩:=h;refine aS 222 (fun _ _=>by kernel_rfl) (Rj _) (fun W hW=>?_);refine (OJ (xe hL hW σ)).mono ?_;rintro e w' ⟨rfl,F',hA,hu,hf⟩;exact ⟨rfl,F',⟨_,_,hA⟩,hu,hf⟩
 insert:=fun {w p F A} g y k s hk hB h=>by
  obtain ⟨st,G,hL⟩:=h;refine aS 221 (fun _ _=>by kernel_rfl) (JV _) (fun W hW=>?_);refine (Fu (xe hL hW σ) g y k s hk hB).mono ?_;rintro e w' ⟨rfl,F',hA,hu,hf⟩;exact ⟨rfl,F',⟨_,_,hA⟩,hu,hf⟩
 min:=fun {w p F A} y hB h=>by
  obtain ⟨st,G,hL⟩:=h;refine aS 224 (fun _ _=>by kernel_rfl) (Vb _) (fun W hW=>?_);have lM:=xe hL hW σ;have hok:=RU hL;have h4:=(aO _ _).1 hB;have h5:=hok.h1;refine (Fx lM (y:Int) ω).mono ?_;rintro e w' ⟨rfl,rfl⟩;exact ⟨rfl,Goes.stay ⟨_,_,lM⟩ (aa.refl _ _)⟩
 extract:=fun {w p F A} y m hm h=>by
  obtain ⟨st,G,hL⟩:=h;refine aS 220 (fun _ _=>by kernel_rfl) (GG _) (fun W hW=>?_);have lM:=xe hL hW σ;have e2:uo A (y:Int)=aZ A (m:Int):=by unfold uo;rw [hm]
  have hok:=RU hL;obtain ⟨m1,m2,m3,m4⟩:=kQ hm;have hB:bD A (y:Int)=true:=by rw [←m3];have:=iJ hok m4;simpa using this
  have h4:=(aO _ _).1 hB;have h5:=hok.h1;have k:=Db lM (y:Int) ω;rw [e2,hm] at k;refine k.mono ?_;rintro e w' ⟨rfl,F',hA,hu,hf⟩;exact ⟨rfl,F',⟨_,_,hA⟩,hu,hf⟩
 lS:=fun {w p F A} y k s hk hB h=>by
  obtain ⟨st,G,hL⟩:=h;refine aS 218 (fun _ _=>by kernel_rfl) (Dz _) (fun W hW=>?_);have lM:=xe hL hW σ;have hin:=qw hB;have hi:=(ae _ _).1 hin;obtain ⟨hh,hxh⟩:∃hh:Nat,(A.c y).i=hh:=⟨(A.c y).i.toNat,ω⟩;refine (Qs lM y k s hk hB hxh).mono ?_;rintro e w' ⟨rfl,F',hA,hu,hf⟩;exact ⟨rfl,F',⟨_,_,hA⟩,hu,hf⟩
 has:=fun x h=>by
  obtain ⟨st,G,hL⟩:=h;obtain ⟨c,F1,h0,hC⟩:=WV hL;exact iA 139 (fun _ _=>by kernel_rfl) h0 (Hd _ _) (fun W hW=>jm (hC.aj hW) x)
 entry:=fun {w p F A} x h=>by
  obtain ⟨st,G,hL⟩:=h;obtain ⟨c,F1,h0,hC⟩:=WV hL;refine iA 137 (fun _ _=>by kernel_rfl) h0 (BC _ _) (fun W hW=>?_);cases hin:bQ A x with
  | false=>simpa using lK (hC.aj hW) x hin
  | true=>
   obtain ⟨y,rfl⟩:=qj hin;simpa using jR (hC.aj hW) y hin
theorem IX (p:Nat) (w:World):Calls Tryz.prog 97 #[.pointer (some ⟨p,0,none⟩),.int .i64 0] w fun e w'=>e=.returned (.tuple #[.iface 182 (.pointer (some ⟨p,0,none⟩)),.int .i64 0])/\w'=w:=by
 go_enter Tryz.func97,Tryz.ntmps97
 go_wp2;go_ret2;exact ⟨rfl,rfl⟩
theorem Td (n:Nat) (hn:n<=65536):om yE 5 0 n:=by
 intro w;have kn:=fun W=>RY n W hn;have km:=IX;have hty:yE.ty=182:=rfl;have hat:∀w' p FF,wT w' p FF (NS.new n) 0 FG.none->yE.at_ w' p FF (NS.new n):=fun w' p FF h=>⟨_,_,h⟩
 generalize yE=K at *;rw [hty]
 go_enter Tryz.func81,Tryz.ntmps81
 go_wp2_with (first
  | ((go_at_call 98;(with_reducible refine (kn _).mono ?_));rintro e w1 ⟨pn,FF,rfl,hS,hu1,hf⟩)
  | ((go_at_call 97;(with_reducible refine (km _ _).mono ?_));rintro e w2 ⟨rfl,rfl⟩)
  | fail)
 go_ret2;exact ⟨pn,FF,rfl,hat _ _ _ hS,aa.trans β hu1,fun x hx=>by have:=hf x hx;simp at this;omega⟩
end Go.Proofs.YtklibcncmbofpaaGreat
