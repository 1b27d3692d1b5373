/-
  Lemmas for RankSorts: Fb3, FbS, FbU, FbV. Conditions: those of each lemma.
-/
import Derived.Deep.DeepCutAuto
import Derived.Outline
import Derived.Deep.LoopGhost
import Derived.Test.YtklibcncmbofpaaGreatP43
set_option maxHeartbeats 8000000
set_option maxRecDepth 10000
set_option linter.unusedVariables false
set_option linter.unusedSimpArgs false
namespace Go.Proofs.YtklibcncmbofpaaGreat
open Go Go.RowKit
theorem CE {w:World} {base g n cap:Nat} {l:List Int} (h:w.ownsRow base 3 1 (.slice (some ⟨g,0,none⟩) n cap) n (aH l)) (j:Nat) (x:Int):(w.setCell ⟨g,j,none⟩ (.int .i64 x)).ownsRow base 3 1 (.slice (some ⟨g,0,none⟩) n cap) n (aH (l.set j x)):=by
 have hl:l.length=n:=by have:=h.1;rw [dX] at this;omega
 rcases h.2 with ⟨h1,_⟩|⟨g',cap',cur,h1,hb,hg,hn,hc,hs,ht⟩
 ·cases h1
 ·cases h1;refine ⟨by rw [dX,List.length_set];omega,Or.inr ⟨g,cap,cur.setIfInBounds j (.int .i64 x),rfl,by simpa using hb,?_,hn,hc,ζ,?_⟩⟩
  ·simp [World.setCell,Array.getElem?_modify,hg]
  ·rw [Array.toList_setIfInBounds]
   by_cases hj:j<n
   ·rw [List.take_set,ht];unfold aH;rw [List.map_set]
   ·rw [List.take_set_of_le ω,ht,List.set_eq_of_length_le ω]
section
variable {w:World} {B:FB} {F:List Nat} {gt ct:Nat} {A:NS} {st:Nat} {G:FG}
theorem dF.own {w0 w1 w2:World} {e:TypeId} {size k:Nat} {v:Value} {xs:List Value} (h:dF w1 B F gt ct A st G) (hb:∀x,x∈B.blk F gt→x<w0.heap.size) (ho:w1.ownsRow w0.heap.size e size v k xs) (hu:aa v.ownBlock.toList w1 w2):dF w2 B F gt ct A st G:=
 h.upd hu (fun x hx hm=>by
  have h1:=(ho.lt x (by simpa using hx)).1
  have h2:=hb x hm
  omega)
theorem Hl (M:dF w B F gt ct A st G) {rs:List Nat} {v:Value} {h:Nat} {hom:Nat→Int} (h1:1≤h) (hin:∀z,z<A.cs.length→hom z=h→bD A (z:Int)=true) (H:TT A.cs.length hom (bH A) h [] rs G) (hv:fI w [B.c,B.bn,B.bp,B.bl] v (mU rs)) :
  Calls Tryz.prog 229 #[.pointer (some ⟨B.n0,0,none⟩),v] w fun e w'=>∃v',e=.returned v'∧w'.ownsRow w.heap.size 3 1 v' (tid (mH A) rs ⟨[],G,0⟩).T.length (aH (tid (mH A) rs ⟨[],G,0⟩).T)∧
   dF w' B F gt ct A (bC st (tid (mH A) rs ⟨[],G,0⟩).q) (tid (mH A) rs ⟨[],G,0⟩).G∧aa [B.c,B.bn,B.bp,B.bl] w w':=by
 have hc1:=M.cells.ok.c1;have hz:=dW M.cells.mE;have hlr:rs.length≤A.cs.length:=gU _ _ H.nd (fun z hz=>(H.xr z hz).1)
 obtain ⟨a,cap,rfl,hcap,hcap2,hel⟩:=hv;rw [jL] at hcap ⊢;have hlt:=M.lt;obtain ⟨g1,g2,g3,g4,g5,g6,g7⟩:=M.d3;obtain ⟨e1,e2,e3,e4,e5⟩:=M.d2;have cn:=M.cn;obtain ⟨D,hD⟩:∃D,tid (mH A) rs ⟨[],G,0⟩=D:=⟨_,rfl⟩
 rw [hD];have hbl:∀y,y∈[B.c,B.bn,B.bp,B.bl]→y<w.heap.size:=fun y hy=>by
  simp only [List.mem_cons,List.not_mem_nil,or_false] at hy;rcases hy with rfl|rfl|rfl|rfl
  ·exact M.cells.lt _ M.cells.mem
  ·exact hlt _ (by simp [FB.blk])
  ·exact hlt _ (by simp [FB.blk])
  ·exact hlt _ (by simp [FB.blk])
 have HLT:=χ hlt;have H0:=χ (ψ M (ψ H (ψ hD (ψ hel (ψ hbl hz)))));clear M H hD hel hbl hz hlt;generalize hrl:rs.length=len at *
 have HRL:=χ hrl;clear hrl
 go_enter Tryz.func229,Tryz.ntmps229
 go_wp2
 go_loopw [5,12] (fun s5 s12 wr=>∃ (i:Nat) (T:List Int) (G':FG) (q:Nat),i≤len∧s12=.int .i64 (i:Int)∧tid (mH A) (rs.drop i) ⟨T,G',q⟩=D∧TT A.cs.length hom (bH A) h T (rs.drop i) G'∧T.length≤A.cs.length+1∧
  wr.ownsRow w.heap.size 3 1 s5 T.length (aH T)∧dF wr B F gt ct A (bC st q) G'∧aa [B.c,B.bn,B.bp,B.bl] w wr) (fun _ s12 _=>len-(intOf s12).toNat)
 case atStart=>
  obtain ⟨M,H,hD,hel,hbl,hz⟩:=H0.out;exact ⟨0,[],G,0,ω,rfl,hD,H,σ,World.ownsRow_nil _ _ _ _,by rw [hz];exact M,aa.refl _ _⟩
 case round=>
  obtain ⟨i,T,G',q,hi,rfl,hD,hT,hTl,ho,hM,hu⟩:=hrel;rename World=>wr
  by_cases hil:i<len
  ·obtain ⟨x,hx⟩:∃x,rs[i]?=some x:=⟨_,List.getElem?_eq_getElem (by rw [HRL.out];exact hil)⟩
   have hdr:rs.drop i=x::rs.drop (i+1):=by
    rw [List.drop_eq_getElem_cons (by rw [HRL.out];exact hil)]
    congr 1
    rw [List.getElem?_eq_getElem (by rw [HRL.out];exact hil)] at hx
    injection hx
   rw [hdr] at hD hT;obtain ⟨gr,off,rfl,hgl,hgF,hcx⟩:=H0.out.2.2.2.1 i (x:Int) (by unfold mU;rw [List.getElem?_map,hx];rfl)
   have hcx:=hu.kept hcx hgF;have hiI:(i:Int)<(len:Int):=ω;have hw1:IntKind.i64.wrap ((i:Int)+1)=(i:Int)+1:=IntWalk.i64_in _ ω;have HR:=χ (ψ hD (ψ hT (ψ ho (ψ hM hu))));clear hD hT ho hM hu hx hdr;go_wp2;obtain ⟨D1,hD1⟩:∃D1,Eu (mH A) (lT T+1) T x G' q=D1:=⟨_,rfl⟩
   have HD1:=χ hD1;clear hD1
   go_loopg [5,7] (lT T+1) (fun fu s5 s7 wr2=>∃ (T1:List Int) (x1:Nat) (G1:FG) (q1:Nat),s7=.int .i64 (x1:Int)∧Eu (mH A) fu T1 x1 G1 q1=D1∧lT T1<fu∧TT A.cs.length hom (bH A) h T1 (x1::rs.drop (i+1)) G1∧T1.length≤A.cs.length+1∧
    wr2.ownsRow w.heap.size 3 1 s5 T1.length (aH T1)∧dF wr2 B F gt ct A (bC st q1) G1∧aa [B.c,B.bn,B.bp,B.bl] w wr2)
   case atStart=>exact ⟨T,x,G',q,rfl,HD1.out,ω,HR.out.2.1,hTl,HR.out.2.2.1,HR.out.2.2.2.1,HR.out.2.2.2.2⟩
   case round=>
    rename Nat=>fu
    obtain ⟨T1,x1,G1,q1,rfl,hI,hocc,hT1,hTl1,ho1,hM1,hu1⟩:=hrel;rename World=>wr2
    obtain ⟨fv,rfl⟩:∃fv,fu=fv+1:=⟨fu-1,ω⟩
    have hxr:=hT1.xr x1 σ;have hx1:=hxr.1;have hx1I:(x1:Int)<(A.cs.length:Int):=ω;have hq2:=hM1.h2;have hp2:=hM1.p2 hx1;have hdn:=hT1.ff.IE hx1;obtain ⟨d,hd⟩:∃d,(G1.K x1).length=d:=⟨_,rfl⟩
    rw [hd] at hp2 hdn;have hsz1:=hu1.size;have HI:=χ (ψ hI (ψ hocc (ψ hT1 (ψ hM1 (ψ hu1 (ψ ho1 (ψ hd hxr)))))));clear hI hocc hT1 hM1 hu1 hd hxr hx1;obtain ⟨a5,c5,rfl,hc5⟩:=aR ho1;clear ho1;go_wp2
    go_loopw [5] (fun s5 wr3=>∃m:Nat,T1.length+m≤max T1.length (d+1)∧wr3.ownsRow w.heap.size 3 1 s5 (T1.length+m) (aH (T1++List.replicate m (-1)))∧dF wr3 B F gt ct A (bC st q1) G1∧aa [B.c,B.bn,B.bp,B.bl] w wr3) (fun s5 _=>match s5 with | .slice _ l _=>d+1-l|_=>0)
    case atStart=>
     obtain ⟨hI,hocc,hT1,hM1,hu1,ho1,hd,hxr⟩:=HI.out;exact ⟨0,ω,by simpa using ho1,hM1,hu1⟩
    case round=>
     obtain ⟨m,hm,ho,hM,hu⟩:=hrel;rename World=>wr3
     obtain ⟨a,c,rfl,hc⟩:=aR ho
     by_cases hmd:T1.length+m≤d
     ·have hmdI:((T1.length+m:Nat):Int)≤(d:Int):=ω;have hsz3:=hu.size;have HU:=χ (ψ hM hu);clear hM hu
      go_wp2_with (first
       | (at_builtin;refine aC rfl _ _ 26 rfl w.heap.size 3 (.int .i64 0) 1 8 Tryz.underlying26 cK rfl δ _ _ _ rfl (ho) [.int .i64 (-1)] rfl (by simp [Value.oneCell']) (by first|rfl|(rw [World.size_alloc];rfl)) μ ω (ω) ?_;intro v2 w2 ho2 hu2 hsep2)
       | fail)
      obtain ⟨hM,hu⟩:=HU.out;obtain ⟨a2,c2,rfl,_⟩:=aR ho2;refine ⟨⟨m+1,ω,?_,hM.own HLT.out ho hu2,hu.own ho (Nat.le_refl _) hu2⟩,ζ⟩;rw [List.replicate_succ',←List.append_assoc,aS];exact ho2
     ·have hm':m=d+1-T1.length:=ω;have hP:T1++List.replicate m (-1)=iN T1 d:=by unfold iN;rw [hm']
      rw [hP] at ho;obtain ⟨hI,hocc,hT1,hM1,hu1,ho1,hd,hxr⟩:=HI.out;obtain ⟨s0,s1,s2⟩:=hT1.step (wy A A.cs.length G1 _ h) h1;rw [hd] at s0 s1 s2;unfold Eu at hI;rw [hd] at hI;have hPl:=AJ T1 d;have hPn:T1.length+m=(iN T1 d).length:=ω;rw [hPn] at ho ⊢;obtain ⟨P,eP⟩:∃P,iN T1 d=P:=⟨_,rfl⟩
      rw [eP] at ho s0 s1 s2 hI hPl ⊢;obtain ⟨g,cp,hv,hbg,hgs,hcp1,hcp2,hcell,hfrz⟩:=bY ho ω;have hcd:wr3.cell? ⟨g,d,none⟩=some (.int .i64 (P.getD d (-1))):=hcell d _ (by unfold aH;rw [List.getElem?_map,s0];rfl)
      have hfd:=hfrz d;rw [hv] at ho ⊢;have hPlI:(d:Int)<(P.length:Int):=by clear s0 s1 s2 hI;omega
      have hPb:(P.length:Int)≤65537:=by clear s0 s1 s2 hI;omega
      have hni:¬ (P.length:Int)≤(d:Int):=by clear s0 s1 s2 hI;omega
      have hgbl:g∉B.blk F gt:=fun hm=>by have:=HLT.out g hm;omega
      have HPL:=χ hPl;clear hPl
      by_cases hy:P.getD d (-1)=-1
      ·rw [if_pos hy] at hI;rw [hy] at hcd;have HS:=χ (ψ hM (ψ hu (ψ ho (ψ (s1 hy) hI))));clear hI hocc hT1 hM1 hu1 ho1 hd hxr s0 s1 s2 hM hu ho hcell hfrz hv eP hP hy HI hPn;go_wp2;obtain ⟨hM,hu,ho,hpl,hI⟩:=HS.out;obtain ⟨hD,hT,_,_,_⟩:=HR.out;have hD2:tid (mH A) (rs.drop (i+1)) ⟨P.set d x1,G1,q1⟩=D:=by
        have:tid (mH A) (x::rs.drop (i+1)) ⟨T,G',q⟩=tid (mH A) (rs.drop (i+1)) (Eu (mH A) (lT T+1) T x G' q):=rfl;rw [this,HD1.out,←hI] at hD;exact hD
       refine ⟨⟨i+1,P.set d x1,G1,q1,ω,by go_num,hD2,hpl.1,by rw [List.length_set];have:=HPL.out;omega,?_,hM.upd ((aa.refl [g] wr3).setCell (Or.inl σ) _) (fun y hy=>by simp at hy;subst hy;exact hgbl),hu.setCell (Or.inr hbg) _⟩,by simp [intOf];omega⟩
       rw [List.length_set];exact CE ho d x1
      ·rw [if_neg hy] at hI;obtain ⟨z,ez,hzn,hzx,hzh,hoc,st1,st2⟩:=s2 hy;rw [ez] at hcd hI;rw [π] at hI;have hxn:=hxr.1;have hin1:bD A (x1:Int)=true:=hin x1 hxn hxr.2.2;have hinz:bD A (z:Int)=true:=hin z hzn hzh;have hzm:((z:Int) == -1)=false:=σ;have hu0:aa [g] wr3 (wr3.setCell ⟨g,d,none⟩ (.int .i64 (-1))):=(aa.refl [g] wr3).setCell (Or.inl σ) _;have hgc:B.n0∉[g]:=by simp;intro e;exact hgbl (by rw [←e];simp [FB.blk])
       have hM2:=hM.upd hu0 (fun y hy=>by simp at hy;subst hy;exact hgbl)
       have ka:=dC hM2.cells z x1 hinz hin1;have hn0:(wr3.setCell ⟨g,d,none⟩ (.int .i64 (-1))).cell? ⟨B.n0,0,none⟩=some (.pointer (some ⟨B.c,0,none⟩)):=hM2.h0;have ho2:=CE ho d (-1);obtain ⟨wq,hwq⟩:∃wq,wr3.setCell ⟨g,d,none⟩ (.int .i64 (-1))=wq:=⟨_,rfl⟩
       rw [hwq] at hM2 ka hn0 ho2 hu0;have huq:aa [B.c,B.bn,B.bp,B.bl] w wq:=hwq▸hu.setCell (Or.inr hbg) _;have HS:=χ (ψ hM2 (ψ huq (ψ ho2 (ψ hI (ψ hoc (ψ st1 (ψ st2 (ψ hT1 hocc))))))));cases hb:decide (bH A z x1) with
       | true=>
        rw [hb] at ka;have kz:=fun W st' (hW:dF W B F gt ct A st' G1)=>xw hW (x:=z) (y:=x1) hzn hxn (fun k t e=>(hT1.ff.kid z k hzn (by rw [e];simp)).1) (Nat.le_trans (hT1.ff.IE hzn) hc1)
        have KZ:=χ kz;have HB:=χ hb;clear hI hocc hT1 hM1 hu1 ho1 hd hxr s0 s1 s2 hM hu ho hcell hfrz hv eP hP hy HI hPn st1 st2 hoc hM2 huq ho2 ez kz hb
        go_wp2_with (first
         | ((go_at_call 174;(with_reducible refine (ka).mono ?_));rintro e w5 ⟨rfl,hC5,hu5⟩;(have k5:=KZ.out w5 _ (HS.out.1.setSt hu5 hC5));(have HU5:=χ hu5);clear hC5 hu5 ka)
         | ((go_at_call 235;(with_reducible refine (k5).mono ?_));rintro e w6 ⟨rfl,hM6,hu6⟩;(have HU6:=χ (ψ hM6 hu6));clear hM6 hu6 k5)
         | fail)
        go_roundg fv
        case measure=>omega
        case rel=>
         obtain ⟨hM2,huq,ho2,hI,hoc,st1,st2,hT1,hocc⟩:=HS.out;have hlt2:mH A z x1=true:=HB.out;rw [hlt2,if_pos rfl] at hI;obtain ⟨hM6,hu6⟩:=HU6.out;have hu5:=HU5.out;have hg1:∀y,y∈[B.c,B.bn,B.bp,B.bl]→y≠g:=fun y hy e=>by have:=H0.out.2.2.2.2.1 y hy;omega
         rw [gz] at hM6;refine ⟨P.set d (-1),z,bX G1 x1 z,q1+1,rfl,hI,ω,st1 hlt2,by rw [List.length_set];have:=HPL.out;omega,?_,hM6,?_⟩
         ·rw [List.length_set];exact ay (ay ho2 hu5 (fun y hy hm=>by simp [Value.ownBlock] at hy hm;exact hg1 B.c σ ω)) hu6 (fun y hy hm=>by simp [Value.ownBlock] at hy;subst hy;exact hg1 g (by simp at hm;rcases hm with e|e|e<;>simp [e]) rfl)
         ·exact (huq.trans (hu5.mono σ)).trans (hu6.mono (fun y hy=>by simp at hy;rcases hy with e|e|e<;>simp [e]))
       | false=>
        rw [hb] at ka;have kz:=fun W st' (hW:dF W B F gt ct A st' G1)=>xw hW (x:=x1) (y:=z) hxn hzn (fun k t e=>(hT1.ff.kid x1 k hxn (by rw [e];simp)).1) (Nat.le_trans (hT1.ff.IE hxn) hc1)
        have KZ:=χ kz;have HB:=χ hb;clear hI hocc hT1 hM1 hu1 ho1 hd hxr s0 s1 s2 hM hu ho hcell hfrz hv eP hP hy HI hPn st1 st2 hoc hM2 huq ho2 ez kz hb
        go_wp2_with (first
         | ((go_at_call 174;(with_reducible refine (ka).mono ?_));rintro e w5 ⟨rfl,hC5,hu5⟩;(have k5:=KZ.out w5 _ (HS.out.1.setSt hu5 hC5));(have HU5:=χ hu5);clear hC5 hu5 ka)
         | ((go_at_call 235;(with_reducible refine (k5).mono ?_));rintro e w6 ⟨rfl,hM6,hu6⟩;(have HU6:=χ (ψ hM6 hu6));clear hM6 hu6 k5)
         | fail)
        go_roundg fv
        case measure=>omega
        case rel=>
         obtain ⟨hM2,huq,ho2,hI,hoc,st1,st2,hT1,hocc⟩:=HS.out;have hlt2:mH A z x1=false:=HB.out;rw [hlt2,if_neg σ] at hI;obtain ⟨hM6,hu6⟩:=HU6.out;have hu5:=HU5.out;have hg1:∀y,y∈[B.c,B.bn,B.bp,B.bl]→y≠g:=fun y hy e=>by have:=H0.out.2.2.2.2.1 y hy;omega
         rw [gz] at hM6;refine ⟨P.set d (-1),x1,bX G1 z x1,q1+1,rfl,hI,ω,st2 hlt2,by rw [List.length_set];have:=HPL.out;omega,?_,hM6,?_⟩
         ·rw [List.length_set];exact ay (ay ho2 hu5 (fun y hy hm=>by simp [Value.ownBlock] at hy hm;exact hg1 B.c σ ω)) hu6 (fun y hy hm=>by simp [Value.ownBlock] at hy;subst hy;exact hg1 g (by simp at hm;rcases hm with e|e|e<;>simp [e]) rfl)
         ·exact (huq.trans (hu5.mono σ)).trans (hu6.mono (fun y hy=>by simp at hy;rcases hy with e|e|e<;>simp [e]))
  ·obtain rfl:i=len:=ω;have hdr:rs.drop i=[]:=List.drop_eq_nil_of_le (by have:=HRL.out;omega)
   rw [hdr] at hD;have hD2:(⟨T,G',q⟩:TD)=D:=hD;subst hD2;have HR:=χ (ψ ho (ψ hM hu));clear hT ho hM hu hD hdr;go_wp2;go_ret;exact ⟨_,rfl,HR.out.1,HR.out.2.1,HR.out.2.2⟩
end
end Go.Proofs.YtklibcncmbofpaaGreat
namespace Go.Proofs.YtklibcncmbofpaaGreat
def xG (l:List Nat) (x:Nat):List Nat:=(l.dropWhile (fun z=>z != x)).tail++l.takeWhile (fun z=>z != x)
theorem GY {l:List Nat} {x:Nat} (hx:x∈l) (hn:l.Nodup):∃a b,l=a++x::b∧x∉a∧x∉b∧l.takeWhile (fun z=>z != x)=a∧(l.dropWhile (fun z=>z != x)).tail=b:=by
 obtain ⟨a,b,rfl⟩:=List.append_of_mem hx;rw [List.nodup_append,List.nodup_cons] at hn;have h1:x∉a:=fun h=>hn.2.2 x h x σ rfl
 have hp:∀z,z∈a→(z != x)=true:=fun z hz=>by simp;intro e;subst e;exact h1 hz
 refine ⟨a,b,rfl,h1,hn.2.1.1,?_,?_⟩
 ·rw [List.takeWhile_append_of_pos hp,List.takeWhile_cons_of_neg σ];simp
 ·rw [List.dropWhile_append_of_pos hp,List.dropWhile_cons_of_neg σ];rfl
theorem DY {l:List Nat} {x:Nat} (hx:x∈l) (hn:l.Nodup):∃a b,l=a++x::b∧xG l x=b++a∧x∉a∧x∉b:=by
 obtain ⟨a,b,h1,h2,h3,h4,h5⟩:=GY hx hn;exact ⟨a,b,h1,by unfold xG;rw [h4,h5],h2,h3⟩
def dB (h x:Nat) (G:FG):FG:=
 { (match G.R h with|[]=>prt G x|t::_=>H9 (prt G x) t x) with
  up:=ai G.up x (-1),mr:=ai G.mr x false,K:=ai G.K (G.up x).toNat (xG (G.K (G.up x).toNat) x),R:=match G.R h with|[]=>G.R|t::s=>ai G.R h (t::x::s) }
def oF:Nat→Nat→Nat→FG→FG
 | 0,_,_,G=>G
 | f+1,h,x,G=>if G.up x=-1 then G else if G.mr x=false then { G with mr:=ai G.mr x true } else oF f h (G.up x).toNat (dB h x G)
def marks (n:Nat) (G:FG):Nat:=((List.range n).filter G.mr).length
theorem vY {p:Nat→Bool} {x:Nat} {b:Bool}:∀l:List Nat,l.Nodup→x∈l→(l.filter (ai p x b)).length+(if p x then 1 else 0)=(l.filter p).length+(if b then 1 else 0)
 | [],_,h=>by cases h
 | y::t,hn,hx=>by
  rw [List.nodup_cons] at hn
  by_cases e:y=x
  ·subst e;have hc:t.filter (ai p y b)=t.filter p:=List.filter_congr (fun z hz=>aP _ _ (fun e=>hn.1 (e▸hz)))
   have h1:ai p y b y=b:=bu _ _ _;rw [List.filter_cons,List.filter_cons,h1,hc];cases b<;>cases p y<;>simp
  ·have ih:=vY (p:=p) (b:=b) t hn.2 (by rcases List.mem_cons.1 hx with h|h;exact absurd h.symm e;exact h)
   have h1:ai p x b y=p y:=aP _ _ e;rw [List.filter_cons,List.filter_cons,h1];cases p y<;>simp<;>omega
theorem qw {n:Nat} {G:FG} {x:Nat} {b:Bool} {mr:Nat→Bool} (hx:x<n) (hm:mr=ai G.mr x b) (G':FG) (e:G'.mr=mr):marks n G'+(if G.mr x then 1 else 0)=marks n G+(if b then 1 else 0):=by
 unfold marks;rw [e,hm];exact vY _ List.nodup_range (by simpa using hx)
section
variable {n:Nat} {G:FG} {hom:Nat→Int} {L M:Nat→Nat→Prop} {ex:Nat→Nat}
theorem wZ (H:FF n G hom L ex) (R:FR n G hom M none) {h x p t:Nat} {s:List Nat} (hR:G.R h=t::s) (hx:x<n) (ux:G.up x=p) (hpx:p≠x) (hh:hom x=h) (hL:M t x) :
  FF n (dB h x G) hom L (fun c=>if c=p then ex c+1 else ex c)∧FR n (dB h x G) hom M none∧(dB h x G).up=ai G.up x (-1)∧(dB h x G).mr=ai G.mr x false∧(dB h x G).K=ai G.K p (xG (G.K p) x)∧
   (dB h x G).R=ai G.R h (t::x::s)∧(∃a b,G.K p=a++x::b∧xG (G.K p) x=b++a)∧G.nx x=(xG (G.K p) x).headD x:=by
 obtain ⟨hp,hxk⟩:=H.above hx ux;obtain ⟨q1,q2,q3⟩:=R.all h;obtain ⟨h1,ht,ut,htm⟩:=(q2 t).1 (by rw [hR];simp)
 have hrk:=H.ring p hp;obtain ⟨a,b,eK,eA,xa,xb⟩:=DY hxk hrk.nd;have hkp:∀z,z∈G.K p→z<n∧G.up z=p:=fun z hz=>H.kid p z hp hz
 have hrot:Ring G.nx (x::(b++a)):=by rw [eK] at hrk;exact Ring.NH (a:=a) (b:=x::b) hrk
 have hmem:∀z,z∈x::(b++a)↔z∈G.K p:=fun z=>by rw [eK];simp;grind
 have hall:∀z,z∈x::(b++a)→z<n:=fun z hz=>(hkp z ((hmem z).1 hz)).1
 obtain ⟨p1,p2⟩:=H.rg.part hrot hall;have hpm:G.pv x∈G.K p:=by
  rw [←hmem];rcases List.eq_nil_or_concat (b++a) with e|⟨c,y,e⟩
  ·rw [e] at hrot;have e1:=gW.1 hrot;have:=H.rg.pn x hx;rw [e1] at this;rw [this];simp
  ·rw [List.concat_eq_append] at e;have:=H.rg.last (x:=x) (y:=y) (a:=c) (by rw [List.cons_append,←e];exact hrot) (hall y (by rw [e];simp))
   rw [this,e];simp
 have hpv:=hkp _ hpm;have htx:t≠x:=fun e=>by subst e;omega
 have htp:t≠G.pv x:=fun e=>by rw [←e] at hpv;omega
 have ux':(dB h x G).up=ai G.up x (-1):=rfl;have mx':(dB h x G).mr=ai G.mr x false:=rfl;have K':(dB h x G).K=ai G.K p (b++a):=by show ai G.K (G.up x).toNat _=_;rw [ux,π,eA]
 have R':(dB h x G).R=ai G.R h (t::x::s):=by show (match G.R h with|[]=>G.R|t::s=>ai G.R h (t::x::s))=_;rw [hR]
 have nx':(dB h x G).nx=bO (bO G.nx x (G.pv x)) t x:=by unfold dB;rw [hR];rfl
 have pv':(dB h x G).pv=gQ (bO G.nx x (G.pv x)) (gQ G.nx G.pv x (G.pv x)) t x:=by unfold dB;rw [hR];rfl
 have far:∀l,Ring G.nx l→x∉l→G.pv x∉l→t∉l→Ring (dB h x G).nx l:=fun l hl e1 e2 e3=>by rw [nx'];exact (hl.lF e1 e2).lF e3 e1
 have upn:∀y,y≠x→(dB h x G).up y=G.up y:=fun y hy=>by rw [ux',aP _ _ hy]
 have upx:(dB h x G).up x=-1:=by rw [ux',bu]
 have Kp:(dB h x G).K p=b++a:=by rw [K',bu]
 have Kn:∀y,y≠p→(dB h x G).K y=G.K y:=fun y hy=>by rw [K',aP _ _ hy]
 have notx:∀y,y<n→y≠p→x∉G.K y:=fun y hy hyp hm=>hyp (by have:=(H.kid y x hy hm).2;omega)
 have hpos:(0:Int)<hom p∧(0:Int)<hom x:=by
  have:=H.home x p hx ux;exact ⟨by rw [←this.1];exact this.2,this.2⟩
 have hlen:(G.K p).length=(b++a).length+1:=by rw [eK];simp;omega
 have mono:∀c,c≠x→(G.K c).length+(if G.mr c then 1 else 0)+ex c≤((dB h x G).K c).length+(if (dB h x G).mr c then 1 else 0)+(if c=p then ex c+1 else ex c):=fun c hc=>by
  rw [mx',aP _ _ hc]
  by_cases e:c=p
  ·rw [e,Kp,hlen,if_pos rfl];omega
  ·rw [Kn c e,if_neg e];omega
 refine ⟨⟨?_,fun y z hy hz=>?_,fun y hy=>?_,fun y hy=>?_,fun y q hy hu=>?_,fun y q hy hu=>?_,fun y hy h0=>?_,fun y hy hu=>?_,fun y d hy=>?_⟩,⟨fun g _=>?_,fun g y _=>?_,fun g t' s' _ hR'=>?_⟩,ux',mx',by rw [eA];exact K',R',⟨a,b,eK,eA⟩,by rw [eA];exact (gF.1 hrot).2.1⟩
 ·rw [nx',pv'];exact (H.rg.swap hx hpv.1).swap ht hx
 ·by_cases e:y=p
  ·subst e;rw [Kp] at hz;have hzk:z∈G.K y:=(hmem z).1 (by simp at hz ⊢;exact Or.inr hz)
   have hzx:z≠x:=fun e=>by subst e;simp at hz;rcases hz with h|h;exact xb h;exact xa h
   rw [upn z hzx];exact H.kid y z hy hzk
  ·rw [Kn y e] at hz;have hzx:z≠x:=fun e2=>notx y hy e (e2▸hz)
   rw [upn z hzx];exact H.kid y z hy hz
 ·by_cases e:y=x
  ·subst e;exact Or.inl upx
  ·rw [upn y e];rcases H.BH y hy with e1|⟨q,hq,e1,e2⟩
   ·exact Or.inl e1
   ·refine Or.inr ⟨q,hq,e1,?_⟩
    by_cases e3:q=p
    ·subst e3;rw [Kp];rcases List.mem_cons.1 ((hmem y).2 e2) with e4|e4
     ·exact absurd e4 e
     ·exact e4
    ·rw [Kn q e3];exact e2
 ·by_cases e:y=p
  ·subst e;rw [Kp,nx'];exact p2.lF (fun hm=>by have:=(hkp t ((hmem t).1 (by simp at hm ⊢;exact Or.inr hm))).2;omega) (fun hm=>by simp at hm;rcases hm with h|h;exact xb h;exact xa h)
  ·rw [Kn y e];exact far _ (H.ring y hy) (notx y hy e) (fun hm=>e (by have:=(H.kid y _ hy hm).2;omega)) (H.oK hy ut)
 ·have hyx:y≠x:=fun e=>by subst e;rw [upx] at hu;omega
  rw [upn y hyx] at hu;exact H.home y q hy hu
 ·have hyx:y≠x:=fun e=>by subst e;rw [upx] at hu;omega
  rw [upn y hyx] at hu;exact H.ord y q hy hu
 ·obtain ⟨a1,a2,a3⟩:=H.alone y hy h0;have hyx:y≠x:=fun e=>h0 (by rw [e];exact hpos.2)
  have hyp:y≠p:=fun e=>h0 (by rw [e];exact hpos.1)
  have hyv:y≠G.pv x:=fun e=>by rw [←e] at hpv;omega
  have hyt:y≠t:=fun e=>h0 (by rw [e,htm];omega)
  exact ⟨by rw [upn y hyx];exact a1,by rw [Kn y hyp];exact a2,by rw [nx',gG hyt hyx,gG hyx hyv];exact a3⟩
 ·rw [mx']
  by_cases e:y=x
  ·rw [e,bu]
  ·rw [upn y e] at hu;rw [aP _ _ e];exact H.free y hy hu
 ·by_cases e:y=p
  ·subst e;rw [Kp];have m1:few (dB h x G) (fun c=>if c=y then ex c+1 else ex c) (b++a) d≤few G ex (b++a) d:=CG d (fun c hc=>mono c (fun e=>by subst e;simp at hc;rcases hc with h|h;exact xb h;exact xa h))
   have m2:few G ex (G.K y) d=few G ex (x::(b++a)) d:=Be _ _ (by rw [eK];exact List.perm_append_comm (l₁:=a) (l₂:=x::b)) d
   rw [Ck] at m2;have m3:=H.cnt y d hy;omega
  ·rw [Kn y e];exact Nat.le_trans (CG d (fun c hc=>mono c (fun e2=>notx y hy e (e2▸hc)))) (H.cnt y d hy)
 ·obtain ⟨r1,r2,_⟩:=R.all g
  by_cases e:g=h
  ·subst e;rw [R',bu,nx'];have hs1:Ring (bO G.nx x (G.pv x)) (t::s):=by
    rw [←hR];exact r1.lF (fun hm=>by have:=((r2 x).1 hm).2.2.1;omega) (fun hm=>by have:=((r2 _).1 hm).2.2.1;omega)
   exact Ring.join hs1 p1 (fun z hz hm=>by
    simp at hm;subst hm;have:=((r2 z).1 (by rw [hR];exact hz)).2.2.1
    omega)
  ·rw [R',aP _ _ e];exact far _ r1 (fun hm=>by have:=((r2 x).1 hm).2.2.1;omega) (fun hm=>by have:=((r2 _).1 hm).2.2.1;omega) (fun hm=>e (by have:=((r2 t).1 hm).2.2.2;omega))
 ·rw [R'];have old:=(R.all g).2.1 y
  by_cases e:g=h
  ·subst e;rw [bu];have:y∈t::x::s↔y=x∨y∈G.R g:=by rw [hR];simp;grind
   rw [this,old]
   by_cases e2:y=x
   ·subst e2;simp [upx,h1,hx,hh]
   ·rw [upn y e2];simp [e2,xN]
  ·rw [aP _ _ e,old]
   by_cases e2:y=x
   ·subst e2;constructor
    ·rintro ⟨_,_,a2,_⟩;omega
    ·rintro ⟨_,_,_,a3⟩;exact absurd (show g=h by omega) e
   ·rw [upn y e2];exact Iff.rfl
 ·rw [R'] at hR'
  by_cases e:g=h
  ·subst e;rw [bu] at hR';have e1:t=t':=by injection hR'
   have e2:x::s=s':=by injection hR'
   subst e1 e2;intro y hy;rcases List.mem_cons.1 hy with rfl|hy
   ·exact hL
   ·exact q3 t s hR y hy
  ·rw [aP _ _ e] at hR';exact (R.all g).2.2 t' s' hR'
theorem KG (irr:∀a,¬L a a) {h t:Nat}:∀ (f p:Nat) (s:List Nat) (G:FG),FF n G hom L (fun c=>if c=p then 1 else 0)→FR n G hom M none→G.R h=t::s→p<n→hom p=h→1≤h→(∀y,y<n→hom y=h→y≠t→M t y)→marks n G<f→
  FF n (oF f h p G) hom L (fun _=>0)∧FR n (oF f h p G) hom M none∧(∃s',(oF f h p G).R h=t::s')∧(∀g,g≠h→(oF f h p G).R g=G.R g)∧
   (G.R h).length≤((oF f h p G).R h).length∧((oF f h p G).R h).length+marks n (oF f h p G)≤(G.R h).length+marks n G+1∧marks n (oF f h p G)≤marks n G+1∧(∀y,G.up y=-1→(oF f h p G).up y=-1)
 | 0,p,s,G,H,R,hR,hp,hh,h1,hf,hm=>ω
 | f+1,p,s,G,H,R,hR,hp,hh,h1,hf,hm=>by
  unfold oF
  by_cases e:G.up p=-1
  ·rw [if_pos e];refine ⟨⟨H.rg,H.kid,H.BH,H.ring,H.home,H.ord,H.alone,H.free,fun x d hx=>?_⟩,R,⟨s,hR⟩,fun _ _=>rfl,Nat.le_refl _,ω,ω,fun _ h=>h⟩
   rw [qC (G:=G) (ex:=fun c=>if c=p then 1 else 0) d (fun c hc=>by
    have hcp:c≠p:=fun e2=>H.oK hx e (e2▸hc)
    rw [if_neg hcp])]
   exact H.cnt x d hx
  ·rw [if_neg e]
   by_cases e2:G.mr p=false
   ·rw [if_pos e2];have hmk:=qw (G:=G) (b:=true) hp rfl { G with mr:=ai G.mr p true } rfl
    rw [e2] at hmk;simp only [Bool.false_eq_true,if_false,if_true] at hmk;refine ⟨⟨H.rg,H.kid,H.BH,H.ring,H.home,H.ord,H.alone,fun y hy hu=>?_,fun x d hx=>?_⟩,⟨R.ring,R.mem,R.top⟩,⟨s,hR⟩,fun _ _=>rfl,Nat.le_refl _,by show (G.R h).length+_≤_;omega,by omega,fun _ h=>h⟩
    ·have hyp:y≠p:=fun e3=>e (e3▸hu)
     show ai G.mr p true y=false
     rw [aP _ _ hyp];exact H.free y hy hu
    ·have:=qC (G:=G) (G':={ G with mr:=ai G.mr p true }) (ex:=fun c=>if c=p then 1 else 0) (ex':=fun _=>0) (l:=G.K x) d (fun c hc=>by
      by_cases e3:c=p
      ·subst e3
       show (G.K c).length+(if ai G.mr c true c=true then 1 else 0)+0=_
       rw [bu,e2];simp
      ·show (G.K c).length+(if ai G.mr p true c=true then 1 else 0)+0=_
       rw [aP _ _ e3,if_neg e3])
     show few { G with mr:=ai G.mr p true } (fun _=>0) (G.K x) d≤d
     rw [this];exact H.cnt x d hx
   ·rw [if_neg e2];obtain ⟨q,hq,uq,hpq⟩:=(H.BH p hp).resolve_left e;rw [uq,π];have hqp:q≠p:=fun e3=>by subst e3;exact irr _ (H.ord q q hp uq)
    have htp:p≠t:=fun e3=>by
     subst e3;have:=((R.all h).2.1 p).1 (by rw [hR];simp)
     exact e this.2.2.1
    obtain ⟨o1,o2,o3,o4,o5,o6,o7,_⟩:=wZ H R hR hp uq hqp hh (hf p hp hh htp);have hqh:hom q=h:=by have:=(H.home p q hp uq).1;omega
    have hmk:=qw (G:=G) (b:=false) hp rfl (dB h p G) o4;have e2':G.mr p=true:=by simpa using e2
    rw [e2'] at hmk;simp only [Bool.false_eq_true,if_false,if_true] at hmk;have o1':FF n (dB h p G) hom L (fun c=>if c=q then 1 else 0):=by
     refine ⟨o1.rg,o1.kid,o1.BH,o1.ring,o1.home,o1.ord,o1.alone,o1.free,fun x d hx=>?_⟩
     have hupp:(dB h p G).up p=-1:=by rw [o3,bu]
     rw [qC (G:=dB h p G) (ex:=fun c=>if c=q then (if c=p then 1 else 0)+1 else if c=p then 1 else 0) d (fun c hc=>by
      have hcp:c≠p:=fun e3=>o1.oK hx hupp (e3▸hc)
      rw [if_neg hcp])]
     exact o1.cnt x d hx
    have oR:(dB h p G).R h=t::p::s:=by rw [o6,bu]
    obtain ⟨r1,r2,r3,r4,r5,r6,r7,r8⟩:=KG irr f q (p::s) (dB h p G) o1' o2 oR hq hqh h1 hf ω;rw [oR] at r5 r6;rw [hR];simp only [List.length_cons] at r5 r6 ⊢;refine ⟨r1,r2,r3,fun g hg=>by rw [r4 g hg,o6,aP _ _ hg],ω,ω,ω,fun y hy=>r8 y ?_⟩
    have hyp:y≠p:=fun e3=>e (e3▸hy)
    rw [o3,aP _ _ hyp];exact hy
end
def iL (n h x:Nat) (G:FG):FG:=if G.up x=-1 then G else oF (marks n (dB h x G)+1) h (G.up x).toNat (dB h x G)
def EZ (h x:Nat) (G:FG):FG:={ G with R:=ai G.R h (x::xG (G.R h) x) }
def dN (A':NS) (h x:Nat) (G:FG):FG:=if G.up x≠-1∧mH A' x (G.up x).toNat=true then iL A'.cs.length h x G else G
def je (A':NS) (h x:Nat) (G:FG):FG:=if jN ((dN A' h x G).R h)≠x∧mH A' x (jN ((dN A' h x G).R h)).toNat=true then EZ h x (dN A' h x G) else dN A' h x G
def ui (A':NS) (h x:Nat) (G:FG):Nat:=(if G.up x=-1 then 0 else 1)+(if jN ((dN A' h x G).R h)=x then 0 else 1)
def J8 (A':NS) (h x:Nat) (G:FG):FG:=fO (mH A') h [x] G
section
variable {A:NS} {G:FG}
theorem FR.imp {n:Nat} {hom:Nat→Int} {L M:Nat→Nat→Prop} {g:Option Nat} (R:FR n G hom L g) (h:∀g t s,G.R g=t::s→∀y,y∈s→L t y→M t y):FR n G hom M g:=
 ⟨R.ring,R.mem,fun g t s hg hR y hy=>h g t s hR y hy (R.top g t s hg hR y hy)⟩
theorem Fj (I:vT A G) {x h:Nat} {k s0:Int} (hB:iy A x k s0=true) (hx:x<A.cs.length) (hh:(A.c x).i=h) (h1:1≤h) :
  ∃t s,G.R h=t::s∧(∀p:Nat,G.up x=p→p≠x∧
   FF A.cs.length (dB h x G) (fun y=>(A.c y).i) (bH (ak A x k s0)) (fun c=>if c=p then 0+1 else 0)∧FR A.cs.length (dB h x G) (fun y=>(A.c y).i) (fun a y=>y≠x→bH (ak A x k s0) a y) none∧(dB h x G).R h=t::x::s∧
   (∀y,y<A.cs.length→(A.c y).i=h→y≠t→y≠x→bH (ak A x k s0) t y))∧
  FF A.cs.length (dN (ak A x k s0) h x G) (fun y=>(A.c y).i) (bH (ak A x k s0)) (fun _=>0)∧FR A.cs.length (dN (ak A x k s0) h x G) (fun y=>(A.c y).i) (fun a y=>y≠x→bH (ak A x k s0) a y) none∧
   (∃s',(dN (ak A x k s0) h x G).R h=t::s')∧(∀g,g≠h→(dN (ak A x k s0) h x G).R g=G.R g)∧((dN (ak A x k s0) h x G).up x=-1∨(t≠x∧bH (ak A x k s0) t x))∧
   (G.R h).length≤((dN (ak A x k s0) h x G).R h).length∧((dN (ak A x k s0) h x G).R h).length+marks A.cs.length (dN (ak A x k s0) h x G)≤(G.R h).length+marks A.cs.length G+2∧marks A.cs.length (dN (ak A x k s0) h x G)≤marks A.cs.length G+1:=by
 have hc:=pO hB hx;have hle:=qA hB;rw [π] at hle;have low:∀a y,y≠x→bH A a y→bH (ak A x k s0) a y:=fun a y hy hl=>by
  by_cases e:a=x
  ·subst e;exact jw hl (by rw [hc,if_neg hy]) (by rw [hc,if_pos rfl];exact hle)
  ·exact (dJ (by rw [hc,if_neg e]) (by rw [hc,if_neg hy])).2 hl
 obtain ⟨t,s,hR⟩:∃t s,G.R h=t::s:=by
  cases hRR:G.R h with
  | nil=>
   have h2:=I.J5 hRR;have h3:=(iB (A:=A) (h:=(h:Int)) ω).1 h2;have:0<cu A (h:Int):=dG.2 ⟨x,hx,hh,ω⟩;omega
  | cons t s=>exact ⟨t,s,rfl⟩
 have hfirst:∀y,y<A.cs.length→(A.c y).i=h→y≠t→y≠x→bH (ak A x k s0) t y:=fun y hy hyh hyt hyx=>low t y hyx (I.first hR hy hyh hyt)
 have F':FF A.cs.length G (fun y=>(A.c y).i) (fun a y=>y≠x→bH (ak A x k s0) a y) (fun _=>0):=I.ff.mono (fun y p hy hu ho=>⟨(I.ff.home y p hy hu).1,(I.ff.home y p hy hu).2,fun hyx=>low p y hyx ho⟩) I.ff.alone
 have R':FR A.cs.length G (fun y=>(A.c y).i) (fun a y=>y≠x→bH (ak A x k s0) a y) none:=I.fr.imp (fun g t s hR y hy hl hyx=>low t y hyx hl)
 have off:∀p:Nat,G.up x=p→p≠x∧FF A.cs.length (dB h x G) (fun y=>(A.c y).i) (bH (ak A x k s0)) (fun c=>if c=p then 0+1 else 0)∧FR A.cs.length (dB h x G) (fun y=>(A.c y).i) (fun a y=>y≠x→bH (ak A x k s0) a y) none∧(dB h x G).R h=t::x::s∧
   ((dB h x G).up=ai G.up x (-1)∧(dB h x G).mr=ai G.mr x false∧∀g,g≠h→(dB h x G).R g=G.R g):=fun p hp=>by
  have hpx:p≠x:=fun e=>by subst e;exact sJ (I.ff.ord p p hx hp)
  obtain ⟨o1,o2,o3,o4,o5,o6,_,_⟩:=wZ F' R' hR hx hp hpx hh (fun h=>absurd rfl h)
  refine ⟨hpx,o1.mono (fun y q hy hu ho=>⟨(o1.home y q hy hu).1,(o1.home y q hy hu).2,ho (fun e=>?_)⟩) o1.alone,o2,by rw [o6,bu],o3,o4,fun g hg=>by rw [o6,aP _ _ hg]⟩
  subst e;rw [o3,bu] at hu;omega
 refine ⟨t,s,hR,fun p hp=>⟨(off p hp).1,(off p hp).2.1,(off p hp).2.2.1,(off p hp).2.2.2.1,hfirst⟩,?_⟩
 by_cases hup:G.up x=-1
 ·have e:dN (ak A x k s0) h x G=G:=by unfold dN;rw [if_neg (by simp [hup])]
  rw [e];exact ⟨F'.mono (fun y p hy hu ho=>⟨(F'.home y p hy hu).1,(F'.home y p hy hu).2,ho (fun e=>by subst e;omega)⟩) F'.alone,R',⟨s,hR⟩,fun _ _=>rfl,Or.inl hup,Nat.le_refl _,ω,ω⟩
 ·obtain ⟨p,hp,ux,_⟩:=(I.ff.BH x hx).resolve_left hup;have hph:(A.c p).i=h:=by have:(A.c x).i=(A.c p).i:=(I.ff.home x p hx ux).1;omega
  cases hl:mH (ak A x k s0) x (G.up x).toNat with
  | true=>
   have e:dN (ak A x k s0) h x G=iL A.cs.length h x G:=by unfold dN;rw [if_pos ⟨hup,hl⟩,eB]
   rw [e];obtain ⟨o0,o1,o2,o3,o4,o5,o6⟩:=off p ux;have hL:bH (ak A x k s0) x p:=by rw [ux,π] at hl;unfold mH at hl;simpa using hl
   obtain ⟨r1,r2,r3,r4,r5,r6,r7,r8⟩:=by
    have e':iL A.cs.length h x G=oF (marks A.cs.length (dB h x G)+1) h p (dB h x G):=by unfold iL;rw [ux,if_neg ω,π]
    have:=KG (M:=fun a y=>y≠x→bH (ak A x k s0) a y) (L:=bH (ak A x k s0)) (fun a=>sJ) (marks A.cs.length (dB h x G)+1) p (x::s) (dB h x G) (by simpa using o1) o2 o3 hp hph h1 (fun y hy hyh hyt hyx=>hfirst y hy hyh hyt hyx) ω
    rw [←e'] at this;exact this
   have hmk:=qw (G:=G) (b:=false) hx rfl (dB h x G) o5;simp only [Bool.false_eq_true,if_false] at hmk;rw [o3] at r5 r6;rw [hR];simp only [List.length_cons] at r5 r6 ⊢;exact ⟨r1,r2,r3,fun g hg=>(r4 g hg).trans (o6 g hg),Or.inl (r8 x (by rw [o4,bu])),ω,ω,ω⟩
  | false=>
   have e:dN (ak A x k s0) h x G=G:=by unfold dN;rw [if_neg (by simp [hl])]
   rw [e];have hpx:p≠x:=(off p ux).1;have hnl:bH (ak A x k s0) p x:=by
    rw [ux,π] at hl;unfold mH at hl;have:¬bH (ak A x k s0) x p:=by simpa using hl
    exact (gH hpx).resolve_right this
   have htx:t≠x:=fun e=>by
    subst e;have:=(I.mI hR).2.2.2.1;omega
   refine ⟨F'.mono (fun y q hy hu ho=>⟨(F'.home y q hy hu).1,(F'.home y q hy hu).2,?_⟩) F'.alone,R',⟨s,hR⟩,fun _ _=>rfl,Or.inr ⟨htx,?_⟩,Nat.le_refl _,ω,ω⟩
   ·by_cases e2:y=x
    ·subst e2;obtain rfl:q=p:=ω;exact hnl
    ·exact ho e2
   ·by_cases e2:p=t
    ·subst e2;exact hnl
    ·exact bE (hfirst p hp hph e2 hpx) hnl
theorem N7 (I:vT A G) {x h:Nat} {k s0:Int} (hB:iy A x k s0=true) (hx:x<A.cs.length) (hh:(A.c x).i=h) (h1:1≤h) :
  vT (ak A x k s0) (je (ak A x k s0) h x G)∧(∀g,g≠h→(je (ak A x k s0) h x G).R g=G.R g)∧(G.R h).length≤((je (ak A x k s0) h x G).R h).length∧
   ((je (ak A x k s0) h x G).R h).length+marks A.cs.length (je (ak A x k s0) h x G)≤(G.R h).length+marks A.cs.length G+2∧marks A.cs.length (je (ak A x k s0) h x G)≤marks A.cs.length G+1:=by
 obtain ⟨t,s,hR,_,f1,f2,⟨s',hR1⟩,f4,f5,f6,f7,f8⟩:=Fj I hB hx hh h1;have hi:∀y,((ak A x k s0).c y).i=(A.c y).i:=fP hB hx
 have hl:=eB A x k s0;obtain ⟨q1,q2,q3⟩:=f2.all h;rw [hR1] at q1;have hnd:=List.nodup_cons.1 q1.nd;have hF:∀G',FF A.cs.length G' (fun y=>(A.c y).i) (bH (ak A x k s0)) (fun _=>0)→FF (ak A x k s0).cs.length G' (fun y=>((ak A x k s0).c y).i) (bH (ak A x k s0)) (fun _=>0):=fun G' H=>by
  rw [hl,show (fun y=>((ak A x k s0).c y).i)=(fun y=>(A.c y).i) from funext hi];exact H
 have hRR:∀G',FR A.cs.length G' (fun y=>(A.c y).i) (bH (ak A x k s0)) none→FR (ak A x k s0).cs.length G' (fun y=>((ak A x k s0).c y).i) (bH (ak A x k s0)) none:=fun G' H=>by
  rw [hl,show (fun y=>((ak A x k s0).c y).i)=(fun y=>(A.c y).i) from funext hi];exact H
 have xg:∀g,g≠h→x∉(dN (ak A x k s0) h x G).R g:=fun g hg hm=>by
  have:=(((f2.all g).2.1 x).1 hm).2.2.2;simp only at this;omega
 by_cases hc:jN ((dN (ak A x k s0) h x G).R h)≠x∧mH (ak A x k s0) x (jN ((dN (ak A x k s0) h x G).R h)).toNat=true
 ·have e:je (ak A x k s0) h x G=EZ h x (dN (ak A x k s0) h x G):=by unfold je;rw [if_pos hc]
  rw [e];rw [hR1] at hc;have htx:t≠x:=fun e2=>hc.1 (by rw [e2];rfl)
  have hlt:bH (ak A x k s0) x t:=by
   have:=hc.2;unfold mH jN at this;simpa using this
  have ux:(dN (ak A x k s0) h x G).up x=-1:=f5.resolve_right (fun h'=>nu hlt h'.2)
  have hm:x∈t::s':=by rw [←hR1];exact (q2 x).2 ⟨h1,hx,ux,hh⟩
  obtain ⟨a,b,e1,e2,xa,xb⟩:=DY hm q1.nd;have eR:(EZ h x (dN (ak A x k s0) h x G)).R h=x::(b++a):=by
   show ai _ h _ h=_
   rw [bu,hR1,e2]
  have eR':∀g,g≠h→(EZ h x (dN (ak A x k s0) h x G)).R g=(dN (ak A x k s0) h x G).R g:=fun g hg=>aP _ _ hg
  have hmm:∀z,z∈x::(b++a)↔z∈t::s':=fun z=>by rw [e1];simp;grind
  have hlen:(x::(b++a)).length=((dN (ak A x k s0) h x G).R h).length:=by rw [hR1,e1];simp;omega
  refine ⟨⟨hF _ (f1.bJ _),hRR _ ⟨fun g _=>?_,fun g y _=>?_,fun g t' s'' _ hR' y hy=>?_⟩⟩,fun g hg=>by rw [eR' g hg,f4 g hg],by rw [eR,hlen];exact f6,by rw [eR,hlen];exact f7,f8⟩
  ·by_cases eg:g=h
   ·subst eg;rw [eR];rw [e1] at q1;exact Ring.NH (a:=a) (b:=x::b) q1
   ·rw [eR' g eg];exact (f2.all g).1
  ·by_cases eg:g=h
   ·subst eg;rw [eR,hmm,←hR1];exact q2 y
   ·rw [eR' g eg];exact (f2.all g).2.1 y
  ·by_cases eg:g=h
   ·subst eg;rw [eR] at hR';have e3:x=t':=by injection hR'
    have e4:b++a=s'':=by injection hR'
    subst e3 e4;have hy2:=(hmm y).1 (by simp only [List.mem_cons];exact Or.inr hy)
    have hyx:y≠x:=fun e=>by subst e;simp at hy;rcases hy with h|h;exact xb h;exact xa h
    rcases List.mem_cons.1 hy2 with rfl|hy2
    ·exact hlt
    ·exact bE hlt (q3 t s' hR1 y hy2 hyx)
   ·rw [eR' g eg] at hR';have hyx:y≠x:=fun e=>xg g eg (by rw [hR',←e];simp [hy])
    exact (f2.all g).2.2 t' s'' hR' y hy hyx
 ·have e:je (ak A x k s0) h x G=dN (ak A x k s0) h x G:=by unfold je;rw [if_neg hc]
  rw [e];refine ⟨⟨hF _ f1,hRR _ (f2.imp (fun g t' s'' hR' y hy hl2=>?_))⟩,f4,f6,f7,f8⟩
  by_cases eyx:y=x
  ·by_cases eg:g=h
   ·subst eg;rw [hR1] at hR' hc;have e3:t=t':=by injection hR'
    have e4:s'=s'':=by injection hR'
    subst e3 e4 eyx;have hty:t≠y:=fun e=>hnd.1 (e▸hy)
    have:¬bH (ak A y k s0) y t:=fun hlt=>hc ⟨fun e=>hty (by have:(t:Int)=(y:Int):=e;omega),by unfold mH jN;simpa using hlt⟩
    exact (gH hty).resolve_right this
   ·subst eyx;exact absurd (by rw [hR'];simp [hy]) (xg g eg)
  ·exact hl2 eyx
end
theorem wR.done {n:Nat} {hom:Nat→Int} {L:Nat→Nat→Prop} {h:Nat} {G:FG} (H:wR n hom L h [] G) (h1:1≤h):FR n G hom L none:=by
 refine ⟨fun g _=>?_,fun g y _=>?_,fun g t s _ hR=>?_⟩
 all_goals by_cases e:g=h
 ·subst e;exact H.ring
 ·exact H.fr.ring g (by simp;exact e)
 ·subst e;constructor
  ·intro hm;exact ⟨h1,H.mem y hm⟩
  ·rintro ⟨_,a⟩;rcases H.all y a with b|b
   ·exact b
   ·cases b
 ·exact H.fr.mem g y (by simp;exact e)
 ·subst e;exact H.top t s hR
 ·exact H.fr.top g t s (by simp;exact e) hR
section
variable {A:NS} {G:FG}
theorem Oz (n:Nat):vT (NS.new n) FG.none:=by
 have hl:(NS.new n).cs.length=n:=by simp [NS.new]
 have hz:∀y,((NS.new n).c y).i=0:=fun y=>by rw [NS.uZ];rfl
 refine ⟨⟨⟨fun x hx=>hx,fun x hx=>hx,fun _ _=>rfl,fun _ _=>rfl⟩,fun x y _ hy=>(by cases hy),fun y _=>Or.inl rfl,fun x _=>Ring.nil _,fun y p _ hu=>?_,fun y p _ hu=>?_,fun y _ _=>⟨rfl,rfl,rfl⟩,fun y _ _=>rfl,fun x d _=>Nat.zero_le _⟩,⟨fun h _=>Ring.nil _,fun h y _=>?_,fun h t s _ e=>(by cases e)⟩⟩
 ·have:(-1:Int)=p:=hu;omega
 ·have:(-1:Int)=p:=hu;omega
 ·constructor
  ·intro hm;cases hm
  ·rintro ⟨h1,_,_,h2⟩;simp only [hz] at h2;omega
theorem Nz (I:vT A G):vT (aG A) G:=by
 have e1:(aG A).cs=A.cs:=by unfold aG;split<;>rfl
 have e2:∀y,(aG A).c y=A.c y:=fun y=>by unfold NS.c;rw [e1]
 have e3:(fun y=>((aG A).c y).i)=(fun y=>(A.c y).i):=funext (fun y=>by rw [e2])
 refine ⟨?_,?_⟩
 ·rw [e1,e3];exact I.ff.mono (fun y p hy hu ho=>⟨(I.ff.home y p hy hu).1,(I.ff.home y p hy hu).2,(dJ (e2 p) (e2 y)).2 ho⟩) I.ff.alone
 ·rw [e1,e3];exact I.fr.imp (fun g t s _ y _ hl=>(dJ (e2 t) (e2 y)).2 hl)
theorem NV (I:vT A G) (ok:A.Ok) {h x:Nat} (k s:Int) (hB:jy A h x=true) :
  vT (aB A h x k s) (J8 (aB A h x k s) h x G)∧((J8 (aB A h x k s) h x G).R h).length=(G.R h).length+1∧(∀g,g≠h→(J8 (aB A h x k s) h x G).R g=G.R g)∧(J8 (aB A h x k s) h x G).mr=G.mr∧1≤h∧x<A.cs.length∧
   bD (aB A h x k s) (x:Int)=true∧(∀t s',G.R h=t::s'→bD (aB A h x k s) (t:Int)=true)∧(aB A h x k s).cs.length=A.cs.length:=by
 obtain ⟨b1,b2,b3⟩:=(cB _ _ _).1 hB;have b4:=(aK _ _).1 b1;have b5:=(dK _ _).1 b2;have hx:x<A.cs.length:=ω;have h1:1≤h:=ω;have eP:aB A h x k s=gD A x ⟨h,k,s⟩:=by unfold aB;rw [hB];rfl
 have hc:∀y,(aB A h x k s).c y=if y=x then ⟨h,k,s⟩ else A.c y:=fun y=>by rw [eP,iD];simp [hx]
 have hl:(aB A h x k s).cs.length=A.cs.length:=by rw [eP,dI]
 have x0:¬0<(A.c x).i:=fun h'=>by
  have:bD A (x:Int)=true:=(af _ _).2 ⟨hx,h'⟩;rw [this] at b3;cases b3
 obtain ⟨ax,kx,nx⟩:=I.ff.alone x hx x0;have hom:∀y,y≠x→((aB A h x k s).c y).i=(A.c y).i:=fun y hy=>by rw [hc,if_neg hy]
 have homx:((aB A h x k s).c x).i=h:=by rw [hc,if_pos rfl]
 have inx:∀y,0<(A.c y).i→y≠x:=fun y hy e=>x0 (e▸hy)
 have lts:∀a y,a≠x→y≠x→(bH (aB A h x k s) a y↔bH A a y):=fun a y ha hy=>dJ (by rw [hc,if_neg ha]) (by rw [hc,if_neg hy])
 have F':FF A.cs.length G (fun y=>((aB A h x k s).c y).i) (bH (aB A h x k s)) (fun _=>0):=I.ff.mono (fun y p hy hu ho=>by
  have hh:=I.ff.home y p hy hu;have hy1:0<(A.c y).i:=hh.2;have hp1:0<(A.c p).i:=by have:(A.c y).i=(A.c p).i:=hh.1;omega
  have e1:=inx y hy1;have e2:=inx p hp1;exact ⟨by simp only [hom y e1,hom p e2];exact hh.1,by simp only [hom y e1];exact hy1,(lts p y e2 e1).2 ho⟩) (fun y hy h0=>by
  by_cases e:y=x
  ·subst e;exact ⟨ax,kx,nx⟩
  ·simp only [hom y e] at h0;exact I.ff.alone y hy h0)
 have mR:∀g z,z∈G.R g→z≠x∧(A.c z).i=g∧1≤g:=fun g z hz=>by
  have:=I.out hz;exact ⟨inx z (by have:=this.2.2.2.1;omega),this.2.2.2.1,this.1⟩
 have mm:∀g z,z≠x→(z∈G.R g↔1≤g∧z<A.cs.length∧G.up z=-1∧((aB A h x k s).c z).i=g):=fun g z hz=>by rw [hom z hz];exact (I.fr.all g).2.1 z
 have H:wR A.cs.length (fun y=>((aB A h x k s).c y).i) (bH (aB A h x k s)) h [x] G:=by
  refine ⟨F',⟨fun g _=>(I.fr.all g).1,fun g z hg=>?_,fun g t s' _ hR y hy=>?_⟩,(I.fr.all h).1,fun t s' hR y hy=>?_,fun z hz=>?_,σ,fun z hz=>?_,fun z hz=>?_⟩
  ·by_cases e:z=x
   ·subst e;constructor
    ·intro hm;exact absurd rfl (mR g z hm).1
    ·rintro ⟨_,_,_,h2⟩;simp only [homx] at h2;exact absurd (by congr 1;omega:some g=some h) hg
   ·exact mm g z e
  ·have e1:=(mR g t (by rw [hR];simp)).1
   have e2:=(mR g y (by rw [hR];simp [hy])).1
   exact (lts t y e1 e2).2 ((I.fr.all g).2.2 t s' hR y hy)
  ·have e1:=(mR h t (by rw [hR];simp)).1
   have e2:=(mR h y (by rw [hR];simp [hy])).1
   exact (lts t y e1 e2).2 ((I.fr.all h).2.2 t s' hR y hy)
  ·exact ((mm h z (mR h z hz).1).1 hz).2
  ·simp at hz;subst hz;exact ⟨⟨hx,ax,homx⟩,nx,fun hm=>(mR h z hm).1 rfl⟩
  ·by_cases e:z=x
   ·exact Or.inr (by simp [e])
   ·exact Or.inl ((mm h z e).2 ⟨h1,hz⟩)
 obtain ⟨r1,r2⟩:=H.step h1 (fun G=>wy _ _ _ _ _) (fun a b c=>bE)
 obtain ⟨s1,s2,s3,s4⟩:=ru (mH (aB A h x k s)) h [x] G;refine ⟨⟨by rw [hl];exact r1.ff,by rw [hl];exact r1.done h1⟩,r2,s4,s2,h1,hx,(af _ _).2 ⟨by rw [hl];exact hx,by rw [homx];omega⟩,fun t s' hR=>?_,hl⟩
 have:=I.out (h:=h) (z:=t) (by rw [hR];simp)
 exact (af _ _).2 ⟨by rw [hl];exact this.2.1,by rw [hom t (mR h t (by rw [hR];simp)).1];omega⟩
end
end Go.Proofs.YtklibcncmbofpaaGreat
