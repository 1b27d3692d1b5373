/-
  Lemmas for ProofHolds: Fam, Cells3. Conditions: those of each lemma.
-/
import Derived.Test.YtklibcncmbofpaaGreatR02
set_option linter.all false
set_option maxHeartbeats 8000000
set_option maxRecDepth 10000
namespace Go.Proofs.YtklibcncmbofpaaGreat
open Go Go.RowKit
structure RwK where
 at_:World->Nat->List Nat->List Nat->Prop
 upd:∀ {w w':World} {p:Nat} {G S L:List Nat},at_ w p G L->aa S w w'->(∀z,z∈S->z∉G)->at_ w' p G L
 lt:∀ {w:World} {p:Nat} {G L:List Nat},at_ w p G L->∀z,z∈G->z<w.heap.size
def BK(o:Option Nat):Value:=.pointer (o.map fun b=>⟨b,0,none⟩)
def zN(f:Nat->Option Nat)(m:Nat):List Value:=(List.range m).map fun h=>BK (f h)
theorem Ov{f:Nat->Option Nat}{m j:Nat}(h:j<m):(zN f m)[j]?=some (BK (f j)):=by unfold zN;simp[h]
theorem Km(f:Nat->Option Nat)(m:Nat)(o:Option Nat):zN f m++[BK o]=zN (fun h=>if h=m then o else f h) (m+1):=by
 unfold zN;rw[List.range_succ,List.map_append]
 congr 1
 ·apply List.map_congr_left;intro a ha;have:=List.mem_range.1 ha
  show BK (f a)=BK (if a=m then o else f a)
  rw[if_neg ω]
 ·simp
def jW{α:Type}(f:Nat->α)(h:Nat)(x:α):Nat->α:=fun k=>if k=h then x else f k
theorem dK{α:Type}(f:Nat->α)(h:Nat)(x:α):jW f h x h=x:=by unfold jW;rw[if_pos rfl]
theorem bP{α:Type}(f:Nat->α){h k:Nat}(x:α)(e:k≠h):jW f h x k=f k:=by unfold jW;rw[if_neg e]
structure vJ(K:RwK)(ety:TypeId)(w:World)(gr cr m:Nat)(has:Nat->Bool)(Z:List Nat)(ptr:Nat->Option Nat)(G L:Nat->List Nat):Prop where
 rows:w.ownsRow 0 ety 1 (.slice (some ⟨gr,0,none⟩) m cr) m (zN ptr m)
 row:∀h,has h=true->∃rp,ptr h=some rp/\K.at_ w rp (G h) (L h)
 yT:∀h,has h=true->∀z,z∈G h->z∈Z
 Vm:∀h k,has h=true->has k=true->h≠k->∀z,z∈G h->z∉G k
 KG:∀z,z∈Z->z<w.heap.size
 Uw:gr∉Z
section
variable {K:RwK}{ety:TypeId}{w w':World}{gr cr m:Nat}{has:Nat->Bool}{Z:List Nat}{ptr:Nat->Option Nat}{G L:Nat->List Nat}
theorem vJ.lt(h:vJ K ety w gr cr m has Z ptr G L):gr<w.heap.size:=(h.rows.lt gr rfl).2
theorem vJ.upd{S:List Nat}(h:vJ K ety w gr cr m has Z ptr G L)(hu:aa S w w')(hS:∀z,z∈S->z≠gr/\z∉Z):vJ K ety w' gr cr m has Z ptr G L:=
 ⟨aC h.rows hu (fun k hk hm=>by cases hk;exact(hS _ hm).1 rfl),fun g hg=>by
  obtain⟨rp,e,hr⟩:=h.row g hg
  exact⟨rp,e,K.upd hr hu (fun z hz hm=>(hS z hz).2 (h.yT g hg z hm))⟩,h.yT,h.Vm,fun z hz=>Nat.lt_of_lt_of_le (h.KG z hz) hu.size,h.Uw⟩
theorem vJ.cell(h:vJ K ety w gr cr m has Z ptr G L){g rp:Nat}(hg:g<m)(hp:ptr g=some rp):w.cell? ⟨gr,g,none⟩=some (.pointer (some ⟨rp,0,none⟩)):=by
 rw[h.rows.cellAt g ω,Ov hg,hp];rfl
theorem vJ.one{S G' L':List Nat}{g rp:Nat}(h:vJ K ety w gr cr m has Z ptr G L)(hg:has g=true)(hp:ptr g=some rp)(hu:aa S w w')(hS:∀z,z∈S->z∈G g\/(z≠gr/\z∉Z))(hr:K.at_ w' rp G' L')(hG:∀z,z∈G'->z∈G g\/w.heap.size<=z) :
  vJ K ety w' gr cr m has (Z++G') ptr (jW G g G') (jW L g L'):=by
 have hgl:=h.lt;have hgr:∀z,z∈S->z≠gr:=fun z hz e=>by
  rcases hS z hz with h1|h1
  ·exact h.Uw (by rw[←e];exact h.yT g hg z h1)
  ·exact h1.1 e
 have hoth:∀k,has k=true->k≠g->∀z,z∈S->z∉G k:=fun k hk hne z hz hm=>by
  rcases hS z hz with h1|h1
  ·exact h.Vm g k hg hk (fun e=>hne e.symm) z h1 hm
  ·exact h1.2 (h.yT k hk z hm)
 refine⟨aC h.rows hu (fun k hk hm=>by cases hk;exact hgr _ hm rfl),fun k hk=>?_,fun k hk z hz=>?_,fun k j hk hj hne z hz=>?_,fun z hz=>?_,fun hm=>?_⟩
 ·by_cases e:k=g
  ·subst e;rw[dK,dK];exact⟨rp,hp,hr⟩
  ·rw[bP _ _ e,bP _ _ e];obtain⟨q,e2,hq⟩:=h.row k hk;exact⟨q,e2,K.upd hq hu (hoth k hk e)⟩
 ·by_cases e:k=g
  ·subst e;rw[dK]at hz;exact τ.2 (Or.inr hz)
  ·rw[bP _ _ e]at hz;exact τ.2 (Or.inl (h.yT k hk z hz))
 ·by_cases e:k=g
  ·subst e;rw[dK]at hz;rw[bP _ _ (fun e=>hne e.symm)];rcases hG z hz with h1|h1
   ·exact h.Vm k j hk hj hne z h1
   ·exact fun hm=>by have:=h.KG z (h.yT j hj z hm);omega
  ·rw[bP _ _ e]at hz
   by_cases e2:j=g
   ·subst e2;rw[dK];intro hm;rcases hG z hm with h1|h1
    ·exact h.Vm k j hk hj hne z hz h1
    ·have:=h.KG z (h.yT k hk z hz);omega
   ·rw[bP _ _ e2];exact h.Vm k j hk hj hne z hz
 ·rcases τ.1 hz with h1|h1
  ·exact Nat.lt_of_lt_of_le (h.KG z h1) hu.size
  ·exact K.lt hr z h1
 ·rcases τ.1 hm with h1|h1
  ·exact h.Uw h1
  ·rcases hG gr h1 with h2|h2
   ·exact h.Uw (h.yT g hg gr h2)
   ·omega
theorem vJ.snoc{S G' L':List Nat}{rp gr' cr':Nat}(h:vJ K ety w gr cr m has Z ptr G L)(hm:has m=false)(hu:aa S w w')(hS:∀z,z∈S->z∉Z)(hr:K.at_ w' rp G' L')(hG:∀z,z∈G'->w.heap.size<=z)(hg1:gr'∉Z)(hg2:gr'∉G')
  (hrow:w'.ownsRow 0 ety 1 (.slice (some ⟨gr',0,none⟩) (m+1) cr') (m+1) (zN ptr m++[BK (some rp)])) :
  vJ K ety w' gr' cr' (m+1) (fun h=>has h || h == m) (Z++G') (jW ptr m (some rp)) (jW G m G') (jW L m L'):=by
 have hcase:∀k,(has k || k == m)=true->k=m\/(k≠m/\has k=true):=fun k hk=>by
  by_cases e:k=m
  ·exact Or.inl e
  ·right;simp[e]at hk;exact⟨e,hk⟩
 refine⟨by rw[Km]at hrow;exact hrow,fun k hk=>?_,fun k hk z hz=>?_,fun k j hk hj hne z hz=>?_,fun z hz=>?_,fun hmm=>?_⟩
 ·rcases hcase k hk with rfl|⟨e,hk'⟩
  ·rw[dK,dK,dK];exact⟨rp,rfl,hr⟩
  ·rw[bP _ _ e,bP _ _ e,bP _ _ e];obtain⟨q,e2,hq⟩:=h.row k hk';exact⟨q,e2,K.upd hq hu (fun z hz hm=>hS z hz (h.yT k hk' z hm))⟩
 ·rcases hcase k hk with rfl|⟨e,hk'⟩
  ·rw[dK]at hz;exact τ.2 (Or.inr hz)
  ·rw[bP _ _ e]at hz;exact τ.2 (Or.inl (h.yT k hk' z hz))
 ·rcases hcase k hk with rfl|⟨e,hk'⟩
  ·rcases hcase j hj with rfl|⟨e2,hj'⟩
   ·exact absurd rfl hne
   ·rw[dK]at hz;rw[bP _ _ e2];exact fun hm=>by have:=h.KG z (h.yT j hj' z hm);have:=hG z hz;omega
  ·rw[bP _ _ e]at hz;rcases hcase j hj with rfl|⟨e2,hj'⟩
   ·rw[dK];exact fun hm=>by have:=h.KG z (h.yT k hk' z hz);have:=hG z hm;omega
   ·rw[bP _ _ e2];exact h.Vm k j hk' hj' hne z hz
 ·rcases τ.1 hz with h1|h1
  ·exact Nat.lt_of_lt_of_le (h.KG z h1) hu.size
  ·exact K.lt hr z h1
 ·rcases τ.1 hmm with h1|h1
  ·exact hg1 h1
  ·exact hg2 h1
end
theorem Kq{A:NS}{x:Nat}(hx:x<A.cs.length)(hz:0<(A.c x).i)(q:Int) :
  (if q=(A.c x).i then (if (dO A (A.c x).i:Int)-1=0 then none else some ((dO A (A.c x).i:Int)-1))else jG A q)=jG (jc A x Cl.z) q:=by
 have:=nO A x Cl.z q hx;have hp:0<dO A (A.c x).i:=fH.2 ⟨x,hx,rfl,hz⟩;unfold jG
 by_cases e:q=(A.c x).i
 ·subst e;rw[if_pos rfl];rw[if_pos ⟨rfl,hz⟩,if_neg (show ¬ (Cl.z.i=(A.c x).i/\0<(A.c x).i)from fun h=>by have:(0:Int)=(A.c x).i:=h.1;omega)]at this
  by_cases h1:dO A (A.c x).i=1
  ·rw[if_pos ω,if_neg ω]
  ·rw[if_neg ω,if_pos ω]
   congr 1;omega
 ·rw[if_neg e];rw[if_neg (fun h=>e h.1.symm),if_neg (show ¬ (Cl.z.i=q/\0<q)from fun h=>by have:(0:Int)=q:=h.1;omega)]at this;simp only[Nat.add_zero]at this;rw[this]
theorem iq{w:World}{c st:Nat}{F:List Nat}{A:NS}(h:aF w c F A st)(x:Nat)(hx:bS A x=true) :
  Calls Tryz.prog 151 #[.pointer (some ⟨c,0,none⟩),.int .i64 (x:Int)] w fun e w'=>e=.returned (.bool true)/\aF w' c F (bz A x) st/\aa F w w':=by
 have k:=dQ h x hx;obtain⟨hx1,hx2⟩:=(ah _ _).1 hx;have hrng:=h.ok.nat x hx1;have hA1:=h.ok.h1;have hA2:=h.ok.c1;obtain⟨hh,hhe⟩:∃r:Nat,(A.c x).i=r:=⟨(A.c x).i.toNat,ω⟩;have hp:0<dO A (hh:Int):=fH.2 ⟨x,hx1,hhe,ω⟩;have hlen:=D7 h.ok (hh:Int);have hM:=fun q=>Kq hx1 hx2 q;have ok':=GU h.ok x;have e:bz A (x:Int)=jc A x Cl.z:=by unfold bz;rw[if_pos hx];simp
 rw[hhe]at k hM hrng;have HE:=χ e;have HM:=χ hM;have Fq:1<=hh:=ω;have HO:=χ ok';obtain⟨len,hle⟩:∃n,n=A.cs.length:=⟨_,rfl⟩;have HL:=χ hle;clear h hx hM ok' e hle hx2 hhe;have hx1:x<len:=by have:=HL.out;omega
 obtain⟨m,hm⟩:∃m:Int,m=(dO A (hh:Int):Int):=⟨_,rfl⟩;rw[←hm]at HM;have HZ:=χ hm;have hm1:0<m:=ω;have hm2:m<=65536:=ω;clear hm hp hlen
 go_enter Tryz.func151,Tryz.ntmps151
 go_wp2_with fail
 refine k.mono ?_;rintro e w1 ⟨rfl,hC,hu⟩;have hsz:=hu.size;have hlt:=hC.lt;obtain⟨ca,nm,mb,g,cap,l,rt,dp,raw,h,rfl⟩:=hC;have c1:=h.c1;have c3:=h.c3;rw[←HL.out]at c1;have d0:=h.row.cell (x*3) (by rw[←HL.out];omega);have d1:=h.row.cell (x*3+1) (by rw[←HL.out];omega);have d2:=h.row.cell (x*3+2) (by rw[←HL.out];omega);have f0:=h.row.free (x*3);have f1:=h.row.free (x*3+1);have f2:=h.row.free (x*3+2);have l1:=hlt c σ;have l2:=hlt ca σ;have l3:=hlt mb σ;have hs:=h.sep;have H:=χ h;have HU:=χ hu;clear h hlt k hu
 have fin:∀ (w2:World),gN w2 mb (jG (jc A x Cl.z))->aa [mb] (((w1.setCell ⟨ca,x*3,none⟩ (.int .i64 0)).setCell ⟨ca,x*3+1,none⟩ (.int .i64 0)).setCell ⟨ca,x*3+2,none⟩ (.int .u64 0)) w2->
   aF w2 c [c,ca,nm,mb,g] (bz A x) st/\aa [c,ca,nm,mb,g] w w2:=fun w2 hm2 hu2=>by
  have hu3:aa [ca] w1 (((w1.setCell ⟨ca,x*3,none⟩ (.int .i64 0)).setCell ⟨ca,x*3+1,none⟩ (.int .i64 0)).setCell ⟨ca,x*3+2,none⟩ (.int .u64 0)):=β;have hr3:=(row3 (i:=x) H.out.row Cl.z).upd hu2 ι;have gX:aa [ca,mb] w1 w2:=(hu3.mono ι).joined hu2 (fun y hy=>Or.inl (by simp at hy;simp[hy]));refine⟨⟨ca,nm,mb,g,cap,l,rt,dp,fun y=>if y=x then Cl.z else raw y,?_,rfl⟩,HU.out.trans (gX.mono ι)⟩;have ok':=HO.out;rw[HE.out]at ok' ⊢;exact H.out.turn gX hr3 hm2 ok' (fI _ _ _) rfl (zG H.out.rel (by rw[←HL.out];exact hx1) (Or.inl ⟨rfl,rfl⟩))
 have FIN:=χ fin;clear fin
 by_cases h1:m=1
 ·have hb:(m-1 == 0)=true:=ζ;have H1:=χ h1;clear h1
  go_wp2_with (first
   | (at_lookup;refine lM (o:=⟨some 27,_,_,_,_,_⟩) (by rfl) _ _ (by rfl) mb (jG A) (by rfl) (H.out.many.upd (S:=[ca]) β ι) (hh:Int) (by rfl) ω m ((tY _ _).trans HZ.out.symm) ?_)
   | (at_lookup;refine lM (o:=⟨some 34,_,_,_,_,_⟩) (by rfl) _ _ (by rfl) mb _ (by rfl) hm2 (hh:Int) (by rfl) ω (m-1) σ ?_)
   | (at_mapUpdate;refine mJ rfl _ _ _ rfl mb (jG A) rfl (H.out.many.upd (S:=[ca]) β ι) (hh:Int) (m-1) rfl rfl ω ω ?_;intro w2 hm2 hu2;(have q1:=hu2.cell (p:=⟨c,3,none⟩) (by simp;exact l1) ι))
   | (at_delete;refine oM rfl _ _ rfl mb _ rfl hm2 (hh:Int) rfl ω ?_;intro w3 UC hu3))
  go_ret
  have hm4:gN w3 mb (jG (jc A x Cl.z)):=gN.ext UC (fun q=>by
   rw[←HM.out q]
   by_cases e:q=(hh:Int)
   ·rw[if_pos e,if_pos e,if_pos (by have:=H1.out;omega)]
   ·rw[if_neg e,if_neg e,if_neg e])
  exact⟨rfl,FIN.out w3 hm4 (hu2.trans hu3)⟩
 ·have hb:(m-1 == 0)=false:=ζ;have H1:=χ h1;clear h1
  go_wp2_with (first
   | (at_lookup;refine lM (o:=⟨some 27,_,_,_,_,_⟩) (by rfl) _ _ (by rfl) mb (jG A) (by rfl) (H.out.many.upd (S:=[ca]) β ι) (hh:Int) (by rfl) ω m ((tY _ _).trans HZ.out.symm) ?_)
   | (at_lookup;refine lM (o:=⟨some 34,_,_,_,_,_⟩) (by rfl) _ _ (by rfl) mb _ (by rfl) hm2 (hh:Int) (by rfl) ω (m-1) σ ?_)
   | (at_mapUpdate;refine mJ rfl _ _ _ rfl mb (jG A) rfl (H.out.many.upd (S:=[ca]) β ι) (hh:Int) (m-1) rfl rfl ω ω ?_;intro w2 hm2 hu2;(have q1:=hu2.cell (p:=⟨c,3,none⟩) (by simp;exact l1) ι)))
  go_ret
  have hm4:gN w2 mb (jG (jc A x Cl.z)):=gN.ext hm2 (fun q=>by
   rw[←HM.out q]
   by_cases e:q=(hh:Int)
   ·rw[if_pos e,if_pos e,if_neg (by have:=H1.out;omega)]
   ·rw[if_neg e,if_neg e])
  exact⟨rfl,FIN.out w2 hm4 hu2⟩
end Go.Proofs.YtklibcncmbofpaaGreat
