/-
  Lemmas for RankSorts: SameSl, Cells3, Fam. Conditions: those of each lemma.
-/
import Derived.Test.YtklibcncmbofpaaGreatP05
set_option maxHeartbeats 8000000
set_option maxRecDepth 10000
set_option linter.unusedVariables false
set_option linter.unusedSimpArgs false
namespace Go.Proofs.YtklibcncmbofpaaGreat
open Go Go.RowKit
theorem Mk (w:World) (F1 F2:List Nat) (va vb:Value) (za zb:List Int) (ha:fI w F1 va za) (hb:fI w F2 vb zb) :
  Calls Tryz.prog 20 #[va,vb] w fun e w'=>e=.returned (.bool (decide (za=zb)))∧∃k,w'=w.drewN k:=by
 obtain ⟨a,ca,rfl,hla,hca,hpa⟩:=ha;obtain ⟨b,cb,rfl,hlb,hcb,hpb⟩:=hb;have HA:=χ hpa;have HB:=χ hpb;clear hpa hpb
 by_cases hl:za.length=zb.length
 ·have hl':((za.length:Int) != (zb.length:Int))=false:=by rw [hl];simp
  generalize hlen:za.length=len at *
  have HLEN:=χ (ψ hlen hl);have hll:zb.length=len:=hl.symm;rw [hll] at *
  clear hl hll hlen hl'
  go_enter Tryz.func20,Tryz.ntmps20
  go_wp2
  go_loopw [13] (fun i wr=>∃k:Nat,k≤len∧i=.int .i64 (k:Int)∧(∀j,j<k→za.getD j 0=zb.getD j 0)∧∃d,wr=w.drewN d) (fun i _=>len-(intOf i).toNat)
  case atStart=>exact ⟨0,ω,rfl,fun j hj=>ω,0,rfl⟩
  case round=>
   obtain ⟨k,hk,rfl,he,d,rfl⟩:=hrel;have HE:=χ he;clear he
   by_cases hlt:k<len
   ·obtain ⟨ga,oa,rfl,_,_,c1⟩:=HA.out k (za.getD k 0) (by simp [φ,HLEN.out.1,hlt])
    obtain ⟨gb,ob,rfl,_,_,c2⟩:=HB.out k (zb.getD k 0) (by simp [φ,←HLEN.out.2,hlt])
    have HP:Hid (∀j,j<k+1→za.getD k 0=zb.getD k 0→za.getD j 0=zb.getD j 0):=fun j hj e=>by
     rcases (ω:j<k∨j=k) with h|h
     ·exact HE.out j h
     ·rw [h];exact e
    have HN:Hid (za.getD k 0≠zb.getD k 0→¬za=zb):=fun e1 e2=>e1 (by rw [e2])
    generalize za.getD k 0=x1 at *
    generalize zb.getD k 0=x2 at *
    by_cases hxx:x1=x2
    ·have b1:(x1 != x2)=false:=by simpa using hxx
     have HXX:=χ hxx;clear hxx;go_wp2
     go_quiet (fail)
     go_wp2
     go_roundw
     case rel=>exact ⟨k+1,ω,by go_num,fun j hj=>HP.out j hj HXX.out,_,rfl⟩
     case measure=>simp [intOf];omega
    ·have b1:(x1 != x2)=true:=by simpa using hxx
     have HXX:=χ (HN.out hxx);clear hxx;go_wp2
     go_quiet (fail)
     go_wp2;go_ret;exact ⟨aV (by simp [HXX.out]),_,by rw [World.drewN_drewN]⟩
   ·obtain rfl:k=len:=ω;have HE2:=χ (ML (by rw [HLEN.out.1,HLEN.out.2]) (fun j hj=>HE.out j (by rw [←HLEN.out.1];exact hj)))
    go_wp2;go_ret;exact ⟨aV (by simp [HE2.out]),_,rfl⟩
 ·have hl':((za.length:Int) != (zb.length:Int))=true:=ζ;have hne:=χ (BJ hl);clear hl
  go_enter Tryz.func20,Tryz.ntmps20
  go_wp2;go_ret;exact ⟨aV (by simp [hne.out]),0,rfl⟩
theorem lh (w:World) (F1 F2:List Nat) (va vb:Value) (z:List Int) (ha:fI w F1 va z) (hb:fI w F2 vb z) :
  Calls Tryz.prog 20 #[va,vb] w fun e w'=>e=.returned (.bool true)∧∃k,w'=w.drewN k:=
 (Mk w F1 F2 va vb z z ha hb).mono fun e w' ⟨he,h⟩=>⟨by rw [he,decide_eq_true rfl],h⟩
theorem ER {A:NS} {x:Nat} (hx:x<A.cs.length) (hz:0<(A.c x).i) (q:Int) :
  (if q=(A.c x).i then (if (cu A (A.c x).i:Int)-1=0 then none else some ((cu A (A.c x).i:Int)-1)) else gY A q)=gY (gD A x Cl.z) q:=by
 have:=kG A x Cl.z q hx;have hp:0<cu A (A.c x).i:=dG.2 ⟨x,hx,rfl,hz⟩;unfold gY
 by_cases e:q=(A.c x).i
 ·subst e;rw [if_pos rfl];rw [if_pos ⟨rfl,hz⟩,if_neg (show ¬ (Cl.z.i=(A.c x).i∧0<(A.c x).i) from fun h=>by have:(0:Int)=(A.c x).i:=h.1;omega)] at this
  by_cases h1:cu A (A.c x).i=1
  ·rw [if_pos ω,if_neg ω]
  ·rw [if_neg ω,if_pos ω]
   congr 1;omega
 ·rw [if_neg e];rw [if_neg (fun h=>e h.1.symm),if_neg (show ¬ (Cl.z.i=q∧0<q) from fun h=>by have:(0:Int)=q:=h.1;omega)] at this
  simp only [Nat.add_zero] at this;rw [this]
theorem fw {w:World} {c st:Nat} {F:List Nat} {A:NS} (h:az w c F A st) (x:Nat) (hx:bD A x=true) :
  Calls Tryz.prog 151 #[.pointer (some ⟨c,0,none⟩),.int .i64 (x:Int)] w fun e w'=>e=.returned (.bool true)∧az w' c F (aL A x) st∧aa F w w':=by
 have k:=bZ h x hx;obtain ⟨hx1,hx2⟩:=(af _ _).1 hx;have hrng:=h.ok.nat x hx1;have hA1:=h.ok.h1;have hA2:=h.ok.c1;obtain ⟨hh,hhe⟩:∃r:Nat,(A.c x).i=r:=⟨(A.c x).i.toNat,ω⟩
 have hp:0<cu A (hh:Int):=dG.2 ⟨x,hx1,hhe,ω⟩;have hlen:=zV h.ok (hh:Int);have hM:=fun q=>ER hx1 hx2 q
 have ok':=wT h.ok x;have e:aL A (x:Int)=gD A x Cl.z:=by unfold aL;rw [if_pos hx];simp
 rw [hhe] at k hM hrng;have HE:=χ e;have HM:=χ hM;have hh1:1≤hh:=ω;have HO:=χ ok';obtain ⟨len,hle⟩:∃n,n=A.cs.length:=⟨_,rfl⟩
 have HL:=χ hle;clear h hx hM ok' e hle hx2 hhe;have hx1:x<len:=by have:=HL.out;omega
 obtain ⟨m,hm⟩:∃m:Int,m=(cu A (hh:Int):Int):=⟨_,rfl⟩
 rw [←hm] at HM;have HZ:=χ hm;have hm1:0<m:=ω;have hm2:m≤65536:=ω;clear hm hp hlen
 go_enter Tryz.func151,Tryz.ntmps151
 go_wp2_with fail
 refine k.mono ?_;rintro e w1 ⟨rfl,hC,hu⟩;have hsz:=hu.size;have hlt:=hC.lt;obtain ⟨ca,nm,mb,g,cap,l,rt,dp,raw,h,rfl⟩:=hC;have c1:=h.c1;have c3:=h.c3;rw [←HL.out] at c1;have d0:=h.row.cell (x*3) (by rw [←HL.out];omega)
 have d1:=h.row.cell (x*3+1) (by rw [←HL.out];omega)
 have d2:=h.row.cell (x*3+2) (by rw [←HL.out];omega)
 have f0:=h.row.free (x*3);have f1:=h.row.free (x*3+1);have f2:=h.row.free (x*3+2);have l1:=hlt c σ;have l2:=hlt ca σ;have l3:=hlt mb σ;have hs:=h.sep;have H:=χ h;have HU:=χ hu;clear h hlt k hu;have fin:∀ (w2:World),dZ w2 mb (gY (gD A x Cl.z))→aa [mb] (((w1.setCell ⟨ca,x*3,none⟩ (.int .i64 0)).setCell ⟨ca,x*3+1,none⟩ (.int .i64 0)).setCell ⟨ca,x*3+2,none⟩ (.int .u64 0)) w2→
   az w2 c [c,ca,nm,mb,g] (aL A x) st∧aa [c,ca,nm,mb,g] w w2:=fun w2 hm2 hu2=>by
  have hu3:aa [ca] w1 (((w1.setCell ⟨ca,x*3,none⟩ (.int .i64 0)).setCell ⟨ca,x*3+1,none⟩ (.int .i64 0)).setCell ⟨ca,x*3+2,none⟩ (.int .u64 0)):=β;have hr3:=(O9 (i:=x) H.out.row Cl.z).upd hu2 ι;have hu4:aa [ca,mb] w1 w2:=(hu3.mono ι).joined hu2 (fun y hy=>Or.inl (by simp at hy;simp [hy]))
  refine ⟨⟨ca,nm,mb,g,cap,l,rt,dp,fun y=>if y=x then Cl.z else raw y,?_,rfl⟩,HU.out.trans (hu4.mono ι)⟩
  have ok':=HO.out;rw [HE.out] at ok' ⊢;exact H.out.turn hu4 hr3 hm2 ok' (dI _ _ _) rfl (vX H.out.rel (by rw [←HL.out];exact hx1) (Or.inl ⟨rfl,rfl⟩))
 have FIN:=χ fin;clear fin
 by_cases h1:m=1
 ·have hb:(m-1 == 0)=true:=ζ;have H1:=χ h1;clear h1
  go_wp2_with (first
   | (at_lookup;refine jc (o:=⟨some 27,_,_,_,_,_⟩) (by rfl) _ _ (by rfl) mb (gY A) (by rfl) (H.out.many.upd (S:=[ca]) β ι) (hh:Int) (by rfl) ω m ((pW _ _).trans HZ.out.symm) ?_)
   | (at_lookup;refine jc (o:=⟨some 34,_,_,_,_,_⟩) (by rfl) _ _ (by rfl) mb _ (by rfl) hm2 (hh:Int) (by rfl) ω (m-1) σ ?_)
   | (at_mapUpdate;refine jI rfl _ _ _ rfl mb (gY A) rfl (H.out.many.upd (S:=[ca]) β ι) (hh:Int) (m-1) rfl rfl ω ω ?_;intro w2 hm2 hu2;(have q1:=hu2.cell (p:=⟨c,3,none⟩) (by simp;exact l1) ι))
   | (at_delete;refine ma rfl _ _ rfl mb _ rfl hm2 (hh:Int) rfl ω ?_;intro w3 hm3 hu3))
  go_ret
  have hm4:dZ w3 mb (gY (gD A x Cl.z)):=dZ.ext hm3 (fun q=>by
   rw [←HM.out q]
   by_cases e:q=(hh:Int)
   ·rw [if_pos e,if_pos e,if_pos (by have:=H1.out;omega)]
   ·rw [if_neg e,if_neg e,if_neg e])
  exact ⟨rfl,FIN.out w3 hm4 (hu2.trans hu3)⟩
 ·have hb:(m-1 == 0)=false:=ζ;have H1:=χ h1;clear h1
  go_wp2_with (first
   | (at_lookup;refine jc (o:=⟨some 27,_,_,_,_,_⟩) (by rfl) _ _ (by rfl) mb (gY A) (by rfl) (H.out.many.upd (S:=[ca]) β ι) (hh:Int) (by rfl) ω m ((pW _ _).trans HZ.out.symm) ?_)
   | (at_lookup;refine jc (o:=⟨some 34,_,_,_,_,_⟩) (by rfl) _ _ (by rfl) mb _ (by rfl) hm2 (hh:Int) (by rfl) ω (m-1) σ ?_)
   | (at_mapUpdate;refine jI rfl _ _ _ rfl mb (gY A) rfl (H.out.many.upd (S:=[ca]) β ι) (hh:Int) (m-1) rfl rfl ω ω ?_;intro w2 hm2 hu2;(have q1:=hu2.cell (p:=⟨c,3,none⟩) (by simp;exact l1) ι)))
  go_ret
  have hm4:dZ w2 mb (gY (gD A x Cl.z)):=dZ.ext hm2 (fun q=>by
   rw [←HM.out q]
   by_cases e:q=(hh:Int)
   ·rw [if_pos e,if_pos e,if_neg (by have:=H1.out;omega)]
   ·rw [if_neg e,if_neg e])
  exact ⟨rfl,FIN.out w2 hm4 hu2⟩
structure PN where
 at_:World→Nat→List Nat→List Nat→Prop
 upd:∀ {w w':World} {p:Nat} {G S L:List Nat},at_ w p G L→aa S w w'→(∀z,z∈S→z∉G)→at_ w' p G L
 lt:∀ {w:World} {p:Nat} {G L:List Nat},at_ w p G L→∀z,z∈G→z<w.heap.size
def ym (o:Option Nat):Value:=.pointer (o.map fun b=>⟨b,0,none⟩)
def wQ (f:Nat→Option Nat) (m:Nat):List Value:=(List.range m).map fun h=>ym (f h)
theorem IG {f:Nat→Option Nat} {m j:Nat} (h:j<m):(wQ f m)[j]?=some (ym (f j)):=by unfold wQ;simp [h]
theorem Eb (f:Nat→Option Nat) (m:Nat) (o:Option Nat):wQ f m++[ym o]=wQ (fun h=>if h=m then o else f h) (m+1):=by
 unfold wQ;rw [List.range_succ,List.map_append]
 congr 1
 ·apply List.map_congr_left;intro a ha;have:=List.mem_range.1 ha
  show ym (f a)=ym (if a=m then o else f a)
  rw [if_neg ω]
 ·simp
def iE {α:Type} (f:Nat→α) (h:Nat) (x:α):Nat→α:=fun k=>if k=h then x else f k
theorem bW {α:Type} (f:Nat→α) (h:Nat) (x:α):iE f h x h=x:=by unfold iE;rw [if_pos rfl]
theorem bq {α:Type} (f:Nat→α) {h k:Nat} (x:α) (e:k≠h):iE f h x k=f k:=by unfold iE;rw [if_neg e]
structure rR (K:PN) (ety:TypeId) (w:World) (gr cr m:Nat) (has:Nat→Bool) (Z:List Nat) (ptr:Nat→Option Nat) (G L:Nat→List Nat):Prop where
 rows:w.ownsRow 0 ety 1 (.slice (some ⟨gr,0,none⟩) m cr) m (wQ ptr m)
 row:∀h,has h=true→∃rp,ptr h=some rp∧K.at_ w rp (G h) (L h)
 vE:∀h,has h=true→∀z,z∈G h→z∈Z
 Np:∀h k,has h=true→has k=true→h≠k→∀z,z∈G h→z∉G k
 D9:∀z,z∈Z→z<w.heap.size
 L8:gr∉Z
section
variable {K:PN} {ety:TypeId} {w w':World} {gr cr m:Nat} {has:Nat→Bool} {Z:List Nat} {ptr:Nat→Option Nat} {G L:Nat→List Nat}
theorem rR.lt (h:rR K ety w gr cr m has Z ptr G L):gr<w.heap.size:=(h.rows.lt gr rfl).2
theorem rR.upd {S:List Nat} (h:rR K ety w gr cr m has Z ptr G L) (hu:aa S w w') (hS:∀z,z∈S→z≠gr∧z∉Z):rR K ety w' gr cr m has Z ptr G L:=
 ⟨ay h.rows hu (fun k hk hm=>by cases hk;exact (hS _ hm).1 rfl),fun g hg=>by
  obtain ⟨rp,e,hr⟩:=h.row g hg
  exact ⟨rp,e,K.upd hr hu (fun z hz hm=>(hS z hz).2 (h.vE g hg z hm))⟩,h.vE,h.Np,fun z hz=>Nat.lt_of_lt_of_le (h.D9 z hz) hu.size,h.L8⟩
theorem rR.cell (h:rR K ety w gr cr m has Z ptr G L) {g rp:Nat} (hg:g<m) (hp:ptr g=some rp):w.cell? ⟨gr,g,none⟩=some (.pointer (some ⟨rp,0,none⟩)):=by
 rw [h.rows.cellAt g ω,IG hg,hp];rfl
theorem rR.one {S G' L':List Nat} {g rp:Nat} (h:rR K ety w gr cr m has Z ptr G L) (hg:has g=true) (hp:ptr g=some rp) (hu:aa S w w') (hS:∀z,z∈S→z∈G g∨(z≠gr∧z∉Z)) (hr:K.at_ w' rp G' L') (hG:∀z,z∈G'→z∈G g∨w.heap.size≤z) :
  rR K ety w' gr cr m has (Z++G') ptr (iE G g G') (iE L g L'):=by
 have hgl:=h.lt;have hgr:∀z,z∈S→z≠gr:=fun z hz e=>by
  rcases hS z hz with h1|h1
  ·exact h.L8 (by rw [←e];exact h.vE g hg z h1)
  ·exact h1.1 e
 have hoth:∀k,has k=true→k≠g→∀z,z∈S→z∉G k:=fun k hk hne z hz hm=>by
  rcases hS z hz with h1|h1
  ·exact h.Np g k hg hk (fun e=>hne e.symm) z h1 hm
  ·exact h1.2 (h.vE k hk z hm)
 refine ⟨ay h.rows hu (fun k hk hm=>by cases hk;exact hgr _ hm rfl),fun k hk=>?_,fun k hk z hz=>?_,fun k j hk hj hne z hz=>?_,fun z hz=>?_,fun hm=>?_⟩
 ·by_cases e:k=g
  ·subst e;rw [bW,bW];exact ⟨rp,hp,hr⟩
  ·rw [bq _ _ e,bq _ _ e];obtain ⟨q,e2,hq⟩:=h.row k hk;exact ⟨q,e2,K.upd hq hu (hoth k hk e)⟩
 ·by_cases e:k=g
  ·subst e;rw [bW] at hz;exact List.mem_append.2 (Or.inr hz)
  ·rw [bq _ _ e] at hz;exact List.mem_append.2 (Or.inl (h.vE k hk z hz))
 ·by_cases e:k=g
  ·subst e;rw [bW] at hz;rw [bq _ _ (fun e=>hne e.symm)]
   rcases hG z hz with h1|h1
   ·exact h.Np k j hk hj hne z h1
   ·exact fun hm=>by have:=h.D9 z (h.vE j hj z hm);omega
  ·rw [bq _ _ e] at hz
   by_cases e2:j=g
   ·subst e2;rw [bW];intro hm;rcases hG z hm with h1|h1
    ·exact h.Np k j hk hj hne z hz h1
    ·have:=h.D9 z (h.vE k hk z hz);omega
   ·rw [bq _ _ e2];exact h.Np k j hk hj hne z hz
 ·rcases List.mem_append.1 hz with h1|h1
  ·exact Nat.lt_of_lt_of_le (h.D9 z h1) hu.size
  ·exact K.lt hr z h1
 ·rcases List.mem_append.1 hm with h1|h1
  ·exact h.L8 h1
  ·rcases hG gr h1 with h2|h2
   ·exact h.L8 (h.vE g hg gr h2)
   ·omega
theorem rR.snoc {S G' L':List Nat} {rp gr' cr':Nat} (h:rR K ety w gr cr m has Z ptr G L) (hm:has m=false) (hu:aa S w w') (hS:∀z,z∈S→z∉Z) (hr:K.at_ w' rp G' L') (hG:∀z,z∈G'→w.heap.size≤z) (hg1:gr'∉Z) (hg2:gr'∉G')
  (hrow:w'.ownsRow 0 ety 1 (.slice (some ⟨gr',0,none⟩) (m+1) cr') (m+1) (wQ ptr m++[ym (some rp)])) :
  rR K ety w' gr' cr' (m+1) (fun h=>has h || h == m) (Z++G') (iE ptr m (some rp)) (iE G m G') (iE L m L'):=by
 have hcase:∀k,(has k || k == m)=true→k=m∨(k≠m∧has k=true):=fun k hk=>by
  by_cases e:k=m
  ·exact Or.inl e
  ·right;simp [e] at hk;exact ⟨e,hk⟩
 refine ⟨by rw [Eb] at hrow;exact hrow,fun k hk=>?_,fun k hk z hz=>?_,fun k j hk hj hne z hz=>?_,fun z hz=>?_,fun hmm=>?_⟩
 ·rcases hcase k hk with rfl|⟨e,hk'⟩
  ·rw [bW,bW,bW];exact ⟨rp,rfl,hr⟩
  ·rw [bq _ _ e,bq _ _ e,bq _ _ e];obtain ⟨q,e2,hq⟩:=h.row k hk';exact ⟨q,e2,K.upd hq hu (fun z hz hm=>hS z hz (h.vE k hk' z hm))⟩
 ·rcases hcase k hk with rfl|⟨e,hk'⟩
  ·rw [bW] at hz;exact List.mem_append.2 (Or.inr hz)
  ·rw [bq _ _ e] at hz;exact List.mem_append.2 (Or.inl (h.vE k hk' z hz))
 ·rcases hcase k hk with rfl|⟨e,hk'⟩
  ·rcases hcase j hj with rfl|⟨e2,hj'⟩
   ·exact absurd rfl hne
   ·rw [bW] at hz;rw [bq _ _ e2];exact fun hm=>by have:=h.D9 z (h.vE j hj' z hm);have:=hG z hz;omega
  ·rw [bq _ _ e] at hz;rcases hcase j hj with rfl|⟨e2,hj'⟩
   ·rw [bW];exact fun hm=>by have:=h.D9 z (h.vE k hk' z hz);have:=hG z hm;omega
   ·rw [bq _ _ e2];exact h.Np k j hk' hj' hne z hz
 ·rcases List.mem_append.1 hz with h1|h1
  ·exact Nat.lt_of_lt_of_le (h.D9 z h1) hu.size
  ·exact K.lt hr z h1
 ·rcases List.mem_append.1 hmm with h1|h1
  ·exact hg1 h1
  ·exact hg2 h1
end
end Go.Proofs.YtklibcncmbofpaaGreat
