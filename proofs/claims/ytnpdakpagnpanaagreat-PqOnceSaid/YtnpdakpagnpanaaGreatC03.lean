/-
  Lemmas for PqAlike: RefN2, RefN5, Fam, Cells3. Conditions: those of each lemma.
-/
import Derived.Test.YtnpdakpagnpanaaGreatC02
set_option linter.all false
set_option maxHeartbeats 8000000
set_option maxRecDepth 10000
namespace Go.Proofs.YtnpdakpagnpanaaGreat
open Tryz
open Go Go.RowKit
theorem Ir:(prog.info? 115).map (λi=>(i.zero,i.size,i.bytes))=some (some (.agg #[.int .i64 0,.int .i64 0,.int .u64 0]),3,24):=by kernel_rfl
section
variable{w:World}{F:List Nat}{v:Value}{A:NS}
theorem Hz(n j:Nat)(hj:j<n*3):(madeCells (Value.agg #[Value.int .i64 0,.int .i64 0,.int .u64 0]).cells (n*3)).toList.getD j undef=if j % 3=0 then .int .i64 0 else if j % 3=1 then .int .i64 0 else .int .u64 0:=by
 show(madeCells #[Value.int .i64 0,.int .i64 0,.int .u64 0] (n*3)).toList.getD j undef=_
 rw[φ,ε (by simp[size_madeCells];omega)];simp only[Option.getD_some,madeCells,Array.getElem_toList,Array.getElem_map,Array.getElem_range];rcases(ω:j % 3=0\/j % 3=1\/j % 3=2) with e|e|e<;>simp[e]
theorem Jg(n:Nat)(w:World)(F:List Nat)(hF:∀x,x∈F->x<w.heap.size)(hn:n<=65536) :
  Calls prog 37 #[.int .i64 (n:Int)] w λe w'=>∃v',e=.returned v'/\ac0 w' F v' (NS.new n)/\ae [] w w':=by
 go_enter func37,ntmps37
 go_wp2_with (at_make;refine wpList_make_row rfl _ 34 rfl 115 (.agg #[.int .i64 0,.int .i64 0,.int .u64 0]) 3 24 underlying34 Ir n rfl ω μ ?_;intro w2 hr2 hu2;(have p0:w2.cell? ⟨w.heap.size,0,none⟩=some (.slice none 0 0):=hu2.was γ);(have p1:w2.cell? ⟨w.heap.size,1,none⟩=some (.slice none 0 0):=hu2.was γ);(have p2:w2.frozen? ⟨w.heap.size,0,none⟩=false:=hu2.aM (v:=.slice none 0 0) γ σ γ);(have p3:w2.frozen? ⟨w.heap.size,1,none⟩=false:=hu2.aM (v:=.slice none 0 0) γ σ γ))
 have hsz:=hu2.size;have hlt:=hr2.lt;have hs1:(NS.new n).cs.length=n:=by simp[NS.new]
 have hwb:ae [] w w2:=ae.trans β hu2;have hu:ae [] w ((w2.setCell ⟨w.heap.size,0,none⟩ (.slice (some ⟨w.heap.size+1,0,none⟩) 1 1)).setCell ⟨w.heap.size,1,none⟩ (.slice (some ⟨w.heap.size+1+1,0,none⟩) n n)):=β;have hu3:ae [w.heap.size] w2 ((w2.setCell ⟨w.heap.size,0,none⟩ (.slice (some ⟨w.heap.size+1,0,none⟩) 1 1)).setCell ⟨w.heap.size,1,none⟩ (.slice (some ⟨w.heap.size+1+1,0,none⟩) n n)):=β;have hc0:w2.cell? ⟨w.heap.size+1,0,none⟩=some (.bool false):=hu2.was γ;simp at hsz hlt;simp only[Κ] at hr2
 have hrow:∀j,j<n*3->w2.cell? ⟨w.heap.size+1+1,j,none⟩=some (if j % 3=0 then .int .i64 0 else if j % 3=1 then .int .i64 0 else .int .u64 0):=λj hj=>by
  rw[hr2.cell j hj];exact congrArg some (Hz n j hj)
 refine bodyPost_ret (v:=.agg #[.slice (some ⟨w.heap.size+1,0,none⟩) 1 1,.slice (some ⟨w.heap.size+1+1,0,none⟩) n n]) (by simp[results,results37,go_sem,p0,p1]) rfl ⟨_,rfl,⟨w.heap.size+1,0,1,w.heap.size+1+1,0,n,?_,?_⟩,hu⟩
 ·unfold Yg;rw[hs1];rfl
 ·have cw:∀j,j<n*3->((w2.setCell ⟨w.heap.size,0,none⟩ (.slice (some ⟨w.heap.size+1,0,none⟩) 1 1)).setCell ⟨w.heap.size,1,none⟩ (.slice (some ⟨w.heap.size+1+1,0,none⟩) n n)).cell? ⟨w.heap.size+1+1,j,none⟩=some (if j % 3=0 then .int .i64 0 else if j % 3=1 then .int .i64 0 else .int .u64 0):=λj hj=>hu3.kept (hrow j hj) ι;refine⟨⟨Θ _,by show(1:Nat)<=_;omega⟩,⟨by rw[hs1];exact Θ _,ω⟩,⟨Ψ ω hu3.size,Ψ ω hu3.size⟩,⟨λm=>by have:=hF _ m;omega,λm=>by have:=hF _ m;omega⟩,λj hj=>?_,λx hx=>?_,λx hx=>?_,λx hx=>?_⟩
  ·have hj0:j=0:=by simp[NS.new] at hj;exact hj
   subst hj0;exact hu3.kept hc0 ι
  ·rw[hs1] at hx;rw[NS.tV,ϔ,cw (x*3) ω,Δ ω];rfl
  ·rw[hs1] at hx;rw[NS.tV,ϔ,cw (x*3+1) ω,Γ ω,Δ ω];rfl
  ·rw[hs1] at hx;rw[NS.tV,ϔ,cw (x*3+2) ω,Γ ω,Γ ω];rfl
end
structure RwK where
 at_:World->Nat->List Nat->List Nat->Prop
 upd:∀{w w':World} {p:Nat} {G S L:List Nat},at_ w p G L->ae S w w'->(∀z,z∈S->z∉G)->at_ w' p G L
 lt:∀{w:World} {p:Nat} {G L:List Nat},at_ w p G L->∀z,z∈G->z<w.heap.size
def vW(o:Option Nat):Value:=.pointer (o.map λb=>⟨b,0,none⟩)
def lM(f:Nat->Option Nat)(m:Nat):List Value:=(List.range m).map λh=>vW (f h)
theorem yS(f:Nat->Option Nat)(m:Nat):(lM f m).length=m:=by unfold lM;simp
theorem yz{f:Nat->Option Nat}{m j:Nat}(h:j<m):(lM f m)[j]?=some (vW (f j)):=by unfold lM;simp[h]
theorem KQ(f:Nat->Option Nat)(m:Nat)(o:Option Nat):lM f m++[vW o]=lM (λh=>if h=m then o else f h) (m+1):=by
 unfold lM;rw[List.range_succ,List.map_append]
 congr 1
 ·apply List.map_congr_left;intro a ha;have:=List.mem_range.1 ha
  show vW (f a)=vW (if a=m then o else f a)
  rw[Γ ω]
 ·simp
def fG{α:Type}(f:Nat->α)(h:Nat)(x:α):Nat->α:=λk=>if k=h then x else f k
theorem bO{α:Type}(f:Nat->α)(h:Nat)(x:α):fG f h x h=x:=by unfold fG;rw[Δ rfl]
theorem bf{α:Type}(f:Nat->α){h k:Nat}(x:α)(e:k≠h):fG f h x k=f k:=by unfold fG;rw[Γ e]
structure sI(K:RwK)(ety:TypeId)(w:World)(gr cr m:Nat)(has:Nat->Bool)(Z:List Nat)(ptr:Nat->Option Nat)(G L:Nat->List Nat):Prop where
 rows:w.ownsRow 0 ety 1 (.slice (some ⟨gr,0,none⟩) m cr) m (lM ptr m)
 row:∀h,has h=true->∃rp,ptr h=some rp/\K.at_ w rp (G h) (L h)
 sJ:∀h,has h=true->∀z,z∈G h->z∈Z
 Qx:∀h k,has h=true->has k=true->h≠k->∀z,z∈G h->z∉G k
 Ie:∀z,z∈Z->z<w.heap.size
 Gp:gr∉Z
section
variable{K:RwK}{ety:TypeId}{w w':World}{gr cr m:Nat}{has:Nat->Bool}{Z:List Nat}{ptr:Nat->Option Nat}{G L:Nat->List Nat}
theorem sI.lt(h:sI K ety w gr cr m has Z ptr G L):gr<w.heap.size:=(h.rows.lt gr rfl).2
theorem sI.upd{S:List Nat}(h:sI K ety w gr cr m has Z ptr G L)(hu:ae S w w')(hS:∀z,z∈S->z≠gr/\z∉Z):sI K ety w' gr cr m has Z ptr G L:=
 ⟨ak h.rows hu (λk hk hm=>by cases hk;exact (hS _ hm).1 rfl),λg hg=>by
  obtain⟨rp,e,hr⟩:=h.row g hg
  exact ⟨rp,e,K.upd hr hu (λz hz hm=>(hS z hz).2 (h.sJ g hg z hm))⟩,h.sJ,h.Qx,λz hz=>Ψ (h.Ie z hz) hu.size,h.Gp⟩
theorem sI.cell(h:sI K ety w gr cr m has Z ptr G L){g rp:Nat}(hg:g<m)(hp:ptr g=some rp):w.cell? ⟨gr,g,none⟩=some (.pointer (some ⟨rp,0,none⟩)):=by
 rw[h.rows.cellAt g ω,yz hg,hp];rfl
theorem sI.one{S G' L':List Nat}{g rp:Nat}(h:sI K ety w gr cr m has Z ptr G L)(hg:has g=true)(hp:ptr g=some rp)(hu:ae S w w')(hS:∀z,z∈S->z∈G g\/(z≠gr/\z∉Z))(hr:K.at_ w' rp G' L')(hG:∀z,z∈G'->z∈G g\/w.heap.size<=z) :
  sI K ety w' gr cr m has (Z++G') ptr (fG G g G') (fG L g L'):=by
 have hgl:=h.lt;have hgr:∀z,z∈S->z≠gr:=λz hz e=>by
  rcases hS z hz with h1|h1
  ·exact h.Gp (by rw[←e];exact h.sJ g hg z h1)
  ·exact h1.1 e
 have hoth:∀k,has k=true->k≠g->∀z,z∈S->z∉G k:=λk hk hne z hz hm=>by
  rcases hS z hz with h1|h1
  ·exact h.Qx g k hg hk (λe=>hne e.symm) z h1 hm
  ·exact h1.2 (h.sJ k hk z hm)
 refine⟨ak h.rows hu (λk hk hm=>by cases hk;exact hgr _ hm rfl),λk hk=>?_,λk hk z hz=>?_,λk j hk hj hne z hz=>?_,λz hz=>?_,λhm=>?_⟩
 ·by_cases e:k=g
  ·subst e;rw[bO,bO];exact⟨rp,hp,hr⟩
  ·rw[bf _ _ e,bf _ _ e];obtain⟨q,e2,hq⟩:=h.row k hk;exact⟨q,e2,K.upd hq hu (hoth k hk e)⟩
 ·by_cases e:k=g
  ·subst e;rw[bO] at hz;exact τ.2 (Β hz)
  ·rw[bf _ _ e] at hz;exact τ.2 (Α (h.sJ k hk z hz))
 ·by_cases e:k=g
  ·subst e;rw[bO] at hz;rw[bf _ _ (λe=>hne e.symm)];rcases hG z hz with h1|h1
   ·exact h.Qx k j hk hj hne z h1
   ·exact λhm=>by have:=h.Ie z (h.sJ j hj z hm);omega
  ·rw[bf _ _ e] at hz
   by_cases e2:j=g
   ·subst e2;rw[bO];intro hm;rcases hG z hm with h1|h1
    ·exact h.Qx k j hk hj hne z hz h1
    ·have:=h.Ie z (h.sJ k hk z hz);omega
   ·rw[bf _ _ e2];exact h.Qx k j hk hj hne z hz
 ·rcases τ.1 hz with h1|h1
  ·exact Ψ (h.Ie z h1) hu.size
  ·exact K.lt hr z h1
 ·rcases τ.1 hm with h1|h1
  ·exact h.Gp h1
  ·rcases hG gr h1 with h2|h2
   ·exact h.Gp (h.sJ g hg gr h2)
   ·omega
theorem sI.snoc{S G' L':List Nat}{rp gr' cr':Nat}(h:sI K ety w gr cr m has Z ptr G L)(hm:has m=false)(hu:ae S w w')(hS:∀z,z∈S->z∉Z)(hr:K.at_ w' rp G' L')(hG:∀z,z∈G'->w.heap.size<=z)(hg1:gr'∉Z)(hg2:gr'∉G')
  (hrow:w'.ownsRow 0 ety 1 (.slice (some ⟨gr',0,none⟩) (m+1) cr') (m+1) (lM ptr m++[vW (some rp)])) :
  sI K ety w' gr' cr' (m+1) (λh=>has h || h == m) (Z++G') (fG ptr m (some rp)) (fG G m G') (fG L m L'):=by
 have hcase:∀k,(has k || k == m)=true->k=m\/(k≠m/\has k=true):=λk hk=>by
  by_cases e:k=m
  ·exact Α e
  ·right;simp[e] at hk;exact⟨e,hk⟩
 refine⟨by rw[KQ] at hrow;exact hrow,λk hk=>?_,λk hk z hz=>?_,λk j hk hj hne z hz=>?_,λz hz=>?_,λhmm=>?_⟩
 ·rcases hcase k hk with rfl|⟨e,hk'⟩
  ·rw[bO,bO,bO];exact⟨rp,rfl,hr⟩
  ·rw[bf _ _ e,bf _ _ e,bf _ _ e];obtain⟨q,e2,hq⟩:=h.row k hk';exact⟨q,e2,K.upd hq hu (λz hz hm=>hS z hz (h.sJ k hk' z hm))⟩
 ·rcases hcase k hk with rfl|⟨e,hk'⟩
  ·rw[bO] at hz;exact τ.2 (Β hz)
  ·rw[bf _ _ e] at hz;exact τ.2 (Α (h.sJ k hk' z hz))
 ·rcases hcase k hk with rfl|⟨e,hk'⟩
  ·rcases hcase j hj with rfl|⟨e2,hj'⟩
   ·exact absurd rfl hne
   ·rw[bO] at hz;rw[bf _ _ e2];exact λhm=>by have:=h.Ie z (h.sJ j hj' z hm);have:=hG z hz;omega
  ·rw[bf _ _ e] at hz;rcases hcase j hj with rfl|⟨e2,hj'⟩
   ·rw[bO];exact λhm=>by have:=h.Ie z (h.sJ k hk' z hz);have:=hG z hm;omega
   ·rw[bf _ _ e2];exact h.Qx k j hk' hj' hne z hz
 ·rcases τ.1 hz with h1|h1
  ·exact Ψ (h.Ie z h1) hu.size
  ·exact K.lt hr z h1
 ·rcases τ.1 hmm with h1|h1
  ·exact hg1 h1
  ·exact hg2 h1
end
theorem KT{A:NS}{x:Nat}(hx:x<A.cs.length)(hz:0<(A.c x).i)(q:Int) :
  (if q=(A.c x).i then(if(dD A (A.c x).i:Int)-1=0 then none else some ((dD A (A.c x).i:Int)-1)) else fI A q)=fI (iW A x Cl.z) q:=by
 have:=nT A x Cl.z q hx;have hp:0<dD A (A.c x).i:=fM.2 ⟨x,hx,rfl,hz⟩;unfold fI
 by_cases e:q=(A.c x).i
 ·subst e;rw[Δ rfl];rw[Δ ⟨rfl,hz⟩,Γ (show ¬(Cl.z.i=(A.c x).i/\0<(A.c x).i) from λh=>by have:(0:Int)=(A.c x).i:=h.1;omega)] at this
  by_cases h1:dD A (A.c x).i=1
  ·rw[Δ ω,Γ ω]
  ·rw[Γ ω,Δ ω]
   congr 1;omega
 ·rw[Γ e];rw[Γ (λh=>e h.1.symm),Γ (show ¬(Cl.z.i=q/\0<q) from λh=>by have:(0:Int)=q:=h.1;omega)] at this;simp only[ϕ] at this;rw[this]
theorem gT{w:World}{c st:Nat}{F:List Nat}{A:NS}(h:aF w c F A st)(x:Nat)(hx:bY A x=true) :
  Calls prog 134 #[.pointer (some ⟨c,0,none⟩),.int .i64 (x:Int)] w λe w'=>e=.returned (.bool true)/\aF w' c F (bg A x) st/\ae F w w':=by
 have k:=bV h x hx;obtain⟨hx1,hx2⟩:=(aj _ _).1 hx;have hrng:=h.ok.nat x hx1;have hA1:=h.ok.h1;obtain⟨hh,hhe⟩:∃r:Nat,(A.c x).i=r:=⟨(A.c x).i.toNat,ω⟩;have hp:0<dD A (hh:Int):=fM.2 ⟨x,hx1,hhe,ω⟩;have hlen:=zM h.ok (hh:Int);have hM:=λq=>KT hx1 hx2 q;have ok':=Ta h.ok x;have e:bg A (x:Int)=iW A x Cl.z:=by unfold bg;rw[Δ hx];simp
 rw[hhe] at k hM hrng;have HE:=χ e;have HM:=χ hM;have Cj:1<=hh:=ω;have HO:=χ ok';obtain⟨len,hle⟩:∃n,n=A.cs.length:=⟨_,rfl⟩;have HL:=χ hle;clear h hx hM ok' e hle hx2 hhe;have hx1:x<len:=by have:=HL.out;omega
 obtain⟨m,hm⟩:∃m:Int,m=(dD A (hh:Int):Int):=⟨_,rfl⟩;rw[←hm] at HM;have HZ:=χ hm;have hm1:0<m:=ω;have hm2:m<=65536:=ω;clear hm hp hlen
 go_enter func134,ntmps134
 go_wp2_with fail
 refine k.mono ?_;rintro e w1 ⟨rfl,hC,hu⟩;have hlt:=hC.lt;obtain⟨ca,nm,mb,g,cap,l,rt,dp,raw,h,rfl⟩:=hC;have c1:=h.c1;have c3:=h.c3;rw[←HL.out] at c1;have d0:=h.row.cell (x*3) (by rw[←HL.out];omega);have d1:=h.row.cell (x*3+1) (by rw[←HL.out];omega);have d2:=h.row.cell (x*3+2) (by rw[←HL.out];omega);have f0:=h.row.free (x*3);have f1:=h.row.free (x*3+1);have f2:=h.row.free (x*3+2);have l1:=hlt c σ;have hs:=h.sep;have H:=χ h;have HU:=χ hu;clear h hlt k hu
 have fin:∀(w2:World),fJ w2 mb (fI (iW A x Cl.z))->ae [mb] (((w1.setCell ⟨ca,x*3,none⟩ (.int .i64 0)).setCell ⟨ca,x*3+1,none⟩ (.int .i64 0)).setCell ⟨ca,x*3+2,none⟩ (.int .u64 0)) w2->
   aF w2 c [c,ca,nm,mb,g] (bg A x) st/\ae [c,ca,nm,mb,g] w w2:=λw2 hm2 hu2=>by
  have hu3:ae [ca] w1 (((w1.setCell ⟨ca,x*3,none⟩ (.int .i64 0)).setCell ⟨ca,x*3+1,none⟩ (.int .i64 0)).setCell ⟨ca,x*3+2,none⟩ (.int .u64 0)):=β;have hr3:=(row3 (i:=x) H.out.row Cl.z).upd hu2 ι;have fU:ae [ca,mb] w1 w2:=(hu3.mono ι).joined hu2 (λy hy=>Α (by simp at hy;simp[hy]));refine⟨⟨ca,nm,mb,g,cap,l,rt,dp,λy=>if y=x then Cl.z else raw y,?_,rfl⟩,HU.out.trans (fU.mono ι)⟩;have ok':=HO.out;rw[HE.out] at ok' ⊢;exact H.out.turn fU hr3 hm2 ok' (fO _ _ _) rfl (Aa H.out.rel (by rw[←HL.out];exact hx1) (Α ⟨rfl,rfl⟩))
 have FIN:=χ fin;clear fin
 by_cases h1:m=1
 ·have hb:(m-1 == 0)=true:=ζ;have H1:=χ h1;clear h1
  go_wp2_with (first
   |(at_lookup;refine il (o:=⟨some 27,_,_,_,_,_⟩) (by rfl) _ _ (by rfl) mb (fI A) (by rfl) (H.out.many.upd (S:=[ca]) β ι) (hh:Int) (by rfl) ω m ((lN _ _).trans HZ.out.symm) ?_)
   |(at_lookup;refine il (o:=⟨some 34,_,_,_,_,_⟩) (by rfl) _ _ (by rfl) mb _ (by rfl) hm2 (hh:Int) (by rfl) ω (m-1) σ ?_)
   |(at_mapUpdate;refine kG rfl _ _ _ rfl mb (fI A) rfl (H.out.many.upd (S:=[ca]) β ι) (hh:Int) (m-1) rfl rfl ω ω ?_;intro w2 hm2 hu2;(have q1:=hu2.cell (p:=⟨c,3,none⟩) (by simp;exact l1) ι))
   | (at_delete;refine mF rfl _ _ rfl mb _ rfl hm2 (hh:Int) rfl ω ?_;intro w3 QP hu3))
  go_ret
  have hm4:fJ w3 mb (fI (iW A x Cl.z)):=fJ.ext QP (λq=>by
   rw[←HM.out q]
   by_cases e:q=(hh:Int)
   ·rw[Δ e,Δ e,Δ (by have:=H1.out;omega)]
   ·rw [Γ e,Γ e,Γ e])
  exact⟨rfl,FIN.out w3 hm4 (hu2.trans hu3)⟩
 ·have hb:(m-1 == 0)=false:=ζ;have H1:=χ h1;clear h1
  go_wp2_with (first
   |(at_lookup;refine il (o:=⟨some 27,_,_,_,_,_⟩) (by rfl) _ _ (by rfl) mb (fI A) (by rfl) (H.out.many.upd (S:=[ca]) β ι) (hh:Int) (by rfl) ω m ((lN _ _).trans HZ.out.symm) ?_)
   |(at_lookup;refine il (o:=⟨some 34,_,_,_,_,_⟩) (by rfl) _ _ (by rfl) mb _ (by rfl) hm2 (hh:Int) (by rfl) ω (m-1) σ ?_)
   | (at_mapUpdate;refine kG rfl _ _ _ rfl mb (fI A) rfl (H.out.many.upd (S:=[ca]) β ι) (hh:Int) (m-1) rfl rfl ω ω ?_;intro w2 hm2 hu2;(have q1:=hu2.cell (p:=⟨c,3,none⟩) (by simp;exact l1) ι)))
  go_ret
  have hm4:fJ w2 mb (fI (iW A x Cl.z)):=fJ.ext hm2 (λq=>by
   rw[←HM.out q]
   by_cases e:q=(hh:Int)
   ·rw[Δ e,Δ e,Γ (by have:=H1.out;omega)]
   ·rw [Γ e,Γ e])
  exact⟨rfl,FIN.out w2 hm4 hu2⟩
end Go.Proofs.YtnpdakpagnpanaaGreat
