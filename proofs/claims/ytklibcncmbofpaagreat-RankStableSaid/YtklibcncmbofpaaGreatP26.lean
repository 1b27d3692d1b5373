/-
  Lemmas for RankSorts: Carry6, Off. Conditions: those of each lemma.
-/
import Derived.ArgAppend
import Derived.Test.YtklibcncmbofpaaGreatP25
set_option maxHeartbeats 8000000
set_option maxRecDepth 10000
set_option linter.unusedVariables false
set_option linter.unusedSimpArgs false
namespace Go.Proofs.YtklibcncmbofpaaGreat
open Go Go.RowKit
def setAt (l:List Int) (x y:Int):List Int:=l.set (idxOf l x).toNat y
theorem iQ (l:List Int) (x y:Int):(setAt l x y).length=l.length:=by unfold setAt;simp
theorem rX (l:List Int) (x:Int) (h:x∈l):∃i:Nat,i<l.length∧idxOf l x=i∧l[i]?=some x:=by
 cases hf:l.findIdx? (fun y=>y == x) with
 | none=>
  rw [List.findIdx?_eq_none_iff] at hf;have:=hf x h;simp at this
 | some i=>
  have h2:=hf;rw [List.findIdx?_eq_some_iff_getElem] at h2;obtain ⟨h3,h4,_⟩:=h2;refine ⟨i,h3,by unfold idxOf;rw [hf],?_⟩
  rw [List.getElem?_eq_getElem h3];simp at h4;rw [h4]
def fD (S:CS) (x p:Nat) (above:Int):CS:=
  ⟨fun y=>if y=x then S.v p else if y=p then S.v x else S.v y,
   fun y=>if y=x then setAt (S.k p) x p else if y=p then S.k x else if (y:Int)=above then setAt (S.k y) p x else S.k y,
   fun y=>if y=x then above else if (y:Int)∈S.k x then p else if (y:Int)∈setAt (S.k p) x p then x else S.u y⟩
def FM (S:CS) (x p:Nat) (above:Int):Nat→Value:=
 gI (oJ (gI (oJ (gI (bP S) (x*2) (S.v p)) x (setAt (S.k p) x p)) (p*2) (S.v x)) p (S.k x)) (x*2+1) (.int .i64 above)
theorem mZ (f:Nat→Value) (p:Int) (ks:List Int) (j:Nat) (h:j % 2=0):oJ f p ks j=f j:=by unfold oJ;rw [if_neg ω]
theorem kE (f:Nat→Value) (x:Nat) (v:Value) (j:Nat) (h:j≠x):gI f x v j=f j:=by unfold gI;rw [if_neg h]
theorem FN (f:Nat→Value) (x:Nat) (v:Value):gI f x v x=v:=by unfold gI;rw [if_pos rfl]
theorem yT (S:CS) (x p:Nat) (above:Int) (hxp:x≠p) (j:Nat):FM S x p above j=bP (fD S x p above) j:=by
 unfold FM
 by_cases h:j % 2=0
 ·rw [kE _ _ _ _ (show j≠x*2+1 by omega),mZ _ _ _ _ h]
  unfold bP fD;rw [if_pos h];simp only
  by_cases h3:j / 2=x
  ·rw [kE _ _ _ _ (show j≠p*2 by omega),mZ _ _ _ _ h,show j=x*2 by omega,FN,if_pos ω]
  ·by_cases h4:j / 2=p
   ·rw [show j=p*2 by omega,FN,if_neg ω,if_pos ω]
   ·rw [kE _ _ _ _ (show j≠p*2 by omega),mZ _ _ _ _ h,kE _ _ _ _ (show j≠x*2 by omega),if_pos h,if_neg h3,if_neg h4]
 ·have h0:j % 2=1:=ω;unfold bP fD gI oJ;simp only [h0,true_and]
  by_cases h3:j / 2=x
  ·rw [if_pos ω,if_neg ω,if_pos h3]
  ·rw [if_neg (show ¬j=x*2+1 by omega),if_neg (show ¬j=p*2 by omega),if_neg (show ¬j=x*2 by omega)]
   rw [if_neg (show ¬ (1=0) by omega),if_neg (show ¬ (1=0) by omega),if_neg h3]
   by_cases h5:((j / 2:Nat):Int)∈S.k x
   ·rw [if_pos h5,if_pos h5]
   ·rw [if_neg h5,if_neg h5]
    by_cases h6:((j / 2:Nat):Int)∈setAt (S.k p) x p
    ·rw [if_pos h6,if_pos h6]
    ·rw [if_neg h6,if_neg h6]
theorem Cj {w:World} {base n cap g:Nat} {e:TypeId} {xs:List Value} (h:w.ownsRow base e 1 (.slice (some ⟨g,0,none⟩) n cap) n xs) (j:Nat) (u:Value) :
  (w.setCell ⟨g,j,none⟩ u).ownsRow base e 1 (.slice (some ⟨g,0,none⟩) n cap) n (xs.set j u):=(h.stored j u).1
theorem zq (l:List Int) (j:Nat) (y:Int):aH (l.set j y)=(aH l).set j (.int .i64 y):=by unfold aH;rw [List.map_set]
structure xe (n:Nat) (S:CS) (x p:Nat) (above:Int):Prop where
 hx:x<n
 hp:p<n
 ne:x≠p
 up:S.u x=p
 ab:S.u p=above
 mem:(x:Int)∈S.k p
 kx:∀k,k∈S.k x→0≤k∧k<n
 kp:∀k,k∈S.k p→0≤k∧k<n
 top:above=-1∨∃q:Nat,above=q∧q<n∧q≠x∧q≠p∧(p:Int)∈S.k q
theorem aM.lift {w w5:World} {bt ba lo n:Nat} {S:CS} (h:aM w bt ba lo n S) {x p:Nat} {above:Int} (ok:xe n S x p above) (hN:dP w5 bt ba n (bP (fD S x p above))) (hs:w.heap.size≤w5.heap.size)
  (ho:∀y,y<n→w5.ownsRow lo 3 1 ((fD S x p above).v y) ((fD S x p above).k y).length (aH ((fD S x p above).k y))):aM w5 bt ba lo n (fD S x p above):=by
 have hx:=ok.hx;have hp:=ok.hp;have hne:=ok.ne;refine ⟨hN.head,hN.row,ho,fun y z hy hz hyz g hg=>?_,h.ne,h.FW,h.FJ,Nat.le_trans h.low hs,h.le,fun y hy=>?_⟩
 ·unfold fD at hg ⊢;simp only at hg ⊢;have key:∀a b,a<n→b<n→a≠b→(S.v a).ownBlock=some g→(S.v b).ownBlock≠some g:=fun a b ha hb hab=>h.sep a b ha hb hab g
  by_cases h1:y=x
  ·rw [if_pos h1] at hg;rw [if_neg (fun e=>hyz ω)]
   by_cases h2:z=p
   ·rw [if_pos h2];exact key p x hp hx (Ne.symm hne) hg
   ·rw [if_neg h2];exact key p z hp hz (Ne.symm h2) hg
  ·rw [if_neg h1] at hg
   by_cases h2:y=p
   ·rw [if_pos h2] at hg
    by_cases h3:z=x
    ·rw [if_pos h3];exact key x p hx hp hne hg
    ·rw [if_neg h3,if_neg (fun e=>hyz ω)];exact key x z hx hz (Ne.symm h3) hg
   ·rw [if_neg h2] at hg
    by_cases h3:z=x
    ·rw [if_pos h3];exact key y p hy hp h2 hg
    ·rw [if_neg h3]
     by_cases h4:z=p
     ·rw [if_pos h4];exact key y x hy hx h1 hg
     ·rw [if_neg h4];exact key y z hy hz hyz hg
 ·unfold fD;simp only
  split
  ·rw [iQ];exact h.len p hp
  ·split
   ·exact h.len x hx
   ·split
    ·rw [iQ];exact h.len y hy
    ·exact h.len y hy
set_option maxRecDepth 100000 in
theorem Da (bt ba lo n:Nat) (S:CS) (x p:Nat) (above:Int) (w:World) (h:aM w bt ba lo n S) (ok:xe n S x p above) :
  Calls Tryz.prog 190 #[.pointer (some ⟨bt,0,none⟩),.int .i64 (x:Int)] w fun e w'=>e=.returned (.bool true)∧aM w' bt ba lo n (fD S x p above)∧aa (ba::S.blk n) w w':=by
 have hx:=ok.hx;have hp:=ok.hp;have hle:=h.le;have hne:=h.ne;have hl1:=h.FW;have hl2:=h.FJ;have k1:=sF bt ba lo n S x w h;have hup:Dj n S x=some (p:Int):=by unfold Dj;rw [if_pos ω,show ((x:Int)).toNat=x by omega,ok.up,if_neg ω]
 rw [hup,show ov (some (p:Int))=(p:Int) from rfl,show ob (some (p:Int))=true from rfl] at k1
 obtain ⟨ax,cx,hvx,_⟩:=aR (h.own x hx);obtain ⟨i,hil,hidx,hi⟩:=rX _ _ ok.mem;obtain ⟨gp,cp,hvp,hg1,hg2,hgc,hgm,hgx,hgf⟩:=bY (h.own p hp) ω;have c0:=h.head.cell 0 ω;have d0:=h.row.cellAt (x*2) ω ((kH S x).trans hvx);have d1:=h.row.cellAt (p*2) ω ((kH S p).trans hvp);have d2:=h.row.cellAt (p*2+1) ω ((qp S p).trans (by rw [ok.ab]))
 have hab:above≠-1→(above != -1)=true:=fun h=>by simpa using h
 clear hup
 go_enter Tryz.func190,Tryz.ntmps190
 go_wp2_with ((go_at_call 188;(with_reducible refine (k1).mono ?_);rintro e w9 ⟨rfl,hw9⟩;rw [hw9];clear hw9 w9))
 go_quiet (fail)
 have h0:aM (w.drewN nq) bt ba lo n S:=h.aj ((aa.refl _ _).drewN _);have hu0:aa (ba::S.blk n) w (w.drewN nq):=(aa.refl _ _).drewN _;generalize w.drewN nq=W at *
 clear h c0 d0 d1 d2 hgx hgf k1 hg1 hg2;have hop:=h0.own p hp;have hox:=h0.own x hx;rw [hvp] at hop;have hgp:=hop.lt gp rfl;have kI:=yV W lo _ (S.k p) x (gK.qh hop);rw [hidx] at kI;have ci:W.cell? ⟨gp,i,none⟩=some (.int .i64 (x:Int)):=by rw [hop.cellAt i ω];unfold aH;rw [List.getElem?_map,hi];rfl
 have fi:=hop.frozenAt i;have hset:(S.k p).set i p=setAt (S.k p) x p:=by unfold setAt;rw [hidx];rfl
 have own1:=Cj hop i (.int .i64 (p:Int));rw [←zq,hset] at own1;have hu1:aa [gp] W (W.setCell ⟨gp,i,none⟩ (.int .i64 (p:Int))):=(aa.refl _ _).setCell (Or.inl σ) _;have hN1:=h0.nodes.upd hu1 ζ ζ;have hsl:=iQ (S.k p) x p
 have kA1:=zf bt ba n lo x (bP S) _ (setAt (S.k p) x p) _ hN1 (by have:=gK.qh own1;rw [hsl];exact this) hx hl2 (fun k hk=>by
  rw [←hset] at hk;rcases List.mem_or_eq_of_mem_set hk with h|h
  ·exact ok.kp k h
  ·omega)
 have hxg:(S.v x).ownBlock≠some gp:=h0.sep p x hp hx (Ne.symm ok.ne) gp (by rw [hvp];rfl)
 have hox1:=ay hox hu1 (fun k hk hm=>by simp at hm;subst hm;exact hxg hk)
 have kA2:=fun w2 (hN2:dP w2 bt ba n (oJ (gI (bP S) (x*2) (.slice (some ⟨gp,0,none⟩) (S.k p).length cp)) x (setAt (S.k p) x p))) (hu2:aa [ba] (W.setCell ⟨gp,i,none⟩ (.int .i64 (p:Int))) w2)=>
  zf bt ba n lo p _ (S.v x) (S.k x) w2 hN2 (gK.qh (ay hox1 hu2 (fun k hk hm=>by have:=(hox.lt k hk).1;simp at hm;omega))) hp hl2 ok.kx
 rw [hvx] at kA2;have hmemb:∀y,y<n→∀g,(S.v y).ownBlock=some g→g∈S.blk n:=fun y hy g hg=>(S.iF n g).2 ⟨y,hy,hg⟩
 have hgpb:gp∈S.blk n:=hmemb p hp gp (by rw [hvp];rfl)
 have hall:∀y,y<n→y≠p→(S.v y).ownBlock≠some gp:=fun y hy hyp=>h0.sep p y hp hy (Ne.symm hyp) gp (by rw [hvp];rfl)
 have hun1:∀y,y<n→y≠p→∀w4,aa [ba] (W.setCell ⟨gp,i,none⟩ (.int .i64 (p:Int))) w4→w4.ownsRow lo 3 1 (S.v y) (S.k y).length (aH (S.k y)):=fun y hy hyp w4 hw=>
  ay (ay (h0.own y hy) hu1 (fun k hk hm=>by simp at hm;subst hm;exact hall y hy hyp hk)) hw (fun k hk hm=>by have:=((h0.own y hy).lt k hk).1;simp at hm;omega)
 have hun2:∀w4,aa [ba] (W.setCell ⟨gp,i,none⟩ (.int .i64 (p:Int))) w4→w4.ownsRow lo 3 1 (S.v p) (setAt (S.k p) x p).length (aH (setAt (S.k p) x p)):=fun w4 hw=>by
  rw [hsl,hvp];exact ay own1 hw (fun k hk hm=>by simp [Value.ownBlock] at hk;simp at hm;omega)
 have HALL:=χ hall;have HUN1:=χ hun1;have HUN2:=χ hun2;have HM:=χ hmemb;have H0:=χ h0;have OK:=χ ok;have HVX:=χ hvx;have HVP:=χ hvp;have HSET:=χ hset;have HSL:=χ hsl;have htop:=ok.top;clear hset hsl ok h0 hvx hvp hidx hi hall hun1 hun2 hmemb;rcases htop with rfl|⟨q,rfl,hq,hqx,hqp,hqm⟩
 ·go_wp2_with (first
   | (go_at_call 189;(with_reducible refine (kI).mono ?_);rintro e w9 ⟨rfl,hw9⟩;rw [hw9];clear hw9 w9)
   | ((go_at_call 196;(with_reducible refine (kA1).mono ?_));rintro e w2 ⟨rfl,hN2,hu2⟩)
   | ((go_at_call 196;(with_reducible refine (kA2 _ hN2 hu2).mono ?_));rintro e w3 ⟨rfl,hN3,hu3⟩;have c3:=hN3.head.cell 0 ω;have d3:=hN3.row.cell (x*2+1) ω;have e3:=hN3.row.free (x*2+1)))
  go_ret;have hw4:=(hu2.trans hu3).setCell (p:=⟨ba,x*2+1,none⟩) (Or.inl σ) (.int .i64 (-1))
  have hN4:dP (w3.setCell ⟨ba,x*2+1,none⟩ (.int .i64 (-1))) bt ba n (bP (fD S x p (-1))):=(hN3.set (x*2+1) (.int .i64 (-1))).ext (fun j hj=>by
   rw [←yT S x p (-1) OK.out.ne j];unfold FM
   rw [HVX.out,HVP.out];rfl)
  refine ⟨rfl,H0.out.lift OK.out hN4 (Nat.le_trans hu1.size hw4.size) (fun y hy=>?_),(hu0.trans (hu1.mono (by simp;exact Or.inr hgpb))).trans (hw4.mono σ)⟩
  unfold fD;simp only
  by_cases hyx:y=x
  ·rw [if_pos hyx,if_pos hyx];exact HUN2.out _ hw4
  ·rw [if_neg hyx,if_neg hyx]
   by_cases hyp:y=p
   ·rw [if_pos hyp,if_pos hyp];exact HUN1.out x hx OK.out.ne _ hw4
   ·rw [if_neg hyp,if_neg hyp,if_neg ω];exact HUN1.out y hy hyp _ hw4
 ·obtain ⟨j,hjl,hjdx,hj⟩:=rX _ _ hqm;have hoq:=H0.out.own q hq;obtain ⟨gq,cq,hvq,hq1,hq2,hqc,hqm2,hqx2,hqf⟩:=bY hoq ω;have b4:((q:Int) != -1)=true:=by rw [bne_iff_ne];omega
  have hoq4:=HUN1.out q hq hqp;rw [hvq] at hoq4;have kI2:=fun W4 h4=>yV W4 lo _ (S.k q) p (gK.qh (hoq4 W4 h4))
  rw [hjdx] at kI2;have HJ:=χ hjdx;have HJ2:=χ hj;have HVQ:=χ hvq;have hz1:=kH S q;rw [hvq] at hz1;have HZ:=χ hz1;clear hjdx hj hvq hz1 hoq hqx2 hqf hab
  go_wp2_with (first
   | (go_at_call 189;(with_reducible refine (kI).mono ?_);rintro e w9 ⟨rfl,hw9⟩;rw [hw9];clear hw9 w9)
   | ((go_at_call 196;(with_reducible refine (kA1).mono ?_));rintro e w2 ⟨rfl,hN2,hu2⟩)
   | ((go_at_call 196;(with_reducible refine (kA2 _ hN2 hu2).mono ?_));rintro e w3 ⟨rfl,hN3,hu3⟩;have c3:=hN3.head.cell 0 ω;have d3:=hN3.row.cell (x*2+1) ω;have e3:=hN3.row.free (x*2+1);have hN4:=hN3.set (x*2+1) (.int .i64 (q:Int));have hw4:=(hu2.trans hu3).setCell (p:=⟨ba,x*2+1,none⟩) (Or.inl σ) (.int .i64 (q:Int));have c4:=hN4.head.cell 0 ω;have d4:=hN4.row.cellAt (q*2) ω (v:=.slice (some ⟨gq,0,none⟩) (S.k q).length cq) (by
     rw [if_neg ω,mZ _ _ _ _ ω,kE _ _ _ _ ω,mZ _ _ _ _ ω,kE _ _ _ _ ω];exact HZ.out);have o4:=hoq4 _ hw4;have d5:=o4.cellAt j ω;have e5:=o4.frozenAt j;rw [show (aH (S.k q))[j]?=some (.int .i64 (p:Int)) by unfold aH;rw [List.getElem?_map,HJ2.out];rfl] at d5;have kI3:=kI2 _ hw4;clear hoq4 kI2)
   | (go_at_call 189;(with_reducible refine (kI3).mono ?_);rintro e w9 ⟨rfl,hw9⟩;rw [hw9];clear hw9 w9))
  go_ret
  have hN5:dP (w3.setCell ⟨ba,x*2+1,none⟩ (.int .i64 (q:Int))) bt ba n (bP (fD S x p q)):=(hN3.set (x*2+1) (.int .i64 (q:Int))).ext (fun j hj=>by
   rw [←yT S x p q OK.out.ne j];unfold FM
   rw [HVX.out,HVP.out];rfl)
  have hw5:aa [gq] (w3.setCell ⟨ba,x*2+1,none⟩ (.int .i64 (q:Int))) ((w3.setCell ⟨ba,x*2+1,none⟩ (.int .i64 (q:Int))).setCell ⟨gq,j,none⟩ (.int .i64 (x:Int))):=(aa.refl _ _).setCell (Or.inl σ) _;have hgq:(S.v q).ownBlock=some gq:=by rw [HVQ.out];rfl
  have hqall:∀y,y<n→y≠q→∀k,(S.v y).ownBlock=some k→k∉[gq]:=fun y hy hyq k hk hm=>by
   simp at hm;subst hm;exact H0.out.sep y q hy hq hyq k hk hgq
  refine ⟨rfl,H0.out.lift OK.out (hN5.upd hw5 ζ ζ) (Nat.le_trans (Nat.le_trans hu1.size hw4.size) hw5.size) (fun y hy=>?_),((hu0.trans (hu1.mono (by simp;exact Or.inr hgpb))).trans (hw4.mono σ)).trans (hw5.mono (by simp;exact Or.inr (HM.out q hq gq hgq)))⟩
  unfold fD;simp only
  by_cases hyx:y=x
  ·rw [if_pos hyx,if_pos hyx];exact ay (HUN2.out _ hw4) hw5 (hqall p hp (Ne.symm hqp))
  ·rw [if_neg hyx,if_neg hyx]
   by_cases hyp:y=p
   ·rw [if_pos hyp,if_pos hyp];exact ay (HUN1.out x hx OK.out.ne _ hw4) hw5 (hqall x hx (Ne.symm hqx))
   ·rw [if_neg hyp,if_neg hyp]
    by_cases hyq:y=q
    ·subst hyq;rw [if_pos rfl,iQ,HVQ.out];have:=Cj o4 j (.int .i64 (x:Int));rw [←zq] at this;unfold setAt;rw [HJ.out];exact this
    ·rw [if_neg ω];exact ay (HUN1.out y hy hyp _ hw4) hw5 (hqall y hy hyq)
def aQ (w:World) (base:Nat) (v:Value) (xs:List Int):Prop:=
 (v=.slice none 0 0∧xs=[])∨
 ∃g off cap cur,v=.slice (some ⟨g,off,none⟩) xs.length cap∧base≤g∧w.heap[g]?=some (.cells cur 3 (0,0))∧xs.length≤cap∧cap≤9223372036854775807∧off+cap≤cur.size∧∀j u,xs[j]?=some u→cur[off+j]?=some (.int .i64 u)
theorem aQ.nil (w:World) (base:Nat):aQ w base (.slice none 0 0) []:=Or.inl ⟨rfl,rfl⟩
theorem aQ.gJ {w:World} {base:Nat} {v:Value} {xs:List Int} (h:w.ownsRow base 3 1 v xs.length (aH xs)):aQ w base v xs:=by
 rcases h.2 with ⟨rfl,h0⟩|⟨g,cap,cur,rfl,hb,hg,hn,hc,hs,ht⟩
 ·exact Or.inl ⟨rfl,List.eq_nil_of_length_eq_zero h0⟩
 ·refine Or.inr ⟨g,0,cap,cur,rfl,hb,hg,hn,by unfold maxLen at hc;exact hc,ω,fun j u hj=>?_⟩
  have hjl:j<xs.length:=(List.getElem?_eq_some_iff.1 hj).1;have:(aH xs)[j]?=some (.int .i64 u):=by unfold aH;rw [List.getElem?_map,hj];rfl
  rw [←ht,List.getElem?_take,if_pos ω] at this;rw [Nat.zero_add];simpa using this
theorem Fp {w:World} {g:Nat} {o:Obj} (h:w.heap[g]?=some o):g<w.heap.size:=by
 rcases Nat.lt_or_ge g w.heap.size with h'|h'
 ·exact h'
 ·rw [Array.getElem?_eq_none h'] at h;cases h
theorem aQ.lt {w:World} {base:Nat} {v:Value} {xs:List Int} (h:aQ w base v xs) (g:Nat) (hg:v.ownBlock=some g):base≤g∧g<w.heap.size:=by
 rcases h with ⟨rfl,_⟩|⟨g',off,cap,cur,rfl,hb,hh,_⟩
 ·cases hg
 ·simp only [Value.ownBlock,Option.some.injEq] at hg;subst hg;exact ⟨hb,Fp hh⟩
theorem aQ.mono {w:World} {base base':Nat} {v:Value} {xs:List Int} (h:aQ w base v xs) (hb:base'≤base):aQ w base' v xs:=by
 rcases h with h|⟨g',off,cap,cur,rfl,hb',hh⟩
 ·exact Or.inl h
 ·exact Or.inr ⟨g',off,cap,cur,rfl,Nat.le_trans hb hb',hh⟩
theorem aQ.upd {w w':World} {F:List Nat} {base:Nat} {v:Value} {xs:List Int} (h:aQ w base v xs) (hu:aa F w w') (hF:∀g,v.ownBlock=some g→g∉F):aQ w' base v xs:=by
 rcases h with h|⟨g,off,cap,cur,rfl,hb,hh,h1,h2⟩
 ·exact Or.inl h
 ·exact Or.inr ⟨g,off,cap,cur,rfl,hb,by rw [hu.block g (Fp hh) (hF g rfl)];exact hh,h1,h2⟩
theorem aQ.shape {w:World} {base:Nat} {v:Value} {xs:List Int} (h:aQ w base v xs) :
  ∃a cap,v=.slice a xs.length cap∧xs.length≤cap∧cap≤9223372036854775807∧∀j u,xs[j]?=some u→∃g off,a=some ⟨g,off,none⟩∧w.cell? ⟨g,off+j,none⟩=some (.int .i64 u):=by
 rcases h with ⟨rfl,rfl⟩|⟨g,off,cap,cur,rfl,hb,hh,h1,h2,h3,h4⟩
 ·exact ⟨none,0,rfl,Nat.le_refl _,ω,fun j u hj=>by simp at hj⟩
 ·refine ⟨_,cap,rfl,h1,h2,fun j u hj=>⟨g,off,rfl,?_⟩⟩
  unfold World.cell?;simp only [hh];simpa using h4 j u hj
theorem aQ.lit (w:World) (base:Nat) (x:Int) (hb:base≤w.heap.size):aQ (w.alloc (.cells #[.int .i64 x] 3)) base (.slice (some ⟨w.heap.size,0,none⟩) 1 1) [x]:=
 aQ.gJ (jE w [.int .i64 x] 3 base 1 1 rfl hb μ)
def tailV (v:Value):Value:=match v with | .slice a n c=>.slice (if c=1 then a else a.map (·.add 1)) (n-1) (c-1)|v=>v
theorem sI (w:World) (a:Option Addr) (n c:Nat) (h1:1≤n) (h2:n≤9223372036854775807) :
  (Instr.slice 26 (.slice a n c) (some (.int .i64 1)) none none).run Tryz.prog w=.ok (tailV (.slice a n c)) w:=by
 have hs:(sizeOf 3).run Tryz.prog w=.ok 1 w:=by kernel_rfl
 unfold Instr.slice Instr.sliceBounds;simp [run_underlying Tryz.underlying26,go_sem,hs,tailV];intro h;omega
theorem aQ.tail {w:World} {base:Nat} {v:Value} {x:Int} {xs:List Int} (h:aQ w base v (x::xs)):aQ w base (tailV v) xs∧(tailV v).ownBlock=v.ownBlock:=by
 rcases h with ⟨rfl,h0⟩|⟨g,off,cap,cur,rfl,hb,hh,h1,h2,h3,h4⟩
 ·cases h0
 ·simp only [List.length_cons] at h1 ⊢;unfold tailV;simp only [Nat.add_sub_cancel]
  by_cases hc:cap=1
  ·subst hc;have:xs=[]:=List.eq_nil_of_length_eq_zero ω;subst this;rw [if_pos rfl];exact ⟨Or.inr ⟨g,off,0,cur,rfl,hb,hh,Nat.le_refl _,ω,ω,fun j u hj=>by simp at hj⟩,rfl⟩
  ·rw [if_neg hc];have e:(some (⟨g,off,none⟩:Addr)).map (·.add 1)=some ⟨g,off+1,none⟩:=by simp [Addr.add_lit]
   rw [e];refine ⟨Or.inr ⟨g,off+1,cap-1,cur,rfl,hb,hh,ω,ω,ω,fun j u hj=>?_⟩,rfl⟩
   have:=h4 (j+1) u (by simpa using hj)
   rw [show off+1+j=off+(j+1) by omega];exact this
theorem nW (a:Option Addr) (n c:Nat):∃a',tailV (.slice a n c)=.slice a' (n-1) (c-1):=⟨_,rfl⟩
theorem xZ {w:World} {base:Nat} {v:Value} {xs:List Int} (hown:aQ w base v xs) (t ty:TypeId) (ht:Tryz.prog.underlying t=some (.slice 3)) (g1:Nat) (u:Int) (hnew:w.cell? ⟨g1,0,none⟩=some (.int .i64 u)) (hn:xs.length+1≤1000000) (hbase:base≤w.heap.size) :
  ∃v' w',(Builtin.append_ #[t,t] ty #[v,.slice (some ⟨g1,0,none⟩) 1 1]).run Tryz.prog w=.ok v' w'∧aQ w' base v' (xs++[u])∧aa v.ownBlock.toList w w'∧(∀k,v'.ownBlock=some k→v.ownBlock=some k∨w.heap.size≤k):=by
 obtain ⟨i,hi,hz0,hz1,hz2⟩:=info_parts cK;have hnews:∀j x,[Value.int .i64 u][j]?=some x→w.cell? ((⟨g1,0,none⟩:Addr).add j)=some x:=fun j x hj=>by
  match j,hj with
  | 0,hj=>simp at hj;subst hj;rw [uJ];exact hnew
 have h1:∀x∈[Value.int .i64 u],x.oneCell'=true:=by simp [Value.oneCell']
 rcases hown with ⟨rfl,rfl⟩|⟨g,off,cap,cur,rfl,hb,hh,hc1,hc2,hc3,hc4⟩
 ·obtain ⟨v',w',hr,h2,h3,_⟩:=run_append_own (P:=Tryz.prog) w w.heap.size t ty 3 i (.int .i64 0) 1 8 ht hi hz0 hz1 hz2 rfl δ (.slice none 0 0) 0 [] (World.ownsRow_nil w _ _ _) ⟨g1,0,none⟩ 1 1 [.int .i64 u] rfl hnews h1 μ ω (Nat.le_refl _);exact ⟨v',w',hr,(aQ.gJ (xs:=[u]) h2).mono hbase,(aa.refl _ _).grown h3 (fun k hk=>by cases hk),fun k hk=>Or.inr (h2.lt k hk).1⟩
 ·by_cases hfit:xs.length+1≤cap
  ·have hf:=run_firstCells_some (P:=Tryz.prog) w i.size 1 ⟨g1,0,none⟩ 1 1 [.int .i64 u] (by rw [hz1];rfl) hnews
   have hst:=run_storeCells_at Tryz.prog g (off+xs.length*i.size) 3 [.int .i64 u] 0 cur w hh (by rw [hz1];simp;omega) h1
   simp only [Nat.add_zero] at hst;have hrun:(Builtin.append_ #[t,t] ty #[.slice (some ⟨g,off,none⟩) xs.length cap,.slice (some ⟨g1,0,none⟩) 1 1]).run Tryz.prog w=.ok (.slice (some ⟨g,off,none⟩) (xs.length+1) cap) (w.setRow g (cur.toList.take (off+xs.length*i.size)++[Value.int .i64 u]++cur.toList.drop (off+xs.length*i.size+1)).toArray):=by
    simp [Builtin.append_,run_underlying ht,sizeOf,typeInfo,hi,Builtin.lenOf,hfit,hf,Addr.add_lit];have:=hst;simp at this;simp [this]
   rw [hz1,Nat.mul_one] at hrun;refine ⟨_,_,hrun,Or.inr ⟨g,off,cap,_,by rw [List.length_append];rfl,hb,setRow_heap w g cur _ _ _ hh,by rw [List.length_append];exact hfit,hc2,?_,fun j x hj=>?_⟩,?_,fun k hk=>Or.inl hk⟩
   ·simp;omega
   ·have hlen:off+xs.length≤cur.size:=ω;rcases Nat.lt_or_ge j xs.length with h|h
    ·rw [List.getElem?_append_left h] at hj;have:=hc4 j x hj;rw [List.getElem?_toArray,List.append_assoc,List.getElem?_append_left ζ,List.getElem?_take,if_pos ω];simpa using this
    ·have hj2:j=xs.length:=by
      have:=(List.getElem?_eq_some_iff.1 hj).1;rw [List.length_append] at this;simp at this;omega
     subst hj2;rw [List.getElem?_append_right (Nat.le_refl _)] at hj;simp at hj;subst hj;rw [List.getElem?_toArray,List.append_assoc,List.getElem?_append_right ζ];simp [Nat.min_eq_left hlen]
   ·exact ⟨rfl,rfl,rfl,σ,fun k hk hm=>setRow_other w g k _ (fun e=>hm (by simp [Value.ownBlock,e]))⟩
  ·obtain ⟨v',w',hr,h2,h3⟩:=run_append_arg_grows (P:=Tryz.prog) w t ty 3 i (.int .i64 0) 1 8 ht hi hz0 hz1 hz2 rfl δ ⟨g,off,none⟩ xs.length cap (aH xs) (by rw [dX,Nat.mul_one]) (fun j x hj=>by
    unfold aH at hj;rw [List.getElem?_map] at hj;cases hq:xs[j]? with
    | none=>rw [hq] at hj;cases hj
    | some y=>
     rw [hq] at hj;simp at hj;subst hj;rw [Addr.add_lit];unfold World.cell?;simp only [hh]
     simpa using hc4 j y hq) ⟨g1,0,none⟩ 1 1 [.int .i64 u] rfl hnews ω μ ω
   have h4:w'.ownsRow w.heap.size 3 1 v' (xs++[u]).length (aH (xs++[u])):=by rw [List.length_append,aS];exact h2
   exact ⟨v',w',hr,(aQ.gJ h4).mono hbase,(aa.refl _ _).grown h3 (fun k hk=>by cases hk),fun k hk=>Or.inr (h2.lt k hk).1⟩
theorem qU {o:Oper} {a:Act} {w:World} {K:Act→World→Prop} {Q:Exit→Act→World→Prop} (s x:Operand) (t:TypeId)
  (ho:o.op=.call { callee:=.builtin .append,args:=#[s,x],argTypes:=#[t,t] }) (ht:Tryz.prog.underlying t=some (.slice 3))
  (base:Nat) (v:Value) (xs:List Int) (hs:a.eval s=v) (hown:aQ w base v xs)
  (g1:Nat) (u:Int) (hx:a.eval x=.slice (some ⟨g1,0,none⟩) 1 1) (hnew:w.cell? ⟨g1,0,none⟩=some (.int .i64 u)) (hn:xs.length+1≤1000000) (hbase:base≤w.heap.size)
  (h:∀v' w',aQ w' base v' (xs++[u])→aa v.ownBlock.toList w w'→(∀k,v'.ownBlock=some k→v.ownBlock=some k∨w.heap.size≤k)→K (a.put o.dst v') w'):Oper.wp Tryz.prog o a w K Q:=by
 obtain ⟨v',w',hr,h2,h3,h4⟩:=xZ hown t o.type ht g1 u hnew hn hbase;unfold Oper.wp execOp;simp only [ho,resolve,invoke,builtin,Sem.run_bind,Sem.run_pure,Result.andThen_ok,List.map_toArray,List.map_cons,List.map_nil,hs,hx,hr];exact h _ _ h2 h3 h4
theorem ou {ops:Array Oper} {o:Oper} {a:Act} {w:World} {K:Act→World→Prop} {Q:Exit→Act→World→Prop} {E:Prop} (hgd:o.guard=none) (s x:Operand) (t:TypeId)
  (ho:o.op=.call { callee:=.builtin .append,args:=#[s,x],argTypes:=#[t,t] }) (ht:Tryz.prog.underlying t=some (.slice 3))
  (base:Nat) (v:Value) (xs:List Int) (hs:a.eval s=v) (hown:aQ w base v xs)
  (g1:Nat) (u:Int) (hx:a.eval x=.slice (some ⟨g1,0,none⟩) 1 1) (hnew:w.cell? ⟨g1,0,none⟩=some (.int .i64 u)) (hn:xs.length+1≤1000000) (hbase:base≤w.heap.size)
  (h:∀v' w',aQ w' base v' (xs++[u])→aa v.ownBlock.toList w w'→(∀k,v'.ownBlock=some k→v.ownBlock=some k∨w.heap.size≤k)→K (a.put o.dst v') w') :
  if Region.wanted o (yielded ops a.tmps)=true then Oper.wp Tryz.prog o a w K Q else E:=by
 have hw:Region.wanted o (yielded ops a.tmps)=true:=by simp [Region.wanted,hgd]
 rw [if_pos hw];exact qU s x t ho ht base v xs hs hown g1 u hx hnew hn hbase h
theorem tL {ops:Array Oper} {rest:List Oper} {o:Oper} {a:Act} {w:World} {Q:Exit→Act→World→Prop} (hgd:o.guard=none) (s x:Operand) (t:TypeId)
  (ho:o.op=.call { callee:=.builtin .append,args:=#[s,x],argTypes:=#[t,t] }) (ht:Tryz.prog.underlying t=some (.slice 3))
  (base:Nat) (v:Value) (xs:List Int) (hs:a.eval s=v) (hown:aQ w base v xs)
  (g1:Nat) (u:Int) (hx:a.eval x=.slice (some ⟨g1,0,none⟩) 1 1) (hnew:w.cell? ⟨g1,0,none⟩=some (.int .i64 u)) (hn:xs.length+1≤1000000) (hbase:base≤w.heap.size)
  (h:∀v' w',aQ w' base v' (xs++[u])→aa v.ownBlock.toList w w'→(∀k,v'.ownBlock=some k→v.ownBlock=some k∨w.heap.size≤k)→wpList Tryz.prog ops Q rest (a.put o.dst v') w'):wpList Tryz.prog ops Q (o::rest) a w:=
 wpList_plain hgd fun _ hK=>qU s x t ho ht base v xs hs hown g1 u hx hnew hn hbase fun v' w' h2 h3 h4=>hK _ _ (h v' w' h2 h3 h4)
theorem fI.tail {w:World} {F:List Nat} {v:Value} {x:Int} {xs:List Int} (h:fI w F v (x::xs)):fI w F (tailV v) xs:=by
 obtain ⟨a,cap,rfl,h1,h2,h3⟩:=h;obtain ⟨g,off,rfl,hg,hF,_⟩:=h3 0 x rfl;simp only [List.length_cons] at h1 ⊢;unfold tailV;simp only [Nat.add_sub_cancel];refine ⟨_,_,rfl,ω,ω,fun j u hj=>?_⟩
 have hjl:j<xs.length:=(List.getElem?_eq_some_iff.1 hj).1;rw [if_neg ω];obtain ⟨g2,off2,he,hg2,hF2,hc⟩:=h3 (j+1) u (by simpa using hj)
 simp only [Option.some.injEq,Addr.mk.injEq,and_true] at he;obtain ⟨rfl,rfl⟩:=he;exact ⟨g,off+1,by simp [Addr.add_lit],hg,hF,by rw [show off+1+j=off+(j+1) by omega];exact hc⟩
theorem fI.Ov {w:World} {F:List Nat} {lo:Nat} {v:Value} {xs:List Int} (h:gK w lo v xs.length (aH xs)) (hF:∀g,g∈F→g<lo):fI w F v xs:=by
 obtain ⟨a,cap,rfl,h1,h2,h3⟩:=h.open;refine ⟨a,cap,rfl,h2,h1,fun j u hj=>?_⟩
 have hjl:j<xs.length:=(List.getElem?_eq_some_iff.1 hj).1;obtain ⟨g,rfl,hlo,hg,hc⟩:=h3 ω;exact ⟨g,0,rfl,hg,fun hm=>by have:=hF g hm;omega,by rw [Nat.zero_add];exact hc j _ (by unfold aH;rw [List.getElem?_map,hj];rfl)⟩
theorem fI.upd {w w':World} {F G:List Nat} {v:Value} {xs:List Int} (h:fI w F v xs) (hu:aa G w w') (hG:∀g,g∈G→g∈F):fI w' F v xs:=by
 obtain ⟨a,cap,rfl,h1,h2,h3⟩:=h;refine ⟨a,cap,rfl,h1,h2,fun j u hj=>?_⟩
 obtain ⟨g,off,rfl,hg,hF,hc⟩:=h3 j u hj;exact ⟨g,off,rfl,Nat.lt_of_lt_of_le hg hu.size,hF,by rw [hu.cell hg (fun hm=>hF (hG _ hm))];exact hc⟩
end Go.Proofs.YtklibcncmbofpaaGreat
