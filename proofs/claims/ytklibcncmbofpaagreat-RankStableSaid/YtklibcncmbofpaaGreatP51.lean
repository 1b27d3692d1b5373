/-
  Lemmas for RankSorts: RkP, RkK, RkN, RkL, RkR. Conditions: those of each lemma.
-/
import Derived.Lib.MinMax
import Derived.Shelf.Bits.Mul64
import Derived.Shelf.Slices.Reverse
import Derived.Shelf.Slices.Cells
import Derived.Ground.SlgnProg
import Derived.Shelf.SlicesE.Clone
import Derived.Test.YtklibcncmbofpaaGreatP08
import Derived.Test.YtklibcncmbofpaaGreatP49
import Derived.Test.YtklibcncmbofpaaGreatP50
set_option maxHeartbeats 8000000
set_option maxRecDepth 10000
set_option linter.unusedVariables false
set_option linter.unusedSimpArgs false
namespace Go.Proofs.YtklibcncmbofpaaGreat
open Go Go.RowKit
def Je (ks:Nat→Int) (x y:Nat):Prop:=ks x<ks y∨(ks x=ks y∧x<y)
theorem Jb {ks:Nat→Int} {x y z:Nat} (h:Je ks x y) (h':Je ks y z):Je ks x z:=by unfold Je at *;omega
def nY (ks:Nat→Int) (i:Nat):List Nat→List Nat
 | []=>[i]
 | x::l=>if ks i<ks x then i::x::l else x::nY ks i l
def aU (ks:Nat→Int):Nat→List Nat
 | 0=>[]
 | n+1=>nY ks n (aU ks n)
theorem uG (ks:Nat→Int) (i:Nat):∀l:List Nat,(nY ks i l).Perm (i::l)
 | []=>List.Perm.refl _
 | x::l=>by
  unfold nY
  split
  ·exact List.Perm.refl _
  ·exact ((uG ks i l).cons x).trans (List.Perm.swap i x l)
theorem lS (ks:Nat→Int):∀n,(aU ks n).Perm (List.range n)
 | 0=>List.Perm.refl _
 | n+1=>by
  rw [List.range_succ];exact ((uG ks n _).trans ((lS ks n).cons n)).trans (List.perm_append_comm (l₁:=[n]))
theorem iU {ks:Nat→Int} {n x:Nat}:x∈aU ks n↔x<n:=by rw [(lS ks n).mem_iff,List.mem_range]
theorem jq (ks:Nat→Int) (n:Nat):(aU ks n).length=n:=by rw [(lS ks n).length_eq,List.length_range]
theorem ve (ks:Nat→Int) (n:Nat):(aU ks n).Nodup:=(lS ks n).nodup_iff.2 List.nodup_range
theorem uN {ks:Nat→Int} {i:Nat}:∀ {l:List Nat},l.Pairwise (Je ks)→(∀x,x∈l→x<i)→(nY ks i l).Pairwise (Je ks)
 | [],_,_=>by unfold nY;simp
 | x::l,h,hl=>by
  rw [List.pairwise_cons] at h;unfold nY
  split
  ·rename_i hk
   rw [List.pairwise_cons,List.pairwise_cons];refine ⟨fun y hy=>?_,h.1,h.2⟩
   rcases List.mem_cons.1 hy with e|e
   ·subst e;exact Or.inl hk
   ·exact Jb (Or.inl hk) (h.1 y e)
  ·rename_i hk
   rw [List.pairwise_cons];refine ⟨fun y hy=>?_,uN h.2 (fun y hy=>hl y (List.mem_cons_of_mem _ hy))⟩
   rcases List.mem_cons.1 ((uG ks i l).mem_iff.1 hy) with e|e
   ·subst e;have:=hl x σ;unfold Je;omega
   ·exact h.1 y e
theorem jZ (ks:Nat→Int):∀n,(aU ks n).Pairwise (Je ks)
 | 0=>List.Pairwise.nil
 | n+1=>uN (jZ ks n) (fun x hx=>iU.1 hx)
structure Oe (n:Nat) (ks:Nat→Int) (R:AR) (A:NS) (q j:Nat):Prop where
 ok:R.Ok
 zF:A.Ok
 lA:A.cs.length=n
 lR:R.sl.length=n
 link:∀x:Nat,R.v x=bD A (x:Int)
 has:aY A 1=true
 next:R.next=j
 wait:R.wait=[]
 qj:q=j
 jn:j≤n
 put:∀x,x<j→R.v x=true∧R.g x=1∧A.c x=⟨1,ks x,(x:Int)+1⟩
theorem Oe.step {n:Nat} {ks:Nat→Int} {R:AR} {A:NS} {q j:Nat} (h:Oe n ks R A q j) (hj:j<n) (hk:-9223372036854775808≤ks j∧ks j≤9223372036854775807):∃R',jk R=some (j,R')∧R.g j=0∧Oe n ks R' (aB A 1 (j:Int) (ks j) ((q:Int)+1)) (q+1) (j+1):=by
 have hfr:=h.ok.fresh j (by rw [h.next];exact Nat.le_refl _)
 have hpk:mW R=some (j,{ R with next:=j+1 }):=by
  unfold mW;rw [h.wait];simp only [List.getLast?_nil];rw [if_neg (by rw [h.lR,h.next];omega),h.next]
 obtain ⟨R',hR⟩:∃R',R'=AR.put { R with next:=j+1 } j (R.g j+1,true):=⟨_,rfl⟩
 have htk:jk R=some (j,R'):=by unfold jk;rw [hpk,hR];rfl
 obtain ⟨t1,t2,t3,t4,t5,t6,t7⟩:=sO h.ok htk;have hR'n:R'.next=j+1:=by rw [hR];rfl
 have hR'w:R'.wait=[]:=by rw [hR];exact h.wait
 have hR'g:∀y,R'.g y=if y=j then 1 else R.g y:=fun y=>by
  have e:R'.g y=(R.put j (R.g j+1,true)).g y:=by
   show (R'.sl.getD y (0,false)).1=((R.sl.set j (R.g j+1,true)).getD y (0,false)).1
   rw [t5]
  rw [e,AR.qQ]
  by_cases e2:y=j
  ·rw [if_pos ⟨e2,t2⟩,if_pos e2,hfr.1]
  ·rw [if_neg (fun h=>e2 h.1),if_neg e2]
 have hBp:jy A 1 (j:Int)=true:=by
  rw [cB];refine ⟨h.has,(dK _ _).2 ⟨ω,by rw [h.lA];omega⟩,?_⟩
  rw [←h.link];exact hfr.2
 have hpc:∀y,(aB A 1 (j:Int) (ks j) ((q:Int)+1)).c y=if y=j then ⟨1,ks j,(q:Int)+1⟩ else A.c y:=fun y=>by
  unfold aB;rw [if_pos hBp,iD]
  by_cases e2:y=j
  ·rw [if_pos ⟨ω,by rw [h.lA];omega⟩,if_pos e2]
  ·rw [if_neg (fun h=>e2 ω),if_neg e2]
 have hN4:n≤65536:=by have:=h.zF.c1;have:=h.lA;omega
 refine ⟨R',htk,hfr.1,t1,sG h.zF _ _ _ _ ⟨hk.1,hk.2,ω,by have:=h.qj;omega⟩,by rw [sQ];exact h.lA,by rw [t5];simp [h.lR],fun y=>by rw [wH h.ok htk,Dv hBp,h.link],by unfold aB;rw [if_pos hBp];exact h.has,hR'n,hR'w,by rw [h.qj],hj,fun y hy=>?_⟩
 rw [wH h.ok htk,hR'g,hpc]
 by_cases e:y=j
 ·subst e;rw [if_pos rfl,if_pos rfl];exact ⟨σ,rfl,by rw [h.qj]⟩
 ·have:=h.put y ω;rw [if_neg e,if_neg e];exact ⟨by rw [this.1];rfl,this.2⟩
structure OY (n:Nat) (ks:Nat→Int) (R:AR) (A:NS) (t:Nat):Prop where
 ok:R.Ok
 zF:A.Ok
 lA:A.cs.length=n
 lR:R.sl.length=n
 link:∀x:Nat,R.v x=bD A (x:Int)
 has:aY A 1=true
 lv:∀x,R.v x=true↔x∈(aU ks n).drop t
 cl:∀x,x∈(aU ks n).drop t→R.g x=1∧A.c x=⟨1,ks x,(x:Int)+1⟩
theorem Oe.all {n:Nat} {ks:Nat→Int} {R:AR} {A:NS} {q:Nat} (h:Oe n ks R A q n):OY n ks R A 0:=by
 refine ⟨h.ok,h.zF,h.lA,h.lR,h.link,h.has,fun x=>?_,fun x hx=>?_⟩
 ·rw [List.drop_zero,iU];constructor
  ·intro hv;have:=AR.Gx hv;rw [h.lR] at this;exact this
  ·exact fun hx=>(h.put x hx).1
 ·rw [List.drop_zero,iU] at hx;exact (h.put x hx).2
theorem OY.step {n:Nat} {ks:Nat→Int} {R:AR} {A:NS} {t:Nat} (h:OY n ks R A t) (ht:t<n):∃x:Nat,(aU ks n)[t]?=some x∧x<n∧bL A 1=some x∧R.g x=1∧(A.c x).k=ks x∧OY n ks (fU R x) (aL A (x:Int)) (t+1):=by
 have hl:t<(aU ks n).length:=by rw [jq];exact ht
 obtain ⟨x,hx⟩:∃x,(aU ks n)[t]=x:=⟨_,rfl⟩
 have hd:(aU ks n).drop t=x::(aU ks n).drop (t+1):=by rw [List.drop_eq_getElem_cons hl,hx]
 have hs:=(jZ ks n).sublist (List.drop_sublist t _);have hn:=(ve ks n).sublist (List.drop_sublist t _);rw [hd,List.pairwise_cons] at hs;rw [hd,List.nodup_cons] at hn;have hxm:x∈(aU ks n).drop t:=by rw [hd];simp
 have hxn:x<n:=iU.1 (List.mem_of_mem_drop hxm);have hv:R.v x=true:=(h.lv x).2 hxm;have hin:bD A (x:Int)=true:=by rw [←h.link];exact hv
 have hc:=h.cl x hxm;have hmin:bL A 1=some x:=by
  refine (dM ω).2 ⟨((af _ _).1 hin).1,by rw [hc.2],fun y hy hyi=>?_⟩
  have hyv:R.v y=true:=by
   rw [h.link];exact (af _ _).2 ⟨hy,by rw [hyi];omega⟩
  have hym:=(h.lv y).1 hyv;have hcy:=h.cl y hym;rw [hd] at hym;rcases List.mem_cons.1 hym with e|e
  ·exact Or.inl e
  ·have:=hs.1 y e;refine Or.inr ?_;unfold bH;rw [hc.2,hcy.2];unfold Je at this;simp only;omega
 have eg:∀y,(fU R x).g y=R.g y:=fun y=>by
  show (R.put x (R.g x,false)).g y=_
  rw [AR.qQ]
  split
  ·rename_i e;rw [e.1]
  ·rfl
 refine ⟨x,by rw [List.getElem?_eq_getElem hl,hx],hxn,hmin,hc.1,by rw [hc.2],(vK h.ok hv).1,wT h.zF _,by rw [dw];exact h.lA,by rw [tV];exact h.lR,fun y=>by rw [xO hv,Aj hin,h.link],by rw [show aY (aL A (x:Int)) 1=aY A 1 from by unfold aY;rw [fA]];exact h.has,fun y=>?_,fun y hy=>?_⟩
 ·rw [xO hv];simp only [Bool.and_eq_true,Bool.not_eq_true',decide_eq_false_iff_not];rw [h.lv,hd,List.mem_cons];constructor
  ·rintro ⟨h1|h1,h2⟩
   ·exact absurd h1 h2
   ·exact h1
  ·exact fun h1=>⟨Or.inr h1,fun e=>hn.1 (by rw [←e];exact h1)⟩
 ·have hym:y∈(aU ks n).drop t:=by rw [hd];exact List.mem_cons_of_mem _ hy
  have hne:y≠x:=fun e=>hn.1 (by rw [←e];exact hy)
  have hcy:=h.cl y hym;have hdc:=rq hin y;rw [if_neg hne] at hdc;exact ⟨by rw [eg];exact hcy.1,by rw [hdc];exact hcy.2⟩
theorem Lp {n:Nat} (ks:Nat→Int) (hn:n≤65536):Oe n ks (AR.new n 4294967295) (Jz (NS.new n) 1) 0 0:=by
 have hm:Jz (NS.new n) 1=aG (NS.new n):=rfl;rw [hm];refine ⟨AR.pM hn ω,sW (NS.pM n hn),by rw [qH];simp [NS.new],by simp [AR.new],fun x=>by rw [sN,JW,DI],?_,rfl,rfl,rfl,Nat.zero_le _,fun x hx=>ω⟩
 unfold aG NS.new aY;simp
end Go.Proofs.YtklibcncmbofpaaGreat
namespace Go.Proofs.YtklibcncmbofpaaGreat
theorem filter_one {p q:Nat→Bool} {x:Nat} (hp:p x=false) (hq:q x=true):∀ {l:List Nat},l.Nodup→(∀y,y∈l→y≠x→q y=p y)→x∈l→(l.filter q).Perm (x::l.filter p)
 | [],_,_,h=>by cases h
 | a::l,hn,he,hx=>by
  rw [List.nodup_cons] at hn
  by_cases e:a=x
  ·subst e;rw [List.filter_cons_of_pos (by simpa using hq),List.filter_cons_of_neg (by simp [hp])]
   rw [show l.filter q=l.filter p from List.filter_congr (fun y hy=>he y (List.mem_cons_of_mem _ hy) (fun e=>hn.1 (by rw [←e];exact hy)))]
  ·have hx':x∈l:=(List.mem_cons.1 hx).resolve_left (fun h=>e h.symm)
   have ih:=filter_one hp hq hn.2 (fun y hy hne=>he y (List.mem_cons_of_mem _ hy) hne) hx'
   have ha:=he a σ e;cases hpa:p a with
   | true=>
    rw [List.filter_cons_of_pos (by rw [ha];exact hpa),List.filter_cons_of_pos hpa]
    exact (ih.cons a).trans (List.Perm.swap x a _)
   | false=>
    rw [List.filter_cons_of_neg (by rw [ha,hpa];simp),List.filter_cons_of_neg (by rw [hpa];simp)]
    exact ih
def gu (A:NS) (h:Int):List Nat:=(List.range A.cs.length).filter (fun x=>decide ((A.c x).i=h))
def il (A:NS) (h:Int):List Int:=(gu A h).map (fun x=>(A.c x).k)
theorem gZ {A:NS} {h:Int} {x:Nat}:x∈gu A h↔x<A.cs.length∧(A.c x).i=h:=by unfold gu;simp
theorem tZ {A:NS} {h:Int} (hh:0<h) {m:Nat} (hm:bL A h=some m):(A.c m).k∈il A h∧∀y,y∈il A h→(A.c m).k≤y:=by
 have hf:=(dM hh).1 hm;refine ⟨List.mem_map.2 ⟨m,gZ.2 ⟨hf.1,hf.2.1⟩,rfl⟩,fun y hy=>?_⟩
 obtain ⟨x,hx,rfl⟩:=List.mem_map.1 hy;have h2:=gZ.1 hx;rcases hf.2.2 x h2.1 h2.2 with e|e
 ·rw [e];exact Int.le_refl _
 ·unfold bH at e;omega
theorem qo {A:NS} {h x:Nat} {k s:Int} (hB:jy A h x=true) (ok:A.Ok):(il (aB A h x k s) h).Perm (k::il A h)∧∀g:Int,0<g→g≠h→il (aB A h x k s) g=il A g:=by
 obtain ⟨b1,b2,b3⟩:=(cB _ _ _).1 hB;have b4:=(aK _ _).1 b1;have hx:x<A.cs.length:=by have:=(dK _ _).1 b2;omega
 have h0:(A.c x).i=0:=by
  have:=(ok.nat x hx).1;have h3:¬ (0<(A.c x).i):=fun h'=>by rw [(af A x).2 ⟨hx,h'⟩] at b3;cases b3
  omega
 have hc:∀y,(aB A h x k s).c y=if y=x then ⟨h,k,s⟩ else A.c y:=fun y=>by
  unfold aB;rw [if_pos hB,π,iD]
  by_cases e:y=x
  ·rw [if_pos ⟨e,hx⟩,if_pos e]
  ·rw [if_neg (fun h=>e h.1),if_neg e]
 have hl:(aB A h x k s).cs.length=A.cs.length:=sQ _ _ _ _ _;constructor
 ·have h1:(gu (aB A h x k s) h).Perm (x::gu A h):=by
   unfold gu;rw [hl];refine filter_one (by simp [h0];omega) (by simp [hc]) List.nodup_range (fun y _ hy=>by rw [hc,if_neg hy]) (by simpa using hx)
  have h2:=h1.map (fun y=>((aB A h x k s).c y).k)
  refine h2.trans ?_;rw [List.map_cons,hc,if_pos rfl];refine List.Perm.cons k ?_;unfold il
  rw [List.map_congr_left (fun y hy=>by
   have:=(gZ.1 hy).2
   show ((aB A h x k s).c y).k=(A.c y).k
   rw [hc,if_neg (fun e=>by rw [e,h0] at this;omega)])]
 ·intro g hg hgh;have h1:gu (aB A h x k s) g=gu A g:=by
   unfold gu;rw [hl];refine List.filter_congr (fun y _=>?_)
   rw [hc]
   by_cases e:y=x
   ·rw [if_pos e,e,h0];have e1:¬ (h:Int)=g:=fun e=>hgh e.symm
    have e2:¬ (0:Int)=g:=ω;simp [e1,e2]
   ·rw [if_neg e]
  unfold il;rw [h1]
  exact List.map_congr_left (fun y hy=>by
   have:=(gZ.1 hy).2
   rw [hc,if_neg (fun e=>by rw [e,h0] at this;omega)])
theorem xW {A:NS} {m:Nat} (hin:bD A (m:Int)=true):(il A (A.c m).i).Perm ((A.c m).k::il (aL A (m:Int)) (A.c m).i)∧∀g:Int,0<g→g≠(A.c m).i→il (aL A (m:Int)) g=il A g:=by
 have hi:=(af _ _).1 hin;have hc:=rq hin;have hcm:=hc m;rw [if_pos rfl] at hcm;have hne:∀y,y≠m→(aL A (m:Int)).c y=A.c y:=fun y e=>by rw [hc,if_neg e]
 have h0:((aL A (m:Int)).c m).i=0:=by rw [hcm];rfl
 have hl:(aL A (m:Int)).cs.length=A.cs.length:=dw _ _;constructor
 ·have h1:(gu A (A.c m).i).Perm (m::gu (aL A (m:Int)) (A.c m).i):=by
   unfold gu;rw [hl];refine filter_one (by rw [h0];simp;omega) σ List.nodup_range (fun y _ hy=>by rw [hne y hy]) (by simpa using hi.1)
  have h2:=h1.map (fun y=>(A.c y).k)
  refine h2.trans ?_;rw [List.map_cons];refine List.Perm.cons _ ?_;unfold il
  rw [List.map_congr_left (fun y hy=>by
   have:=(gZ.1 hy).2
   show (A.c y).k=((aL A (m:Int)).c y).k
   rw [hne y (fun e=>by rw [e,h0] at this;omega)])]
 ·intro g hg hgh;have h1:gu (aL A (m:Int)) g=gu A g:=by
   unfold gu;rw [hl];refine List.filter_congr (fun y _=>?_)
   by_cases e:y=m
   ·rw [e,h0];have e1:¬ (A.c m).i=g:=fun e=>hgh e.symm
    have e2:¬ (0:Int)=g:=ω;simp [e1,e2]
   ·rw [hne y e]
  unfold il;rw [h1]
  exact List.map_congr_left (fun y hy=>by
   have:=(gZ.1 hy).2
   rw [hne y (fun e=>by rw [e] at this;exact hgh this.symm)])
theorem GI {l m:List Int} (hl:l.Pairwise (·≤·)) (hm:m.Pairwise (·≤·)) (hp:l.Perm m):l=m:=by
 induction l generalizing m with
 | nil=>exact (List.nil_perm.1 hp).symm
 | cons a l ih=>
  cases m with
  | nil=>exact absurd hp.length_eq σ
  | cons b m=>
   rw [List.pairwise_cons] at hl hm;have h1:b≤a:=by
    rcases List.mem_cons.1 (hp.mem_iff.1 (show a∈a::l by simp)) with e|e
    ·omega
    ·exact hm.1 a e
   have h2:a≤b:=by
    rcases List.mem_cons.1 (hp.mem_iff.2 (show b∈b::m by simp)) with e|e
    ·omega
    ·exact hl.1 b e
   have e:a=b:=ω;subst e;rw [ih hl.2 hm.2 (List.Perm.cons_inv hp)]
theorem Fs (l:List Int):∃m:List Int,m.Perm l∧m.Pairwise (·≤·):=by
 refine ⟨l.mergeSort (fun a b=>decide (a≤b)),List.mergeSort_perm _ _,?_⟩
 have:=List.pairwise_mergeSort (le:=fun a b:Int=>decide (a≤b)) (fun a b c h1 h2=>by simp at *;omega) (fun a b=>ζ) l
 exact this.imp (fun h=>by simpa using h)
theorem Ij {S P Q:List Int} (hS:S.Pairwise (·≤·)) (hp:S.Perm (P++Q)) (hPQ:∀a,a∈P→∀b,b∈Q→a≤b) {M:Int} (hM:M∈P) (hmax:∀a,a∈P→a≤M):S[P.length-1]?=some M:=by
 obtain ⟨P',p1,p2⟩:=Fs P;obtain ⟨Q',q1,q2⟩:=Fs Q
 have e:S=P'++Q':=GI hS (by
  rw [List.pairwise_append]
  exact ⟨p2,q2,fun a ha b hb=>hPQ a (p1.mem_iff.1 ha) b (q1.mem_iff.1 hb)⟩) (hp.trans (p1.append q1).symm)
 have hl:=p1.length_eq;have hpos:0<P.length:=List.length_pos_of_mem hM;rw [e,List.getElem?_append_left ω];have hlt:P.length-1<P'.length:=ω;rw [List.getElem?_eq_getElem hlt]
 congr 1
 have h1:P'[P.length-1]≤M:=hmax _ (p1.mem_iff.1 (List.getElem_mem hlt));obtain ⟨j,hj,hjM⟩:=List.getElem_of_mem (p1.mem_iff.2 hM);have h2:P'[j]≤P'[P.length-1]:=by
  by_cases e:j=P.length-1
  ·subst e;exact Int.le_refl _
  ·exact List.pairwise_iff_getElem.1 p2 j (P.length-1) hj hlt ω
 omega
theorem Dk (kf:Nat→Int) (n:Nat):((aU kf n).map kf).Pairwise (·≤·)∧((aU kf n).map kf).Perm ((List.range n).map kf):=by
 refine ⟨?_,(lS kf n).map kf⟩;rw [List.pairwise_map];exact (jZ kf n).imp (fun h=>by unfold Je at h;omega)
structure jV (P Q K:List Int) (c:Nat):Prop where
 perm:(P++Q).Perm K
 ord:∀a,a∈P→∀b,b∈Q→a≤b
 len:P.length=c
theorem jV.push {P Q K P1:List Int} {c:Nat} {k M:Int} (h:jV P Q K c) (hp:(k::P).Perm (M::P1)) (hM:∀a,a∈k::P→a≤M):jV P1 (M::Q) (k::K) c:=by
 refine ⟨?_,fun a ha b hb=>?_,?_⟩
 ·have h1:(P1++M::Q).Perm (M::P1++Q):=List.perm_middle;refine h1.trans ?_;refine (hp.symm.append_right Q).trans ?_;exact h.perm.cons k
 ·have ha':a∈k::P:=hp.mem_iff.2 (List.mem_cons_of_mem _ ha);rcases List.mem_cons.1 hb with e|e
  ·rw [e];exact hM a ha'
  ·rcases List.mem_cons.1 ha' with e2|e2
   ·have hMm:M∈k::P:=hp.mem_iff.2 σ;rcases List.mem_cons.1 hMm with e3|e3
    ·by_cases hkk:∃y,y∈P∧y=k
     ·obtain ⟨y,hy,e4⟩:=hkk;rw [e2,←e4];exact h.ord y hy b e
     ·-- M=k,taken away: a=k would be one more k
      exfalso;subst e3;have:=(List.perm_cons M).1 hp;exact hkk ⟨a,this.mem_iff.2 ha,e2⟩
    ·have h5:=h.ord M e3 b e;have h6:=hM a ha';omega
   ·exact h.ord a e2 b e
 ·have:=hp.length_eq;simp at this;rw [←this];exact h.len
theorem jV.lift {P Q K Q1:List Int} {c:Nat} {m:Int} (h:jV P Q K c) (hp:Q.Perm (m::Q1)) (hm:∀b,b∈Q→m≤b):jV (m::P) Q1 K (c+1):=by
 refine ⟨?_,fun a ha b hb=>?_,by simp [h.len]⟩
 ·have h1:(P++m::Q1).Perm (m::P++Q1):=List.perm_middle;exact h1.symm.trans ((hp.symm.append_left P).trans h.perm)
 ·have hbQ:b∈Q:=hp.mem_iff.2 (List.mem_cons_of_mem _ hb);rcases List.mem_cons.1 ha with e|e
  ·rw [e];exact hm b hbQ
  ·exact h.ord a e b hbQ
end Go.Proofs.YtklibcncmbofpaaGreat
namespace Go.Proofs.YtklibcncmbofpaaGreat
open Go Go.RowKit
theorem Ci {w:World} {ops:Array Oper} {rest:List Oper} {o:Oper} {a:Act} {Q:Exit→Act→World→Prop} (hgd:o.guard=none) (m x v:Operand) (hop:o.op=Op.mapUpdate 82 m x v)
  (b c:Nat) (f:Int→Int→Option Int) (hm:a.eval m=.map (some b)) (h:lg w b c f) (hc:c<9223372036854775807) (k g z:Int) (hx:a.eval x=hV k g) (hv:a.eval v=.int .i64 z) (hk:-9223372036854775808≤k∧k≤9223372036854775807) (hg:0≤g∧g≤4294967295) (hz:-9223372036854775808≤z∧z≤9223372036854775807)
  (hK:∀w',lg w' b (c+1) (fun y e=>if y=k∧e=g then some z else f y e)→aa [b] w w'→wpList Tryz.prog ops Q rest (a.put o.dst undef) w'):wpList Tryz.prog ops Q (o::rest) a w:=
 wpList_plain hgd fun _ hK'=>MI m x v hop b c f hm h hc k g z hx hv hk hg hz fun w' h1 h2=>hK' _ _ (hK w' h1 h2)
def vw (l:List Nat):List Int:=l.map (fun (x:Nat)=>(x:Int))
theorem jo (a b:List Nat):vw (a++b)=vw a++vw b:=by unfold vw;rw [List.map_append]
theorem yM {K:fJ} (kd d:Int) (vk:Value) (ks:List Int) (k:Nat) (w:World) (hS:fI w [] vk ks) (hb:∀x,x∈ks→-9223372036854775808≤x∧x≤9223372036854775807) (hc:kX kd d=0) (hn:ks.length≤65536) (hk:k≤ks.length) (ko:jX K kd d ks.length) :
  Calls Tryz.prog 17 #[.agg #[.int .i64 kd,.int .i64 d],vk,.int .i64 (k:Int)] w fun e w'=>∃ao co,e=.returned (.tuple #[.slice ao k co,.int .i64 0])∧w'.ownsRow w.heap.size 3 1 (.slice ao k co) k (aH (vw ((aU (fun i=>ks.getD i 0) ks.length).take k)))∧aa [] w w':=by
 have kp:∀W:World,_:=fun W=>rC kd d ks.length 1 W hc hn ω ko
 obtain ⟨a,cap,rfl,hcap1,hcap2,hcell⟩:=hS;have hkb:∀j,j<ks.length→-9223372036854775808≤ks.getD j 0∧ks.getD j 0≤9223372036854775807:=fun j hj=>by
  rw [φ,List.getElem?_eq_getElem hj];exact hb _ (List.getElem_mem hj)
 have hrow:∀j,j<ks.length→∃g off,a=some ⟨g,off,none⟩∧g<w.heap.size∧w.cell? ⟨g,off+j,none⟩=some (.int .i64 (ks.getD j 0)):=fun j hj=>by
  obtain ⟨g,off,h1,h2,_,h3⟩:=hcell j ks[j] (List.getElem?_eq_getElem hj);exact ⟨g,off,h1,h2,by rw [h3,φ,List.getElem?_eq_getElem hj];rfl⟩
 have HR:=χ (ψ hkb hrow);have hz:=Lp (fun i=>ks.getD i 0) hn
 clear hcell hb hkb hrow hc ko;generalize hkf:(fun i=>ks.getD i 0)=kf at *
 have HKF:=χ hkf;generalize hnn:ks.length=n at *
 have HZ:=χ hz;clear hz hkf hnn;have hk0:¬ (k:Int)<0:=ω;have hk1:¬ (k:Int) > (n:Int):=ω;have hkd0:decide ((k:Int)<0)=false:=ι;have hkd1:decide ((k:Int) > (n:Int))=false:=ζ;rw [show ((1:Nat):Int)=1 from rfl] at kp
 have hkd2:decide (n<k)=false:=ζ;have hmm:=@run_makeMap Tryz.prog
 go_enter Tryz.func17,Tryz.ntmps17
 go_wp2_with (first
  | ((go_at_call 39;(with_reducible refine (kp _).mono ?_));rintro e w1 ⟨p,F,rfl,hP0,hu0,hF⟩)
  | fail)
 have hu1:aa [] w w1:=aa.trans β hu0;have s1:=hu1.size;have hPl:=hP0.lt;have hMp0:=lg.made w1;refine gB (fun W=>fG K W p F kd d (AR.new n 4294967295) (Jz (NS.new n) 1) 0∧lg W w1.heap.size 0 (fun _ _=>none)∧aa [] w W) ⟨hP0.aj β,hMp0.upd (S:=[]) (by first|exact aa.refl _ _|(repeat (first|assumption|exact aa.refl _ _|refine aa.alloc ?_ _|refine aa.drew ?_|refine aa.drewN ?_ _|refine aa.setCell ?_ ?_ _|focus (left;simp;done)|focus (right;simp;done)|focus (right;simp;omega)))) σ,β⟩ ?_
 rintro W ⟨hP,hMp,huW⟩;have hb1:w.heap.size≤w1.heap.size:=by simpa using s1
 have HI:=χ (ψ hP (ψ hMp (ψ huW (ψ hF hPl))));clear hP hMp huW hF hPl hu1 kp hmm s1 hP0 hMp0 hu0;generalize w1.heap.size=b at *
 go_loopw [11,12,13,14,40] (fun v11 v12 v13 v14 v40 wr=>∃ (j:Nat) (F':List Nat) (R:AR) (A:NS) (f:Int→Int→Option Int),j≤n∧v40=.int .i64 (j:Int)∧fG K wr p F' kd d R A j∧Oe n kf R A j j∧lg wr b j f∧(∀x:Nat,x<j→f (x:Int) 1=some (x:Int))∧aa [] w wr∧(∀x,x∈F'→w.heap.size≤x)∧b∉F') (fun _ _ _ _ v40 _=>n-(intOf v40).toNat)
 case atStart=>
  obtain ⟨hP,hMp,huW,hF,hPl⟩:=HI.out;exact ⟨0,F,_,_,_,Nat.zero_le _,rfl,hP,HZ.out,hMp,fun x hx=>ω,huW,fun x hx=>by have:=hF x hx;(try simp at this);omega,fun hm=>by have:=hPl b hm;omega⟩
 case round=>
  obtain ⟨j,F',R,A,f,hj,rfl,hP,hA,hM,hf,hu,hF,hbF⟩:=hrel;rename World=>wr
  by_cases hjn:j<n
  ·have hjI:decide ((j:Int)<(n:Int))=true:=ζ;have hjI2:(j:Int)<(n:Int):=ω;obtain ⟨hkb,hrow⟩:=HR.out;obtain ⟨g,off,rfl,hg,hc⟩:=hrow j hjn;have hc1:=hu.was hc;have ekj:ks.getD j 0=kf j:=by rw [←HKF.out]
   have hkj:=hkb j hjn;rw [ekj] at hc1 hkj;obtain ⟨R',hT,hg0,hA'⟩:=hA.step hjn hkj;have ki:=uR hP 1 (kf j) hA.has hkj ω hT;rw [hg0,show (((0:Nat):Int)+1)=1 from rfl] at ki
   have HN:=χ (ψ hA' (ψ hM (ψ hf (ψ hu (ψ hF hbF)))));have hbl:=hM.lt;clear hP hA hA' hM hf hu hF hbF hkb hrow hc ekj hT hg0;generalize kf j=kj at *
   go_wp2_with (first
    | ((go_at_call 40;(with_reducible refine (ki).mono ?_));rintro e w2 ⟨rfl,F2,hP2,hu2,hF2⟩;(have hM2:lg (w2.alloc (.cells #[.int .i64 (j:Int),.int .u32 1] 85)) b j f:=(HN.out.2.1.upd hu2 HN.out.2.2.2.2.2).upd (S:=[]) β σ))
    | (at_mapUpdate;refine Ci rfl _ _ _ rfl b j f rfl hM2 ω (j:Int) 1 (j:Int) rfl rfl ω ω ω ?_;intro w3 hm3 hu3)
    | fail)
   go_roundw
   case rel=>
    obtain ⟨hA',hM,hf,hu,hF,hbF⟩:=HN.out;have hs:=hu.size;have hs2:=hu2.size;have hPl2:=hP2.lt;have hbF2:b∉F2:=fun hm=>by rcases hF2 b hm with h|h;exact hbF h;omega
    have hu2':aa [] w2 (w2.alloc (.cells #[.int .i64 (j:Int),.int .u32 1] 85)):=(aa.refl _ _).alloc _;refine ⟨j+1,F2,_,_,_,ω,by go_num,(hP2.aj hu2').upd hu3 (fun x hx=>by simp at hx;rw [hx];exact hbF2),hA',hm3,fun x hx=>?_,((hu.joined hu2 (fun x hx=>Or.inr (hF x hx))).trans hu2').joined hu3 (fun x hx=>Or.inr (by simp at hx;omega)),fun x hx=>by rcases hF2 x hx with h|h;exact hF x h;omega,hbF2⟩
    by_cases e:x=j
    ·subst e;rw [if_pos ⟨rfl,rfl⟩]
    ·rw [if_neg (fun h=>e (by have:=h.1;omega))]
     exact hf x ω
   case measure=>simp [intOf];omega
  ·obtain rfl:j=n:=ω;have hjI:decide ((j:Int)<(j:Int))=false:=σ;have hT:=hA.all;have HN:=χ (ψ hP (ψ hT (ψ hM (ψ hf (ψ hu (ψ hF hbF))))));clear hP hA hT hM hf hu hF hbF;go_wp2
   go_loopw [15,16,17,18,56] (fun v15 v16 v17 v18 v56 wr2=>∃ (t:Nat) (F2:List Nat) (R2:AR) (A2:NS) (ao:Option Addr) (co:Nat),t≤k∧v56=.int .i64 (t:Int)∧v15=.slice ao t co∧wr2.ownsRow w.heap.size 3 1 (.slice ao t co) t (aH (vw ((aU kf j).take t)))∧fG K wr2 p F2 kd d R2 A2 j∧OY j kf R2 A2 t∧lg wr2 b j f∧aa [] w wr2∧(∀x,x∈F2→w.heap.size≤x)∧b∉F2∧(∀g,(Value.slice ao t co).ownBlock=some g→g∉F2∧g≠b)) (fun _ _ _ _ v56 _=>k-(intOf v56).toNat)
   case atStart=>
    obtain ⟨hP,hT,hM,hf,hu,hF,hbF⟩:=HN.out;exact ⟨0,F',R,A,none,0,Nat.zero_le _,rfl,rfl,⟨rfl,Or.inl ⟨rfl,rfl⟩⟩,hP,hT,hM,hu,hF,hbF,fun g hg=>by cases hg⟩
   case round=>
    obtain ⟨t,F2,R2,A2,ao,co,ht,rfl,rfl,ho,hP,hT,hM,hu,hF,hbF,hnb⟩:=hrel;rename World=>wr2
    by_cases htk:t<k
    ·have htI:decide ((t:Int)<(k:Int))=true:=ζ;obtain ⟨x,hx,hxn,hmin,hg1,hkx,hT2⟩:=hT.step ω;have ke:=yJ hP 1 hmin;rw [hg1,hkx] at ke;rw [show ((1:Nat):Int)=1 from rfl] at ke
     have hfx:=HN.out.2.2.2.1 x hxn;have HQ:=χ (ψ hT2 (ψ hu (ψ hF (ψ hbF (ψ hnb (ψ hx hfx))))));have HM:=χ hM;have hbl:=hM.lt;have hrl:∀g,(Value.slice ao t co).ownBlock=some g→g<wr2.heap.size:=fun g hg=>(ho.lt g hg).2
     have hbase:w.heap.size≤wr2.heap.size:=hu.size;have HRL:=χ hrl;clear hP hT hT2 hM hu hF hbF hnb hx hfx hmin hg1 hkx hrl;generalize kf x=kx at *
     go_wp2_with (first
      | ((go_at_call 41;(with_reducible refine (ke).mono ?_));rintro e w3 ⟨rfl,F3,hP3,hu3,hF3⟩;(have hM3:lg (w3.alloc (.cells #[.int .i64 (x:Int),.int .u32 1] 85)) b j f:=(HM.out.upd hu3 HQ.out.2.2.2.1).upd (S:=[]) β σ);(have hlk:(Instr.lookup 82 (.map (some b)) (.agg #[.int .i64 (x:Int),.int .u32 1]) false).run Tryz.prog (w3.alloc (.cells #[.int .i64 (x:Int),.int .u32 1] 85))=.ok (.int .i64 (x:Int)) (w3.alloc (.cells #[.int .i64 (x:Int),.int .u32 1] 85)):=hM3.look HQ.out.2.2.2.2.2.2 ω ω);(have hs3:=hu3.size);(have ho3:=ay (ay ho hu3 (fun g hg=>(HQ.out.2.2.2.2.1 g hg).1)) (S:=[]) ((aa.refl _ _).alloc (.cells #[.int .i64 (x:Int),.int .u32 1] 85)) σ))
      | ((at_builtin;refine aC rfl _ _ 26 rfl w.heap.size 3 (.int .i64 0) 1 8 Tryz.underlying26 cK rfl δ _ _ _ rfl (ho3) [.int .i64 (x:Int)] rfl (by simp [Value.oneCell']) (by first|rfl|(rw [World.size_alloc];rfl)) μ ω (ζ) ?_;intro v2 w4 ho4 hu4 hsep4);obtain ⟨a4,c4,rfl,hc4⟩:=aR ho4)
      | fail)
     go_roundw
     case rel=>
      obtain ⟨hT2,hu,hF,hbF,hnb,hx,hfx⟩:=HQ.out;have hP4:=hP3.lt;have hbF3:b∉F3:=fun hm=>by rcases hF3 b hm with h|h;exact hbF h;omega
      have hoF3:∀g,(Value.slice ao t co).ownBlock=some g→g∉F3:=fun g hg hm=>by
       rcases hF3 g hm with h|h
       ·exact (hnb g hg).1 h
       ·have:=HRL.out g hg;omega
      have hal:aa [] w3 (w3.alloc (.cells #[.int .i64 (x:Int),.int .u32 1] 85)):=(aa.refl _ _).alloc _;have hwa:aa [] w (w3.alloc (.cells #[.int .i64 (x:Int),.int .u32 1] 85)):=(hu.joined hu3 (fun z hz=>Or.inr (hF z hz))).trans hal
      have hlx:(aU kf j).take (t+1)=(aU kf j).take t++[x]:=by rw [List.take_add_one,hx];rfl
      refine ⟨t+1,F3,_,_,a4,c4,ω,by go_num,rfl,by rw [hlx,jo,aS];exact ho4,(hP3.aj hal).upd hu4 (fun z hz=>hoF3 z (Option.mem_toList.1 hz)),hT2,hM3.upd hu4 (fun hm=>(hnb b (Option.mem_toList.1 hm)).2 rfl),hwa.own ho3 (Nat.le_refl _) hu4,fun z hz=>by rcases hF3 z hz with h|h;exact hF z h;omega,hbF3,fun g hg=>?_⟩
      rcases hsep4 with h|h
      ·rw [h] at hg;exact ⟨hoF3 g hg,(hnb g hg).2⟩
      ·have h9:=h g hg;simp at h9;exact ⟨fun hm=>by have:=hP4 g hm;omega,fun e=>ω⟩
     case measure=>simp [intOf];omega
    ·obtain rfl:t=k:=ω;have htI:decide ((t:Int)<(t:Int))=false:=σ;have HQ:=χ (ψ ho hu);clear ho hP hT hM hu hF hbF hnb;go_wp2;go_ret2;exact ⟨ao,co,rfl,HQ.out.1,HQ.out.2⟩
def mi (kf:Nat→Int) (i m:Nat) (S:List Nat) (pb:Bool) (nx:List Nat):Prop:=
 (pb=false∧nx.length=m∧nY kf i S=nx++nY kf i (S.drop m))∨(pb=true∧nx.length=m+1∧nY kf i S=nx++S.drop m)
theorem mi.put {kf:Nat→Int} {i m x:Nat} {S nx:List Nat} (h:mi kf i m S false nx) (hx:S[m]?=some x) (hk:kf i<kf x):mi kf i (m+1) S true (nx++[i]++[x]):=by
 obtain ⟨hl,hx⟩:=List.getElem?_eq_some_iff.1 hx;rcases h with ⟨-,h1,h2⟩|⟨h, -⟩
 ·refine Or.inr ⟨rfl,by simp [h1],?_⟩
  rw [h2,List.drop_eq_getElem_cons hl,hx];unfold nY;rw [if_pos hk];simp
 ·cases h
theorem mi.skip {kf:Nat→Int} {i m x:Nat} {S nx:List Nat} (h:mi kf i m S false nx) (hx:S[m]?=some x) (hk:¬kf i<kf x):mi kf i (m+1) S false (nx++[x]):=by
 obtain ⟨hl,hx⟩:=List.getElem?_eq_some_iff.1 hx;rcases h with ⟨-,h1,h2⟩|⟨h, -⟩
 ·refine Or.inl ⟨rfl,by simp [h1],?_⟩
  rw [h2,List.drop_eq_getElem_cons hl,hx]
  conv=>lhs;unfold nY
  rw [if_neg hk];simp
 ·cases h
theorem mi.more {kf:Nat→Int} {i m x:Nat} {S nx:List Nat} (h:mi kf i m S true nx) (hx:S[m]?=some x):mi kf i (m+1) S true (nx++[x]):=by
 obtain ⟨hl,hx⟩:=List.getElem?_eq_some_iff.1 hx;rcases h with ⟨h, -⟩|⟨-,h1,h2⟩
 ·cases h
 ·refine Or.inr ⟨rfl,by simp [h1],?_⟩
  rw [h2,List.drop_eq_getElem_cons hl,hx];simp
theorem mi.PY {kf:Nat→Int} {i:Nat} {S nx:List Nat} (h:mi kf i S.length S false nx):nY kf i S=nx++[i]:=by
 rcases h with ⟨-,h1,h2⟩|⟨h, -⟩
 ·rw [h2,List.drop_length];rfl
 ·cases h
theorem mi.PU {kf:Nat→Int} {i:Nat} {S nx:List Nat} (h:mi kf i S.length S true nx):nY kf i S=nx:=by
 rcases h with ⟨h, -⟩|⟨-,h1,h2⟩
 ·cases h
 ·rw [h2,List.drop_length,List.append_nil]
end Go.Proofs.YtklibcncmbofpaaGreat
