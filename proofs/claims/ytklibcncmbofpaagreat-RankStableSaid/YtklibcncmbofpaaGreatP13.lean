/-
  Lemmas for RankSorts: Bt2, Lf5, Bt3. Conditions: those of each lemma.
-/
import Derived.Test.YtklibcncmbofpaaGreatP12
set_option maxHeartbeats 8000000
set_option maxRecDepth 10000
set_option linter.unusedVariables false
set_option linter.unusedSimpArgs false
namespace Go.Proofs.YtklibcncmbofpaaGreat
abbrev Fr:=Nat×Bool×BT
def aW (f:Fr) (t:BT):BT:=if f.2.1 then .node f.1 f.2.2 t else .node f.1 t f.2.2
def ae:List Fr→BT→BT
 | [],t=>t
 | f::P,t=>ae P (aW f t)
def zG:List Fr→Int|[]=>-1|f::_=>f.1
def bV:List Fr→List Nat|[]=>[]|f::P=>f.1::(f.2.2.nodes++bV P)
def J2 (S:TS):List Fr→Int→Prop
 | [],_=>True
 | f::P,z=>S.kid f.2.1 f.1=z∧bG S f.1 (S.kid (!f.2.1) f.1) f.2.2∧S.u f.1=zG P∧J2 S P f.1
theorem lq (f:Fr) (t:BT):(aW f t).root=f.1:=by unfold aW;split<;>rfl
theorem JX (f:Fr) (t:BT):aW f t≠.nil:=by unfold aW;split<;>simp
theorem ig (f:Fr) (t:BT):(aW f t).nodes.Perm (f.1::(t.nodes++f.2.2.nodes)):=by
 unfold aW;split
 ·simp only [BT.nodes];exact List.Perm.cons _ List.perm_append_comm
 ·exact List.Perm.refl _
theorem aJ:∀ (P:List Fr) (t:BT),(ae P t).nodes.Perm (t.nodes++bV P)
 | [],t=>by simp [ae,bV]
 | f::P,t=>by
  refine (aJ P (aW f t)).trans ?_;refine ((ig f t).append_right (bV P)).trans ?_;simp only [bV,List.cons_append,List.append_assoc];exact (List.perm_middle (a:=f.1) (l₁:=t.nodes) (l₂:=f.2.2.nodes++bV P)).symm
theorem wK:∀ (P:List Fr) (t t':BT),t.root=t'.root→(ae P t).root=(ae P t').root
 | [],t,t',h=>h
 | f::P,t,t',h=>wK P _ _ (by rw [lq,lq])
theorem iO (f:Fr) (P:List Fr) (t t':BT):(ae (f::P) t).root=(ae (f::P) t').root:=wK P _ _ (by rw [lq,lq])
theorem pQ:∀ (P Q:List Fr) (t:BT),ae (P++Q) t=ae Q (ae P t)
 | [],_,_=>rfl
 | f::P,Q,t=>pQ P Q (aW f t)
theorem uB:∀ {t:BT} {x:Nat},x∈t.nodes→∃P l r,t=ae P (.node x l r)
 | .nil,_,h=>by cases h
 | .node y a b,x,h=>by
  simp only [BT.nodes,List.mem_cons,List.mem_append] at h;rcases h with rfl|h|h
  ·exact ⟨[],a,b,rfl⟩
  ·obtain ⟨P,l,r,e⟩:=uB h;exact ⟨P++[(y,false,b)],l,r,by rw [pQ,←e];rfl⟩
  ·obtain ⟨P,l,r,e⟩:=uB h;exact ⟨P++[(y,true,a)],l,r,by rw [pQ,←e];rfl⟩
theorem Gl {S:TS} {p:Int} (f:Fr) (t:BT):bG S p f.1 (aW f t)↔bG S f.1 t.root t∧S.kid f.2.1 f.1=t.root∧bG S f.1 (S.kid (!f.2.1) f.1) f.2.2∧S.u f.1=p:=by
 obtain ⟨x,s,o⟩:=f;cases s
 ·simp only [aW,Bool.false_eq_true,if_false,bG,TS.kid,Bool.not_false,if_true];constructor
  ·rintro ⟨_,h2,h3,h4⟩;have e:=h3.root;exact ⟨by rw [←e];exact h3,e,h4,h2⟩
  ·rintro ⟨h1,h2,h3,h4⟩;exact ⟨trivial,h4,by rw [h2];exact h1,h3⟩
 ·simp only [aW,if_true,bG,TS.kid,Bool.not_true,Bool.false_eq_true,if_false];constructor
  ·rintro ⟨_,h2,h3,h4⟩;have e:=h4.root;exact ⟨by rw [←e];exact h4,e,h3,h2⟩
  ·rintro ⟨h1,h2,h3,h4⟩;exact ⟨trivial,h4,h3,by rw [h2];exact h1⟩
theorem cz {S:TS}:∀ (P:List Fr) (t:BT),bG S (-1) (ae P t).root (ae P t)↔bG S (zG P) t.root t∧J2 S P t.root
 | [],t=>by simp [ae,zG,J2]
 | f::P,t=>by
  have h:=cz (S:=S) P (aW f t);rw [lq] at h
  show bG S (-1) (ae P (aW f t)).root (ae P (aW f t))↔_
  rw [h,Gl];simp only [zG,J2];constructor
  ·rintro ⟨⟨h1,h2,h3,h4⟩,h5⟩;exact ⟨h1,h2,h3,h4,h5⟩
  ·rintro ⟨h1,h2,h3,h4,h5⟩;exact ⟨⟨h1,h2,h3,h4⟩,h5⟩
theorem J2.frame {S S':TS}:∀ {P:List Fr} {z:Int},J2 S P z→(∀y,y∈bV P→S.at S' y)→J2 S' P z
 | [],_,_,_=>trivial
 | f::P,z,h,hs=>by
  obtain ⟨h1,h2,h3,h4⟩:=h;have hf:=hs f.1 (by simp [bV])
  have hk:∀s,S'.kid s f.1=S.kid s f.1:=fun s=>by unfold TS.kid;rw [hf.1,hf.2.1]
  exact ⟨by rw [hk];exact h1,by rw [hk];exact h2.frame (fun y hy=>hs y (by simp [bV,hy])),by rw [hf.2.2];exact h3,h4.frame (fun y hy=>hs y (by simp [bV,hy]))⟩
theorem J2.other {S S':TS} {f:Fr} {P:List Fr} {z z':Int} (h:J2 S (f::P) z) (hn:(bV (f::P)).Nodup) (h1:S'.kid f.2.1 f.1=z') (h2:S'.kid (!f.2.1) f.1=S.kid (!f.2.1) f.1) (h3:S'.u f.1=S.u f.1)
  (hs:∀y,y≠f.1→y∈bV (f::P)→S.at S' y):J2 S' (f::P) z':=by
 obtain ⟨_,g2,g3,g4⟩:=h;simp only [bV,List.nodup_cons,List.mem_append,not_or] at hn;exact ⟨h1,by rw [h2];exact g2.frame (fun y hy=>hs y (fun e=>hn.1.1 (by rw [←e];exact hy)) (by simp [bV,hy])),by rw [h3];exact g3,g4.frame (fun y hy=>hs y (fun e=>hn.1.2 (by rw [←e];exact hy)) (by simp [bV,hy]))⟩
theorem MW {S:TS} {i j:Nat} {y:Nat} (h1:y≠i) (h2:y≠j):S.at (jQ S i j) y:=by
 unfold jQ TS.aD TS.bA TS.at;refine ⟨?_,?_,?_⟩
 ·cases decide (S.r i=(j:Int))<;>simp [h1]
 ·cases decide (S.r i=(j:Int))<;>simp [h1]
 ·cases decide (S.r i=(j:Int))<;>simp [h2]
theorem y9 {S:TS} {i:Nat} {s:Bool} {v:Int}:∀y,(S.aD i s v).u y=S.u y:=fun y=>by unfold TS.aD;cases s<;>rfl
theorem J3 {S:TS} {f:Fr} {P:List Fr} {t:BT} (h:bG S (-1) (ae (f::P) t).root (ae (f::P) t)) (ht:t≠.nil) (hn:(ae (f::P) t).nodes.Nodup) :
  bG (jQ S f.1 t.root.toNat) (-1) t.root t∧bG (jQ S f.1 t.root.toNat) (-1) (ae (f::P) .nil).root (ae (f::P) .nil)∧∀y,y≠f.1→y≠t.root.toNat→S.at (jQ S f.1 t.root.toNat) y:=by
 obtain ⟨h1,h2⟩:=(cz _ _).1 h;have hnp:=(aJ (f::P) t).nodup_iff.1 hn;rw [List.nodup_append] at hnp;obtain ⟨n1,n2,n3⟩:=hnp;obtain ⟨rm,rc⟩:=bg ht;generalize hx:t.root.toNat=x at *
 have hfx:f.1≠x:=fun e=>n3 x rm f.1 (by simp [bV]) e.symm
 have hat:∀y,y≠f.1→y≠x→S.at (jQ S f.1 x) y:=fun y h1 h2=>MW h1 h2
 have hk:S.kid f.2.1 f.1=x:=by rw [h2.1,rc]
 have hside:decide (S.r f.1=(x:Int))=f.2.1:=by
  cases hs:f.2.1 with
  | true=>rw [hs] at hk;exact decide_eq_true (by simpa [TS.kid] using hk)
  | false=>
   refine decide_eq_false (fun e=>?_)
   have h3:=h2.2.1;rw [hs] at h3;have h4:=h3.root;have h5:f.2.2.root=(x:Int):=by rw [←h4];simpa [TS.kid] using e
   have h6:f.2.2≠.nil:=fun e=>by rw [e] at h5;simp [BT.root] at h5
   have h7:=(bg h6).1;rw [h5,π] at h7;exact n3 x rm x (by simp [bV,h7]) rfl
 have hkid:∀s,(jQ S f.1 x).kid s f.1=if s=f.2.1 then -1 else S.kid s f.1:=fun s=>by
  unfold jQ;rw [hside];unfold TS.aD TS.bA TS.kid;cases s<;>cases f.2.1<;>simp
 have hu:∀y,(jQ S f.1 x).u y=if y=x then -1 else S.u y:=fun y=>by
  unfold jQ TS.bA;simp only [y9]
 refine ⟨h1.GX n1 (fun y hy=>?_) (fun _=>?_),(cz _ _).2 ⟨rfl,h2.other n2 ?_ ?_ ?_ (fun y g1 g2=>hat y g1 (fun e=>n3 x rm y g2 e.symm))⟩,hat⟩
 ·have hyf:y≠f.1:=fun e=>n3 y hy f.1 (by simp [bV]) e
  refine ⟨?_,?_,fun hr=>?_⟩
  ·unfold jQ TS.aD TS.bA;cases decide (S.r f.1=(x:Int))<;>simp [hyf]
  ·unfold jQ TS.aD TS.bA;cases decide (S.r f.1=(x:Int))<;>simp [hyf]
  ·rw [hu,if_neg (by rw [hx] at hr;exact hr)]
 ·rw [hu,hx,if_pos rfl]
 ·rw [hkid,if_pos rfl];rfl
 ·rw [hkid,if_neg (by cases f.2.1<;>simp)]
 ·rw [hu,if_neg hfx]
theorem IQ {S:TS} {f:Fr} {P:List Fr} {m:BT} (h:bG S (-1) (ae (f::P) .nil).root (ae (f::P) .nil)) (hM:bG S (-1) m.root m) (hm:m≠.nil) (hn:(m.nodes++bV (f::P)).Nodup) :
  bG (iZ S f.1 m.root f.2.1) (-1) (ae (f::P) m).root (ae (f::P) m)∧∀y,y≠f.1→y≠m.root.toNat→S.at (iZ S f.1 m.root f.2.1) y:=by
 obtain ⟨_,h2⟩:=(cz _ _).1 h;rw [List.nodup_append] at hn;obtain ⟨n1,n2,n3⟩:=hn;obtain ⟨rm,rc⟩:=bg hm;have hfx:f.1≠m.root.toNat:=fun e=>n3 _ rm f.1 (by simp [bV]) e.symm
 have hkid:∀s,(iZ S f.1 m.root f.2.1).kid s f.1=if s=f.2.1 then m.root else S.kid s f.1:=fun s=>by
  unfold iZ TS.aD TS.bA TS.kid;cases s<;>cases f.2.1<;>simp
 have hu:∀y,(iZ S f.1 m.root f.2.1).u y=if y=m.root.toNat then (f.1:Int) else S.u y:=fun y=>by
  unfold iZ TS.bA;simp only [y9]
 have hl:∀y,y≠f.1→(iZ S f.1 m.root f.2.1).l y=S.l y∧(iZ S f.1 m.root f.2.1).r y=S.r y:=fun y hy=>by
  unfold iZ TS.aD TS.bA;cases f.2.1<;>simp [hy]
 have hat:∀y,y≠f.1→y≠m.root.toNat→S.at (iZ S f.1 m.root f.2.1) y:=fun y g1 g2=>⟨(hl y g1).1,(hl y g1).2,by rw [hu,if_neg g2]⟩
 refine ⟨(cz _ _).2 ⟨hM.GX n1 (fun y hy=>?_) (fun _=>by rw [hu,if_pos rfl];rfl),h2.other n2 ?_ ?_ ?_ (fun y g1 g2=>hat y g1 (fun e=>n3 _ rm y g2 e.symm))⟩,hat⟩
 ·have hyf:y≠f.1:=fun e=>n3 y hy f.1 (by simp [bV]) e
  exact ⟨(hl y hyf).1,(hl y hyf).2,fun hr=>by rw [hu,if_neg hr]⟩
 ·rw [hkid,if_pos rfl]
 ·rw [hkid,if_neg (by cases f.2.1<;>simp)]
 ·rw [hu,if_neg hfx]
/-! ### heaps, ranks -/
theorem rH {A:NS} {f:Fr} {t:BT}:Heap A (aW f t)↔(∀y,y∈t.nodes→bH A f.1 y)∧(∀y,y∈f.2.2.nodes→bH A f.1 y)∧Heap A t∧Heap A f.2.2:=by
 unfold aW
 split
 ·simp only [Heap];constructor
  ·rintro ⟨a,b,c,d⟩;exact ⟨b,a,d,c⟩
  ·rintro ⟨a,b,c,d⟩;exact ⟨b,a,d,c⟩
 ·simp only [Heap]
theorem pF {A:NS}:∀ {P:List Fr} {t:BT},Heap A (ae P t)→Heap A t
 | [],_,h=>h
 | f::P,t,h=>(rH.1 (pF (P:=P) h)).2.2.1
theorem qi {A:NS}:∀ {P:List Fr} {t t':BT},Heap A (ae P t)→Heap A t'→(∀y,y∈t'.nodes→y∈t.nodes)→Heap A (ae P t')
 | [],_,_,_,h,_=>h
 | f::P,t,t',h,h',hs=>by
  have h1:=rH.1 (pF (P:=P) h);refine qi (P:=P) h (rH.2 ⟨fun y hy=>h1.1 y (hs y hy),h1.2.1,h',h1.2.2.2⟩) (fun y hy=>?_)
  have hy':=(ig f t').mem_iff.1 hy;refine (ig f t).mem_iff.2 ?_;simp only [List.mem_cons,List.mem_append] at hy' ⊢;rcases hy' with h|h|h
  ·exact Or.inl h
  ·exact Or.inr (Or.inl (hs y h))
  ·exact Or.inr (Or.inr h)
def jg (f:Fr) (n:Nat):Nat:=(if f.2.1 then n else f.2.2.rank)+1
theorem xS (f:Fr) (t:BT):(aW f t).rank=jg f t.rank:=by unfold aW jg;split<;>rfl
def Jd (rk:Nat→Nat):List Fr→Nat→Prop
 | [],_=>True
 | f::P,n=>dV rk f.2.2∧rk f.1=jg f n∧Jd rk P (jg f n)
theorem LH {rk:Nat→Nat} {f:Fr} {t:BT}:dV rk (aW f t)↔dV rk t∧dV rk f.2.2∧rk f.1=jg f t.rank:=by
 unfold aW jg
 split
 ·simp only [dV];constructor
  ·rintro ⟨a,b,c⟩;exact ⟨c,b,a⟩
  ·rintro ⟨a,b,c⟩;exact ⟨c,b,a⟩
 ·simp only [dV];constructor
  ·rintro ⟨a,b,c⟩;exact ⟨b,c,a⟩
  ·rintro ⟨a,b,c⟩;exact ⟨c,a,b⟩
theorem vR {rk:Nat→Nat}:∀ (P:List Fr) (t:BT),dV rk (ae P t)↔dV rk t∧Jd rk P t.rank
 | [],t=>by simp [ae,Jd]
 | f::P,t=>by
  show dV rk (ae P (aW f t))↔_
  rw [vR P,LH,xS];simp only [Jd];constructor
  ·rintro ⟨⟨a,b,c⟩,d⟩;exact ⟨a,b,c,d⟩
  ·rintro ⟨a,b,c,d⟩;exact ⟨⟨a,b,c⟩,d⟩
theorem Jd.frame {rk rk':Nat→Nat}:∀ {P:List Fr} {n:Nat},Jd rk P n→(∀y,y∈bV P→rk' y=rk y)→Jd rk' P n
 | [],_,_,_=>trivial
 | f::P,n,h,hs=>⟨h.1.frame (fun y hy=>hs y (by simp [bV,hy])),by rw [hs f.1 (by simp [bV])];exact h.2.1,h.2.2.frame (fun y hy=>hs y (by simp [bV,hy]))⟩
def zi:List Fr→Nat→Prop
 | [],_=>True
 | f::P,n=>Lean f.2.2∧(if f.2.1 then n≤f.2.2.rank else f.2.2.rank≤n)∧zi P (jg f n)
theorem EU {f:Fr} {t:BT}:Lean (aW f t)↔Lean t∧Lean f.2.2∧(if f.2.1 then t.rank≤f.2.2.rank else f.2.2.rank≤t.rank):=by
 unfold aW
 split
 ·simp only [Lean];constructor
  ·rintro ⟨a,b,c⟩;exact ⟨c,b,a⟩
  ·rintro ⟨a,b,c⟩;exact ⟨c,b,a⟩
 ·simp only [Lean];constructor
  ·rintro ⟨a,b,c⟩;exact ⟨b,c,a⟩
  ·rintro ⟨a,b,c⟩;exact ⟨c,a,b⟩
theorem qJ:∀ (P:List Fr) (t:BT),Lean (ae P t)↔Lean t∧zi P t.rank
 | [],t=>by simp [ae,zi]
 | f::P,t=>by
  show Lean (ae P (aW f t))↔_
  rw [qJ P,EU,xS];simp only [zi];constructor
  ·rintro ⟨⟨a,b,c⟩,d⟩;exact ⟨a,b,c,d⟩
  ·rintro ⟨a,b,c,d⟩;exact ⟨⟨a,b,c⟩,d⟩
def iT:List Fr→Nat→Nat→BT→BT→BT
 | [],_,x,l,r=>au x l r
 | f::P,was,x,l,r=>
  if (au x l r).rank=was then ae (f::P) (au x l r)
  else if f.2.1 then iT P (jg f was) f.1 f.2.2 (au x l r) else iT P (jg f was) f.1 (au x l r) f.2.2
theorem nR:∀ (P:List Fr) (was x:Nat) (l r:BT),(iT P was x l r).nodes.Perm (ae P (.node x l r)).nodes
 | [],was,x,l,r=>jd x l r
 | f::P,was,x,l,r=>by
  have h0:(aW f (au x l r)).nodes.Perm (aW f (.node x l r)).nodes:=
   (ig f _).trans ((List.Perm.cons _ ((jd x l r).append_right _)).trans (ig f (.node x l r)).symm)
  have h1:(ae P (aW f (au x l r))).nodes.Perm (ae P (aW f (.node x l r))).nodes:=
   (aJ P _).trans ((h0.append_right _).trans (aJ P _).symm)
  unfold iT
  split
  ·exact h1
  ·split
   ·rename_i hs
    have e:aW f (au x l r)=.node f.1 f.2.2 (au x l r):=by unfold aW;rw [if_pos hs]
    rw [e] at h1;exact (nR P _ _ _ _).trans h1
   ·rename_i hs
    have e:aW f (au x l r)=.node f.1 (au x l r) f.2.2:=by unfold aW;rw [if_neg hs]
    rw [e] at h1;exact (nR P _ _ _ _).trans h1
theorem pX:∀ (P:List Fr) (was x:Nat) (l r:BT),(iT P was x l r).root=(ae P (.node x l r)).root
 | [],was,x,l,r=>ik x l r
 | f::P,was,x,l,r=>by
  have h1:=iO f P (au x l r) (.node x l r);unfold iT
  split
  ·exact h1
  ·split
   ·rename_i hs
    have e:aW f (au x l r)=.node f.1 f.2.2 (au x l r):=by unfold aW;rw [if_pos hs]
    unfold ae at h1;rw [e] at h1;exact (pX P _ _ _ _).trans h1
   ·rename_i hs
    have e:aW f (au x l r)=.node f.1 (au x l r) f.2.2:=by unfold aW;rw [if_neg hs]
    unfold ae at h1;rw [e] at h1;exact (pX P _ _ _ _).trans h1
theorem pU {A:NS}:∀ (P:List Fr) (was x:Nat) (l r:BT),Heap A (ae P (.node x l r))→Heap A (iT P was x l r)
 | [],was,x,l,r,h=>pJ h.1 h.2.1 h.2.2.1 h.2.2.2
 | f::P,was,x,l,r,h=>by
  have h0:=pF h;have h1:Heap A (ae (f::P) (au x l r)):=qi h (pJ h0.1 h0.2.1 h0.2.2.1 h0.2.2.2) (fun y hy=>(jd x l r).mem_iff.1 hy)
  unfold iT
  split
  ·exact h1
  ·split
   ·rename_i hs
    have e:aW f (au x l r)=.node f.1 f.2.2 (au x l r):=by unfold aW;rw [if_pos hs]
    unfold ae at h1;rw [e] at h1;exact pU P _ _ _ _ h1
   ·rename_i hs
    have e:aW f (au x l r)=.node f.1 (au x l r) f.2.2:=by unfold aW;rw [if_neg hs]
    unfold ae at h1;rw [e] at h1;exact pU P _ _ _ _ h1
theorem pR:∀ (P:List Fr) (was x:Nat) (l r:BT),Lean l→Lean r→zi P was→Lean (iT P was x l r)
 | [],was,x,l,r,hl,hr,_=>iV hl hr
 | f::P,was,x,l,r,hl,hr,h=>by
  unfold iT
  split
  ·rename_i e
   exact (qJ _ _).2 ⟨iV hl hr,by rw [e];exact h⟩
  ·split
   ·exact pR P _ _ _ _ h.1 (iV hl hr) h.2.2
   ·exact pR P _ _ _ _ (iV hl hr) h.1 h.2.2
end Go.Proofs.YtklibcncmbofpaaGreat
namespace Go.Proofs.YtklibcncmbofpaaGreat
open Go Go.RowKit
structure uE (S0:TS) (rk0:Nat→Nat) (T:BT) (X:List Nat) (S:TS) (rk:Nat→Nat) (P:List Fr) (was x:Nat) (l r:BT):Prop where
 Aw:bG S (-1) (ae P (.node x l r)).root (ae P (.node x l r))
 perm:(ae P (.node x l r)).nodes.Perm X
 rl:dV rk l
 rr:dV rk r
 rx:rk x=was
 rP:Jd rk P was
 far:∀y,y∉X→S0.at S y∧rk y=rk0 y
 res:iT P was x l r=T
structure qd (S0:TS) (rk0:Nat→Nat) (T:BT) (X:List Nat) (S:TS) (rk:Nat→Nat):Prop where
 Aw:bG S (-1) T.root T
 P5:dV rk T
 far:∀y,y∉X→S0.at S y∧rk y=rk0 y
section
variable {S0 S S2:TS} {rk0 rk rk2:Nat→Nat} {T:BT} {X:List Nat} {P:List Fr} {was x:Nat} {l r:BT}
theorem uE.parts (h:uE S0 rk0 T X S rk P was x l r) (hX:X.Nodup):x∈X∧(BT.node x l r).nodes.Nodup∧(∀y,y∈(BT.node x l r).nodes→y∈X)∧(∀y,y∈bV P→y≠x∧y∈X)∧(bV P).Nodup:=by
 have hp:=(aJ P (.node x l r)).symm.trans h.perm;have hn:=hp.nodup_iff.2 hX;rw [List.nodup_append] at hn;refine ⟨hp.mem_iff.1 (by simp [BT.nodes]),hn.1,fun y hy=>hp.mem_iff.1 (List.mem_append_left _ hy),fun y hy=>⟨fun e=>hn.2.2 x (by simp [BT.nodes]) y hy e.symm,hp.mem_iff.1 (List.mem_append_right _ hy)⟩,hn.2.1⟩
theorem uE.settled (h:uE S0 rk0 T X S rk P was x l r) (hX:X.Nodup) (hT2:bG S2 (zG P) x (au x l r)) (hs:∀y,y≠x→S.at S2 y) (hk:∀y,y≠x→rk2 y=rk y) :
  bG S2 (-1) (ae P (au x l r)).root (ae P (au x l r))∧Jd rk2 P was∧(∀y,y∉X→S0.at S2 y∧rk2 y=rk0 y)∧(ae P (au x l r)).nodes.Perm X:=by
 obtain ⟨p1,p2,p3,p4,p5⟩:=h.parts hX;refine ⟨(cz _ _).2 ⟨by rw [ik];exact hT2,?_⟩,h.rP.frame (fun y hy=>hk y (p4 y hy).1),fun y hy=>?_,?_⟩
 ·have:=((cz _ _).1 h.Aw).2;rw [ik];exact this.frame (fun y hy=>hs y (p4 y hy).1)
 ·have hne:y≠x:=fun e=>hy (by rw [e];exact p1)
  have a1:=h.far y hy;have a2:=hs y hne;exact ⟨⟨a2.1.trans a1.1.1,a2.2.1.trans a1.1.2.1,a2.2.2.trans a1.1.2.2⟩,(hk y hne).trans a1.2⟩
 ·exact (aJ P _).trans (((jd x l r).append_right _).trans ((aJ P (.node x l r)).symm.trans h.perm))
theorem uE.stay (h:uE S0 rk0 T X S rk P was x l r) (hX:X.Nodup) (hT2:bG S2 (zG P) x (au x l r)) (hr2:dV rk2 (au x l r)) (hs:∀y,y≠x→S.at S2 y) (hk:∀y,y≠x→rk2 y=rk y)
  (e:(au x l r).rank=was):qd S0 rk0 T X S2 rk2:=by
 obtain ⟨a1,a2,a3,a4⟩:=h.settled hX hT2 hs hk;have hT:T=ae P (au x l r):=by
  rw [←h.res];cases P with
  | nil=>rfl
  | cons f P=>unfold iT;rw [if_pos e]
 rw [hT];exact ⟨a1,(vR _ _).2 ⟨hr2,by rw [e];exact a2⟩,a3⟩
theorem uE.top (h:uE S0 rk0 T X S rk [] was x l r) (hX:X.Nodup) (hT2:bG S2 (zG []) x (au x l r)) (hr2:dV rk2 (au x l r)) (hs:∀y,y≠x→S.at S2 y) (hk:∀y,y≠x→rk2 y=rk y) :
  qd S0 rk0 T X S2 rk2:=by
 obtain ⟨a1,a2,a3,a4⟩:=h.settled hX hT2 hs hk;have hT:T=ae [] (au x l r):=by rw [←h.res];rfl
 rw [hT];exact ⟨a1,hr2,a3⟩
theorem uE.up {f:Fr} (h:uE S0 rk0 T X S rk (f::P) was x l r) (hX:X.Nodup) (hT2:bG S2 (zG (f::P)) x (au x l r)) (hr2:dV rk2 (au x l r)) (hs:∀y,y≠x→S.at S2 y) (hk:∀y,y≠x→rk2 y=rk y)
  (e:(au x l r).rank≠was):∃l' r',uE S0 rk0 T X S2 rk2 P (jg f was) f.1 l' r':=by
 obtain ⟨a1,a2,a3,a4⟩:=h.settled hX hT2 hs hk;have hres:=h.res;unfold iT at hres;rw [if_neg e] at hres;unfold ae at a1 a4
 by_cases hsd:f.2.1=true
 ·rw [if_pos hsd] at hres;have e1:aW f (au x l r)=.node f.1 f.2.2 (au x l r):=by unfold aW;rw [if_pos hsd]
  rw [e1] at a1 a4;exact ⟨_,_,a1,a4,a2.1,hr2,a2.2.1,a2.2.2,a3,hres⟩
 ·rw [if_neg hsd] at hres;have e1:aW f (au x l r)=.node f.1 (au x l r) f.2.2:=by unfold aW;rw [if_neg hsd]
  rw [e1] at a1 a4;exact ⟨_,_,a1,a4,hr2,a2.1,a2.2.1,a2.2.2,a3,hres⟩
end
theorem Gh:∀ {P:List Fr},(bV P).Nodup→(P.map (·.1)).Nodup∧∀y,y∈P.map (·.1)→y∈bV P
 | [],_=>⟨List.nodup_nil,fun y hy=>by cases hy⟩
 | f::P,h=>by
  simp only [bV,List.nodup_cons,List.mem_append,not_or,List.nodup_append] at h;obtain ⟨h1,h2⟩:=Gh (P:=P) h.2.2.1;refine ⟨List.nodup_cons.2 ⟨fun hm=>h.1.2 (h2 _ hm),h1⟩,fun y hy=>?_⟩
  simp only [List.map_cons,List.mem_cons] at hy;rcases hy with rfl|hy
  ·simp [bV]
  ·simp [bV,h2 y hy]
theorem EH {L done rest:List Nat} {x:Nat} (hL:L.Nodup) (e:L=done++x::rest):L.idxOf x=done.length∧done.length<L.length:=by
 subst e;have hx:x∉done:=fun hm=>by
  rw [List.nodup_append] at hL;exact hL.2.2 x hm x σ rfl
 refine ⟨by rw [List.idxOf_append,if_neg hx];simp,σ⟩
section
variable {w:World} {B:LB} {F:List Nat} {gt ct:Nat} {A:NS} {st:Nat} {S:TS} {rk:Nat→Nat} {ah:List Int}
theorem yG (h:jh w B F gt ct A st S rk ah) {P:List Fr} {was x:Nat} {l r:BT} (hM:uE S rk (iT P was x l r) (ae P (.node x l r)).nodes S rk P was x l r) (hX:(ae P (.node x l r)).nodes.Nodup)
  (hlt:∀y,y∈(ae P (.node x l r)).nodes→y<A.cs.length) :
  Calls Tryz.prog 245 #[.pointer (some ⟨B.n0,0,none⟩),.int .i64 (x:Int)] w fun e w'=>e=.returned (.tuple #[])∧aa [B.ba,B.br] w w'∧
   ∃S' rk',jh w' B F gt ct A st S' rk' ah∧qd S rk (iT P was x l r) (ae P (.node x l r)).nodes S' rk':=by
 generalize hT:iT P was x l r=T at *
 generalize hXX:(ae P (.node x l r)).nodes=X at *
 have hL:(x::P.map (·.1)).Nodup:=by
  obtain ⟨p1,p2,p3,p4,p5⟩:=hM.parts hX;obtain ⟨q1,q2⟩:=Gh p5;exact List.nodup_cons.2 ⟨fun hm=>(p4 x (q2 x hm)).1 rfl,q1⟩
 generalize hLL:x::P.map (·.1)=L at *
 have hblk:=h.lt;have hcF:=h.cF;have hs:=χ h.sep;have hA:=h.cells.ok.c1;have HM0:=χ h;have MM:=χ hM;have HX:=χ hX;have HL:=χ hL;have HLL:=χ hLL;have HLT:=χ hlt;clear h hM hX hL hlt hT hXX hblk hLL
 go_enter Tryz.func245,Tryz.ntmps245
 go_wp2
 go_loopw [1] (fun a wr=>∃ (S1:TS) (rk1:Nat→Nat),jh wr B F gt ct A st S1 rk1 ah∧aa [B.ba,B.br] w wr∧((∃ (P1:List Fr) (was1 x1:Nat) (l1 r1:BT) (dn:List Nat),a=.int .i64 (x1:Int)∧L=dn++x1::P1.map (·.1)∧uE S rk T X S1 rk1 P1 was1 x1 l1 r1)∨(a=.int .i64 (-1)∧qd S rk T X S1 rk1))) (fun a _=>if intOf a=-1 then 0 else L.length-L.idxOf (intOf a).toNat)
 case atStart=>exact ⟨S,rk,HM0.out,aa.refl _ _,Or.inl ⟨P,was,x,l,r,[],rfl,HLL.out.symm,MM.out⟩⟩
 case round=>
  obtain ⟨S1,rk1,hM,hu,hor⟩:=hrel;rename World=>w5
  rcases hor with ⟨P1,was1,x1,l1,r1,dn,rfl,hLe,hMe⟩|⟨rfl,hE⟩
  ·have hxb:((x1:Int) != -1)=true:=σ;obtain ⟨p1,p2,p3,p4,p5⟩:=hMe.parts HX.out;have hx1:=HLT.out x1 p1;have h0:=hM.h0;have h2:=hM.h2;have d0:=hM.ranks.cell x1 hx1;have ex:=hMe.rx;rw [ex] at d0;have hT1:=((cz _ _).1 hMe.Aw).1;have ks:=nX hM (p:=zG P1) hT1 hMe.rl hMe.rr p2 (fun y hy=>HLT.out y (p3 y hy))
   have ME:=χ hMe;have HLe:=χ hLe;have hu1:S1.u x1=zG P1:=hT1.2.1;have HPU:=χ hu1;clear hMe p1 p2 p3 p4 p5 hT1 hM ex hLe hu1
   go_wp2_with fail
   refine ks.mono ?_;rintro e w7 ⟨rfl,hu7,S3,rk3,hM7,hT7,hr7,hs7,hsu,hk7⟩;have e7:rk3 x1=(au x1 l1 r1).rank:=by
    have:=hr7.root (by unfold au;split<;>simp)
    rw [ik] at this;simpa using this
   have g2:=hM7.h2;have g1:=hM7.h1;have d7:=hM7.ranks.cell x1 hx1;rw [e7] at d7;have hsu2:S3.u x1=zG P1:=hsu.trans HPU.out;have ku:=KF B.bt B.ba A.cs.length S3 (x1:Int) w7 hM7.trees;rw [show mF A.cs.length S3 (x1:Int)=zG P1 by unfold mF;rw [if_pos ω];simpa using hsu2] at ku
   have HM7:=χ hM7;have HQ7:=χ (ψ hT7 (ψ hr7 (ψ hs7 hk7)));have HU7:=χ (hu.trans hu7);have hrk:∃k3,(au x1 l1 r1).rank=k3:=⟨_,rfl⟩
   obtain ⟨k3,hrk⟩:=hrk;rw [hrk] at d7;have HRK:=χ hrk;clear hM7 hT7 hr7 hs7 hk7 hu hu7 hsu hsu2 e7 ks h0 h2 d0 hrk HPU
   by_cases he:k3=was1
   ·have hb:((k3:Int) == (was1:Int))=true:=by rw [he];simp
    go_wp2;exact bodyPost_ret (v:=.tuple #[]) (by simp [results,Tryz.results245,go_sem]) rfl ⟨rfl,HU7.out,S3,rk3,HM7.out,ME.out.stay HX.out HQ7.out.1 HQ7.out.2.1 HQ7.out.2.2.1 HQ7.out.2.2.2 (HRK.out.trans he)⟩
   ·have hb:((k3:Int) == (was1:Int))=false:=ζ;have HNE:=χ (show (au x1 l1 r1).rank≠was1 from fun e=>he (HRK.out.symm.trans e))
    generalize hz:zG P1=z at *
    clear he
    go_wp2_with (first
     | (go_at_call 250;(with_reducible refine (ku).mono ?_);rintro e w8 ⟨rfl,kk,rfl⟩)
     | (go_at_call 247;(with_reducible refine (kZ _ _).mono ?_);rintro e w9 ⟨rfl,hw9⟩;rw [hw9];clear hw9 w9)
     | fail)
    cases P1 with
    | nil=>
     subst hz;refine ⟨⟨S3,rk3,HM7.out.aj ((aa.refl _ _).drewN kk),HU7.out.drewN kk,Or.inr ⟨rfl,ME.out.top HX.out HQ7.out.1 HQ7.out.2.1 HQ7.out.2.2.1 HQ7.out.2.2.2⟩⟩,?_⟩;have hi:=EH HL.out HLe.out
     show (if ((-1:Int))=-1 then 0 else _)<(if ((x1:Int))=-1 then 0 else L.length-L.idxOf ((x1:Int)).toNat)
     rw [if_pos rfl,if_neg ω,π,hi.1];omega
    | cons f P2=>
     subst hz;obtain ⟨l2,r2,hM2⟩:=ME.out.up HX.out HQ7.out.1 HQ7.out.2.1 HQ7.out.2.2.1 HQ7.out.2.2.2 HNE.out;refine ⟨⟨S3,rk3,HM7.out.aj ((aa.refl _ _).drewN kk),HU7.out.drewN kk,Or.inl ⟨P2,_,f.1,l2,r2,dn++[x1],rfl,by rw [HLe.out];simp,hM2⟩⟩,?_⟩
     have hi:=EH HL.out HLe.out;have hi2:=EH (done:=dn++[x1]) (x:=f.1) (rest:=P2.map (·.1)) HL.out (by rw [HLe.out];simp)
     show (if ((f.1:Int))=-1 then 0 else L.length-L.idxOf ((f.1:Int)).toNat)<(if ((x1:Int))=-1 then 0 else L.length-L.idxOf ((x1:Int)).toNat)
     rw [if_neg ω,if_neg ω,π,π,hi.1,hi2.1];rw [List.length_append,List.length_singleton] at hi2 ⊢;omega
  ·go_wp2
   (first|go_end0|go_ret)
   exact ⟨rfl,hu,S1,rk1,hM,hE⟩
end
end Go.Proofs.YtklibcncmbofpaaGreat
namespace Go.Proofs.YtklibcncmbofpaaGreat
theorem Heap.frame {A A':NS}:∀ {t:BT},Heap A t→(∀x,x∈t.nodes→A'.c x=A.c x)→Heap A' t
 | .nil,_,_=>trivial
 | .node x l r,h,hs=>by
  have hx:=hs x (by simp [BT.nodes])
  refine ⟨fun y hy=>(dJ hx (hs y (by simp [BT.nodes,hy]))).2 (h.1 y hy),fun y hy=>(dJ hx (hs y (by simp [BT.nodes,hy]))).2 (h.2.1 y hy),h.2.2.1.frame (fun y hy=>hs y (by simp [BT.nodes,hy])),h.2.2.2.frame (fun y hy=>hs y (by simp [BT.nodes,hy]))⟩
structure LD where
 H:NS→BT→Prop
 frame:∀ {A A':NS} {t:BT},H A t→(∀x,x∈t.nodes→A'.c x=A.c x)→H A' t
 nil:∀A,H A .nil
abbrev heapK:LD:=⟨Heap,Heap.frame,fun _=>trivial⟩
structure sM (K:LD) (A:NS) (S:TS) (ah:List Int) (tr:Nat→BT):Prop where
 top:∀h,h<A.hs.length→ah.getD h 0=(tr h).root
 Aw:∀h,bG S (-1) (tr h).root (tr h)
 mem:∀h x,x∈(tr h).nodes↔0<h∧x<A.cs.length∧(A.c x).i=h
 nd:∀h,(tr h).nodes.Nodup
 heap:∀h,K.H A (tr h)
 free:∀x,x<A.cs.length→(A.c x).i=0→S.l x=-1∧S.r x=-1∧S.u x=-1
abbrev PI:=sM heapK
theorem sM.next {K:LD} {A A':NS} {S S':TS} {ah tops':List Int} {tr tr':Nat→BT} (h:sM K A S ah tr) (hc:A'.cs.length=A.cs.length) (keep:Nat→Prop)
  (k1:∀g,keep g→tr' g=tr g∧∀x,x∈(tr g).nodes→S.at S' x∧A'.c x=A.c x)
  (k2:∀g,keep g→∀x,x<A.cs.length→0<g→((A'.c x).i=g↔(A.c x).i=g))
  (n1:∀g,¬keep g→bG S' (-1) (tr' g).root (tr' g)∧(tr' g).nodes.Nodup∧K.H A' (tr' g)∧∀x,x∈(tr' g).nodes↔0<g∧x<A.cs.length∧(A'.c x).i=g)
  (tp:∀g,g<A'.hs.length→tops'.getD g 0=(tr' g).root)
  (fr:∀x,x<A.cs.length→(A'.c x).i=0→S'.l x=-1∧S'.r x=-1∧S'.u x=-1):sM K A' S' tops' tr':=by
 refine ⟨tp,fun g=>?_,fun g x=>?_,fun g=>?_,fun g=>?_,fun x hx=>fr x ω⟩
 ·by_cases hk:keep g
  ·obtain ⟨e,hs⟩:=k1 g hk;rw [e];exact (h.Aw g).frame (fun y hy=>(hs y hy).1)
  ·exact (n1 g hk).1
 ·rw [hc]
  by_cases hk:keep g
  ·rw [(k1 g hk).1,h.mem g x];constructor
   ·rintro ⟨a,b,c⟩;exact ⟨a,b,(k2 g hk x b a).2 c⟩
   ·rintro ⟨a,b,c⟩;exact ⟨a,b,(k2 g hk x b a).1 c⟩
  ·exact (n1 g hk).2.2.2 x
 ·by_cases hk:keep g
  ·rw [(k1 g hk).1];exact h.nd g
  ·exact (n1 g hk).2.1
 ·by_cases hk:keep g
  ·obtain ⟨e,hs⟩:=k1 g hk;rw [e];exact K.frame (h.heap g) (fun y hy=>(hs y hy).2)
  ·exact (n1 g hk).2.2.1
def single (x:Nat):BT:=.node x .nil .nil
theorem rD {S:TS} {x:Nat} (h:S.l x=-1∧S.r x=-1∧S.u x=-1):bG S (-1) (single x).root (single x):=⟨rfl,h.2.2,h.1,h.2.1⟩
theorem sM.out {K:LD} {A:NS} {S:TS} {ah:List Int} {tr:Nat→BT} (h:sM K A S ah tr) {x g:Nat} (hx:(A.c x).i=0):x∉(tr g).nodes:=fun hm=>by
 have:=(h.mem g x).1 hm;omega
theorem sM.put {K:LD} {A:NS} {S S':TS} {ah:List Int} {tr:Nat→BT} (h:sM K A S ah tr) (ok:A.Ok) (hn:ah.length=A.hs.length) {g x:Nat} {k s:Int} (hB:jy A g x=true) {t':BT}
  (hT:bG S' (-1) t'.root t') (hp:t'.nodes.Perm ((tr g).nodes++[x])) (hH:K.H (aB A g x k s) t') (hs:∀y,y∉(tr g).nodes++[x]→S.at S' y) :
  sM K (aB A g x k s) S' (ah.set g t'.root) (fun q=>if q=g then t' else tr q):=by
 obtain ⟨b1,b2,b3⟩:=(cB _ _ _).1 hB;have b4:=(aK _ _).1 b1;have hx:x<A.cs.length:=by have:=(dK _ _).1 b2;omega
 have h0:(A.c x).i=0:=by
  have:=(ok.nat x hx).1;have h3:¬ (0<(A.c x).i):=fun h'=>by rw [(af A x).2 ⟨hx,h'⟩] at b3;cases b3
  omega
 have hc:∀y,(aB A g x k s).c y=if y=x then ⟨g,k,s⟩ else A.c y:=fun y=>by
  unfold aB;rw [if_pos hB,π,iD]
  by_cases e:y=x
  ·rw [if_pos ⟨e,hx⟩,if_pos e]
  ·rw [if_neg (fun h=>e h.1),if_neg e]
 have hl:(aB A g x k s).cs.length=A.cs.length:=by unfold aB;rw [if_pos hB,dI]
 have hh:(aB A g x k s).hs=A.hs:=by unfold aB;rw [if_pos hB];rfl
 have hgn:g<A.hs.length:=ω;refine h.next hl (fun q=>q≠g) (fun q hq=>⟨if_neg hq,fun y hy=>?_⟩) (fun q hq y hy hq0=>?_) (fun q hq=>?_) (fun q hq=>?_) (fun y hy hy0=>?_)
 ·have hyx:y≠x:=fun e=>h.out (g:=q) h0 (by rw [←e];exact hy)
  have hyg:y∉(tr g).nodes:=fun hm=>by
   have a1:=(h.mem g y).1 hm;have a2:=(h.mem q y).1 hy;omega
  exact ⟨hs y (by simp [hyx,hyg]),by rw [hc,if_neg hyx]⟩
 ·rw [hc]
  by_cases e:y=x
  ·rw [if_pos e,e];simp only;omega
  ·rw [if_neg e]
 ·have hq':q=g:=Classical.not_not.1 hq;subst hq';rw [if_pos rfl];refine ⟨hT,hp.nodup_iff.2 ?_,hH,fun y=>?_⟩
  ·rw [List.nodup_append];refine ⟨h.nd q,σ,fun a ha b hb e=>?_⟩
   simp only [List.mem_singleton] at hb;exact h.out (g:=q) h0 (by rw [←hb,←e];exact ha)
  ·rw [hp.mem_iff,List.mem_append,List.mem_singleton,h.mem q y,hc]
   by_cases e:y=x
   ·rw [if_pos e];simp only [e,or_true,true_iff];exact ⟨ω,hx,trivial⟩
   ·rw [if_neg e];simp only [e,or_false]
 ·rw [hh] at hq
  by_cases e:q=g
  ·rw [if_pos e,e,φ,List.getElem?_set,if_pos rfl,if_pos ω];rfl
  ·rw [if_neg e,φ,List.getElem?_set,if_neg (fun h=>e h.symm),←φ];exact h.top q hq
 ·rw [hc] at hy0
  by_cases e:y=x
  ·rw [if_pos e] at hy0;simp only at hy0;omega
  ·rw [if_neg e] at hy0;have hyn:y∉(tr g).nodes++[x]:=by
    simp only [List.mem_append,List.mem_singleton,e,or_false];exact h.out hy0
   have a1:=h.free y hy hy0;have a2:=hs y hyn;exact ⟨a2.1.trans a1.1,a2.2.1.trans a1.2.1,a2.2.2.trans a1.2.2⟩
theorem Ae {K:LD} (n:Nat):sM K (NS.new n) TS.none [-1] (fun _=>BT.nil):=by
 refine ⟨fun h hh=>?_,fun h=>rfl,fun h x=>?_,fun h=>List.nodup_nil,fun h=>K.nil _,fun x hx _=>⟨rfl,rfl,rfl⟩⟩
 ·have:h=0:=by simp [NS.new] at hh;exact hh
  subst this;rfl
 ·rw [NS.uZ];simp only [BT.nodes,List.not_mem_nil,false_iff,Cl.z];omega
theorem sM.make {K:LD} {A:NS} {S:TS} {ah:List Int} {tr:Nat→BT} (h:sM K A S ah tr) (ok:A.Ok) (hn:ah.length=A.hs.length) (hl:¬65536<A.hs.length)  :sM K (aG A) S (ah++[-1]) tr:=by
 have hc:(aG A).cs=A.cs:=by unfold aG;rw [if_neg hl]
 have hh:(aG A).hs=A.hs++[true]:=by unfold aG;rw [if_neg hl]
 have hcc:∀x,(aG A).c x=A.c x:=fun x=>by unfold NS.c;rw [hc]
 refine h.next (by rw [hc]) (fun _=>True) (fun g _=>⟨rfl,fun x _=>⟨⟨rfl,rfl,rfl⟩,hcc x⟩⟩) (fun g _ x _ _=>by rw [hcc]) (fun g hg=>absurd trivial hg) (fun g hg=>?_) (fun x hx h0=>h.free x hx (by rw [hcc] at h0;exact h0))
 rw [hh,List.length_append,List.length_singleton] at hg
 by_cases e:g<A.hs.length
 ·rw [φ,List.getElem?_append_left ω,←φ];exact h.top g e
 ·have e2:g=ah.length:=ω;have hnil:tr g=.nil:=by
   cases ht:tr g with
   | nil=>rfl
   | node x l r=>
    have hm:=(h.mem g x).1 (by rw [ht];simp [BT.nodes])
    have:=(ok.nat x hm.2.1).2;omega
  rw [φ,e2,List.getElem?_append_right (Nat.le_refl _)];rw [←e2,hnil];simp [BT.root]
end Go.Proofs.YtklibcncmbofpaaGreat
