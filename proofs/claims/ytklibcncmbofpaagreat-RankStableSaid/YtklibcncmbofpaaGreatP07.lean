/-
  Lemmas for RankSorts: Ar3, Pq, Chk, PqO, Pq2. Conditions: those of each lemma.
-/
import Derived.Test.YtklibcncmbofpaaGreatP06
set_option maxHeartbeats 8000000
set_option maxRecDepth 10000
set_option linter.unusedVariables false
set_option linter.unusedSimpArgs false
namespace Go.Proofs.YtklibcncmbofpaaGreat
open Go Go.RowKit
theorem OW {R:AR} {x:Nat} (h:R.Ok) (hv:R.v x=true):(R.put x (R.g x,false)).Ok:=by
 have k:=(vK h hv).1;refine ⟨k.n,k.nx,k.NJ,fun z hz=>k.wt z ?_,h.nd,k.fresh,k.lv,k.gm⟩
 show z∈(if R.g x<R.most then R.wait++[x] else R.wait)
 split
 ·exact List.mem_append.2 (Or.inl hz)
 ·exact hz
section
variable {w:World} {pa ga:Nat} {v:Value} {R:AR} {F:List Nat}
theorem p9.O7 {w2:World} (hh:aI w2 pa 158 5 (Oo ga v R)) (hr:aI w2 ga 155 (R.sl.length*2) (I9 R)) (hne:pa≠ga) {R':AR} {v':Value} (ok:R'.Ok) (e1:R'.sl=R.sl) (e2:R'.next=R.next) (e3:R'.most=R.most) (hw:w2.ownsRow 0 3 1 v' R'.wait.length (aH (bz R'.wait))) (hb:∀k,v'.ownBlock=some k→k≠pa∧k≠ga) :
  p9 (w2.setCell ⟨pa,1,none⟩ v') pa ga v' R':=by
 have hu:aa [pa] w2 (w2.setCell ⟨pa,1,none⟩ v'):=(aa.refl _ _).setCell (Or.inl σ) _;refine ⟨(hh.set 1 v').ext (fun j hj=>?_),?_,ay hw hu (fun k hk e=>(hb k hk).1 (by simpa using e)),hne,hb,ok⟩
 ·rcases (ω:j=0∨j=1∨j=2∨j=3∨j=4) with rfl|rfl|rfl|rfl|rfl<;>simp [Oo,AR.cnt,e1,e2,e3]
 ·rw [e1];exact (hr.upd hu (by simp;exact fun e=>hne e.symm)).ext (fun j hj=>by unfold I9 AR.g AR.v;rw [e1])
theorem EX (h:nI w pa F R) (x:Nat) (hv:R.v x=true) :
    Calls Tryz.prog 67 #[.pointer (some ⟨pa,0,none⟩),.agg #[.int .i64 (x:Int),.int .u32 (R.g x:Int)]] w fun e w'=>e=.returned (.int .i64 0)∧Goes F w w' (fun F'=>nI w' pa F' (fU R x)):=by
  have hx:=AR.Gx hv;have hok:=h.ok;have hgm:=hok.gm x;have hmo:=hok.NJ;have kl:=fun W (hW:aa [] w W)=>xI (h.upd hW σ) (x:Int) (R.g x:Int) ω
  have hlv:yY R (x:Int) (R.g x:Int)=true:=by
    unfold yY;rw [show ((x:Nat):Int).toNat=x by omega,hv,decide_eq_true (ω:(0:Int)≤x),decide_eq_true (ω:(x:Int)<R.sl.length)]
    simp
  rw [hlv] at kl;obtain ⟨ga,v,rfl,h⟩:=h;obtain ⟨av,cv,rfl,hcv⟩:=aR h.wait;have hGv:=vK hok hv;have hoff:=OW hok hv;have hcn:R.cnt≤65536:=by have h1:=Gf R.sl;have h2:=hok.n;unfold AR.cnt;omega
  have hc1:(R.put x (R.g x,false)).cnt+1=R.cnt:=by
    have:=AR.vP (R:=R) x (R.g x,false) hx;rw [hv] at this;simpa using this
  have hwc:IntKind.i64.wrap ((R.cnt:Int)-1)=(R.cnt:Int)-1:=IntWalk.i64_in _ ω;have hlp:=h.head.lt;have hlg:=h.row.lt;have hne:=h.ne;have hwl:=AR.FU hok;have hnn:=hok.n;have hnx:=hok.nx;have H:=χ (ψ h (ψ hoff (ψ hGv hc1)));have hvl:=fun k hk=>(h.wait.lt k hk).2
  have HVL:=χ (ψ hvl h.nw);have b0':=h.c0;have b3':=h.c3;have b4':=h.c4;have b1':=h.c1;have s1':=h.s1 hx;have g2':=h.row.free (x*2+1);have g3':=h.head.free 3;have g1':=h.head.free 1;have hxI:(x:Int)<(R.sl.length:Int):=ω;clear h hok hGv hoff hlv hvl hv;have hnr1:¬ga=w.heap.size:=ω;have hnr2:¬pa=w.heap.size:=ω;have hnr3:¬w.heap.size=ga:=ω;have hnr4:¬w.heap.size=pa:=ω;have hnp:¬ga=pa:=fun e=>hne e.symm
  go_enter Tryz.func67,Tryz.ntmps67
  go_wp2_with (first
    | ((go_at_call 83;(with_reducible refine (kl _ β).mono ?_));rintro e w1 ⟨rfl,hu1⟩;(have q0:w1.cell? ⟨w.heap.size,0,none⟩=some (.int .i64 (x:Int)):=hu1.was γ);(have q1:w1.cell? ⟨w.heap.size,1,none⟩=some (.int .u32 (R.g x:Int)):=hu1.was γ);(have hu:aa [] w w1:=aa.trans β hu1);(have b0:=hu.was b0');(have b1:=hu.was b1');(have b3:=hu.was b3');(have b4:=hu.was b4');(have s1:=hu.was s1');(have g1:=hu.aO b1' σ g1');(have g2:=hu.aO s1' σ g2');(have g3:=hu.aO b3' σ g3'))
    | fail)
  have HU:=χ hu;have hsz1:=hu.size;have hszA:=hu1.size;rw [World.size_alloc] at hszA;clear hu hu1 kl b0' b1' b3' b4' s1' g1' g2' g3'
  go_region
  go_upto_region 5 with (fail)
  obtain ⟨hM,hoff,hGv,hc1⟩:=H.out;have hM1:=hM.upd HU.out σ
  have hP:=fun W (hW:aa [] w1 W)=>(hM1.upd hW σ).put hx (R.g x,false) hoff (w':=W.setCell ⟨ga,x*2+1,none⟩ (.bool false)) (((hM1.upd hW σ).row.set (x*2+1) (.bool false)).ext (fun j hj=>by
    dsimp only
    by_cases e1:j=x*2+1
    · rw [if_pos e1,if_pos e1]
    · rw [if_neg e1,if_neg e1]
      by_cases e2:j=x*2
      · rw [if_pos e2,e2];unfold I9;rw [if_pos ω,show x*2 / 2=x by omega]
      · rw [if_neg e2])) ((aa.refl _ _).setCell (Or.inl σ) _)
  rw [show (((R.put x (R.g x,false)).cnt:Nat):Int)=(R.cnt:Int)-1 by omega] at hP
  refine gB (fun W=>W.cell? ⟨w.heap.size,0,none⟩=some (.int .i64 (x:Int))∧W.cell? ⟨w.heap.size,1,none⟩=some (.int .u32 (R.g x:Int))∧p9 W pa ga (.slice av R.wait.length cv) (R.put x (R.g x,false))∧aa [pa,ga] w W) ⟨γ,γ,(hP w1 (aa.refl _ _)).upd (S:=[]) ((aa.refl _ _).drew) σ,?_⟩ ?_
  · have:=HU.out.mono (T:=[pa,ga]) σ
    (repeat (first|assumption|exact aa.refl _ _|refine aa.alloc ?_ _|refine aa.drew ?_|refine aa.drewN ?_ _|refine aa.setCell ?_ ?_ _|focus (left;simp;done)|focus (right;simp;done)|focus (right;simp;omega)))
  rintro W ⟨q2,q3,hMW,hUW⟩;clear hM1 hP hM b0 b1 b3 b4 s1 g1 g2 g3 q0 q1;have c1:=hMW.c1;have c4:=hMW.c4;have f1:=hMW.head.free 1;have hw:=hMW.wait;have hszW:=hUW.size;have hlW:w.heap.size<W.heap.size:=World.block_lt_of_cell? W _ q2;have HMW:=χ (ψ hMW (ψ hGv hUW));clear hMW hUW hGv hc1 hoff;rw [show (R.put x (R.g x,false)).most=R.most from rfl] at c4
  rw [show (R.put x (R.g x,false)).wait=R.wait from rfl] at hw
  by_cases hlt:R.g x<R.most
  · have hltb:decide ((R.g x:Int)<(R.most:Int))=true:=by simp;exact hlt
    go_wp2
    go_quiet (fail)
    go_wp2;refine gB (fun W6=>aa [] W W6) β ?_
    intro W6 hu6;have p1:=hu6.was c1;have p2:=hu6.was q2;have pf1:=hu6.aO c1 σ f1;have hw6:=ay (S:=[]) hw hu6 σ;have hsz6:=hu6.size;have s0:aa [] W6 (W6.drew.alloc (.cells #[.int .i64 (x:Int)] 3)):=((aa.refl _ _).drew).alloc _;have rr:∀S X,aa S W6 X→pa∉S→X.frozen? ⟨pa,1,none⟩=false:=fun S X h hn=>h.aO p1 hn pf1
    have rc:∀S X,aa S W6 X→pa∉S→(X.cell? ⟨pa,1,none⟩).isSome=true:=fun S X h hn=>by rw [h.kept p1 hn];rfl
    have hpa6:pa<W6.heap.size:=World.block_lt_of_cell? W6 _ p1;have hrs6:w.heap.size<W6.heap.size:=World.block_lt_of_cell? W6 _ p2;clear c1 c4 f1 q2 q3 hltb hw
    go_region_law
      (first
        | (refine jP rfl _ _ 26 rfl 0 3 (.int .i64 0) 1 8 Tryz.underlying26 cK rfl δ (.slice av R.wait.length cv) R.wait.length (aH (bz R.wait)) rfl (hw6.drew.alloc _) W6.heap.size [.int .i64 (x:Int)] rfl rfl (fun j u hj=>lK W6 [.int .i64 (x:Int)] 3 j u hj) (by simp [Value.oneCell']) μ ω σ ?_
           intro v2 w2 ho2 hu2 hv2;have hS2:aa (Value.slice av R.wait.length cv).ownBlock.toList W6 w2:=(s0.mono σ).trans hu2;have hnp2:pa∉(Value.slice av R.wait.length cv).ownBlock.toList:=fun e=>by have:=HVL.out.2 pa (by simpa using e);omega
           have z1:=hS2.kept p1 hnp2;have zf1:=hS2.aO p1 hnp2 pf1
           obtain ⟨a2,cap2,rfl,hcap2⟩:=aR ho2))
    all_goals
      go_wp2;go_ret;obtain ⟨hMW,hGv,hUW⟩:=HMW.out;have hM6:=hMW.upd hu6 σ;have hgw:ga∉(Value.slice av R.wait.length cv).ownBlock.toList:=fun e=>by have:=HVL.out.2 ga (by simpa using e);omega
      have eR:fU R x={ R.put x (R.g x,false) with wait:=R.wait++[x] }:=by unfold fU;rw [if_pos hlt]
      have hob:∀k,(Value.slice a2 (R.wait.length+1) cap2).ownBlock=some k→(Value.slice av R.wait.length cv).ownBlock=some k∨W6.heap.size≤k:=fun k hk=>by
        rcases hv2 with h|h
        · rw [h] at hk;exact Or.inl hk
        · rw [h] at hk;simp at hk;exact Or.inr ω
      have hfin:=p9.O7 (hM6.head.upd hS2 hnp2) (hM6.row.upd hS2 hgw) hne (R':=fU R x) (v':=.slice a2 (R.wait.length+1) cap2) hGv.1 (by rw [eR]) (by rw [eR]) (by rw [eR]) (by
        have e2:(fU R x).wait=R.wait++[x]:=by rw [eR]
        rw [e2,List.length_append,show bz (R.wait++[x])=bz R.wait++[(x:Int)] from by unfold bz;simp,aS]
        exact ho2) (fun k hk=>by
        rcases hob k hk with h|h
        · exact HVL.out.2 k h
        · omega)
      refine ⟨rfl,pa::ga::(Value.slice a2 (R.wait.length+1) cap2).ownBlock.toList,⟨ga,_,rfl,hfin⟩,?_,fun k hk=>?_⟩
      · have h1:aa (pa::ga::(Value.slice av R.wait.length cv).ownBlock.toList) w W6:=(hUW.mono (fun z hz=>by simp at hz ⊢;omega)).trans (hu6.mono σ)
        exact (h1.trans (hS2.mono (fun z hz=>by simp [hz]))).setCell (Or.inl σ) _
      · simp only [List.mem_cons] at hk ⊢
        rcases hk with h|h|h
        · exact Or.inl (Or.inl h)
        · exact Or.inl (Or.inr (Or.inl h))
        · rcases hob k (by simpa using h) with h'|h'
          · exact Or.inl (Or.inr (Or.inr (by simpa using h')))
          · exact Or.inr ω
  · have hltb:decide ((R.g x:Int)<(R.most:Int))=false:=ζ
    go_wp2
    go_quiet (fail)
    go_wp2;go_ret;obtain ⟨hMW,hGv,hUW⟩:=HMW.out;have eR:fU R x=R.put x (R.g x,false):=by unfold fU;rw [if_neg hlt];rfl
    rw [eR];refine ⟨rfl,_,⟨ga,_,rfl,hMW.upd (S:=[]) β σ⟩,?_,fun k hk=>Or.inl hk⟩
    have h1:aa (pa::ga::(Value.slice av R.wait.length cv).ownBlock.toList) w W:=hUW.mono (fun z hz=>by simp at hz ⊢;omega)
    exact h1.trans β
end
def O5 (K:fJ) (pa pn:Nat) (kd d:Int) (q:Nat) (j:Nat):Value:=[Value.int .i64 kd,.int .i64 d,.pointer (some ⟨pa,0,none⟩),.iface K.ty (.pointer (some ⟨pn,0,none⟩)),.int .u64 (q:Int)].getD j undef
structure Bc (K:fJ) (w:World) (p pa pn:Nat) (Fa Fn:List Nat) (kd d:Int) (R:AR) (A:NS) (q:Nat):Prop where
 head:aI w p 124 5 (O5 K pa pn kd d q)
 ar:nI w pa Fa R
 nest:K.at_ w pn Fn A
 s1:p∉Fa
 s2:p∉Fn
 s3:∀x,x∈Fa→x∉Fn
 len:R.sl.length=A.cs.length
 link:∀x:Nat,R.v x=bD A (x:Int)
def fG (K:fJ) (w:World) (p:Nat) (F:List Nat) (kd d:Int) (R:AR) (A:NS) (q:Nat):Prop:=∃pa pn Fa Fn,F=p::(Fa++Fn)∧Bc K w p pa pn Fa Fn kd d R A q
section
variable {K:fJ} {w:World} {p pa pn:Nat} {Fa Fn F:List Nat} {kd d:Int} {R:AR} {A:NS} {q:Nat}
theorem Bc.c2 (h:Bc K w p pa pn Fa Fn kd d R A q):w.cell? ⟨p,2,none⟩=some (.pointer (some ⟨pa,0,none⟩)):=h.head.cellAt 2 ω rfl
theorem Bc.c3 (h:Bc K w p pa pn Fa Fn kd d R A q):w.cell? ⟨p,3,none⟩=some (.iface K.ty (.pointer (some ⟨pn,0,none⟩))):=h.head.cellAt 3 ω rfl
theorem Bc.c4 (h:Bc K w p pa pn Fa Fn kd d R A q):w.cell? ⟨p,4,none⟩=some (.int .u64 (q:Int)):=h.head.cellAt 4 ω rfl
theorem Bc.upd {w':World} {S:List Nat} (h:Bc K w p pa pn Fa Fn kd d R A q) (hu:aa S w w') (hS:∀x,x∈S→x∉p::(Fa++Fn)):Bc K w' p pa pn Fa Fn kd d R A q:=
 ⟨h.head.upd hu (fun e=>hS _ e σ),h.ar.upd hu (fun x hx hm=>hS x hx (by simp [hm])),K.upd h.nest hu (fun x hx hm=>hS x hx (by simp [hm])),h.s1,h.s2,h.s3,h.len,h.link⟩
theorem fG.upd {w':World} {S:List Nat} (h:fG K w p F kd d R A q) (hu:aa S w w') (hS:∀x,x∈S→x∉F):fG K w' p F kd d R A q:=by
 obtain ⟨pa,pn,Fa,Fn,rfl,h⟩:=h;exact ⟨pa,pn,Fa,Fn,rfl,h.upd hu hS⟩
theorem fG.aj {w':World} (h:fG K w p F kd d R A q) (hu:aa [] w w'):fG K w' p F kd d R A q:=h.upd hu σ
theorem Bc.lt (h:Bc K w p pa pn Fa Fn kd d R A q):∀x,x∈p::(Fa++Fn)→x<w.heap.size:=fun x hx=>by
 simp only [List.mem_cons,List.mem_append] at hx;rcases hx with rfl|hx|hx
 ·exact h.head.lt
 ·exact h.ar.lt x hx
 ·exact K.lt h.nest x hx
theorem fG.lt (h:fG K w p F kd d R A q):∀x,x∈F→x<w.heap.size:=by
 obtain ⟨pa,pn,Fa,Fn,rfl,h⟩:=h;exact h.lt
theorem fG.ok (h:fG K w p F kd d R A q):A.Ok∧R.Ok∧R.sl.length=A.cs.length∧∀x:Nat,R.v x=bD A (x:Int):=by
 obtain ⟨pa,pn,Fa,Fn,rfl,h⟩:=h;exact ⟨K.ok h.nest,h.ar.ok,h.len,h.link⟩
theorem Bc.ND (h:Bc K w p pa pn Fa Fn kd d R A q) {w':World} {Fn':List Nat} {A':NS} (hn:K.at_ w' pn Fn' A') (hu:aa Fn w w') (hf:∀x,x∈Fn'→x∈Fn∨w.heap.size≤x) (hl:A'.cs.length=A.cs.length) {R':AR} (ha:nI w' pa Fa R') (hl2:R'.sl.length=R.sl.length)
  (hk:∀x:Nat,R'.v x=bD A' (x:Int)):Bc K w' p pa pn Fa Fn' kd d R' A' q:=
 ⟨h.head.upd hu h.s2,ha,hn,h.s1,fun e=>by rcases hf _ e with e|e;exact h.s2 e;have:=h.head.lt;omega,fun x hx e=>by rcases hf _ e with e|e;exact h.s3 x hx e;have:=h.ar.lt x hx;omega,by rw [hl2,hl];exact h.len,hk⟩
theorem sN (A:NS) (x:Int):bD (aG A) x=bD A x:=by unfold aG;split<;>rfl
theorem qH (A:NS):(aG A).cs.length=A.cs.length:=by unfold aG;split<;>rfl
theorem Au (h:fG K w p F kd d R A q) :
  Calls Tryz.prog 65 #[.pointer (some ⟨p,0,none⟩)] w fun e w'=>e=.returned (.tuple #[.int .i64 (bS A),.int .i64 (if bS A=0 then 32 else 0)])∧Goes F w w' (fun F'=>fG K w' p F' kd d R (aG A) q):=by
 obtain ⟨pa,pn,Fa,Fn,rfl,h⟩:=h;have c3:=h.c3;obtain ⟨f,fv,hen,hfv⟩:=K.make h.nest;unfold Enters at hen;have hm:=(hfv w (aa.refl _ _)).1;have hc:=(hfv w (aa.refl _ _)).2
 have HK:=χ (show ∀w' Fn',K.at_ w' pn Fn' (aG A)→aa Fn w w'→(∀x,x∈Fn'→x∈Fn∨w.heap.size≤x)→Goes (p::(Fa++Fn)) w w' (fun F'=>fG K w' p F' kd d R (aG A) q) from fun w' Fn' hn hu hf=>by
  refine ⟨p::(Fa++Fn'),⟨pa,pn,Fa,Fn',rfl,h.ND hn hu hf (qH A) (h.ar.upd hu (fun x hx hm=>h.s3 x hm hx)) rfl (fun x=>by rw [sN];exact h.link x)⟩,hu.mono (fun x hx=>by simp [hx]),fun x hx=>?_⟩
  simp only [List.mem_cons,List.mem_append] at hx ⊢;rcases hx with hx|hx|hx
  ·exact Or.inl (Or.inl hx)
  ·exact Or.inl (Or.inr (Or.inl hx))
  ·rcases hf x hx with hx|hx
   ·exact Or.inl (Or.inr (Or.inr hx))
   ·exact Or.inr hx)
 clear h hfv;generalize bS A=mv at *
 by_cases hz:mv=0
 ·subst hz
  go_enter Tryz.func65,Tryz.ntmps65
  go_wp2_with (first
   | ((with_reducible refine (hc).mono ?_);rintro e w1 ⟨rfl,Fn',hn,hu,hf⟩)
   | fail)
  go_ret2;exact ⟨rfl,HK.out _ _ hn hu hf⟩
 ·have hzb:(mv == 0)=false:=by simpa using hz
  rw [if_neg hz];clear hz
  go_enter Tryz.func65,Tryz.ntmps65
  go_wp2_with (first
   | ((with_reducible refine (hc).mono ?_);rintro e w1 ⟨rfl,Fn',hn,hu,hf⟩)
   | fail)
  go_ret2;exact ⟨rfl,HK.out _ _ hn hu hf⟩
end
end Go.Proofs.YtklibcncmbofpaaGreat
namespace Go.Proofs.YtklibcncmbofpaaGreat
open Go.RowKit
def kX (k d:Int):Int:=
 if k<1∨8<k then 21 else if (k=2∧(d<2∨16<d))∨(k≠2∧d≠0) then 22 else 0
theorem KQ {k d:Int} (h:k<1∨8<k):kX k d=21:=by unfold kX;rw [if_pos h]
theorem Jn {k d:Int} (h:¬ (k<1∨8<k)) (h2:(k=2∧(d<2∨16<d))∨(k≠2∧d≠0)):kX k d=22:=by unfold kX;rw [if_neg h,if_pos h2]
theorem NM {k d:Int} (h:¬ (k<1∨8<k)) (h2:¬ ((k=2∧(d<2∨16<d))∨(k≠2∧d≠0))):kX k d=0:=by unfold kX;rw [if_neg h,if_neg h2]
theorem DN {k d:Int} (h:kX k d=0):1≤k∧k≤8∧(k=2→2≤d∧d≤16)∧(k≠2→d=0):=by
 unfold kX at h;split at h
 ·omega
 ·split at h
  ·omega
  ·omega
theorem qB (k d:Int) (w:World) :
  Calls Tryz.prog 50 #[.agg #[.int .i64 k,.int .i64 d]] w fun e w'=>e=.returned (.int .i64 (kX k d))∧aa [] w w':=by
 go_enter Tryz.func50,Tryz.ntmps50
 go_wp2
 all_goals
  go_ret;refine ⟨iG ?_,(aa.refl _ _).alloc _⟩
  try simp only [bne_iff_ne,ne_eq,bne_eq_false_iff_eq] at *
  first
  | (rw [KQ ω];done)
  | (rw [Jn ω ω];done)
  | (rw [NM ω ω];done)
theorem nM (k d:Int) (w:World) :
  Calls Tryz.prog 18 #[.agg #[.int .i64 k,.int .i64 d]] w fun e w'=>e=.returned (.int .i64 (kX k d))∧aa [] w w':=by
 go_enter Tryz.func18,Tryz.ntmps18
 go_wp2
 all_goals
  go_ret;refine ⟨iG ?_,(aa.refl _ _).alloc _⟩
  try simp only [bne_iff_ne,ne_eq,bne_eq_false_iff_eq,beq_iff_eq,beq_eq_false_iff_ne] at *
  first
  | (rw [KQ ω];done)
  | (rw [Jn ω ω];done)
  | (rw [NM ω ω];done)
end Go.Proofs.YtklibcncmbofpaaGreat
namespace Go.Proofs.YtklibcncmbofpaaGreat
open Go Go.RowKit
def jX (K:fJ) (kd d:Int) (n:Nat):Prop:=∀W:World,Calls Tryz.prog 81 #[.agg #[.int .i64 kd,.int .i64 d],.int .i64 (n:Int)] W fun e w'=>∃pn Fn,e=.returned (.tuple #[.iface K.ty (.pointer (some ⟨pn,0,none⟩)),.int .i64 0])∧K.at_ w' pn Fn (NS.new n)∧aa [] W w'∧∀x,x∈Fn→W.heap.size≤x
theorem DI (n:Nat) (x:Nat):bD (NS.new n) (x:Int)=false:=by
 cases h:bD (NS.new n) (x:Int) with
 | false=>rfl
 | true=>have:=(af _ _).1 h;rw [NS.uZ] at this;exact absurd this.2 (by simp [Cl.z])
theorem JW (n m x:Nat):(AR.new n m).v x=false:=by
 unfold AR.new AR.v;simp only [φ,List.getElem?_replicate]
 split<;>rfl
theorem Ja {K:fJ} {kd d:Int} (n m:Nat) (w:World) (hn:n≤65536) (hm:1≤m∧m≤4294967295) (hc:kX kd d=0) (ko:jX K kd d n) :
  Calls Tryz.prog 64 #[.agg #[.int .i64 kd,.int .i64 d],.int .i64 (n:Int),.int .u32 (m:Int)] w fun e w'=>∃p F,e=.returned (.tuple #[.pointer (some ⟨p,0,none⟩),.int .i64 0])∧fG K w' p F kd d (AR.new n m) (NS.new n) 0∧aa [] w w'∧∀x,x∈F→w.heap.size≤x:=by
 have kc:=fun W=>qB kd d W
 rw [hc] at kc;have ka:=fun W=>Hm n m W hn hm
 unfold jX at ko;have hcs:(NS.new n).cs.length=n:=by simp [NS.new]
 have hal:(AR.new n m).sl.length=n:=by simp [AR.new]
 have HL:=χ (ψ hcs hal);clear hcs hal hc
 go_enter Tryz.func64,Tryz.ntmps64
 go_wp2_with (first
  | ((go_at_call 50;(with_reducible refine (kc _).mono ?_));rintro e w1 ⟨rfl,hu1⟩;(have q0:w1.cell? ⟨w.heap.size,0,none⟩=some (.int .i64 kd):=hu1.was γ);(have q1:w1.cell? ⟨w.heap.size,1,none⟩=some (.int .i64 d):=hu1.was γ);(have hw1:aa [] w w1:=aa.trans β hu1))
  | ((go_at_call 80;(with_reducible refine (ka _).mono ?_));rintro e w2 ⟨pa,Fa,rfl,hA,hu2,hfa⟩;(have q2:=hu2.was q0);(have q3:=hu2.was q1))
  | ((go_at_call 81;(with_reducible refine (ko _).mono ?_));rintro e w3 ⟨pn,Fn,rfl,hN,hu3,hfn⟩;(have q4:=hu3.was q2);(have q5:=hu3.was q3))
  | fail)
 go_ret2;have hh:=dm w3 [.int .i64 kd,.int .i64 d,.pointer (some ⟨pa,0,none⟩),.iface K.ty (.pointer (some ⟨pn,0,none⟩)),.int .u64 0] 124;have hb:aa [] w3 (w3.alloc (.cells #[.int .i64 kd,.int .i64 d,.pointer (some ⟨pa,0,none⟩),.iface K.ty (.pointer (some ⟨pn,0,none⟩)),.int .u64 0] 124)):=(aa.refl _ _).alloc _;have hAl:=hA.lt;have hNl:=K.lt hN;have s3:=hu3.size;have s1:=hw1.size;have s2:=hu2.size
 refine ⟨w3.heap.size,w3.heap.size::(Fa++Fn),rfl,⟨pa,pn,Fa,Fn,rfl,⟨hh.ext (fun j hj=>by unfold O5;rfl),(hA.upd hu3 σ).upd hb σ,K.upd hN hb σ,fun e=>by have:=hAl _ e;omega,fun e=>by have:=hNl _ e;omega,fun x h1 h2=>by have:=hAl x h1;have:=hfn x h2;omega,by rw [HL.out.1,HL.out.2],fun x=>by rw [JW,DI]⟩⟩,((hw1.trans hu2).trans hu3).trans hb,fun x hx=>?_⟩
 simp only [List.mem_cons,List.mem_append] at hx;rcases hx with rfl|hx|hx
 ·omega
 ·have:=hfa x hx;omega
 ·have:=hfn x hx;omega
section
variable {K:fJ} {w:World} {p pa pn:Nat} {Fa Fn F:List Nat} {kd d:Int} {R:AR} {A:NS} {q:Nat}
theorem Dv {A:NS} {hh x k s:Int} (hB:jy A hh x=true) (y:Nat):bD (aB A hh x k s) (y:Int)=(bD A (y:Int) || decide ((y:Int)=x)):=by
 obtain ⟨b1,b2,b3⟩:=(cB _ _ _).1 hB;have b4:=(aK _ _).1 b1;have b5:=(dK _ _).1 b2;unfold aB;rw [if_pos hB];have e1:bD (gD A x.toNat ⟨hh,k,s⟩) (y:Int)=true↔(bD A (y:Int) || decide ((y:Int)=x))=true:=by
  rw [af,dI,iD,Bool.or_eq_true,af,decide_eq_true_eq]
  by_cases e:y=x.toNat
  ·rw [if_pos ⟨e,ω⟩];constructor
   ·intro _;right;omega
   ·intro _;exact ⟨ω,by show 0<hh;omega⟩
  ·rw [if_neg (fun h=>e h.1)]
   constructor
   ·intro h;exact Or.inl h
   ·rintro (h|h)
    ·exact h
    ·omega
 cases h1:bD (gD A x.toNat ⟨hh,k,s⟩) (y:Int)<;>cases h2:(bD A (y:Int) || decide ((y:Int)=x))<;>simp_all
theorem sQ (A:NS) (h x k s:Int):(aB A h x k s).cs.length=A.cs.length:=by unfold aB;split;exact dI _ _ _;rfl
theorem wH {R R':AR} {x:Nat} (h:R.Ok) (hp:jk R=some (x,R')) (y:Nat):R'.v y=(R.v y || decide ((y:Int)=(x:Int))):=by
 obtain ⟨_,h1,h2,_,h3,_⟩:=sO h hp;have e:R'.v y=(R.put x (R.g x+1,true)).v y:=by unfold AR.v AR.put;rw [h3]
 rw [e,AR.wU]
 by_cases e2:y=x
 ·rw [if_pos ⟨e2,h1⟩,e2];simp
 ·rw [if_neg (fun h=>e2 h.1),decide_eq_false ω];simp
theorem uR (h:fG K w p F kd d R A q) (hh k:Int) (hB:aY A hh=true) (hk:-9223372036854775808≤k∧k≤9223372036854775807) (hq:q+1≤18446744073709551615) {x:Nat} {R':AR} (hT:jk R=some (x,R')) :
  Calls Tryz.prog 40 #[.pointer (some ⟨p,0,none⟩),.int .i64 hh,.int .i64 k] w fun e w'=>e=.returned (.tuple #[.agg #[.int .i64 (x:Int),.int .u32 ((R.g x:Int)+1)],.int .i64 0])∧
   Goes F w w' (fun F'=>fG K w' p F' kd d R' (aB A hh (x:Int) k ((q:Int)+1)) (q+1)):=by
 obtain ⟨hh,rfl⟩:∃n:Nat,hh=n:=⟨hh.toNat,by have:=(aK _ _).1 hB;omega⟩
 obtain ⟨pa,pn,Fa,Fn,rfl,h⟩:=h;have hok:=K.ok h.nest;have hTk:=sO h.ar.ok hT;have hlink:=h.link;have hBp:jy A (hh:Int) (x:Int)=true:=by
  rw [cB];refine ⟨hB,(dK _ _).2 ⟨ω,by have:=h.len;omega⟩,?_⟩
  rw [←h.link];exact hTk.2.2.1
 have hb4:=(aK _ _).1 hB;have hhs:=hok.h1;have hsn:=hok.c1;have hxl:=hTk.2.1;have hlen:=h.len;have hac:-9223372036854775808≤k∧k≤9223372036854775807∧0≤(q:Int)+1∧(q:Int)+1≤18446744073709551615:=ω;have c2:=h.c2;have c3':=h.c3;have c4':=h.c4;have f4':=h.head.free 4;have hpl:=h.head.lt;have hFa:=h.ar.lt;have hFn:=K.lt h.nest;have hs1:=h.s1;have hs2:=h.s2;have hs3:=h.s3;have hu0:aa [] w (w.alloc (.cells #[.int .i64 0,.int .u32 0] 85)):=(aa.refl [] w).alloc _;have hN:=K.upd h.nest hu0 σ;have kt:=fun W (hW:aa [] w W)=>CR (h.ar.upd hW σ) hT
 obtain ⟨f,fv,hen,hfv⟩:=K.has hh hN;unfold Enters at hen;have hm:=(hfv _ (aa.refl _ _)).1;have hc:=(hfv _ (aa.refl _ _)).2;rw [hB] at hc;have hwq:IntKind.u64.wrap ((q:Int)+1)=(q:Int)+1:=IntWalk.u64_in _ ω;have hrF:w.heap.size∉Fa:=fun e=>by have:=hFa _ e;omega
 have HH:=χ (ψ h (ψ hN (ψ hac (ψ hFa (ψ hFn (ψ hs3 (ψ hlink hTk)))))));have HBp:=χ hBp;clear h hfv hN hac hFa hFn hs3 hlink hTk hok hB hBp
 go_enter Tryz.func40,Tryz.ntmps40
 go_upto_region 7 with (first
  | ((with_reducible refine (hc).mono ?_);rintro e w1 ⟨rfl,rfl⟩)
  | ((go_at_call 66;(with_reducible refine (kt _ β).mono ?_));rintro e w2 ⟨rfl,Fa',hA2,huA,hfA⟩;(have c3:w2.cell? ⟨p,3,none⟩=some (.iface K.ty (.pointer (some ⟨pn,0,none⟩))):=huA.kept (hu0.was c3') hs1);(have c4:w2.cell? ⟨p,4,none⟩=some (.int .u64 (q:Int)):=huA.kept (hu0.was c4') hs1);(have f4:w2.frozen? ⟨p,4,none⟩=false:=huA.aO (hu0.was c4') hs1 (hu0.aO c4' σ f4'));(have q0:w2.cell? ⟨w.heap.size,0,none⟩=some (.int .i64 0):=huA.kept γ hrF);(have q1:w2.cell? ⟨w.heap.size,1,none⟩=some (.int .u32 0):=huA.kept γ hrF);(have f0:w2.frozen? ⟨w.heap.size,0,none⟩=false:=huA.aO (v:=.int .i64 0) γ hrF γ);(have f1:w2.frozen? ⟨w.heap.size,1,none⟩=false:=huA.aO (v:=.int .u32 0) γ hrF γ);(have hp2:=World.block_lt_of_cell? w2 _ c3);(have hr2:=World.block_lt_of_cell? w2 _ q0))
  | fail)
 obtain ⟨h,hN0,hac,hFa,hFn,hs3,hlink,hTk⟩:=HH.out;have hd2:aI w2 p 124 5 (O5 K pa pn kd d q):=(h.head.upd hu0 σ).upd huA hs1;have hN2:K.at_ w2 pn Fn A:=K.upd hN0 huA hs3;have hUp:aa [p] w2 ((w2.setCell ⟨p,4,none⟩ (.int .u64 ((q:Int)+1))).alloc (.cells #[.int .i64 (x:Int),.int .u32 ((R.g x:Int)+1)] 85)):=((aa.refl _ _).setCell (Or.inl σ) _).alloc _;have hpFa':p∉Fa':=fun e=>by rcases hfA _ e with e|e;exact hs1 e;simp at e;omega
 have hrFa:∀z,z∈Fa'→z<w2.heap.size:=hA2.lt
 refine gB (fun W=>aI W p 124 5 (O5 K pa pn kd d (q+1))∧nI W pa Fa' R'∧K.at_ W pn Fn A∧W.cell? ⟨w2.heap.size,0,none⟩=some (.int .i64 (x:Int))∧W.cell? ⟨w2.heap.size,1,none⟩=some (.int .u32 ((R.g x:Int)+1))∧
  W.cell? ⟨w.heap.size,0,none⟩=some (.int .i64 0)∧W.cell? ⟨w.heap.size,1,none⟩=some (.int .u32 0)∧W.frozen? ⟨w.heap.size,0,none⟩=false∧W.frozen? ⟨w.heap.size,1,none⟩=false∧aa [p] w2 W)
  ⟨((hd2.set 4 _).ext (fun j hj=>?_)).alloc _,hA2.upd hUp (fun z hz=>by simp at hz;rw [hz];exact hpFa'),K.upd hN2 hUp (fun z hz=>by simp at hz;rw [hz];exact hs2),γ,γ,hUp.kept q0 ζ,hUp.kept q1 ζ,hUp.aO q0 ζ f0,hUp.aO q1 ζ f1,hUp⟩ ?_
 ·rcases (ω:j=0∨j=1∨j=2∨j=3∨j=4) with rfl|rfl|rfl|rfl|rfl<;>simp [O5]
 rintro W ⟨hd,hA,hN,x0,x1,r0,r1,fr0,fr1,hUW⟩;have z3:W.cell? ⟨p,3,none⟩=some (.iface K.ty (.pointer (some ⟨pn,0,none⟩))):=hd.cellAt 3 ω rfl;have z4:W.cell? ⟨p,4,none⟩=some (.int .u64 ((q:Int)+1)):=hd.cellAt 4 ω (by simp [O5])
 obtain ⟨f2,fv2,hen2,hfv2⟩:=K.insert hh x k ((q:Int)+1) hac HBp.out hN;unfold Enters at hen2;have hm2:=(hfv2 W.drew ((aa.refl _ _).drew)).1;have hc2:=(hfv2 W.drew ((aa.refl _ _).drew)).2;have hszW:=hUW.size;have hrw:w.heap.size<W.heap.size:=ω;have hxw:w2.heap.size<W.heap.size:=World.block_lt_of_cell? W _ x0;have hxFn:w2.heap.size∉Fn:=fun e=>by have:=hFn _ e;omega
 have hrFn:w.heap.size∉Fn:=fun e=>by have:=hFn _ e;omega
 have hmemW:∀z,z∈Fa'→z∈Fn→False:=fun z h1 h2=>by
  rcases hfA z h1 with e|e
  ·exact hs3 z e h2
  ·have:=hFn z h2;simp at e;omega
 have hFAlt:∀z,z∈Fa'→z<W.heap.size:=hA.lt
 have hUw2:aa (p::(Fa++Fn)) w w2:=aa.trans ((aa.refl _ _).alloc _) (huA.mono (fun z hz=>by simp [hz]))
 have HFIN:Hid (∀w5 F5,K.at_ w5 pn F5 (aB A hh (x:Int) k ((q:Int)+1))→aa Fn W.drew w5→(∀z,z∈F5→z∈Fn∨W.drew.heap.size≤z)→∀v0 v1,Goes (p::(Fa++Fn)) w ((w5.setCell ⟨w.heap.size,0,none⟩ v0).setCell ⟨w.heap.size,1,none⟩ v1) (fun F'=>fG K ((w5.setCell ⟨w.heap.size,0,none⟩ v0).setCell ⟨w.heap.size,1,none⟩ v1) p F' kd d R' (aB A hh (x:Int) k ((q:Int)+1)) (q+1))):=by
  intro w5 F5 hA5 hu5' hF5 v0 v1;have hu5:aa Fn W w5:=((aa.refl Fn W).drew).trans hu5';have hr:aa [w.heap.size] w5 ((w5.setCell ⟨w.heap.size,0,none⟩ v0).setCell ⟨w.heap.size,1,none⟩ v1):=((aa.refl _ _).setCell (Or.inl σ) _).setCell (Or.inl σ) _;have hrF5:w.heap.size∉F5:=fun e=>by rcases hF5 _ e with e|e;exact hrFn e;have e':W.heap.size≤w.heap.size:=e;omega
  have hrFa':w.heap.size∉Fa':=fun e=>by rcases hfA _ e with e|e;have:=hFa _ e;omega;simp at e;omega
  refine ⟨p::(Fa'++F5),⟨pa,pn,Fa',F5,rfl,⟨(hd.upd hu5 hs2).upd hr ζ,(hA.upd hu5 (fun z h1 h2=>hmemW z h2 h1)).upd hr (fun z hz=>by simp at hz;rw [hz];exact hrFa'),K.upd hA5 hr (fun z hz=>by simp at hz;rw [hz];exact hrF5),hpFa',fun e=>?_,fun z h1 h2=>?_,?_,fun y=>?_⟩⟩,?_,fun z hz=>?_⟩
  ·rcases hF5 _ e with e|e
   ·exact hs2 e
   ·have e':W.heap.size≤p:=e;omega
  ·rcases hF5 _ h2 with e|e
   ·exact hmemW z h1 e
   ·have e':W.heap.size≤z:=e;have:=hFAlt z h1;omega
  ·rw [sQ,←hlen,hTk.2.2.2.2.1];simp
  ·rw [wH h.ar.ok hT,Dv HBp.out,hlink]
  ·have h1:=(hUw2.trans (hUW.mono σ)).trans (hu5.mono (fun z hz=>by simp [hz]))
   exact (h1.setCell (Or.inr (Nat.le_refl _)) _).setCell (Or.inr (Nat.le_refl _)) _
  ·simp only [List.mem_cons,List.mem_append] at hz ⊢;rcases hz with hz|hz|hz
   ·exact Or.inl (Or.inl hz)
   ·rcases hfA z hz with e|e
    ·exact Or.inl (Or.inr (Or.inl e))
    ·simp at e;exact Or.inr ω
   ·rcases hF5 z hz with e|e
    ·exact Or.inl (Or.inr (Or.inr e))
    ·have e':W.heap.size≤z:=e;exact Or.inr ω
 clear h hN0 hac hFa hFn hlink hTk hd2 hN2 hd hA hN hUW hfv2 q0 q1 f0 f1 c3 c4 f4 c2 c3' c4' f4' hc hm hen kt hA2 hUp huA hfA hpFa' hmemW hFAlt hUw2
 go_region_law
  (first
   | (go_simp;(with_reducible refine (hc2).mono ?_);rintro e w5 ⟨rfl,F5,hA5,hu5,hF5⟩;(have y0:=hu5.kept x0 hxFn);(have y1:=hu5.kept x1 hxFn);(have t0:=hu5.kept r0 hrFn);(have t1:=hu5.kept r1 hrFn);(have tf0:=hu5.aO r0 hrFn fr0);(have tf1:=hu5.aO r1 hrFn fr1)))
 all_goals
  go_wp2;exact bodyPost_ret (v:=.tuple #[.agg #[.int .i64 (x:Int),.int .u32 ((R.g x:Int)+1)],.int .i64 0]) (by simp [results,Tryz.results40,go_sem,t0,t1]) rfl ⟨rfl,HFIN.out _ _ hA5 hu5 hF5 _ _⟩
end
end Go.Proofs.YtklibcncmbofpaaGreat
