/-
  Lemmas for PathBest: Lf5, Lf6, Lf7, Lf8, Lf9, Bt5, Lf13. Conditions: those of each lemma.
-/
import Derived.Deep.RegionLaw
import Derived.Test.YtklibcncmbofpaaGreatB30
set_option linter.all false
set_option maxHeartbeats 8000000
set_option maxRecDepth 10000
namespace Go.Proofs.YtklibcncmbofpaaGreat
open Go Go.RowKit
structure xH (S0:TS) (Ni:Nat->Nat) (T:BT) (X:List Nat) (S:TS) (rk:Nat->Nat) (P:List Fr) (was x:Nat) (l r:BT):Prop where
 Dx:cO S (-1) (aj P (.node x l r)).root (aj P (.node x l r))
 perm:(aj P (.node x l r)).nodes.Perm X
 rl:gK rk l
 rr:gK rk r
 rx:rk x=was
 rP:Rq rk P was
 far:∀y,y∉X->S0.at S y/\rk y=Ni y
 res:kX P was x l r=T
structure uo (S0:TS) (Ni:Nat->Nat) (T:BT) (X:List Nat) (S:TS) (rk:Nat->Nat):Prop where
 Dx:cO S (-1) T.root T
 isR:gK rk T
 far:∀y,y∉X->S0.at S y/\rk y=Ni y
section
variable {S0 S S2:TS} {Ni rk Bf:Nat->Nat} {T:BT} {X:List Nat} {P:List Fr} {was x:Nat} {l r:BT}
theorem xH.parts (h:xH S0 Ni T X S rk P was x l r) (hX:X.Nodup):x∈X/\(BT.node x l r).nodes.Nodup/\(∀y,y∈(BT.node x l r).nodes->y∈X)/\(∀y,y∈dU P->y≠x/\y∈X)/\(dU P).Nodup:=by
 have hp:=(aP P (.node x l r)).symm.trans h.perm;have hn:=hp.nodup_iff.2 hX;rw [θ] at hn;refine ⟨hp.mem_iff.1 (by simp [BT.nodes]),hn.1,fun y hy=>hp.mem_iff.1 (List.mem_append_left _ hy),fun y hy=>⟨fun e=>hn.2.2 x (by simp [BT.nodes]) y hy e.symm,hp.mem_iff.1 (List.mem_append_right _ hy)⟩,hn.2.1⟩
theorem xH.settled (h:xH S0 Ni T X S rk P was x l r) (hX:X.Nodup) (yO:cO S2 (Ci P) x (aC x l r)) (hs:∀y,y≠x->S.at S2 y) (hk:∀y,y≠x->Bf y=rk y) :
  cO S2 (-1) (aj P (aC x l r)).root (aj P (aC x l r))/\Rq Bf P was/\(∀y,y∉X->S0.at S2 y/\Bf y=Ni y)/\(aj P (aC x l r)).nodes.Perm X:=by
 obtain ⟨p1,p2,p3,p4,p5⟩:=h.parts hX;refine ⟨(eU _ _).2 ⟨by rw [jP];exact yO,?_⟩,h.rP.frame (fun y hy=>hk y (p4 y hy).1),fun y hy=>?_,?_⟩
 ·have:=((eU _ _).1 h.Dx).2;rw [jP];exact this.frame (fun y hy=>hs y (p4 y hy).1)
 ·have hne:y≠x:=fun e=>hy (by rw [e];exact p1);have a1:=h.far y hy;have a2:=hs y hne;exact ⟨⟨a2.1.trans a1.1.1,a2.2.1.trans a1.1.2.1,a2.2.2.trans a1.1.2.2⟩,(hk y hne).trans a1.2⟩
 ·exact (aP P _).trans (((lI x l r).append_right _).trans ((aP P (.node x l r)).symm.trans h.perm))
theorem xH.stay (h:xH S0 Ni T X S rk P was x l r) (hX:X.Nodup) (yO:cO S2 (Ci P) x (aC x l r)) (hr2:gK Bf (aC x l r)) (hs:∀y,y≠x->S.at S2 y) (hk:∀y,y≠x->Bf y=rk y)
  (e:(aC x l r).rank=was):uo S0 Ni T X S2 Bf:=by
 obtain ⟨a1,a2,a3,a4⟩:=h.settled hX yO hs hk;have hT:T=aj P (aC x l r):=by
  rw [←h.res];cases P with
  | nil=>rfl
  | cons f P=>unfold kX;rw [if_pos e]
 rw [hT];exact ⟨a1,(yM _ _).2 ⟨hr2,by rw [e];exact a2⟩,a3⟩
theorem xH.top (h:xH S0 Ni T X S rk [] was x l r) (hX:X.Nodup) (yO:cO S2 (Ci []) x (aC x l r)) (hr2:gK Bf (aC x l r)) (hs:∀y,y≠x->S.at S2 y) (hk:∀y,y≠x->Bf y=rk y) :
  uo S0 Ni T X S2 Bf:=by
 obtain ⟨a1,a2,a3,a4⟩:=h.settled hX yO hs hk;have hT:T=aj [] (aC x l r):=by rw [←h.res];rfl
 rw [hT];exact ⟨a1,hr2,a3⟩
theorem xH.up {f:Fr} (h:xH S0 Ni T X S rk (f::P) was x l r) (hX:X.Nodup) (yO:cO S2 (Ci (f::P)) x (aC x l r)) (hr2:gK Bf (aC x l r)) (hs:∀y,y≠x->S.at S2 y) (hk:∀y,y≠x->Bf y=rk y)
  (e:(aC x l r).rank≠was):∃l' r',xH S0 Ni T X S2 Bf P (lS f was) f.1 l' r':=by
 obtain ⟨a1,a2,a3,a4⟩:=h.settled hX yO hs hk;have hres:=h.res;unfold kX at hres;rw [if_neg e] at hres;unfold aj at a1 a4
 by_cases hsd:f.2.1=true
 ·rw [if_pos hsd] at hres;have e1:bC f (aC x l r)=.node f.1 f.2.2 (aC x l r):=by unfold bC;rw [if_pos hsd]
  rw [e1] at a1 a4;exact ⟨_,_,a1,a4,a2.1,hr2,a2.2.1,a2.2.2,a3,hres⟩
 ·rw [if_neg hsd] at hres;have e1:bC f (aC x l r)=.node f.1 (aC x l r) f.2.2:=by unfold bC;rw [if_neg hsd]
  rw [e1] at a1 a4;exact ⟨_,_,a1,a4,hr2,a2.1,a2.2.1,a2.2.2,a3,hres⟩
end
theorem LZ:∀ {P:List Fr},(dU P).Nodup->(P.map (·.1)).Nodup/\∀y,y∈P.map (·.1)->y∈dU P
 | [],_=>⟨List.nodup_nil,fun y hy=>by cases hy⟩
 | f::P,h=>by
  simp only [dU,List.nodup_cons,τ,not_or,θ] at h;obtain ⟨h1,h2⟩:=LZ (P:=P) h.2.2.1;refine ⟨List.nodup_cons.2 ⟨fun hm=>h.1.2 (h2 _ hm),h1⟩,fun y hy=>?_⟩;simp only [List.map_cons,ρ] at hy;rcases hy with rfl|hy
  ·simp [dU]
  ·simp [dU,h2 y hy]
theorem Jc {L done rest:List Nat} {x:Nat} (hL:L.Nodup) (e:L=done++x::rest):L.idxOf x=done.length/\done.length<L.length:=by
 subst e;have hx:x∉done:=fun hm=>by
  rw [θ] at hL;exact hL.2.2 x hm x σ rfl
 refine ⟨by rw [List.idxOf_append,if_neg hx];simp,σ⟩
section
variable {w:World} {B:LB} {F:List Nat} {gt ct:Nat} {A:NS} {st:Nat} {S:TS} {rk:Nat->Nat} {ak:List Int}
theorem CG (h:lU w B F gt ct A st S rk ak) {P:List Fr} {was x:Nat} {l r:BT} (hM:xH S rk (kX P was x l r) (aj P (.node x l r)).nodes S rk P was x l r) (hX:(aj P (.node x l r)).nodes.Nodup)
  (hlt:∀y,y∈(aj P (.node x l r)).nodes->y<A.cs.length) :
  Calls Tryz.prog 245 #[.pointer (some ⟨B.n0,0,none⟩),.int .i64 (x:Int)] w fun e w'=>e=.returned (.tuple #[])/\aa [B.ba,B.br] w w'/\
   ∃S' oD,lU w' B F gt ct A st S' oD ak/\uo S rk (kX P was x l r) (aj P (.node x l r)).nodes S' oD:=by
 generalize hT:kX P was x l r=T at *;generalize hXX:(aj P (.node x l r)).nodes=X at *;have hL:(x::P.map (·.1)).Nodup:=by
  obtain ⟨p1,p2,p3,p4,p5⟩:=hM.parts hX;obtain ⟨q1,q2⟩:=LZ p5;exact List.nodup_cons.2 ⟨fun hm=>(p4 x (q2 x hm)).1 rfl,q1⟩
 generalize hLL:x::P.map (·.1)=L at *;have hblk:=h.lt;have qA:=h.cF;have hs:=χ h.sep;have hA:=h.cells.ok.c1;have YE:=χ h;have MM:=χ hM;have HX:=χ hX;have HL:=χ hL;have HLL:=χ hLL;have WT:=χ hlt;clear h hM hX hL hlt hT hXX hblk hLL
 go_enter Tryz.func245,Tryz.ntmps245
 go_wp2
 go_loopw [1] (fun a wr=>∃ (S1:TS) (rk1:Nat->Nat),lU wr B F gt ct A st S1 rk1 ak/\aa [B.ba,B.br] w wr/\((∃ (P1:List Fr) (ML x1:Nat) (l1 r1:BT) (dn:List Nat),a=.int .i64 (x1:Int)/\L=dn++x1::P1.map (·.1)/\xH S rk T X S1 rk1 P1 ML x1 l1 r1)\/(a=.int .i64 (-1)/\uo S rk T X S1 rk1))) (fun a _=>if intOf a=-1 then 0 else L.length-L.idxOf (intOf a).toNat)
 case atStart=>exact ⟨S,rk,YE.out,aa.refl _ _,Or.inl ⟨P,was,x,l,r,[],rfl,HLL.out.symm,MM.out⟩⟩
 case round=>
  obtain ⟨S1,rk1,hM,hu,hor⟩:=hrel;rename World=>w5;rcases hor with ⟨P1,ML,x1,l1,r1,dn,rfl,hLe,hMe⟩|⟨rfl,hE⟩
  ·have hxb:((x1:Int) != -1)=true:=σ;obtain ⟨p1,p2,p3,p4,p5⟩:=hMe.parts HX.out;have hx1:=WT.out x1 p1;have h0:=hM.h0;have h2:=hM.h2;have d0:=hM.ranks.cell x1 hx1;have ex:=hMe.rx;rw [ex] at d0;have hT1:=((eU _ _).1 hMe.Dx).1;have ks:=rq hM (p:=Ci P1) hT1 hMe.rl hMe.rr p2 (fun y hy=>WT.out y (p3 y hy));have ME:=χ hMe;have HLe:=χ hLe;have hu1:S1.u x1=Ci P1:=hT1.2.1;have HPU:=χ hu1;clear hMe p1 p2 p3 p4 p5 hT1 hM ex hLe hu1
   go_wp2_with fail
   refine ks.mono ?_;rintro e w7 ⟨rfl,kQ,S3,Te,IC,Ul,Wz,hs7,hsu,XF⟩;have e7:Te x1=(aC x1 l1 r1).rank:=by
    have:=Wz.root (by unfold aC;split<;>simp);rw [jP] at this;simpa using this
   have g2:=IC.h2;have g1:=IC.h1;have d7:=IC.ranks.cell x1 hx1;rw [e7] at d7;have hsu2:S3.u x1=Ci P1:=hsu.trans HPU.out;have ku:=QP B.bt B.ba A.cs.length S3 (x1:Int) w7 IC.trees;rw [show pF A.cs.length S3 (x1:Int)=Ci P1 by unfold pF;rw [if_pos ω];simpa using hsu2] at ku;have Zt:=χ IC;have y5:=χ (ψ Ul (ψ Wz (ψ hs7 XF)));have X6:=χ (hu.trans kQ);have Mh:∃k3,(aC x1 l1 r1).rank=k3:=⟨_,rfl⟩;obtain ⟨k3,Mh⟩:=Mh;rw [Mh] at d7;have HRK:=χ Mh;clear IC Ul Wz hs7 XF hu kQ hsu hsu2 e7 ks h0 h2 d0 Mh HPU
   by_cases he:k3=ML
   ·have hb:((k3:Int) == (ML:Int))=true:=by rw [he];simp
    go_wp2;exact bodyPost_ret (v:=.tuple #[]) (by simp [results,Tryz.results245,go_sem]) rfl ⟨rfl,X6.out,S3,Te,Zt.out,ME.out.stay HX.out y5.out.1 y5.out.2.1 y5.out.2.2.1 y5.out.2.2.2 (HRK.out.trans he)⟩
   ·have hb:((k3:Int) == (ML:Int))=false:=ζ;have HNE:=χ (show (aC x1 l1 r1).rank≠ML from fun e=>he (HRK.out.symm.trans e));generalize hz:Ci P1=z at *;clear he
    go_wp2_with (first
     | (go_at_call 250;(with_reducible refine (ku).mono ?_);rintro e w8 ⟨rfl,kk,rfl⟩)
     | (go_at_call 247;(with_reducible refine (nX _ _).mono ?_);rintro e w9 ⟨rfl,aM⟩;rw [aM];clear aM w9)
     | fail)
    cases P1 with
    | nil=>
     subst hz;refine ⟨⟨S3,Te,Zt.out.aA ((aa.refl _ _).drewN kk),X6.out.drewN kk,Or.inr ⟨rfl,ME.out.top HX.out y5.out.1 y5.out.2.1 y5.out.2.2.1 y5.out.2.2.2⟩⟩,?_⟩;have hi:=Jc HL.out HLe.out
     show (if ((-1:Int))=-1 then 0 else _)<(if ((x1:Int))=-1 then 0 else L.length-L.idxOf ((x1:Int)).toNat)
     rw [if_pos rfl,if_neg ω,π,hi.1];omega
    | cons f P2=>
     subst hz;obtain ⟨l2,r2,hM2⟩:=ME.out.up HX.out y5.out.1 y5.out.2.1 y5.out.2.2.1 y5.out.2.2.2 HNE.out;refine ⟨⟨S3,Te,Zt.out.aA ((aa.refl _ _).drewN kk),X6.out.drewN kk,Or.inl ⟨P2,_,f.1,l2,r2,dn++[x1],rfl,by rw [HLe.out];simp,hM2⟩⟩,?_⟩;have hi:=Jc HL.out HLe.out;have hi2:=Jc (done:=dn++[x1]) (x:=f.1) (rest:=P2.map (·.1)) HL.out (by rw [HLe.out];simp)
     show (if ((f.1:Int))=-1 then 0 else L.length-L.idxOf ((f.1:Int)).toNat)<(if ((x1:Int))=-1 then 0 else L.length-L.idxOf ((x1:Int)).toNat)
     rw [if_neg ω,if_neg ω,π,π,hi.1,hi2.1];rw [υ,List.length_singleton] at hi2 ⊢;omega
  ·go_wp2
   (first|go_end0|go_ret)
   exact ⟨rfl,hu,S1,rk1,hM,hE⟩
end
def mG (w:World) (B:LB) (F:List Nat) (gt ct:Nat) (A:NS) (st:Nat) (tr:Nat->BT):Prop:=
 ∃S rk ak,lU w B F gt ct A st S rk ak/\TrI A S ak tr/\(∀h,Lean (tr h))/\(∀h,gK rk (tr h))
theorem mG.upd {w w':World} {B:LB} {F:List Nat} {gt ct:Nat} {A:NS} {st:Nat} {tr:Nat->BT} {G:List Nat} (h:mG w B F gt ct A st tr) (hu:aa G w w') (hG:∀x,x∈G->x∉B.blk F gt):mG w' B F gt ct A st tr:=by
 obtain ⟨S,rk,ak,hM,h1,h2,h3⟩:=h;exact ⟨S,rk,ak,hM.upd hu hG,h1,h2,h3⟩
theorem mG.aA {w w':World} {B:LB} {F:List Nat} {gt ct:Nat} {A:NS} {st:Nat} {tr:Nat->BT} (h:mG w B F gt ct A st tr) (hu:aa [] w w'):mG w' B F gt ct A st tr:=h.upd hu σ
section
variable {w:World} {B:LB} {F:List Nat} {gt ct:Nat} {A:NS} {st:Nat} {tr:Nat->BT}
theorem GK (h:mG w B F gt ct A st tr) (hh x:Nat) (k s:Int) (hk:-9223372036854775808<=k/\k<=9223372036854775807/\0<=s/\s<=18446744073709551615) (hB:oF A hh x=true) :
  Calls Tryz.prog 240 #[.pointer (some ⟨B.n0,0,none⟩),.int .i64 (hh:Int),.int .i64 (x:Int),.agg #[.int .i64 k,.int .u64 s]] w fun e w'=>e=.returned (.bool true)/\aa (B.blk F gt) w w'/\
   mG w' B F gt ct (aN A hh x k s) (bZ st (aK aC (aN A hh x k s) (tr hh) (single x)).2) (fun q=>if q=hh then (aK aC (aN A hh x k s) (tr hh) (single x)).1 else tr q):=by
 obtain ⟨S,rk,ak,hM,hI,hL,hR⟩:=h;have hlt:=hM.lt;have ok:=hM.cells.ok;have ok':=yY ok hh x k s hk;obtain ⟨b1,b2,b3⟩:=(fE _ _ _).1 hB;have b4:=(aT _ _).1 b1;have hx:x<A.cs.length:=by have:=(ic _ _).1 b2;omega
 have Pn:(A.c x).i=0:=by
  have:=(ok.nat x hx).1;have h3:¬ (0<(A.c x).i):=fun h'=>by rw [(ai A x).2 ⟨hx,h'⟩] at b3;cases b3
  omega
 have hcs:(aN A hh x k s).cs.length=A.cs.length:=by unfold aN;rw [if_pos hB,fO]
 have lX:(aN A hh x k s).hs.length=A.hs.length:=by unfold aN;rw [if_pos hB];rfl
 have hcx:∀y,(aN A hh x k s).c y=if y=x then ⟨hh,k,s⟩ else A.c y:=fun y=>by
  unfold aN;rw [if_pos hB,π,kV]
  by_cases e:y=x
  ·rw [if_pos ⟨e,hx⟩,if_pos e]
  ·rw [if_neg (fun h=>e h.1),if_neg e]
 have rO:x∉(tr hh).nodes:=hI.out Pn;have hX:((tr hh).nodes++(single x).nodes).Nodup:=by
  rw [θ];refine ⟨hI.nd hh,by simp [single,BT.nodes],fun a ha b hb e=>?_⟩;simp only [single,BT.nodes,List.append_nil,List.mem_singleton] at hb;exact rO (by rw [←hb,←e];exact ha)
 have hin:∀y,y∈(tr hh).nodes++(single x).nodes->bX (aN A hh x k s) (y:Int)=true:=fun y hy=>by
  rw [ai,hcs,hcx];simp only [single,BT.nodes,List.append_nil,τ,List.mem_singleton] at hy
  by_cases e:y=x
  ·rw [if_pos e,e];exact ⟨hx,by show (0:Int)<(hh:Int);omega⟩
  ·rw [if_neg e];have:=(hI.mem hh y).1 (hy.resolve_right e);exact ⟨this.2.1,ω⟩
 have XB:Heap (aN A hh x k s) (tr hh):=(hI.heap hh).frame (fun y hy=>by rw [hcx,if_neg (fun e=>rO (by rw [←e];exact hy))]);obtain ⟨mp,mh⟩:=mH nM (aN A hh x k s) _ (tr hh) (single x) (Nat.le_refl _);have XP:=mh XB ⟨by simp [BT.nodes],by simp [BT.nodes],trivial,trivial⟩ hX;have ml:=ve (aN A hh x k s) _ (tr hh) (single x) (Nat.le_refl _) (hL hh) ⟨Nat.le_refl _,trivial,trivial⟩;have hfr:=hI.free x hx Pn
 have FI:Hid (∀ (W:World) (S':TS) (oD:Nat->Nat) (st':Nat),lU W B F gt ct (aN A hh x k s) st' S' oD (ak.set hh (aK aC (aN A hh x k s) (tr hh) (single x)).1.root)->cO S' (-1) (aK aC (aN A hh x k s) (tr hh) (single x)).1.root (aK aC (aN A hh x k s) (tr hh) (single x)).1->gK oD (aK aC (aN A hh x k s) (tr hh) (single x)).1->
   (∀y,y∉(tr hh).nodes++(single x).nodes->S.at S' y/\oD y=rk y)->mG W B F gt ct (aN A hh x k s) st' (fun q=>if q=hh then (aK aC (aN A hh x k s) (tr hh) (single x)).1 else tr q)):=fun W S' oD st' a1 a2 a3 a4=>by
  refine ⟨S',oD,_,a1,hI.put ok hM.jE hB a2 mp XP (fun y hy=>(a4 y hy).1),fun q=>?_,fun q=>?_⟩
  ·show Lean (if q=hh then _ else _)
   split
   ·exact ml
   ·exact hL q
  ·show gK oD (if q=hh then _ else _)
   split
   ·exact a3
   ·rename_i hq
    refine (hR q).frame (fun y hy=>(a4 y (fun hm=>?_)).2);simp only [single,BT.nodes,List.append_nil,τ,List.mem_singleton] at hm;rcases hm with hm|hm
    ·have c1:=(hI.mem hh y).1 hm;have c2:=(hI.mem q y).1 hy;omega
    ·exact hI.out (g:=q) Pn (by rw [←hm];exact hy)
 have Xw:=hI.Dx hh;have hRh:=hR hh;have htop:=hI.top hh ω;have hgn:hh<ak.length:=by rw [hM.jE];omega
 have u1:aa [] w (w.alloc (.cells #[.int .i64 k,.int .u64 s] 129)):=(aa.refl _ _).alloc _;have kp:=fun W (hW:aa [] (w.alloc (.cells #[.int .i64 k,.int .u64 s] 129)) W)=>oC (hM.cells.aA (u1.trans hW)) hh x k s hk hB;have h0:=hM.h0;have uQ:B.n0∉F:=hM.bI.1;have hsz:w.heap.size∉F:=fun hm=>by have:=hlt w.heap.size (by simp [LB.blk,hm]);omega
 have r0:∀W,aa F (w.alloc (.cells #[.int .i64 k,.int .u64 s] 129)) W->W.cell? ⟨B.n0,0,none⟩=some (.pointer (some ⟨B.c,0,none⟩)):=fun W hW=>hW.kept (u1.was h0) uQ;have r1:∀W,aa F (w.alloc (.cells #[.int .i64 k,.int .u64 s] 129)) W->W.cell? ⟨w.heap.size,0,none⟩=some (.int .i64 k):=fun W h=>h.kept σ hsz;have r2:∀W,aa F (w.alloc (.cells #[.int .i64 k,.int .u64 s] 129)) W->W.cell? ⟨w.heap.size,1,none⟩=some (.int .u64 s):=fun W h=>h.kept σ hsz;have HM:=χ hM;have HH:=χ (ψ hX (ψ hin (ψ Xw (ψ hRh hfr))));have WT:=χ hlt;have HSE:=χ (ψ hM.sep hM.bI);have hA:=ok.c1;have Xb:=ok.h1;have HXN:=χ rO
 clear hM hI hL hR ok ok' b1 b2 b3 Pn hcx rO hX hin XB mp mh XP ml hfr h0 hlt Xw hRh;generalize hA':aN A hh x k s=A' at *;generalize htr:tr hh=th at *
 go_enter Tryz.func240,Tryz.ntmps240
 go_wp2
 go_region_held3 (aa F (w.alloc (.cells #[.int .i64 k,.int .u64 s] 129))) (exact ν)
  ((go_at_call 154;(with_reducible refine (kp _ β).mono ?_);rintro e w1 ⟨rfl,jD,hu1⟩;(have hu2:aa F (w.alloc (.cells #[.int .i64 k,.int .u64 s] 129)) w1:=ν)))
 have uF:aa F w (w.alloc (.cells #[.int .i64 k,.int .u64 s] 129)):=u1.mono σ;have hM1:=HM.out.dB (uF.trans hu2) jD (fun y hy=>Or.inl hy) hcs lX;have h2:=hM1.h2;have dR:=hM1.ranks.cell x (by rw [hcs];exact hx);have fR:=hM1.ranks.free x;have hw1:aa F w w1:=uF.trans hu2;have jZ:=χ hM1;clear r0 r1 r2 kp hu1 hu2 jD hM1 uF;rw [hcs] at h2;go_wp2;obtain ⟨w2,hw2⟩:∃w2,w2=w1.setCell ⟨B.br,x,none⟩ (.int .i64 1):=⟨_,rfl⟩;have u2:aa [B.br] w1 w2:=by rw [hw2];exact β
 have hM2:lU w2 B F gt ct A' st S (fun y=>if y=x then 1 else rk y) ak:=by rw [hw2];exact jZ.out.dG x 1
 rw [←hw2];clear hw2 jZ h2 dR fR;have km:=fun W (hW:aa [] w2 W)=>vK (hM2.aA hW) HH.out.2.2.1 (vB HH.out.2.2.2.2) HH.out.1 HH.out.2.1 (HH.out.2.2.2.1.frame (fun y hy=>if_neg (fun e=>HXN.out (by rw [←e];exact hy)))) ⟨by simp [BT.rank],trivial,trivial⟩;rw [show (single x).root=(x:Int) from rfl] at km;have d4:=hM2.jQ.cell hh hgn;rw [htop] at d4;have f4:=hM2.jQ.free hh;have h3:=hM2.h3;have hg:=hM2.lt gt (by simp [LB.blk]);have nI:=χ hM2;have Ef:B.n0∉[B.c,B.ba,B.br,gt]:=by
  have a1:=HSE.out;have a2:B.n0≠B.c:=fun e=>a1.2.1 (by rw [e];exact HM.out.cF);simp;omega
 have hgc:gt∉[B.c,B.ba,B.br]:=by
  have a1:=HSE.out;have a2:gt≠B.c:=fun e=>a1.2.2.2.2.2 (by rw [e];exact HM.out.cF);simp;omega
 have r3:∀W,aa [B.c,B.ba,B.br,gt] w2 W->W.cell? ⟨B.n0,3,none⟩=some (.slice (some ⟨gt,0,none⟩) ak.length ct):=fun W hW=>hW.kept h3 Ef;have r4:∀W,aa [B.c,B.ba,B.br] w2 W->W.cell? ⟨gt,hh,none⟩=some (.int .i64 th.root)/\W.frozen? ⟨gt,hh,none⟩=false:=fun W hW=>⟨hW.kept d4 hgc,hW.aR d4 hgc f4⟩
 have BP:(0:Int)<=(hh:Int):=ω;have Gs:(hh:Int)<(ak.length:Int):=ω;have MG:Hid (aK aC A' th (single x)=aK aC A' th (single x)):=rfl;generalize hmt:(aK aC A' th (single x)).1=mt at *;generalize hmk:(aK aC A' th (single x)).2=mk at *;clear hM2 f4 h3 MG;have q3:=r3 _ (aa.refl _ _);have q4:=(r4 _ (aa.refl _ _)).1
 go_region_law
  (first
   | (go_simp;go_at_call 246;(with_reducible refine (km _ β).mono ?_);rintro e w5 ⟨rfl,xL,S5,Xf,wZ,IL,Oc,hs5⟩;(have cu:aa [B.c,B.ba,B.br] w2 w5:=aa.trans β xL);(have iB:aa [B.c,B.ba,B.br,gt] w2 w5:=cu.mono σ);obtain ⟨d5,f5⟩:=r4 _ cu;(have q5:=r3 _ iB)))
 all_goals
  go_wp2;go_ret;have qA:=HM.out.cF;have v1:aa (B.blk F gt) w w1:=hw1.mono (fun y hy=>by simp only [LB.blk,ρ];simp [hy]);have v2:aa (B.blk F gt) w w2:=v1.trans (u2.mono (fun y hy=>by simp at hy;simp [LB.blk,hy]))
  have v3:aa (B.blk F gt) w w5:=v2.trans (cu.mono (fun y hy=>by
   simp only [ρ,ς,or_false] at hy;simp only [LB.blk,ρ];rcases hy with rfl|rfl|rfl
   ·simp [qA]
   ·simp
   ·simp))
  subst hmt hmk;refine ⟨rfl,v3.setCell (Or.inl (by simp [LB.blk])) _,FI.out _ S5 Xf _ (wZ.qL hh _) IL Oc (fun y hy=>⟨(hs5 y hy).1,?_⟩)⟩;rw [(hs5 y hy).2,if_neg (fun e=>hy (by rw [e];simp [single,BT.nodes]))]
end
theorem Tu (n j:Nat) (hj:j<n):(madeCells #[Value.int .i64 0] (n*1)).toList.getD j undef=.int .i64 0:=by
 rw [φ,ε (by simp [madeCells];omega)];simp [madeCells,Nat.mod_one]
theorem TU (n:Nat) (w:World) (h:n<=65536) :
  Calls Tryz.prog 100 #[.int .i64 (n:Int)] w fun e w'=>∃B F gt,e=.returned (.tuple #[.pointer (some ⟨B.n0,0,none⟩),.int .i64 0])/\mG w' B F gt 1 (NS.new n) 0 (fun _=>.nil)/\aa [] w w'/\∀x,x∈B.blk F gt->w.heap.size<=x:=by
 go_enter Tryz.func100,Tryz.ntmps100
 go_wp2_with (first
  | ((go_at_call 107;(with_reducible refine (oh n _ h).mono ?_));rintro e w1 ⟨c,F,rfl,hC,hu1,hF⟩)
  | ((go_at_call 112;(with_reducible refine (wC n _ h).mono ?_));rintro e w2 ⟨bt,ba,rfl,hT,hu2,hb1,hb2⟩)
  | (at_make;refine wpList_make_row rfl _ 26 rfl 3 (.int .i64 0) 1 8 Tryz.underlying26 fK n rfl ω μ ?_;intro w3 hr3 hu3))
 go_ret2;have hcs:(NS.new n).cs.length=n:=by simp [NS.new]
 have l1:=hu1.size;have l2:=hu2.size;have l3:=hu3.size;have l4:=hr3.lt;have l5:=hT.head.lt;have l6:=hT.row.lt;have l7:=hC.lt;have lc:=l7 c hC.mem;have e3:((w3.alloc (.cells #[.int .i64 (-1)] 3)).heap.size)=w3.heap.size+1:=by rw [World.size_alloc]
 have hv:aa [] w3 (w3.alloc (.cells #[.int .i64 (-1)] 3)):=(aa.refl _ _).alloc _;have hw:aa [] w3 ((w3.alloc (.cells #[.int .i64 (-1)] 3)).alloc (.cells #[.pointer (some ⟨c,0,none⟩),.pointer (some ⟨bt,0,none⟩),.slice (some ⟨w2.heap.size,0,none⟩) n n,.slice (some ⟨w3.heap.size,0,none⟩) 1 1] 231)):=hv.alloc _;have hh:=eH (w3.alloc (.cells #[.int .i64 (-1)] 3)) [.pointer (some ⟨c,0,none⟩),.pointer (some ⟨bt,0,none⟩),.slice (some ⟨w2.heap.size,0,none⟩) n n,.slice (some ⟨w3.heap.size,0,none⟩) 1 1] 231;rw [e3] at hh
 have hi:IZ (w3.alloc (.cells #[.int .i64 (-1)] 3)) w3.heap.size 1 [-1]:=IZ.lit w3 [-1] σ;have hF':∀x,x∈F->x<w1.heap.size:=l7;have hnF:∀x,w1.heap.size<=x->x∉F:=fun x hx hm=>by have:=hF' x hm;omega
 refine ⟨⟨w3.heap.size+1,c,bt,ba,w2.heap.size⟩,F,w3.heap.size,rfl,⟨TS.none,fun _=>0,[-1],⟨by rw [hcs];exact hh,((hC.aA hu2).aA hu3).aA hw,by rw [hcs];exact (hT.upd hu3 σ σ).upd hw σ σ,?_,hi.upd ((aa.refl [] _).alloc _) σ,rfl,⟨hnF _ (by first|omega|(simp only;omega)),hnF _ (by first|omega|(simp only;omega)),hnF _ (by first|omega|(simp only;omega)),hnF _ (by first|omega|(simp only;omega)),hnF _ (by first|omega|(simp only;omega))⟩,⟨⟨by simp only;omega,by simp only;omega,by simp only;omega,by simp only;omega⟩,by simp only;omega,by simp only;omega,by simp only;omega,by simp only;omega,by simp only;omega⟩⟩,Ec n,fun _=>trivial,fun _=>trivial⟩,((hu1.trans hu2).trans hu3).trans hw,fun x hx=>?_⟩
 ·rw [hcs];have:=hr3.upd hw σ;rw [Nat.mul_one] at this;refine this.ext (fun j hj=>?_);have hz:(Value.int .i64 0).cells=#[.int .i64 0]:=rfl;have e:=Tu n j hj;rw [Nat.mul_one] at e;rw [hz,e];rfl
 ·simp only [LB.blk,ρ] at hx;rcases hx with rfl|rfl|rfl|rfl|rfl|hx
  ·omega
  ·omega
  ·omega
  ·omega
  ·omega
  ·exact hF x hx
section
variable {w:World} {B:LB} {F:List Nat} {gt ct:Nat} {A:NS} {st:Nat} {tr:Nat->BT}
theorem QI (h:mG w B F gt ct A st tr) (hl:65536<A.hs.length) :
  Calls Tryz.prog 241 #[.pointer (some ⟨B.n0,0,none⟩)] w fun e w'=>e=.returned (.int .i64 0)/\Goes (B.blk F gt) w w' (fun F'=>∃F1,F'=B.blk F1 gt/\mG w' B F1 gt ct A st tr):=by
 obtain ⟨S,rk,ak,hM,hI⟩:=h;have k:=iX hM.cells;have e1:dF A=0:=by unfold dF;rw [if_pos hl]
 have e2:aQ A=A:=by unfold aQ;rw [if_pos hl]
 rw [e1,e2] at k;have h0:=hM.h0;have HM:=χ hM;have HI:=χ hI;clear hM hI e1 e2
 go_enter Tryz.func241,Tryz.ntmps241
 go_wp2_with (first|((go_at_call 156;(with_reducible refine (k).mono ?_));rintro e w1 ⟨rfl,F1,hC,hu,hF⟩))
 go_ret
 exact ⟨rfl,B.blk F1 gt,⟨F1,rfl,S,rk,ak,HM.out.dB hu hC hF rfl rfl,HI.out⟩,hu.mono (fun y hy=>by simp [LB.blk,hy]),fun x hx=>by
  simp only [LB.blk,ρ] at hx ⊢;rcases hx with rfl|rfl|rfl|rfl|rfl|hx
  ·simp
  ·simp
  ·simp
  ·simp
  ·simp
  ·rcases hF x hx with h|h
   ·simp [h]
   ·exact Or.inr h⟩
theorem O9 (h:mG w B F gt ct A st tr) (hl:¬65536<A.hs.length) :
  Calls Tryz.prog 241 #[.pointer (some ⟨B.n0,0,none⟩)] w fun e w'=>e=.returned (.int .i64 (A.hs.length:Int))/\Goes (B.blk F gt) w w' (fun F'=>∃F1 pJ Gd,F'=B.blk F1 pJ/\mG w' B F1 pJ Gd (aQ A) st tr):=by
 obtain ⟨S,rk,ak,hM,hI,hL,hR⟩:=h;have k:=iX hM.cells;have e1:dF A=A.hs.length:=by unfold dF;rw [if_neg hl]
 rw [e1] at k;have hcs:(aQ A).cs.length=A.cs.length:=by unfold aQ;rw [if_neg hl]
 have lX:(aQ A).hs.length=A.hs.length+1:=by unfold aQ;rw [if_neg hl];simp
 have hI2:=hI.make hM.cells.ok hM.jE hl;have h0:=hM.h0;have hh0:=hM.cells.ok.h0;have HTN:=χ hM.jE;have htb:ak.length<=65536:=by rw [hM.jE];omega
 have HM:=χ hM;have HI:=χ (ψ hI2 (ψ hL hR));clear hM hI hL hR e1 hI2
 go_enter Tryz.func241,Tryz.ntmps241
 go_wp2_with (first
  | ((go_at_call 156;(with_reducible refine (k).mono ?_));rintro e w1 ⟨rfl,F1,hC,hu,hF⟩;(have d3:=hu.kept HM.out.h3 HM.out.bI.1);(have f3:=hu.aR HM.out.h3 HM.out.bI.1 (HM.out.head.free 3));(have ho1:=(HM.out.jQ.upd hu HM.out.bI.2.2.2.2).own);(have g0:B.n0≠gt:=HM.out.sep.1.2.2.2);(have gl:=(HM.out.jQ.upd hu HM.out.bI.2.2.2.2).lt))
  | ((at_builtin;refine aW rfl _ _ 26 rfl 0 3 (.int .i64 0) 1 8 Tryz.underlying26 fK rfl δ _ _ _ rfl (ho1) [.int .i64 (-1)] rfl (by simp [Value.oneCell']) (by first|rfl|(rw [World.size_alloc];rfl)) μ ω (ω) ?_;intro v2 w2 ho2 hu2 mW);(have hu2:aa [gt] w1 w2:=hu2);obtain ⟨pJ,Gd,ev,hI2, -⟩:=IZ.iY (l:=ak++[-1]) (by rw [bN,υ];exact ho2) σ;rw [υ,List.length_singleton] at ev;subst ev;(have d4:=hu2.kept d3 ζ);(have f4:=hu2.aR d3 ζ f3)))
 go_ret;have hM:=HM.out;have hlt:=hM.lt;have f:=hM.bI;have q:=hM.sep;have hw3:aa [B.n0] w2 (w2.setCell ⟨B.n0,3,none⟩ (.slice (some ⟨pJ,0,none⟩) (ak.length+1) Gd)):=β;have hg1:pJ=gt\/w1.heap.size<pJ:=by
  rcases mW with h|h
  ·exact Or.inl (Option.some.inj h)
  ·exact Or.inr (h pJ rfl)
 have hws:=hu.size;have jD:=hC.lt;have l0:=hlt B.n0 (by simp [LB.blk]);have l1:=hlt B.bt (by simp [LB.blk]);have l2:=hlt B.ba (by simp [LB.blk]);have l3:=hlt B.br (by simp [LB.blk]);have l4:=hlt gt (by simp [LB.blk]);have hnF:∀y,y<w.heap.size->y∉F->y∉F1:=fun y hy hn hm=>by rcases hF y hm with h'|h';exact hn h';omega
 have EY:pJ∉F1:=by
  rcases hg1 with e|e
  ·rw [e];exact hnF gt l4 f.2.2.2.2
  ·exact fun hm=>by have:=jD pJ hm;omega
 have hb:w.heap.size<=pJ\/pJ=gt:=ω;have hhd:=((hM.head.upd hu f.1).upd hu2 ζ).set 3 (.slice (some ⟨pJ,0,none⟩) (ak.length+1) Gd);refine ⟨rfl,B.blk F1 pJ,⟨F1,pJ,Gd,rfl,S,rk,ak++[-1],⟨?_,?_,?_,?_,hI2.upd hw3 ζ,?_,⟨hnF _ l0 f.1,hnF _ l1 f.2.1,hnF _ l2 f.2.2.1,hnF _ l3 f.2.2.2.1,EY⟩,⟨⟨q.1.1,q.1.2.1,q.1.2.2.1,ω⟩,q.2.1,ω,q.2.2.2.1,ω,ω⟩⟩,HI.out⟩,?_,fun y hy=>?_⟩
 ·rw [hcs,υ,List.length_singleton];refine hhd.ext (fun j hj=>?_);rcases (ω:j=0\/j=1\/j=2\/j=3) with rfl|rfl|rfl|rfl<;>rfl
 ·exact (hC.upd hu2 (fun y hy=>by simp at hy;rw [hy];exact hnF gt l4 f.2.2.2.2)).upd hw3 (fun y hy=>by simp at hy;rw [hy];exact hnF _ l0 f.1)
 ·rw [hcs];exact ((hM.trees.upd hu f.2.1 f.2.2.1).upd hu2 ζ ζ).upd hw3 ζ ζ
 ·rw [hcs];exact ((hM.ranks.upd hu f.2.2.2.1).upd hu2 ζ).upd hw3 ζ
 ·rw [υ,List.length_singleton,lX,HTN.out]
 ·have u1:aa (B.blk F gt) w w1:=hu.mono (fun y hy=>by simp [LB.blk,hy]);exact (u1.trans (hu2.mono (fun y hy=>by simp at hy;simp [LB.blk,hy]))).trans (hw3.mono (fun y hy=>by simp at hy;simp [LB.blk,hy]))
 ·simp only [LB.blk,ρ] at hy ⊢;rcases hy with rfl|rfl|rfl|rfl|rfl|hy
  ·simp
  ·simp
  ·simp
  ·simp
  ·rcases hb with h|h
   ·exact Or.inr h
   ·exact Or.inl (by simp [h])
  ·rcases hF y hy with h|h
   ·simp [h]
   ·exact Or.inr h
end
theorem wR.first {A:NS} {S:TS} {ak:List Int} {tr:Nat->BT} (h:TrI A S ak tr) {g:Nat} (hg:0<dZ A g):∃m:Nat,(tr g).root=m/\dW A g=some m:=by
 obtain ⟨x,hx,hi,h0⟩:=fM.1 hg;have hxm:x∈(tr g).nodes:=(h.mem g x).2 ⟨ω,hx,hi⟩;cases ht:tr g with
 | nil=>rw [ht] at hxm;cases hxm
 | node m l r=>
  have hm:=(h.mem g m).1 (by rw [ht];simp [BT.nodes]);have hH:=h.heap g;rw [ht] at hH;refine ⟨m,rfl,(iZ h0).2 ⟨hm.2.1,hm.2.2,fun y hy hyi=>?_⟩⟩;have hym:=(h.mem g y).2 ⟨ω,hy,hyi⟩;rw [ht] at hym;simp only [BT.nodes,ρ,τ] at hym;rcases hym with e|e|e
  ·exact Or.inl e
  ·exact Or.inr (hH.1 y e)
  ·exact Or.inr (hH.2.1 y e)
section
variable {w:World} {B:LB} {F:List Nat} {gt ct:Nat} {A:NS} {st:Nat} {tr:Nat->BT}
theorem Oi (h:mG w B F gt ct A st tr) (x:Int) (hx:-9223372036854775808<=x/\x<=9223372036854775807) (hn:dZ A x=0) :
  Calls Tryz.prog 243 #[.pointer (some ⟨B.n0,0,none⟩),.int .i64 x] w fun e w'=>e=.returned (.tuple #[.int .i64 0,.bool false])/\w'=w:=by
 obtain ⟨S,rk,ak,hM, -, -, -⟩:=h;have k:=pV hM.cells x hx;rw [hn] at k;have h0:=hM.h0;clear hM hn
 go_enter Tryz.func243,Tryz.ntmps243
 go_wp2_with (first|(go_at_call 142;(with_reducible refine (k).mono ?_);rintro e w9 ⟨rfl,aM⟩;rw [aM];clear aM w9))
 go_ret2;exact ⟨rfl,rfl⟩
theorem Di (h:mG w B F gt ct A st tr) (g:Nat) (hn:0<dZ A g) :
  Calls Tryz.prog 243 #[.pointer (some ⟨B.n0,0,none⟩),.int .i64 (g:Int)] w fun e w'=>∃m:Nat,dW A g=some m/\(tr g).root=m/\e=.returned (.tuple #[.int .i64 (m:Int),.bool true])/\w'=w:=by
 obtain ⟨S,rk,ak,hM,hI, -, -⟩:=h;obtain ⟨m,hm,hf⟩:=hI.first hn;obtain ⟨x,hx,hi,h0⟩:=fM.1 hn;have ok:=hM.cells.ok;have hgl:g<A.hs.length:=by have:=(ok.nat x hx).2;omega
 have Xb:=ok.h1;have k:=pV hM.cells (g:Int) ω;have hh0:=hM.h0;have h3:=hM.h3;have d:=hM.jQ.cell g (by rw [hM.jE];exact hgl);rw [hI.top g hgl,hm] at d;have htl:g<ak.length:=by rw [hM.jE];exact hgl
 generalize hl:dZ A (g:Int)=n at *;have hb:((n:Int) == 0)=false:=ζ;have HF:=χ (ψ hf hm);clear hM hI hm hf hx hi h0 ok hl
 go_enter Tryz.func243,Tryz.ntmps243
 go_wp2_with (first|(go_at_call 142;(with_reducible refine (k).mono ?_);rintro e w9 ⟨rfl,aM⟩;rw [aM];clear aM w9))
 go_ret2;exact ⟨m,HF.out.1,HF.out.2,rfl,rfl⟩
end
theorem aH {P:List Fr} {t:BT} {y:Nat}:y∈(aj P t).nodes↔y∈t.nodes\/y∈dU P:=by
 rw [(aP P t).mem_iff,τ]
def cutV (f:Fr) (t:BT):Int:=if t.root=-1 then 0 else (f.1:Int)
section
variable {w:World} {bt ba n:Nat} {S:TS}
theorem nW (h:bA w bt ba n S) {f:Fr} {P:List Fr} {t:BT} (hT:cO S (-1) (aj (f::P) t).root (aj (f::P) t)) (hn:(aj (f::P) t).nodes.Nodup) (hlt:∀y,y∈(aj (f::P) t).nodes->y<n) :
  Calls Tryz.prog 244 #[.pointer (some ⟨bt,0,none⟩),.int .i64 t.root] w fun e w'=>e=.returned (.tuple #[.int .i64 (cutV f t),.bool (tb t.root)])/\aa [ba] w w'/\
   ∃S',bA w' bt ba n S'/\cO S' (-1) t.root t/\cO S' (-1) (aj (f::P) .nil).root (aj (f::P) .nil)/\∀y,y∉(aj (f::P) t).nodes->S.at S' y:=by
 by_cases ht:t=.nil
 ·subst ht;refine (Ej bt ba n S (-1) w h (by unfold pF;simp)).mono ?_;rintro e w' ⟨rfl,rfl⟩;exact ⟨by simp [cutV,BT.root,tb],aa.refl _ _,S,h,rfl,hT,fun y _=>⟨rfl,rfl,rfl⟩⟩
 ·obtain ⟨c1,c2,c3⟩:=Sl hT ht hn;obtain ⟨m1,m2⟩:=bM ht;have hp:=(eU _ _).1 hT;have hu:S.u t.root.toNat=(f.1:Int):=by
   cases t with
   | nil=>exact absurd rfl ht
   | node y a b=>exact hp.1.2.1
  have hf:f.1<n:=hlt _ (aH.2 (Or.inr (by simp [dU])));have hr:t.root.toNat<n:=hlt _ (aH.2 (Or.inl m1));have hne:t.root≠-1:=ω;have k:=Dn bt ba n S f.1 t.root.toNat w h hf hr hu;rw [←m2] at k;refine k.mono ?_;rintro e w' ⟨rfl,h',hu'⟩;refine ⟨by unfold cutV tb;rw [if_neg hne];simp [hne],hu',_,h',c1,c2,fun y hy=>c3 y (fun e=>hy ?_) (fun e=>hy ?_)⟩
  ·rw [e];exact aH.2 (Or.inr (by simp [dU]))
  ·rw [e];exact aH.2 (Or.inl m1)
theorem CZ (h:bA w bt ba n S) {f:Fr} {P:List Fr} {m:BT} (hT:cO S (-1) (aj (f::P) .nil).root (aj (f::P) .nil)) (hM:cO S (-1) m.root m) (hm:m≠.nil) (hn:(m.nodes++dU (f::P)).Nodup) (hlt:∀y,y∈m.nodes++dU (f::P)->y<n) :
  Calls Tryz.prog 251 #[.pointer (some ⟨bt,0,none⟩),.int .i64 (f.1:Int),.int .i64 m.root,.bool f.2.1] w fun e w'=>e=.returned (.bool true)/\aa [ba] w w'/\
   ∃S',bA w' bt ba n S'/\cO S' (-1) (aj (f::P) m).root (aj (f::P) m)/\∀y,y∉m.nodes++dU (f::P)->S.at S' y:=by
 obtain ⟨c1,c2⟩:=Oh hT hM hm hn;obtain ⟨m1,m2⟩:=bM hm;have hp:=(eU _ _).1 hT;have hk:S.kid f.2.1 f.1=-1:=hp.2.1;have hu:S.u m.root.toNat=-1:=by
  cases m with
  | nil=>exact absurd rfl hm
  | node y a b=>exact hM.2.1
 have hf:f.1<n:=hlt _ (by simp [dU]);have hr:m.root.toNat<n:=hlt _ (by simp [m1]);have hne:f.1≠m.root.toNat:=fun e=>by
  rw [θ] at hn;exact hn.2.2 _ m1 f.1 (by simp [dU]) e.symm
 have k:=zV bt ba n S f.1 m.root.toNat f.2.1 w h hf hr hne hu hk;rw [←m2] at k;refine k.mono ?_;rintro e w' ⟨rfl,h',hu'⟩;refine ⟨rfl,hu',_,h',c1,fun y hy=>c2 y (fun e=>hy ?_) (fun e=>hy ?_)⟩
 ·rw [e];simp [dU]
 ·rw [e];simp [m1]
theorem LG (h:bA w bt ba n S) {P:List Fr} {x:Nat} {l r:BT} (hT:cO S (-1) (aj P (.node x l r)).root (aj P (.node x l r))) (hx:x<n) :
  Calls Tryz.prog 250 #[.pointer (some ⟨bt,0,none⟩),.int .i64 (x:Int)] w fun e w'=>e=.returned (.tuple #[.int .i64 (tv (Ci P)),.bool (tb (Ci P))])/\∃k,w'=w.drewN k:=by
 have k:=QP bt ba n S (x:Int) w h;have e:pF n S (x:Int)=Ci P:=by
  unfold pF;rw [if_pos ω,π];exact ((eU _ _).1 hT).1.2.1
 rw [e] at k;exact k
theorem CU (h:bA w bt ba n S) {p:Int} {x:Nat} {l r:BT} (hT:cO S p x (.node x l r)) (hx:x<n) :
  Calls Tryz.prog 248 #[.pointer (some ⟨bt,0,none⟩),.int .i64 (x:Int)] w fun e w'=>e=.returned (.tuple #[.int .i64 (tv l.root),.bool (tb l.root)])/\∃k,w'=w.drewN k:=by
 have e:il n S (x:Int) false=l.root:=by
  unfold il TS.kid;rw [if_pos ω];simp only [π];exact hT.2.2.1.root
 have k:=zI bt ba n S (x:Int) w h;rw [e] at k;exact k
theorem vJ (h:bA w bt ba n S) {p:Int} {x:Nat} {l r:BT} (hT:cO S p x (.node x l r)) (hx:x<n) :
  Calls Tryz.prog 249 #[.pointer (some ⟨bt,0,none⟩),.int .i64 (x:Int)] w fun e w'=>e=.returned (.tuple #[.int .i64 (tv r.root),.bool (tb r.root)])/\∃k,w'=w.drewN k:=by
 have e:il n S (x:Int) true=r.root:=by
  unfold il TS.kid;rw [if_pos ω];simp only [if_true,π];exact hT.2.2.2.root
 have k:=qw bt ba n S (x:Int) w h;rw [e] at k;exact k
theorem Cj (h:bA w bt ba n S) {f:Fr} {P:List Fr} {x:Nat} {l r:BT} (hT:cO S (-1) (aj (f::P) (.node x l r)).root (aj (f::P) (.node x l r))) (hn:(aj (f::P) (.node x l r)).nodes.Nodup) (hf:f.1<n) :
  ∃z:Int,(z == (x:Int))=f.2.1/\Calls Tryz.prog 249 #[.pointer (some ⟨bt,0,none⟩),.int .i64 (f.1:Int)] w fun e w'=>e=.returned (.tuple #[.int .i64 (tv z),.bool (tb z)])/\∃k,w'=w.drewN k:=by
 refine ⟨S.r f.1,?_,?_⟩
 ·have hp:=(eU _ _).1 hT;obtain ⟨q1,q2,_,_⟩:=hp.2;unfold TS.kid at q1 q2;cases hs:f.2.1
  ·rw [hs] at q1 q2;simp only [Bool.not_false,if_true] at q2;have e2:=q2.root;have hx:x∉f.2.2.nodes:=fun hm=>by
    have h1:=(aP (f::P) (.node x l r)).nodup_iff.1 hn;rw [θ] at h1;exact h1.2.2 x (by simp [BT.nodes]) x (by simp [dU,hm]) rfl
   have:S.r f.1≠(x:Int):=fun e=>by
    rw [e2] at e
    by_cases hnil:f.2.2=.nil
    ·rw [hnil] at e;have e:(-1:Int)=x:=e;omega
    ·have:=(bM hnil).1;rw [e] at this;exact hx this
   simpa using this
  ·rw [hs] at q1;simp only [if_true] at q1;rw [q1];simp [BT.root]
 ·have k:=qw bt ba n S (f.1:Int) w h;have e:il n S (f.1:Int) true=S.r f.1:=by unfold il TS.kid;rw [if_pos ω];simp
  rw [e] at k;exact k
end
def om:List Fr->BT->BT->BT
 | [],_,m=>m
 | f::P,old,m=>if f.2.1 then kX P (lS f old.rank) f.1 f.2.2 m else kX P (lS f old.rank) f.1 m f.2.2
theorem pQ (f:Fr) (P:List Fr) (old m:BT):om (f::P) old m=if f.2.1 then kX P (lS f old.rank) f.1 f.2.2 m else kX P (lS f old.rank) f.1 m f.2.2:=rfl
theorem tY:∀ (P:List Fr) (old m:BT),(om P old m).nodes.Perm (aj P m).nodes
 | [],_,_=>List.Perm.refl _
 | f::P,old,m=>by
  rw [pQ]
  show List.Perm _ (aj P (bC f m)).nodes
  unfold bC
  split
  ·exact qO _ _ _ _ _
  ·exact qO _ _ _ _ _
theorem Fy (f:Fr) (P:List Fr) (old m:BT):(om (f::P) old m).root=(aj (f::P) m).root:=by
 rw [pQ]
 show _=(aj P (bC f m)).root
 unfold bC
 split
 ·exact tC _ _ _ _ _
 ·exact tC _ _ _ _ _
theorem GV {A:NS}:∀ (P:List Fr) (old m:BT),Heap A (aj P m)->Heap A (om P old m)
 | [],_,_,h=>h
 | f::P,old,m,h=>by
  have h1:Heap A (aj P (bC f m)):=h;rw [pQ];unfold bC at h1
  split at h1
  ·rename_i e;rw [if_pos e];exact uC _ _ _ _ _ h1
  ·rename_i e;rw [if_neg e];exact uC _ _ _ _ _ h1
theorem Hz:∀ (P:List Fr) (old m:BT),Lean m->CB P old.rank->Lean (om P old m)
 | [],_,_,h,_=>h
 | f::P,old,m,h,hp=>by
  rw [pQ]
  split
  ·exact tX _ _ _ _ _ hp.1 h hp.2.2
  ·exact tX _ _ _ _ _ h hp.1 hp.2.2
noncomputable def GU (A:NS) (t:BT) (x:Nat):BT×Nat:=
 (om (pathOf t x).1 (.node x (pathOf t x).2.1 (pathOf t x).2.2) (aK aC A (pathOf t x).2.1 (pathOf t x).2.2).1,(aK aC A (pathOf t x).2.1 (pathOf t x).2.2).2)
noncomputable def Q7 (A':NS) (t:BT) (x:Nat):BT×Nat:=
 match (pathOf t x).1 with
 | []=>(t,0)
 | _::_=>aK aC A' (om (pathOf t x).1 (.node x (pathOf t x).2.1 (pathOf t x).2.2) .nil) (.node x (pathOf t x).2.1 (pathOf t x).2.2)
theorem qG {P:List Fr} {x:Nat} {l r:BT} (hn:(aj P (.node x l r)).nodes.Nodup) :
  (x∉l.nodes/\x∉r.nodes/\x∉dU P)/\(l.nodes++r.nodes).Nodup/\(∀y,y∈l.nodes->y∉dU P)/\(∀y,y∈r.nodes->y∉dU P)/\(dU P).Nodup:=by
 have h:=(aP P (.node x l r)).nodup_iff.1 hn;rw [θ] at h;obtain ⟨h1,h2,h3⟩:=h;simp only [BT.nodes,List.nodup_cons,τ,not_or] at h1;exact ⟨⟨h1.1.1,h1.1.2,fun hm=>h3 x (by simp [BT.nodes]) x hm rfl⟩,h1.2,fun y hy hm=>h3 y (by simp [BT.nodes,hy]) y hm rfl,fun y hy hm=>h3 y (by simp [BT.nodes,hy]) y hm rfl,h2⟩
theorem GI {up:Nat->BT->BT->BT} (U:Rs up) {A:NS} {P:List Fr} {x:Nat} {l r:BT} (hn:(aj P (.node x l r)).nodes.Nodup) (hH:Heap A (aj P (.node x l r))) :
  (x::(aj P (aK up A l r).1).nodes).Perm (aj P (.node x l r)).nodes/\Heap A (aj P (aK up A l r).1)/\(aK up A l r).1.nodes.Perm (l.nodes++r.nodes):=by
 obtain ⟨mp,mh⟩:=mH U A _ l r (Nat.le_refl _);have h1:=qG hn;have hs:=rY hH;have XP:=mh hs.2.2.1 hs.2.2.2 h1.2.1;refine ⟨?_,uh hH XP (fun y hy=>?_),mp⟩
 ·refine ((((aP P _).trans (mp.append_right _)).cons x)).trans ?_;exact (aP P (.node x l r)).symm
 ·have:=mp.mem_iff.1 hy;simp only [BT.nodes,ρ];exact Or.inr this
section
variable {w:World} {B:LB} {F:List Nat} {gt ct:Nat} {A:NS} {st:Nat} {S:TS} {rk:Nat->Nat} {ak:List Int}
theorem A7 (h:lU w B F gt ct A st S rk ak) {f:Fr} {P:List Fr} {old m:BT} (hT:cO S (-1) (aj (f::P) m).root (aj (f::P) m)) (hm:gK rk m) (hP:Rq rk (f::P) old.rank) (hX:(aj (f::P) m).nodes.Nodup)
  (hlt:∀y,y∈(aj (f::P) m).nodes->y<A.cs.length) :
  Calls Tryz.prog 245 #[.pointer (some ⟨B.n0,0,none⟩),.int .i64 (f.1:Int)] w fun e w'=>e=.returned (.tuple #[])/\aa [B.ba,B.br] w w'/\
   ∃S' oD,lU w' B F gt ct A st S' oD ak/\uo S rk (om (f::P) old m) (aj (f::P) m).nodes S' oD:=by
 rw [pQ];have hT1:cO S (-1) (aj P (bC f m)).root (aj P (bC f m)):=hT;have hX1:(aj P (bC f m)).nodes.Nodup:=hX;have hlt1:∀y,y∈(aj P (bC f m)).nodes->y<A.cs.length:=hlt
 show Calls _ _ _ _ fun e w'=>e=_/\_/\∃S' oD,_/\uo S rk _ (aj P (bC f m)).nodes S' oD
 by_cases hs:f.2.1=true
 ·have e1:bC f m=.node f.1 f.2.2 m:=by unfold bC;rw [if_pos hs]
  rw [e1] at hT1 hX1 hlt1 ⊢;rw [if_pos hs];exact CG h ⟨hT1,List.Perm.refl _,hP.1,hm,hP.2.1,hP.2.2,fun y _=>⟨⟨rfl,rfl,rfl⟩,rfl⟩,rfl⟩ hX1 hlt1
 ·have e1:bC f m=.node f.1 m f.2.2:=by unfold bC;rw [if_neg hs]
  rw [e1] at hT1 hX1 hlt1 ⊢;rw [if_neg hs];exact CG h ⟨hT1,List.Perm.refl _,hm,hP.1,hP.2.1,hP.2.2,fun y _=>⟨⟨rfl,rfl,rfl⟩,rfl⟩,rfl⟩ hX1 hlt1
end
end Go.Proofs.YtklibcncmbofpaaGreat
