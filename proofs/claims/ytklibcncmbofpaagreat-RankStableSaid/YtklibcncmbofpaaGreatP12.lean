/-
  Lemmas for RankSorts: Lf4. Conditions: those of each lemma.
-/
import Derived.Test.YtklibcncmbofpaaGreatP11
set_option maxHeartbeats 8000000
set_option maxRecDepth 10000
set_option linter.unusedVariables false
set_option linter.unusedSimpArgs false
namespace Go.Proofs.YtklibcncmbofpaaGreat
open Go Go.RowKit
theorem Nj.turn {up:Nat→BT→BT→BT} {S0 S2 S3:TS} {X:List Nat} {t m l:BT} {x:Nat} {W:List (Nat×BT)} (U:Nj up S0 X t S2 (W++[(x,l)]) m) (K:Jj up) (hX:X.Nodup)
  (hT:bG S3 (-1) x (up x l m)) (hfar:∀y,y≠x→y∉l.nodes→y∉m.nodes→S2.at S3 y):Nj up S0 X t S3 W (up x l m):=by
 have hp:=U.perm;rw [mK,List.append_assoc] at hp;have hnd:=hp.nodup_iff.2 hX;rw [List.nodup_append] at hnd;obtain ⟨n1,n2,n3⟩:=hnd;refine ⟨by rw [K.root];exact hT,fun p hpW=>?_,fun y hy=>?_,?_,by rw [U.res,wM]⟩
 ·have hw:=AZ hpW;refine (U.way p (List.mem_append_left _ hpW)).frame (fun y hy=>?_)
  have hyw:y∈qN W:=by
   simp only [BT.nodes,List.append_nil,List.mem_cons] at hy;rcases hy with rfl|hy
   ·exact hw.1
   ·exact hw.2 y hy
  exact hfar y (fun e=>n3 y hyw x σ e) (fun hm=>n3 y hyw y (by simp [hm]) rfl) (fun hm=>n3 y hyw y (by simp [hm]) rfl)
 ·have h1:=U.far y hy;have h2:=hfar y (fun e=>hy (hp.mem_iff.1 (by rw [e];simp))) (fun hm=>hy (hp.mem_iff.1 (by simp [hm]))) (fun hm=>hy (hp.mem_iff.1 (by simp [hm])))
  exact ⟨h2.1.trans h1.1,h2.2.1.trans h1.2.1,h2.2.2.trans h1.2.2⟩
 ·refine List.Perm.trans (List.Perm.append_left _ (K.nodes x l m)) ?_;simpa using hp
theorem Nj.len {up:Nat→BT→BT→BT} {S0 S:TS} {X:List Nat} {t m:BT} {W:List (Nat×BT)} (U:Nj up S0 X t S W m):W.length≤X.length:=by
 have:=U.perm.length_eq;rw [List.length_append] at this;have h2:W.length≤(qN W).length:=by
  clear this U
  induction W with
  | nil=>simp
  | cons p t ih=>unfold qN at *;simp only [List.flatMap_cons,List.length_append,List.length_cons];omega
 omega
theorem Down.len {up:Nat→BT→BT→BT} {A:NS} {S0 S:TS} {ta tb a b:BT} {W:List (Nat×BT)} (U:Down up A S0 ta tb S W a b):W.length+a.nodes.length+b.nodes.length≤(ta.nodes++tb.nodes).length:=by
 have:=U.perm.length_eq;rw [List.length_append,List.length_append] at this;have h2:W.length≤(qN W).length:=by
  clear this U
  induction W with
  | nil=>simp
  | cons p t ih=>unfold qN at *;simp only [List.flatMap_cons,List.length_append,List.length_cons];omega
 omega
theorem yE {S0 S2:TS} {X:List Nat} {t m l:BT} {x:Nat} {W:List (Nat×BT)} {rk2 rk3:Nat→Nat} {up:Nat→BT→BT→BT} (U:Nj up S0 X t S2 (W++[(x,l)]) m) (hX:X.Nodup)
  (hk:∀y,y≠x→rk3 y=rk2 y) (hr:∀p,p∈W→dV rk2 p.2):∀p,p∈W→dV rk3 p.2:=fun p hp=>by
 have hpx:=U.perm;rw [mK,List.append_assoc] at hpx;have hnd:=hpx.nodup_iff.2 hX;rw [List.nodup_append] at hnd;exact (hr p hp).frame (fun y hy=>hk y (fun e=>hnd.2.2 y ((AZ hp).2 y hy) x σ e))
section
variable {w:World} {B:LB} {F:List Nat} {gt ct:Nat} {A:NS} {st:Nat} {S:TS} {rk:Nat→Nat} {ah:List Int}
theorem Ih (h:jh w B F gt ct A st S rk ah) {p:Int} {x:Nat} {l r:BT} (hT:bG S p x (.node x l r)) (hx:x<A.cs.length) (hr:∀y,y∈r.nodes→y<A.cs.length) :
  Calls Tryz.prog 244 #[.pointer (some ⟨B.bt,0,none⟩),.int .i64 r.root] w fun e w'=>(∃v,e=.returned v)∧jh w' B F gt ct A st (xx S x r) rk ah∧aa [B.ba] w w':=by
 cases r with
 | nil=>
  refine (zS B.bt B.ba A.cs.length S (-1) w h.trees (by unfold mF;simp)).mono ?_
  rintro e w' ⟨rfl,rfl⟩;exact ⟨⟨_,rfl⟩,h,aa.refl _ _⟩
 | node y a b=>
  obtain ⟨_,_,_,hr'⟩:=hT;have e1:S.r x=y:=hr'.1;have e2:S.u y=x:=hr'.2.1;refine (zY B.bt B.ba A.cs.length S x y w h.trees hx (hr y (by simp [BT.nodes])) e2).mono ?_
  rintro e w' ⟨rfl,hT,hu⟩;exact ⟨⟨_,rfl⟩,h.fM hu hT,hu⟩
theorem Ep (h:jh w B F gt ct A st S rk ah) {p:Int} {x:Nat} {l r:BT} (hT:bG S p x (.node x l r)) (hx:x<A.cs.length) :
  Calls Tryz.prog 249 #[.pointer (some ⟨B.bt,0,none⟩),.int .i64 (x:Int)] w fun e w'=>e=.returned (.tuple #[.int .i64 (tv r.root),.bool (tb r.root)])∧aa [] w w':=by
 have e:eY A.cs.length S (x:Int) true=r.root:=by
  unfold eY TS.kid;rw [if_pos ω];simp only [if_true,π];exact hT.2.2.2.root
 refine (mJ B.bt B.ba A.cs.length S (x:Int) w h.trees).mono ?_;rw [e];rintro e w' ⟨rfl,k,rfl⟩;exact ⟨rfl,(aa.refl _ _).drewN k⟩
def Dy (W:List (Nat×BT)):List Value:=aH (W.map fun p=>(p.1:Int))
theorem zg (W:List (Nat×BT)) (x:Nat) (l:BT):Dy (W++[(x,l)])=Dy W++[.int .i64 (x:Int)]:=by unfold Dy aH;simp
theorem qZ (h:jh w B F gt ct A st S rk ah) {ta tb:BT} (ha:bG S (-1) ta.root ta) (hb:bG S (-1) tb.root tb) (hX:(ta.nodes++tb.nodes).Nodup) (hin:∀y,y∈ta.nodes++tb.nodes→bD A (y:Int)=true) (ra:dV rk ta) (rb:dV rk tb) :
  Calls Tryz.prog 246 #[.pointer (some ⟨B.n0,0,none⟩),.int .i64 ta.root,.int .i64 tb.root] w fun e w'=>e=.returned (.int .i64 (aF au A ta tb).1.root)∧aa [B.c,B.ba,B.br] w w'∧
   ∃S' rk',jh w' B F gt ct A (bC st (aF au A ta tb).2) S' rk' ah∧bG S' (-1) (aF au A ta tb).1.root (aF au A ta tb).1∧dV rk' (aF au A ta tb).1∧∀y,y∉ta.nodes++tb.nodes→S.at S' y∧rk' y=rk y:=by
 have hblk:=h.lt;have hcF:=h.cF;have hbl0:=hblk B.n0 (by simp [LB.blk])
 have hbl1:=hblk B.bt (by simp [LB.blk])
 have hbl2:=hblk B.ba (by simp [LB.blk])
 have hbl3:=hblk B.br (by simp [LB.blk])
 have hbl4:=hblk B.c (by simp [LB.blk,hcF])
 have hs:=χ h.sep;have hA:=h.cells.ok.c1;have hlt:Hid (∀y,y∈ta.nodes++tb.nodes→y<A.cs.length):=fun y hy=>((af A y).1 (hin y hy)).1
 have hXl:(ta.nodes++tb.nodes).length≤A.cs.length:=j6 hX hlt.out;have HM0:=χ h;have HBL:=χ hblk;have D0:=χ (Down.start au A ha hb);have HIN:=χ hin;have HX:=χ hX;have RA:=χ (ψ ra rb);have hst:=h.cells.mE;clear h ha hb hblk hcF hin hX ra rb
 go_enter Tryz.func246,Tryz.ntmps246
 go_wp2
 go_loopw [1,2,7] (fun a b way wr=>∃ (S1:TS) (W:List (Nat×BT)) (a1 b1:BT),a=.int .i64 a1.root∧b=.int .i64 b1.root∧wr.ownsRow w.heap.size 3 1 way W.length (Dy W)∧jh wr B F gt ct A (bC st W.length) S1 rk ah∧Down au A S ta tb S1 W a1 b1∧dV rk a1∧dV rk b1∧(∀p,p∈W→dV rk p.2)∧aa [B.c,B.ba] w wr) (fun _ _ way _=>(ta.nodes++tb.nodes).length-lenOf way)
 case atStart=>
  exact ⟨S,[],ta,tb,rfl,rfl,⟨by simp [Dy,aH],Or.inl ⟨rfl,rfl⟩⟩,by rw [List.length_nil,dW hst];exact HM0.out.aj β,D0.out,RA.out.1,RA.out.2,(fun p hp=>by cases hp),β⟩
 case round=>
  obtain ⟨S1,W,a1,b1,rfl,rfl,ho,hM,hD,r1,r2,r3,hu⟩:=hrel;have HM:=χ hM;have HD:=χ hD;have HR:=χ (ψ r1 (ψ r2 r3));have HO:=χ ho;have hlen:=hD.len;have h0:=hM.h0;have h1:=hM.h1;clear hM hD r1 r2 r3;obtain ⟨a5,c5,rfl,hc5⟩:=aR ho;have hob:∀g,(Value.slice a5 W.length c5).ownBlock=some g→w.heap.size≤g:=fun g hg=>(ho.lt g hg).1
  have HOB:=χ hob;clear ho hob
  by_cases hne:a1=.nil∨b1=.nil
  ·obtain ⟨m0,e0,U0,hcnt,hor⟩:=HD.out.turn hne;have hm0:dV rk m0:=by rcases hor with rfl|rfl;exact HR.out.1;exact HR.out.2.1
   have hz:a1.root=-1∨(a1.root≠-1∧b1.root=-1):=by
    rcases hne with rfl|rfl
    ·exact Or.inl rfl
    ·by_cases e:a1.root=-1
     ·exact Or.inl e
     ·exact Or.inr ⟨e,rfl⟩
   have HU:=χ (ψ U0 (ψ hm0 (ψ hcnt HR.out.2.2)));have hWl:=U0.len;have HUP:=χ hu;rw [←hcnt] at HM;clear hne hor U0 hm0 HR HD hcnt hu hlen h0;generalize a1.root=za at *
   generalize b1.root=zb at *
   have HEX:Hid (∃W2 U2:List (Nat×BT),W=W2++U2):=⟨W,[],σ⟩
   have e9:∃z9,m0.root=z9:=⟨_,rfl⟩
   obtain ⟨z9,e9⟩:=e9;rw [e9] at e0;generalize hn0:W.length=n0 at *
   have HN0:=χ hn0;clear hn0;rcases hz with rfl|⟨hz1,rfl⟩
   all_goals
    first|rw [if_pos rfl] at e0|rw [if_neg hz1] at e0
    subst e0
    try (have hz2:(z9 != -1)=true:=by simpa using hz1)
    try (have hz3:(z9 == -1)=false:=by simpa using hz1)
    go_wp2
    go_loopw [9,10] (fun top i w5=>∃ (S2:TS) (W2 U2:List (Nat×BT)) (m:BT) (rk2:Nat→Nat),W=W2++U2∧top=.int .i64 m.root∧i=.int .i64 ((W2.length:Int)-1)∧jh w5 B F gt ct A (bC st (aF au A ta tb).2) S2 rk2 ah∧Nj au S (ta.nodes++tb.nodes) (aF au A ta tb).1 S2 W2 m∧dV rk2 m∧(∀p,p∈W2→dV rk2 p.2)∧(∀y,y∉ta.nodes++tb.nodes→rk2 y=rk y)∧aa [B.ba,B.br] wr w5) (fun _ i _=>(intOf i+1).toNat)
    case atStart=>exact ⟨S1,W,[],m0,rk,σ,by rw [e9],by rw [HN0.out],HM.out,HU.out.1,HU.out.2.1,HU.out.2.2.2,fun _ _=>rfl,aa.refl _ _⟩
    case round=>
     obtain ⟨S2,W2,U2,m,rk2,rfl,rfl,rfl,hM,hU,r1,r2,r3,hu⟩:=hrel;rename World=>w5
     rcases List.eq_nil_or_concat W2 with rfl|⟨W3,⟨x,l⟩,rfl⟩
     ·have e0:=hU.res;simp only [qV] at e0;simp only [List.length_nil];go_wp2;go_ret;rw [e0];exact ⟨rfl,(HUP.out.mono σ).trans (hu.mono σ),S2,rk2,hM,hU.PK,r1,fun y hy=>⟨hU.far y hy,r3 y hy⟩⟩
     ·have hpx:=hU.perm;simp only [List.concat_eq_append] at *
      rw [mK,List.append_assoc] at hpx;have hin3:∀q,q∈(x::l.nodes)++m.nodes→q<A.cs.length:=fun q hq=>hlt.out q (hpx.mem_iff.1 (List.mem_append_right _ hq))
      have hnd:((x::l.nodes)++m.nodes).Nodup:=(List.nodup_append.1 (hpx.nodup_iff.2 HX.out)).2.1;have hxA:=hin3 x σ;obtain ⟨g,cap,ee,hI,hg⟩:=IZ.gJ (l:=(W3++[(x,l)]++U2).map fun p=>(p.1:Int)) (by rw [List.length_map,HN0.out];exact ay HO.out hu (fun k hk=>by have:=HOB.out k hk;simp;omega)) ζ
      rw [List.length_map,HN0.out] at ee
      injection ee with ee1 ee2 ee3
      subst ee1 ee3;have dz:=hI.cell W3.length σ;rw [show (((W3++[(x,l)]++U2).map fun p=>(p.1:Int)).getD W3.length 0)=(x:Int) by simp [φ]] at dz
      have h0:=hM.h0;have h1:=hM.h1;have HM5:=χ hM;have HU5:=χ hU;have HR5:=χ (ψ r1 (ψ r2 r3));have HN5:=χ (ψ hin3 hnd);have hTx:=hU.way (x,l) σ;have HTX:=χ hTx;have HPX:=χ hpx;have hil:((W3++[(x,l)]).length:Int)-1=W3.length:=σ;rw [hil];have hi0:((W3.length:Int)≥0):=ω;have hWn:W3.length+1+U2.length=n0:=by have:=HN0.out;simp at this;omega
      have hW3:W3.length≤65536:=ω;clear hM hU r1 r2 r3 hin3 hnd hTx hpx hil hI ee2
      by_cases hm:m=.nil
      ·subst hm;simp only [BT.root]
       go_wp2_with fail
       have hT2:bG S2 (-1) x (.node x l .nil):=HTX.out;refine (nX HM5.out hT2 (HR5.out.2.1 (x,l) σ) HR5.out.1 (by simpa [BT.nodes] using HN5.out.2) (fun q hq=>HN5.out.1 q (by simpa [BT.nodes] using hq))).mono ?_
       rintro e w7 ⟨rfl,hu7,S3,rk3,hM7,hT7,hr7,hs7,_,hk7⟩;have HM7:=χ hM7;have HQ7:=χ (ψ hT7 (ψ hr7 (ψ hs7 hk7)));have HU7:=χ (hu.trans hu7);clear hM7 hT7 hr7 hs7 hk7 hu hu7 HTX h0 h1 dz;go_wp2
       go_roundw
       case rel=>
        refine ⟨S3,W3,(x,l)::U2,au x l .nil,rk3,σ,congrArg (Value.int .i64) (ik x l .nil).symm,by go_num,HM7.out,HU5.out.turn kP HX.out HQ7.out.1 (fun y h1 _ _=>HQ7.out.2.2.1 y h1),HQ7.out.2.1,?_,?_,HU7.out⟩
        ·exact yE HU5.out HX.out HQ7.out.2.2.2 (fun p hp=>HR5.out.2.1 p (List.mem_append_left _ hp))
        ·exact fun y hy=>(HQ7.out.2.2.2 y (fun e=>hy (by rw [e];exact HPX.out.mem_iff.1 σ))).trans (HR5.out.2.2 y hy)
       case measure=>simp [intOf]
      ·obtain ⟨mr,hmr⟩:∃mr:Nat,m.root=mr:=⟨_,BT.uA hm⟩
       have hmm:=(bg hm).1;rw [hmr,π] at hmm;have hT2:bG S2 (-1) x (.node x l .nil):=HTX.out;have hTm:=HU5.out.PK;have hur:S2.u mr=-1:=by
        cases m with
        | nil=>exact absurd rfl hm
        | node q a b=>
         have e:q=mr:=by have e':(q:Int)=mr:=hmr;omega
         subst e;exact hTm.2.1
       have hnd:=HN5.out.2;have hxm:x≠mr:=fun e=>by
        rw [List.nodup_append] at hnd;exact hnd.2.2 x σ mr hmm e
       obtain ⟨hT3,hS3⟩:=zn (m:=m) hT2 hTm hm (by simpa [BT.nodes] using hnd)
       rw [hmr] at hT3 hS3;have HT3:=χ (ψ hT3 (ψ hm hS3));have kh:=fun W (hW:aa [] w5 W)=>wz B.bt B.ba A.cs.length S2 x mr true W ((HM5.out.aj hW).trees) hxA (HN5.out.1 mr (List.mem_append_right _ hmm)) hxm hur hT2.2.2.2
       have HMR:=χ hmr;rw [hmr];have hz4:((mr:Int) != -1)=true:=σ;have rr1:∀W,aa [B.ba] w5 W→W.cell? ⟨B.n0,1,none⟩=some (.pointer (some ⟨B.bt,0,none⟩)):=fun W hW=>hW.kept h1 (by have:=hs.out;simp;omega)
       have rr2:∀W,aa [B.ba] w5 W→W.cell? ⟨g,W3.length,none⟩=some (.int .i64 (x:Int)):=fun W hW=>hW.kept dz ζ
       clear hT2 hTm hur hnd hT3 hS3 hm hmr h0 h1 dz hmm
       go_wp2_with fail
       have hib1:(0:Int)≤(W3.length:Int):=ω;have hib2:(W3.length:Int)<(n0:Int):=ω
       go_region_held3 (aa [B.ba] w5) (repeat (first|assumption|exact aa.refl _ _|refine aa.drew ?_|refine aa.alloc ?_ _|refine aa.setCell ?_ ?_ _|focus (left;simp;done)|focus (right;simp;done)|focus (right;simp;omega)|(apply aa.trans;rotate_left;assumption)))
        ((go_at_call 251;(with_reducible refine (kh _ β).mono ?_);rintro e w6 ⟨rfl,hT6,hu6⟩;(have hu56:aa [B.ba] w5 w6:=by (repeat (first|assumption|exact aa.refl _ _|refine aa.drew ?_|refine aa.alloc ?_ _|refine aa.setCell ?_ ?_ _|focus (left;simp;done)|focus (right;simp;done)|focus (right;simp;omega)|(apply aa.trans;rotate_left;assumption))))))
       have dz6:=rr2 w6 hu56;have HM6:=χ (HM5.out.fM hu56 hT6);clear rr1 rr2 kh hu6 hT6
       go_wp2_with fail
       refine (nX HM6.out HT3.out.1 (HR5.out.2.1 (x,l) σ) HR5.out.1 (by simpa [BT.nodes] using HN5.out.2) (fun q hq=>HN5.out.1 q (by simpa [BT.nodes] using hq))).mono ?_
       rintro e w7 ⟨rfl,hu7,S3,rk3,hM7,hT7,hr7,hs7,_,hk7⟩;have HM7:=χ hM7;have HQ7:=χ (ψ hT7 (ψ hr7 (ψ hs7 hk7)));have HU7:=χ (hu.trans ((hu56.mono σ).trans hu7));clear hM7 hT7 hr7 hs7 hk7 hu hu7 HTX dz6 hu56;go_wp2
       go_roundw
       case rel=>
        refine ⟨S3,W3,(x,l)::U2,au x l m,rk3,σ,by rw [ik],by go_num,HM7.out,HU5.out.turn kP HX.out HQ7.out.1 (fun y h1 _ h3=>?_),HQ7.out.2.1,?_,?_,HU7.out⟩
        ·have a1:=HT3.out.2.2 y h1 h3;have a2:=HQ7.out.2.2.1 y h1;exact ⟨a2.1.trans a1.1,a2.2.1.trans a1.2.1,a2.2.2.trans a1.2.2⟩
        ·exact yE HU5.out HX.out HQ7.out.2.2.2 (fun p hp=>HR5.out.2.1 p (List.mem_append_left _ hp))
        ·exact fun y hy=>(HQ7.out.2.2.2 y (fun e=>hy (by rw [e];exact HPX.out.mem_iff.1 σ))).trans (HR5.out.2.2 y hy)
       case measure=>simp [intOf]
  ·obtain ⟨x,l,r,rfl⟩:∃x l r,a1=.node x l r:=by
    cases a1 with
    | nil=>exact absurd (Or.inl rfl) hne
    | node x l r=>exact ⟨x,l,r,rfl⟩
   obtain ⟨y,l',r',rfl⟩:∃x l r,b1=.node x l r:=by
    cases b1 with
    | nil=>exact absurd (Or.inr rfl) hne
    | node x l r=>exact ⟨x,l,r,rfl⟩
   clear hne;have hmx:∀z,z∈(BT.node x l r).nodes++(BT.node y l' r').nodes→z∈ta.nodes++tb.nodes:=fun z hz=>HD.out.perm.mem_iff.1 (List.mem_append_right _ hz)
   have hxm:=hmx x (by simp [BT.nodes])
   have hym:=hmx y (by simp [BT.nodes])
   have hWl:W.length+2≤(ta.nodes++tb.nodes).length:=by simp only [BT.nodes,List.length_cons,List.length_append] at hlen ⊢;omega
   have HMX:=χ hmx;have hxb:((x:Int) != -1)=true:=σ;have hyb:((y:Int) != -1)=true:=σ;clear hmx hlen;have kA:=dC HM.out.cells y x (HIN.out y hym) (HIN.out x hxm);obtain ⟨sw,hsw⟩:∃sw,decide (bH A y x)=sw:=⟨_,rfl⟩
   rw [hsw] at kA;have KEY:∃ (z:Nat) (lz rz o:BT),z=(if sw then y else x)∧Down au A S ta tb (xx S1 z rz) (W++[(z,lz)]) rz o∧bG S1 (-1) z (.node z lz rz)∧dV rk lz∧dV rk rz∧dV rk o∧z<A.cs.length∧(∀q,q∈rz.nodes→q<A.cs.length)∧o.root=(if sw then (x:Int) else (y:Int)):=by
    cases sw with
    | true=>
     exact ⟨y,l',r',.node x l r,rfl,HD.out.takeB HX.out (of_decide_eq_true hsw),HD.out.PG,HR.out.2.1.2.1,HR.out.2.1.2.2,HR.out.1,hlt.out y hym,fun q hq=>hlt.out q (HMX.out q (by simp [BT.nodes,hq])),rfl⟩
    | false=>
     exact ⟨x,l,r,.node y l' r',rfl,HD.out.takeA HX.out (of_decide_eq_false hsw),HD.out.PD,HR.out.1.2.1,HR.out.1.2.2,HR.out.2.1,hlt.out x hxm,fun q hq=>hlt.out q (HMX.out q (by simp [BT.nodes,hq])),rfl⟩
   obtain ⟨z,lz,rz,o,ez,hD2,hTz,q1,q2,q3,hz,hrz,eo⟩:=KEY;have HD2:=χ hD2;have HT:=χ hTz;have HQ:=χ (ψ q1 (ψ q2 (ψ q3 hrz)));clear hD2 hTz q1 q2 q3 hrz hsw;simp only [BT.root];cases sw
   all_goals
    simp only [if_true,if_false,Bool.false_eq_true] at ez eo;subst ez
    go_wp2_with fail
    refine kA.mono ?_;rintro e w1 ⟨rfl,hC1,hu1⟩;have hM1:=χ (HM.out.bI (hu1.mono (by simp [HM.out.cF])) hC1 (fun x hx=>Or.inl hx) rfl rfl)
    have hss:bC (bC st W.length) 1=bC st (W.length+1):=gz _ _ _;rw [hss] at hM1;have ho1:=ay HO.out hu1 (fun k hk=>by have:=HOB.out k hk;simp;omega)
    have h01:=hM1.out.h0;have h11:=hM1.out.h1;clear h0 h1 kA hss;have HUW:=χ (ψ hu hu1);clear hu hu1 hC1;have HGB:Hid (∀g,g∈(Value.slice a5 W.length c5).ownBlock.toList→g∉B.blk F gt):=fun g hg hb=>by
     have h1:=HOB.out g (Option.mem_toList.1 hg);have h2:=HBL.out g hb;omega
    have hsz1:w.heap.size≤w1.heap.size:=(HUW.out.1.trans (HUW.out.2.mono σ)).size
    go_wp2_with (first
     | ((at_builtin;refine aC rfl _ _ 26 rfl w.heap.size 3 (.int .i64 0) 1 8 Tryz.underlying26 cK rfl δ _ _ _ rfl (ho1) [.int .i64 (z:Int)] rfl (by simp [Value.oneCell']) (by first|rfl|(rw [World.size_alloc];rfl)) μ ω (ω) ?_;intro v2 w2 ho2 hu2 hsep2);(have hM2:=χ (hM1.out.upd hu2 HGB.out));(have k12:=hM2.out.h1);(have kr:=Ep hM2.out HT.out hz))
     | (go_at_call 249;(with_reducible refine (kr).mono ?_);rintro e w3 ⟨rfl,hu3⟩;(have k13:=hu3.was k12);(have hM3:=χ (hM2.out.aj hu3));(have kc:=Ih hM3.out HT.out hz HQ.out.2.2.2))
     | (go_at_call 247;(with_reducible refine (kZ _ _).mono ?_);rintro e w9 ⟨rfl,hw9⟩;rw [hw9];clear hw9 w9)
     | (go_at_call 244;(with_reducible refine (kc).mono ?_);rintro e w4 ⟨⟨v4,rfl⟩,hM4,hu4⟩)
     | fail)
    obtain ⟨a6,c6,rfl,hc6⟩:=aR ho2;have hob2:∀k,(Value.slice a6 (W.length+1) c6).ownBlock=some k→w.heap.size≤k:=fun k hk=>(ho2.lt k hk).1
    refine ⟨⟨_,W++[(z,lz)],rz,o,rfl,congrArg (Value.int .i64) eo.symm,?_,?_,HD2.out,HQ.out.2.1,HQ.out.2.2.1,?_,?_⟩,?_⟩
    ·rw [zg,List.length_append,List.length_singleton];exact ay (ay ho2 hu3 σ) hu4 (fun k hk=>by have:=hob2 k hk;simp;omega)
    ·rw [List.length_append,List.length_singleton];exact hM4
    ·intro p hp;rcases List.mem_append.1 hp with hp|hp
     ·exact HR.out.2.2 p hp
     ·simp only [List.mem_singleton] at hp;subst hp;exact HQ.out.1
    ·have v1:aa [B.c,B.ba] w w1:=HUW.out.1.trans (HUW.out.2.mono σ);have v2:aa [B.c,B.ba] w w2:=v1.joined hu2 (fun g hg=>Or.inr (HOB.out g (Option.mem_toList.1 hg)))
     exact (v2.trans (hu3.mono σ)).trans (hu4.mono σ)
    ·show (ta.nodes++tb.nodes).length-(W.length+1)<(ta.nodes++tb.nodes).length-W.length
     omega
end
end Go.Proofs.YtklibcncmbofpaaGreat
