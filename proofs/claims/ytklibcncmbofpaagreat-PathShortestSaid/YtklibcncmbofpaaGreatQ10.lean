/-
  Lemmas for PathShortest: Lf4, Lf5, Lf6, Lf7, Lf8, Lf9. Conditions: those of each lemma.
-/
import Derived.Deep.RegionLaw
import Derived.Test.YtklibcncmbofpaaGreatQ09
set_option linter.all false
set_option maxHeartbeats 8000000
set_option maxRecDepth 10000
namespace Go.Proofs.YtklibcncmbofpaaGreat
open Go Go.RowKit
theorem VL.turn {up:Nat->BT->BT->BT} {S0 S2 S3:TS} {X:List Nat} {t m l:BT} {x:Nat} {W:List (Nat×BT)} (U:VL up S0 X t S2 (W++[(x,l)]) m) (K:QE up) (hX:X.Nodup)
  (hT:cO S3 (-1) x (up x l m)) (D5:∀y,y≠x->y∉l.nodes->y∉m.nodes->S2.at S3 y):VL up S0 X t S3 W (up x l m):=by
 have hp:=U.perm;rw [qd,List.append_assoc] at hp;have hnd:=hp.nodup_iff.2 hX;rw [θ] at hnd;obtain ⟨n1,n2,n3⟩:=hnd;refine ⟨by rw [K.root];exact hT,fun p hpW=>?_,fun y hy=>?_,?_,by rw [U.res,Ao]⟩
 ·have hw:=D7 hpW;refine (U.way p (List.mem_append_left _ hpW)).frame (fun y hy=>?_);have ZN:y∈uM W:=by
   simp only [BT.nodes,List.append_nil,ρ] at hy;rcases hy with rfl|hy
   ·exact hw.1
   ·exact hw.2 y hy
  exact D5 y (fun e=>n3 y ZN x σ e) (fun hm=>n3 y ZN y (by simp [hm]) rfl) (fun hm=>n3 y ZN y (by simp [hm]) rfl)
 ·have h1:=U.far y hy;have h2:=D5 y (fun e=>hy (hp.mem_iff.1 (by rw [e];simp))) (fun hm=>hy (hp.mem_iff.1 (by simp [hm]))) (fun hm=>hy (hp.mem_iff.1 (by simp [hm])));exact ⟨h2.1.trans h1.1,h2.2.1.trans h1.2.1,h2.2.2.trans h1.2.2⟩
 ·refine List.Perm.trans (List.Perm.append_left _ (K.nodes x l m)) ?_;simpa using hp
theorem VL.len {up:Nat->BT->BT->BT} {S0 S:TS} {X:List Nat} {t m:BT} {W:List (Nat×BT)} (U:VL up S0 X t S W m):W.length<=X.length:=by
 have:=U.perm.length_eq;rw [υ] at this;have h2:W.length<=(uM W).length:=by
  clear this U
  induction W with
  | nil=>simp
  | cons p t ih=>unfold uM at *;simp only [List.flatMap_cons,υ,List.length_cons];omega
 omega
theorem Down.len {up:Nat->BT->BT->BT} {A:NS} {S0 S:TS} {ta tb a b:BT} {W:List (Nat×BT)} (U:Down up A S0 ta tb S W a b):W.length+a.nodes.length+b.nodes.length<=(ta.nodes++tb.nodes).length:=by
 have:=U.perm.length_eq;rw [υ,υ] at this;have h2:W.length<=(uM W).length:=by
  clear this U
  induction W with
  | nil=>simp
  | cons p t ih=>unfold uM at *;simp only [List.flatMap_cons,υ,List.length_cons];omega
 omega
theorem CU {S0 S2:TS} {X:List Nat} {t m l:BT} {x:Nat} {W:List (Nat×BT)} {Bf TB:Nat->Nat} {up:Nat->BT->BT->BT} (U:VL up S0 X t S2 (W++[(x,l)]) m) (hX:X.Nodup)
  (hk:∀y,y≠x->TB y=Bf y) (hr:∀p,p∈W->gL Bf p.2):∀p,p∈W->gL TB p.2:=fun p hp=>by
 have hpx:=U.perm;rw [qd,List.append_assoc] at hpx;have hnd:=hpx.nodup_iff.2 hX;rw [θ] at hnd;exact (hr p hp).frame (fun y hy=>hk y (fun e=>hnd.2.2 y ((D7 hp).2 y hy) x σ e))
section
variable {w:World} {B:LB} {F:List Nat} {gt ct:Nat} {A:NS} {st:Nat} {S:TS} {rk:Nat->Nat} {ak:List Int}
theorem OQ (h:lM w B F gt ct A st S rk ak) {p:Int} {x:Nat} {l r:BT} (hT:cO S p x (.node x l r)) (hx:x<A.cs.length) (hr:∀y,y∈r.nodes->y<A.cs.length) :
  Calls Tryz.prog 244 #[.pointer (some ⟨B.bt,0,none⟩),.int .i64 r.root] w fun e w'=>(∃v,e=.returned v)/\lM w' B F gt ct A st (zm S x r) rk ak/\aa [B.ba] w w':=by
 cases r with
 | nil=>
  refine (EG B.bt B.ba A.cs.length S (-1) w h.trees (by unfold pg;simp)).mono ?_;rintro e w' ⟨rfl,rfl⟩;exact ⟨⟨_,rfl⟩,h,aa.refl _ _⟩
 | node y a b=>
  obtain ⟨_,_,_,hr'⟩:=hT;have e1:S.r x=y:=hr'.1;have e2:S.u y=x:=hr'.2.1;refine (Ez B.bt B.ba A.cs.length S x y w h.trees hx (hr y (by simp [BT.nodes])) e2).mono ?_;rintro e w' ⟨rfl,hT,hu⟩;exact ⟨⟨_,rfl⟩,h.jd hu hT,hu⟩
theorem Jk (h:lM w B F gt ct A st S rk ak) {p:Int} {x:Nat} {l r:BT} (hT:cO S p x (.node x l r)) (hx:x<A.cs.length) :
  Calls Tryz.prog 249 #[.pointer (some ⟨B.bt,0,none⟩),.int .i64 (x:Int)] w fun e w'=>e=.returned (.tuple #[.int .i64 (tv r.root),.bool (tb r.root)])/\aa [] w w':=by
 have e:ik A.cs.length S (x:Int) true=r.root:=by
  unfold ik TS.kid;rw [if_pos ω];simp only [if_true,π];exact hT.2.2.2.root
 refine (pV B.bt B.ba A.cs.length S (x:Int) w h.trees).mono ?_;rw [e];rintro e w' ⟨rfl,k,rfl⟩;exact ⟨rfl,(aa.refl _ _).drewN k⟩
def Kq (W:List (Nat×BT)):List Value:=aV (W.map fun p=>(p.1:Int))
theorem Cy (W:List (Nat×BT)) (x:Nat) (l:BT):Kq (W++[(x,l)])=Kq W++[.int .i64 (x:Int)]:=by unfold Kq aV;simp
theorem vN (h:lM w B F gt ct A st S rk ak) {ta tb:BT} (ha:cO S (-1) ta.root ta) (hb:cO S (-1) tb.root tb) (hX:(ta.nodes++tb.nodes).Nodup) (hin:∀y,y∈ta.nodes++tb.nodes->bX A (y:Int)=true) (ra:gL rk ta) (rb:gL rk tb) :
  Calls Tryz.prog 246 #[.pointer (some ⟨B.n0,0,none⟩),.int .i64 ta.root,.int .i64 tb.root] w fun e w'=>e=.returned (.int .i64 (aK aD A ta tb).1.root)/\aa [B.c,B.ba,B.br] w w'/\
   ∃S' ow,lM w' B F gt ct A (bZ st (aK aD A ta tb).2) S' ow ak/\cO S' (-1) (aK aD A ta tb).1.root (aK aD A ta tb).1/\gL ow (aK aD A ta tb).1/\∀y,y∉ta.nodes++tb.nodes->S.at S' y/\ow y=rk y:=by
 have hblk:=h.lt;have qy:=h.cF;have hbl0:=hblk B.n0 (by simp [LB.blk]);have hbl1:=hblk B.bt (by simp [LB.blk]);have hbl2:=hblk B.ba (by simp [LB.blk]);have hbl3:=hblk B.br (by simp [LB.blk]);have hbl4:=hblk B.c (by simp [LB.blk,qy]);have hs:=χ h.sep;have hA:=h.cells.ok.c1;have hlt:Hid (∀y,y∈ta.nodes++tb.nodes->y<A.cs.length):=fun y hy=>((ai A y).1 (hin y hy)).1;have hXl:(ta.nodes++tb.nodes).length<=A.cs.length:=nz hX hlt.out;have XH:=χ h;have HBL:=χ hblk;have D0:=χ (Down.start aD A ha hb);have OE:=χ hin;have HX:=χ hX;have RA:=χ (ψ ra rb);have hst:=h.cells.oU;clear h ha hb hblk qy hin hX ra rb
 go_enter Tryz.func246,Tryz.ntmps246
 go_wp2
 go_loopw [1,2,7] (fun a b way wr=>∃ (S1:TS) (W:List (Nat×BT)) (a1 b1:BT),a=.int .i64 a1.root/\b=.int .i64 b1.root/\wr.ownsRow w.heap.size 3 1 way W.length (Kq W)/\lM wr B F gt ct A (bZ st W.length) S1 rk ak/\Down aD A S ta tb S1 W a1 b1/\gL rk a1/\gL rk b1/\(∀p,p∈W->gL rk p.2)/\aa [B.c,B.ba] w wr) (fun _ _ way _=>(ta.nodes++tb.nodes).length-lenOf way)
 case atStart=>
  exact ⟨S,[],ta,tb,rfl,rfl,⟨by simp [Kq,aV],Or.inl ⟨rfl,rfl⟩⟩,by rw [List.length_nil,gN hst];exact XH.out.aA β,D0.out,RA.out.1,RA.out.2,(fun p hp=>by cases hp),β⟩
 case round=>
  obtain ⟨S1,W,a1,b1,rfl,rfl,ho,hM,hD,r1,r2,r3,hu⟩:=hrel;have HM:=χ hM;have HD:=χ hD;have HR:=χ (ψ r1 (ψ r2 r3));have HO:=χ ho;have hlen:=hD.len;have h0:=hM.h0;have h1:=hM.h1;clear hM hD r1 r2 r3;obtain ⟨a5,c5,rfl,ZA⟩:=bu ho;have BP:∀g,(Value.slice a5 W.length c5).ownBlock=some g->w.heap.size<=g:=fun g hg=>(ho.lt g hg).1;have QX:=χ BP;clear ho BP
  by_cases hne:a1=.nil\/b1=.nil
  ·obtain ⟨m0,e0,U0,hcnt,hor⟩:=HD.out.turn hne;have hm0:gL rk m0:=by rcases hor with rfl|rfl;exact HR.out.1;exact HR.out.2.1
   have hz:a1.root=-1\/(a1.root≠-1/\b1.root=-1):=by
    rcases hne with rfl|rfl
    ·exact Or.inl rfl
    ·by_cases e:a1.root=-1
     ·exact Or.inl e
     ·exact Or.inr ⟨e,rfl⟩
   have HU:=χ (ψ U0 (ψ hm0 (ψ hcnt HR.out.2.2)));have hWl:=U0.len;have HUP:=χ hu;rw [←hcnt] at HM;clear hne hor U0 hm0 HR HD hcnt hu hlen h0;generalize a1.root=za at *;generalize b1.root=zb at *;have HEX:Hid (∃W2 U2:List (Nat×BT),W=W2++U2):=⟨W,[],σ⟩;have e9:∃z9,m0.root=z9:=⟨_,rfl⟩;obtain ⟨z9,e9⟩:=e9;rw [e9] at e0;generalize hn0:W.length=n0 at *;have Uv:=χ hn0;clear hn0;rcases hz with rfl|⟨hz1,rfl⟩
   all_goals
    first|rw [if_pos rfl] at e0|rw [if_neg hz1] at e0
    subst e0
    try (have hz2:(z9 != -1)=true:=by simpa using hz1)
    try (have hz3:(z9 == -1)=false:=by simpa using hz1)
    go_wp2
    go_loopw [9,10] (fun top i w5=>∃ (S2:TS) (W2 U2:List (Nat×BT)) (m:BT) (Bf:Nat->Nat),W=W2++U2/\top=.int .i64 m.root/\i=.int .i64 ((W2.length:Int)-1)/\lM w5 B F gt ct A (bZ st (aK aD A ta tb).2) S2 Bf ak/\VL aD S (ta.nodes++tb.nodes) (aK aD A ta tb).1 S2 W2 m/\gL Bf m/\(∀p,p∈W2->gL Bf p.2)/\(∀y,y∉ta.nodes++tb.nodes->Bf y=rk y)/\aa [B.ba,B.br] wr w5) (fun _ i _=>(intOf i+1).toNat)
    case atStart=>exact ⟨S1,W,[],m0,rk,σ,by rw [e9],by rw [Uv.out],HM.out,HU.out.1,HU.out.2.1,HU.out.2.2.2,fun _ _=>rfl,aa.refl _ _⟩
    case round=>
     obtain ⟨S2,W2,U2,m,Bf,rfl,rfl,rfl,hM,hU,r1,r2,r3,hu⟩:=hrel;rename World=>w5;rcases List.eq_nil_or_concat W2 with rfl|⟨W3,⟨x,l⟩,rfl⟩
     ·have e0:=hU.res;simp only [uU] at e0;simp only [List.length_nil];go_wp2;go_ret;rw [e0];exact ⟨rfl,(HUP.out.mono σ).trans (hu.mono σ),S2,Bf,hM,hU.isM,r1,fun y hy=>⟨hU.far y hy,r3 y hy⟩⟩
     ·have hpx:=hU.perm;simp only [List.concat_eq_append] at *;rw [qd,List.append_assoc] at hpx;have BC:∀q,q∈(x::l.nodes)++m.nodes->q<A.cs.length:=fun q hq=>hlt.out q (hpx.mem_iff.1 (List.mem_append_right _ hq));have hnd:((x::l.nodes)++m.nodes).Nodup:=(θ.1 (hpx.nodup_iff.2 HX.out)).2.1;have hxA:=BC x σ;obtain ⟨g,cap,ee,hI,hg⟩:=IZ.iO (l:=(W3++[(x,l)]++U2).map fun p=>(p.1:Int)) (by rw [List.length_map,Uv.out];exact aF HO.out hu (fun k hk=>by have:=QX.out k hk;simp;omega)) ζ;rw [List.length_map,Uv.out] at ee
      injection ee with ee1 ee2 ee3
      subst ee1 ee3;have dz:=hI.cell W3.length σ;rw [show (((W3++[(x,l)]++U2).map fun p=>(p.1:Int)).getD W3.length 0)=(x:Int) by simp [φ]] at dz;have h0:=hM.h0;have h1:=hM.h1;have vw:=χ hM;have MR:=χ hU;have Wy:=χ (ψ r1 (ψ r2 r3));have Iy:=χ (ψ BC hnd);have hTx:=hU.way (x,l) σ;have YN:=χ hTx;have HPX:=χ hpx;have hil:((W3++[(x,l)]).length:Int)-1=W3.length:=σ;rw [hil];have hi0:((W3.length:Int)≥0):=ω;have hWn:W3.length+1+U2.length=n0:=by have:=Uv.out;simp at this;omega
      have hW3:W3.length<=65536:=ω;clear hM hU r1 r2 r3 BC hnd hTx hpx hil hI ee2
      by_cases hm:m=.nil
      ·subst hm;simp only [BT.root]
       go_wp2_with fail
       have yN:cO S2 (-1) x (.node x l .nil):=YN.out;refine (qE vw.out yN (Wy.out.2.1 (x,l) σ) Wy.out.1 (by simpa [BT.nodes] using Iy.out.2) (fun q hq=>Iy.out.1 q (by simpa [BT.nodes] using hq))).mono ?_;rintro e w7 ⟨rfl,kN,S3,TB,Io,T9,V9,hs7,_,WE⟩;have Zt:=χ Io;have yT:=χ (ψ T9 (ψ V9 (ψ hs7 WE)));have X5:=χ (hu.trans kN);clear Io T9 V9 hs7 WE hu kN YN h0 h1 dz;go_wp2
       go_roundw
       case rel=>
        refine ⟨S3,W3,(x,l)::U2,aD x l .nil,TB,σ,congrArg (Value.int .i64) (jJ x l .nil).symm,by go_num,Zt.out,MR.out.turn nH HX.out yT.out.1 (fun y h1 _ _=>yT.out.2.2.1 y h1),yT.out.2.1,?_,?_,X5.out⟩
        ·exact CU MR.out HX.out yT.out.2.2.2 (fun p hp=>Wy.out.2.1 p (List.mem_append_left _ hp))
        ·exact fun y hy=>(yT.out.2.2.2 y (fun e=>hy (by rw [e];exact HPX.out.mem_iff.1 σ))).trans (Wy.out.2.2 y hy)
       case measure=>simp [intOf]
      ·obtain ⟨mr,hmr⟩:∃mr:Nat,m.root=mr:=⟨_,BT.yh hm⟩;have hmm:=(bN hm).1;rw [hmr,π] at hmm;have yN:cO S2 (-1) x (.node x l .nil):=YN.out;have Xu:=MR.out.isM;have hur:S2.u mr=-1:=by
        cases m with
        | nil=>exact absurd rfl hm
        | node q a b=>
         have e:q=mr:=by have e':(q:Int)=mr:=hmr;omega
         subst e;exact Xu.2.1
       have hnd:=Iy.out.2;have hxm:x≠mr:=fun e=>by
        rw [θ] at hnd;exact hnd.2.2 x σ mr hmm e
       obtain ⟨Bg,TM⟩:=Cf (m:=m) yN Xu hm (by simpa [BT.nodes] using hnd);rw [hmr] at Bg TM;have HT3:=χ (ψ Bg (ψ hm TM));have kh:=fun W (hW:aa [] w5 W)=>Ab B.bt B.ba A.cs.length S2 x mr true W ((vw.out.aA hW).trees) hxA (Iy.out.1 mr (List.mem_append_right _ hmm)) hxm hur yN.2.2.2;have HMR:=χ hmr;rw [hmr];have hz4:((mr:Int) != -1)=true:=σ;have rr1:∀W,aa [B.ba] w5 W->W.cell? ⟨B.n0,1,none⟩=some (.pointer (some ⟨B.bt,0,none⟩)):=fun W hW=>hW.kept h1 (by have:=hs.out;simp;omega);have rr2:∀W,aa [B.ba] w5 W->W.cell? ⟨g,W3.length,none⟩=some (.int .i64 (x:Int)):=fun W hW=>hW.kept dz ζ
       clear yN Xu hur hnd Bg TM hm hmr h0 h1 dz hmm
       go_wp2_with fail
       have Bq:(0:Int)<=(W3.length:Int):=ω;have F7:(W3.length:Int)<(n0:Int):=ω
       go_region_held3 (aa [B.ba] w5) (exact ν)
        ((go_at_call 251;(with_reducible refine (kh _ β).mono ?_);rintro e w6 ⟨rfl,OM,iU⟩;(have Wj:aa [B.ba] w5 w6:=ν)))
       have dz6:=rr2 w6 Wj;have vU:=χ (vw.out.jd Wj OM);clear rr1 rr2 kh iU OM
       go_wp2_with fail
       refine (qE vU.out HT3.out.1 (Wy.out.2.1 (x,l) σ) Wy.out.1 (by simpa [BT.nodes] using Iy.out.2) (fun q hq=>Iy.out.1 q (by simpa [BT.nodes] using hq))).mono ?_;rintro e w7 ⟨rfl,kN,S3,TB,Io,T9,V9,hs7,_,WE⟩;have Zt:=χ Io;have yT:=χ (ψ T9 (ψ V9 (ψ hs7 WE)));have X5:=χ (hu.trans ((Wj.mono σ).trans kN));clear Io T9 V9 hs7 WE hu kN YN dz6 Wj;go_wp2
       go_roundw
       case rel=>
        refine ⟨S3,W3,(x,l)::U2,aD x l m,TB,σ,by rw [jJ],by go_num,Zt.out,MR.out.turn nH HX.out yT.out.1 (fun y h1 _ h3=>?_),yT.out.2.1,?_,?_,X5.out⟩
        ·have a1:=HT3.out.2.2 y h1 h3;have a2:=yT.out.2.2.1 y h1;exact ⟨a2.1.trans a1.1,a2.2.1.trans a1.2.1,a2.2.2.trans a1.2.2⟩
        ·exact CU MR.out HX.out yT.out.2.2.2 (fun p hp=>Wy.out.2.1 p (List.mem_append_left _ hp))
        ·exact fun y hy=>(yT.out.2.2.2 y (fun e=>hy (by rw [e];exact HPX.out.mem_iff.1 σ))).trans (Wy.out.2.2 y hy)
       case measure=>simp [intOf]
  ·obtain ⟨x,l,r,rfl⟩:∃x l r,a1=.node x l r:=by
    cases a1 with
    | nil=>exact absurd (Or.inl rfl) hne
    | node x l r=>exact ⟨x,l,r,rfl⟩
   obtain ⟨y,l',r',rfl⟩:∃x l r,b1=.node x l r:=by
    cases b1 with
    | nil=>exact absurd (Or.inr rfl) hne
    | node x l r=>exact ⟨x,l,r,rfl⟩
   clear hne;have hmx:∀z,z∈(BT.node x l r).nodes++(BT.node y l' r').nodes->z∈ta.nodes++tb.nodes:=fun z hz=>HD.out.perm.mem_iff.1 (List.mem_append_right _ hz);have hxm:=hmx x (by simp [BT.nodes]);have hym:=hmx y (by simp [BT.nodes]);have hWl:W.length+2<=(ta.nodes++tb.nodes).length:=by simp only [BT.nodes,List.length_cons,υ] at hlen ⊢;omega
   have Uc:=χ hmx;have hxb:((x:Int) != -1)=true:=σ;have hyb:((y:Int) != -1)=true:=σ;clear hmx hlen;have kA:=fF HM.out.cells y x (OE.out y hym) (OE.out x hxm);obtain ⟨sw,hsw⟩:∃sw,decide (cZ A y x)=sw:=⟨_,rfl⟩;rw [hsw] at kA;have KEY:∃ (z:Nat) (lz rz o:BT),z=(if sw then y else x)/\Down aD A S ta tb (zm S1 z rz) (W++[(z,lz)]) rz o/\cO S1 (-1) z (.node z lz rz)/\gL rk lz/\gL rk rz/\gL rk o/\z<A.cs.length/\(∀q,q∈rz.nodes->q<A.cs.length)/\o.root=(if sw then (x:Int) else (y:Int)):=by
    cases sw with
    | true=>
     exact ⟨y,l',r',.node x l r,rfl,HD.out.takeB HX.out (of_decide_eq_true hsw),HD.out.isB,HR.out.2.1.2.1,HR.out.2.1.2.2,HR.out.1,hlt.out y hym,fun q hq=>hlt.out q (Uc.out q (by simp [BT.nodes,hq])),rfl⟩
    | false=>
     exact ⟨x,l,r,.node y l' r',rfl,HD.out.takeA HX.out (of_decide_eq_false hsw),HD.out.isA,HR.out.1.2.1,HR.out.1.2.2,HR.out.2.1,hlt.out x hxm,fun q hq=>hlt.out q (Uc.out q (by simp [BT.nodes,hq])),rfl⟩
   obtain ⟨z,lz,rz,o,ez,hD2,hTz,q1,q2,q3,hz,hrz,eo⟩:=KEY;have HD2:=χ hD2;have HT:=χ hTz;have HQ:=χ (ψ q1 (ψ q2 (ψ q3 hrz)));clear hD2 hTz q1 q2 q3 hrz hsw;simp only [BT.root];cases sw
   all_goals
    simp only [if_true,if_false,Bool.false_eq_true] at ez eo;subst ez
    go_wp2_with fail
    refine kA.mono ?_;rintro e w1 ⟨rfl,jF,hu1⟩;have hM1:=χ (HM.out.dw (hu1.mono (by simp [HM.out.cF])) jF (fun x hx=>Or.inl hx) rfl rfl);have hss:bZ (bZ st W.length) 1=bZ st (W.length+1):=jk _ _ _;rw [hss] at hM1;have ho1:=aF HO.out hu1 (fun k hk=>by have:=QX.out k hk;simp;omega);have h01:=hM1.out.h0;have h11:=hM1.out.h1;clear h0 h1 kA hss;have UE:=χ (ψ hu hu1);clear hu hu1 jF;have HGB:Hid (∀g,g∈(Value.slice a5 W.length c5).ownBlock.toList->g∉B.blk F gt):=fun g hg hb=>by
     have h1:=QX.out g (Option.mem_toList.1 hg);have h2:=HBL.out g hb;omega
    have hsz1:w.heap.size<=w1.heap.size:=(UE.out.1.trans (UE.out.2.mono σ)).size
    go_wp2_with (first
     | ((at_builtin;refine aU rfl _ _ 26 rfl w.heap.size 3 (.int .i64 0) 1 8 Tryz.underlying26 gz rfl δ _ _ _ rfl (ho1) [.int .i64 (z:Int)] rfl (by simp [Value.oneCell']) (by first|rfl|(rw [World.size_alloc];rfl)) μ ω (ω) ?_;intro v2 w2 ho2 hu2 lS);(have hM2:=χ (hM1.out.upd hu2 HGB.out));(have k12:=hM2.out.h1);(have kr:=Jk hM2.out HT.out hz))
     | (go_at_call 249;(with_reducible refine (kr).mono ?_);rintro e w3 ⟨rfl,hu3⟩;(have k13:=hu3.was k12);(have jU:=χ (hM2.out.aA hu3));(have kc:=OQ jU.out HT.out hz HQ.out.2.2.2))
     | (go_at_call 247;(with_reducible refine (nX _ _).mono ?_);rintro e w9 ⟨rfl,aN⟩;rw [aN];clear aN w9)
     | (go_at_call 244;(with_reducible refine (kc).mono ?_);rintro e w4 ⟨⟨v4,rfl⟩,sH,iB⟩)
     | fail)
    obtain ⟨a6,c6,rfl,hc6⟩:=bu ho2;have YK:∀k,(Value.slice a6 (W.length+1) c6).ownBlock=some k->w.heap.size<=k:=fun k hk=>(ho2.lt k hk).1;refine ⟨⟨_,W++[(z,lz)],rz,o,rfl,congrArg (Value.int .i64) eo.symm,?_,?_,HD2.out,HQ.out.2.1,HQ.out.2.2.1,?_,?_⟩,?_⟩
    ·rw [Cy,υ,List.length_singleton];exact aF (aF ho2 hu3 σ) iB (fun k hk=>by have:=YK k hk;simp;omega)
    ·rw [υ,List.length_singleton];exact sH
    ·intro p hp;rcases τ.1 hp with hp|hp
     ·exact HR.out.2.2 p hp
     ·simp only [List.mem_singleton] at hp;subst hp;exact HQ.out.1
    ·have v1:aa [B.c,B.ba] w w1:=UE.out.1.trans (UE.out.2.mono σ);have v2:aa [B.c,B.ba] w w2:=v1.joined hu2 (fun g hg=>Or.inr (QX.out g (Option.mem_toList.1 hg)));exact (v2.trans (hu3.mono σ)).trans (iB.mono σ)
    ·show (ta.nodes++tb.nodes).length-(W.length+1)<(ta.nodes++tb.nodes).length-W.length
     omega
end
structure xK (S0:TS) (NQ:Nat->Nat) (T:BT) (X:List Nat) (S:TS) (rk:Nat->Nat) (P:List Fr) (was x:Nat) (l r:BT):Prop where
 EE:cO S (-1) (aj P (.node x l r)).root (aj P (.node x l r))
 perm:(aj P (.node x l r)).nodes.Perm X
 rl:gL rk l
 rr:gL rk r
 rx:rk x=was
 rP:QO rk P was
 far:∀y,y∉X->S0.at S y/\rk y=NQ y
 res:kZ P was x l r=T
structure uE (S0:TS) (NQ:Nat->Nat) (T:BT) (X:List Nat) (S:TS) (rk:Nat->Nat):Prop where
 EE:cO S (-1) T.root T
 isR:gL rk T
 far:∀y,y∉X->S0.at S y/\rk y=NQ y
section
variable {S0 S S2:TS} {NQ rk Bf:Nat->Nat} {T:BT} {X:List Nat} {P:List Fr} {was x:Nat} {l r:BT}
theorem xK.parts (h:xK S0 NQ T X S rk P was x l r) (hX:X.Nodup):x∈X/\(BT.node x l r).nodes.Nodup/\(∀y,y∈(BT.node x l r).nodes->y∈X)/\(∀y,y∈dV P->y≠x/\y∈X)/\(dV P).Nodup:=by
 have hp:=(aR P (.node x l r)).symm.trans h.perm;have hn:=hp.nodup_iff.2 hX;rw [θ] at hn;refine ⟨hp.mem_iff.1 (by simp [BT.nodes]),hn.1,fun y hy=>hp.mem_iff.1 (List.mem_append_left _ hy),fun y hy=>⟨fun e=>hn.2.2 x (by simp [BT.nodes]) y hy e.symm,hp.mem_iff.1 (List.mem_append_right _ hy)⟩,hn.2.1⟩
theorem xK.settled (h:xK S0 NQ T X S rk P was x l r) (hX:X.Nodup) (yN:cO S2 (CY P) x (aD x l r)) (hs:∀y,y≠x->S.at S2 y) (hk:∀y,y≠x->Bf y=rk y) :
  cO S2 (-1) (aj P (aD x l r)).root (aj P (aD x l r))/\QO Bf P was/\(∀y,y∉X->S0.at S2 y/\Bf y=NQ y)/\(aj P (aD x l r)).nodes.Perm X:=by
 obtain ⟨p1,p2,p3,p4,p5⟩:=h.parts hX;refine ⟨(fq _ _).2 ⟨by rw [jJ];exact yN,?_⟩,h.rP.frame (fun y hy=>hk y (p4 y hy).1),fun y hy=>?_,?_⟩
 ·have:=((fq _ _).1 h.EE).2;rw [jJ];exact this.frame (fun y hy=>hs y (p4 y hy).1)
 ·have hne:y≠x:=fun e=>hy (by rw [e];exact p1);have a1:=h.far y hy;have a2:=hs y hne;exact ⟨⟨a2.1.trans a1.1.1,a2.2.1.trans a1.1.2.1,a2.2.2.trans a1.1.2.2⟩,(hk y hne).trans a1.2⟩
 ·exact (aR P _).trans (((lF x l r).append_right _).trans ((aR P (.node x l r)).symm.trans h.perm))
theorem xK.stay (h:xK S0 NQ T X S rk P was x l r) (hX:X.Nodup) (yN:cO S2 (CY P) x (aD x l r)) (hr2:gL Bf (aD x l r)) (hs:∀y,y≠x->S.at S2 y) (hk:∀y,y≠x->Bf y=rk y)
  (e:(aD x l r).rank=was):uE S0 NQ T X S2 Bf:=by
 obtain ⟨a1,a2,a3,a4⟩:=h.settled hX yN hs hk;have hT:T=aj P (aD x l r):=by
  rw [←h.res];cases P with
  | nil=>rfl
  | cons f P=>unfold kZ;rw [if_pos e]
 rw [hT];exact ⟨a1,(yM _ _).2 ⟨hr2,by rw [e];exact a2⟩,a3⟩
theorem xK.top (h:xK S0 NQ T X S rk [] was x l r) (hX:X.Nodup) (yN:cO S2 (CY []) x (aD x l r)) (hr2:gL Bf (aD x l r)) (hs:∀y,y≠x->S.at S2 y) (hk:∀y,y≠x->Bf y=rk y) :
  uE S0 NQ T X S2 Bf:=by
 obtain ⟨a1,a2,a3,a4⟩:=h.settled hX yN hs hk;have hT:T=aj [] (aD x l r):=by rw [←h.res];rfl
 rw [hT];exact ⟨a1,hr2,a3⟩
theorem xK.up {f:Fr} (h:xK S0 NQ T X S rk (f::P) was x l r) (hX:X.Nodup) (yN:cO S2 (CY (f::P)) x (aD x l r)) (hr2:gL Bf (aD x l r)) (hs:∀y,y≠x->S.at S2 y) (hk:∀y,y≠x->Bf y=rk y)
  (e:(aD x l r).rank≠was):∃l' r',xK S0 NQ T X S2 Bf P (lH f was) f.1 l' r':=by
 obtain ⟨a1,a2,a3,a4⟩:=h.settled hX yN hs hk;have hres:=h.res;unfold kZ at hres;rw [if_neg e] at hres;unfold aj at a1 a4
 by_cases hsd:f.2.1=true
 ·rw [if_pos hsd] at hres;have e1:bD f (aD x l r)=.node f.1 f.2.2 (aD x l r):=by unfold bD;rw [if_pos hsd]
  rw [e1] at a1 a4;exact ⟨_,_,a1,a4,a2.1,hr2,a2.2.1,a2.2.2,a3,hres⟩
 ·rw [if_neg hsd] at hres;have e1:bD f (aD x l r)=.node f.1 (aD x l r) f.2.2:=by unfold bD;rw [if_neg hsd]
  rw [e1] at a1 a4;exact ⟨_,_,a1,a4,hr2,a2.1,a2.2.1,a2.2.2,a3,hres⟩
end
theorem LF:∀ {P:List Fr},(dV P).Nodup->(P.map (·.1)).Nodup/\∀y,y∈P.map (·.1)->y∈dV P
 | [],_=>⟨List.nodup_nil,fun y hy=>by cases hy⟩
 | f::P,h=>by
  simp only [dV,List.nodup_cons,τ,not_or,θ] at h;obtain ⟨h1,h2⟩:=LF (P:=P) h.2.2.1;refine ⟨List.nodup_cons.2 ⟨fun hm=>h.1.2 (h2 _ hm),h1⟩,fun y hy=>?_⟩;simp only [List.map_cons,ρ] at hy;rcases hy with rfl|hy
  ·simp [dV]
  ·simp [dV,h2 y hy]
theorem Jq {L done rest:List Nat} {x:Nat} (hL:L.Nodup) (e:L=done++x::rest):L.idxOf x=done.length/\done.length<L.length:=by
 subst e;have hx:x∉done:=fun hm=>by
  rw [θ] at hL;exact hL.2.2 x hm x σ rfl
 refine ⟨by rw [List.idxOf_append,if_neg hx];simp,σ⟩
section
variable {w:World} {B:LB} {F:List Nat} {gt ct:Nat} {A:NS} {st:Nat} {S:TS} {rk:Nat->Nat} {ak:List Int}
theorem Cb (h:lM w B F gt ct A st S rk ak) {P:List Fr} {was x:Nat} {l r:BT} (hM:xK S rk (kZ P was x l r) (aj P (.node x l r)).nodes S rk P was x l r) (hX:(aj P (.node x l r)).nodes.Nodup)
  (hlt:∀y,y∈(aj P (.node x l r)).nodes->y<A.cs.length) :
  Calls Tryz.prog 245 #[.pointer (some ⟨B.n0,0,none⟩),.int .i64 (x:Int)] w fun e w'=>e=.returned (.tuple #[])/\aa [B.ba,B.br] w w'/\
   ∃S' ow,lM w' B F gt ct A st S' ow ak/\uE S rk (kZ P was x l r) (aj P (.node x l r)).nodes S' ow:=by
 generalize hT:kZ P was x l r=T at *;generalize hXX:(aj P (.node x l r)).nodes=X at *;have hL:(x::P.map (·.1)).Nodup:=by
  obtain ⟨p1,p2,p3,p4,p5⟩:=hM.parts hX;obtain ⟨q1,q2⟩:=LF p5;exact List.nodup_cons.2 ⟨fun hm=>(p4 x (q2 x hm)).1 rfl,q1⟩
 generalize hLL:x::P.map (·.1)=L at *;have hblk:=h.lt;have qy:=h.cF;have hs:=χ h.sep;have hA:=h.cells.ok.c1;have XH:=χ h;have MM:=χ hM;have HX:=χ hX;have HL:=χ hL;have HLL:=χ hLL;have WL:=χ hlt;clear h hM hX hL hlt hT hXX hblk hLL
 go_enter Tryz.func245,Tryz.ntmps245
 go_wp2
 go_loopw [1] (fun a wr=>∃ (S1:TS) (rk1:Nat->Nat),lM wr B F gt ct A st S1 rk1 ak/\aa [B.ba,B.br] w wr/\((∃ (P1:List Fr) (MH x1:Nat) (l1 r1:BT) (dn:List Nat),a=.int .i64 (x1:Int)/\L=dn++x1::P1.map (·.1)/\xK S rk T X S1 rk1 P1 MH x1 l1 r1)\/(a=.int .i64 (-1)/\uE S rk T X S1 rk1))) (fun a _=>if intOf a=-1 then 0 else L.length-L.idxOf (intOf a).toNat)
 case atStart=>exact ⟨S,rk,XH.out,aa.refl _ _,Or.inl ⟨P,was,x,l,r,[],rfl,HLL.out.symm,MM.out⟩⟩
 case round=>
  obtain ⟨S1,rk1,hM,hu,hor⟩:=hrel;rename World=>w5;rcases hor with ⟨P1,MH,x1,l1,r1,dn,rfl,hLe,hMe⟩|⟨rfl,hE⟩
  ·have hxb:((x1:Int) != -1)=true:=σ;obtain ⟨p1,p2,p3,p4,p5⟩:=hMe.parts HX.out;have hx1:=WL.out x1 p1;have h0:=hM.h0;have h2:=hM.h2;have d0:=hM.ranks.cell x1 hx1;have ex:=hMe.rx;rw [ex] at d0;have hT1:=((fq _ _).1 hMe.EE).1;have ks:=qE hM (p:=CY P1) hT1 hMe.rl hMe.rr p2 (fun y hy=>WL.out y (p3 y hy));have ME:=χ hMe;have HLe:=χ hLe;have hu1:S1.u x1=CY P1:=hT1.2.1;have HPU:=χ hu1;clear hMe p1 p2 p3 p4 p5 hT1 hM ex hLe hu1
   go_wp2_with fail
   refine ks.mono ?_;rintro e w7 ⟨rfl,kN,S3,TB,Io,T9,V9,hs7,hsu,WE⟩;have e7:TB x1=(aD x1 l1 r1).rank:=by
    have:=V9.root (by unfold aD;split<;>simp);rw [jJ] at this;simpa using this
   have g2:=Io.h2;have g1:=Io.h1;have d7:=Io.ranks.cell x1 hx1;rw [e7] at d7;have hsu2:S3.u x1=CY P1:=hsu.trans HPU.out;have ku:=SF B.bt B.ba A.cs.length S3 (x1:Int) w7 Io.trees;rw [show pg A.cs.length S3 (x1:Int)=CY P1 by unfold pg;rw [if_pos ω];simpa using hsu2] at ku;have Zt:=χ Io;have yT:=χ (ψ T9 (ψ V9 (ψ hs7 WE)));have X5:=χ (hu.trans kN);have Mh:∃k3,(aD x1 l1 r1).rank=k3:=⟨_,rfl⟩;obtain ⟨k3,Mh⟩:=Mh;rw [Mh] at d7;have HRK:=χ Mh;clear Io T9 V9 hs7 WE hu kN hsu hsu2 e7 ks h0 h2 d0 Mh HPU
   by_cases he:k3=MH
   ·have hb:((k3:Int) == (MH:Int))=true:=by rw [he];simp
    go_wp2;exact bodyPost_ret (v:=.tuple #[]) (by simp [results,Tryz.results245,go_sem]) rfl ⟨rfl,X5.out,S3,TB,Zt.out,ME.out.stay HX.out yT.out.1 yT.out.2.1 yT.out.2.2.1 yT.out.2.2.2 (HRK.out.trans he)⟩
   ·have hb:((k3:Int) == (MH:Int))=false:=ζ;have HNE:=χ (show (aD x1 l1 r1).rank≠MH from fun e=>he (HRK.out.symm.trans e));generalize hz:CY P1=z at *;clear he
    go_wp2_with (first
     | (go_at_call 250;(with_reducible refine (ku).mono ?_);rintro e w8 ⟨rfl,kk,rfl⟩)
     | (go_at_call 247;(with_reducible refine (nX _ _).mono ?_);rintro e w9 ⟨rfl,aN⟩;rw [aN];clear aN w9)
     | fail)
    cases P1 with
    | nil=>
     subst hz;refine ⟨⟨S3,TB,Zt.out.aA ((aa.refl _ _).drewN kk),X5.out.drewN kk,Or.inr ⟨rfl,ME.out.top HX.out yT.out.1 yT.out.2.1 yT.out.2.2.1 yT.out.2.2.2⟩⟩,?_⟩;have hi:=Jq HL.out HLe.out
     show (if ((-1:Int))=-1 then 0 else _)<(if ((x1:Int))=-1 then 0 else L.length-L.idxOf ((x1:Int)).toNat)
     rw [if_pos rfl,if_neg ω,π,hi.1];omega
    | cons f P2=>
     subst hz;obtain ⟨l2,r2,hM2⟩:=ME.out.up HX.out yT.out.1 yT.out.2.1 yT.out.2.2.1 yT.out.2.2.2 HNE.out;refine ⟨⟨S3,TB,Zt.out.aA ((aa.refl _ _).drewN kk),X5.out.drewN kk,Or.inl ⟨P2,_,f.1,l2,r2,dn++[x1],rfl,by rw [HLe.out];simp,hM2⟩⟩,?_⟩;have hi:=Jq HL.out HLe.out;have hi2:=Jq (done:=dn++[x1]) (x:=f.1) (rest:=P2.map (·.1)) HL.out (by rw [HLe.out];simp)
     show (if ((f.1:Int))=-1 then 0 else L.length-L.idxOf ((f.1:Int)).toNat)<(if ((x1:Int))=-1 then 0 else L.length-L.idxOf ((x1:Int)).toNat)
     rw [if_neg ω,if_neg ω,π,π,hi.1,hi2.1];rw [υ,List.length_singleton] at hi2 ⊢;omega
  ·go_wp2
   (first|go_end0|go_ret)
   exact ⟨rfl,hu,S1,rk1,hM,hE⟩
end
def mG (w:World) (B:LB) (F:List Nat) (gt ct:Nat) (A:NS) (st:Nat) (tr:Nat->BT):Prop:=
 ∃S rk ak,lM w B F gt ct A st S rk ak/\TrI A S ak tr/\(∀h,Lean (tr h))/\(∀h,gL rk (tr h))
theorem mG.upd {w w':World} {B:LB} {F:List Nat} {gt ct:Nat} {A:NS} {st:Nat} {tr:Nat->BT} {G:List Nat} (h:mG w B F gt ct A st tr) (hu:aa G w w') (hG:∀x,x∈G->x∉B.blk F gt):mG w' B F gt ct A st tr:=by
 obtain ⟨S,rk,ak,hM,h1,h2,h3⟩:=h;exact ⟨S,rk,ak,hM.upd hu hG,h1,h2,h3⟩
theorem mG.aA {w w':World} {B:LB} {F:List Nat} {gt ct:Nat} {A:NS} {st:Nat} {tr:Nat->BT} (h:mG w B F gt ct A st tr) (hu:aa [] w w'):mG w' B F gt ct A st tr:=h.upd hu σ
section
variable {w:World} {B:LB} {F:List Nat} {gt ct:Nat} {A:NS} {st:Nat} {tr:Nat->BT}
theorem Fx (h:mG w B F gt ct A st tr) (hh x:Nat) (k s:Int) (hk:-9223372036854775808<=k/\k<=9223372036854775807/\0<=s/\s<=18446744073709551615) (hB:oz A hh x=true) :
  Calls Tryz.prog 240 #[.pointer (some ⟨B.n0,0,none⟩),.int .i64 (hh:Int),.int .i64 (x:Int),.agg #[.int .i64 k,.int .u64 s]] w fun e w'=>e=.returned (.bool true)/\aa (B.blk F gt) w w'/\
   mG w' B F gt ct (aO A hh x k s) (bZ st (aK aD (aO A hh x k s) (tr hh) (single x)).2) (fun q=>if q=hh then (aK aD (aO A hh x k s) (tr hh) (single x)).1 else tr q):=by
 obtain ⟨S,rk,ak,hM,hI,hL,hR⟩:=h;have hlt:=hM.lt;have ok:=hM.cells.ok;have ok':=zf ok hh x k s hk;obtain ⟨b1,b2,b3⟩:=(fG _ _ _).1 hB;have b4:=(aT _ _).1 b1;have hx:x<A.cs.length:=by have:=(gZ _ _).1 b2;omega
 have Ph:(A.c x).i=0:=by
  have:=(ok.nat x hx).1;have h3:¬ (0<(A.c x).i):=fun h'=>by rw [(ai A x).2 ⟨hx,h'⟩] at b3;cases b3
  omega
 have hcs:(aO A hh x k s).cs.length=A.cs.length:=by unfold aO;rw [if_pos hB,fK]
 have lQ:(aO A hh x k s).hs.length=A.hs.length:=by unfold aO;rw [if_pos hB];rfl
 have hcx:∀y,(aO A hh x k s).c y=if y=x then ⟨hh,k,s⟩ else A.c y:=fun y=>by
  unfold aO;rw [if_pos hB,π,kG]
  by_cases e:y=x
  ·rw [if_pos ⟨e,hx⟩,if_pos e]
  ·rw [if_neg (fun h=>e h.1),if_neg e]
 have vv:x∉(tr hh).nodes:=hI.out Ph;have hX:((tr hh).nodes++(single x).nodes).Nodup:=by
  rw [θ];refine ⟨hI.nd hh,by simp [single,BT.nodes],fun a ha b hb e=>?_⟩;simp only [single,BT.nodes,List.append_nil,List.mem_singleton] at hb;exact vv (by rw [←hb,←e];exact ha)
 have hin:∀y,y∈(tr hh).nodes++(single x).nodes->bX (aO A hh x k s) (y:Int)=true:=fun y hy=>by
  rw [ai,hcs,hcx];simp only [single,BT.nodes,List.append_nil,τ,List.mem_singleton] at hy
  by_cases e:y=x
  ·rw [if_pos e,e];exact ⟨hx,by show (0:Int)<(hh:Int);omega⟩
  ·rw [if_neg e];have:=(hI.mem hh y).1 (hy.resolve_right e);exact ⟨this.2.1,ω⟩
 have WG:Heap (aO A hh x k s) (tr hh):=(hI.heap hh).frame (fun y hy=>by rw [hcx,if_neg (fun e=>vv (by rw [←e];exact hy))]);obtain ⟨mp,mh⟩:=mM nH (aO A hh x k s) _ (tr hh) (single x) (Nat.le_refl _);have Yc:=mh WG ⟨by simp [BT.nodes],by simp [BT.nodes],trivial,trivial⟩ hX;have ml:=vC (aO A hh x k s) _ (tr hh) (single x) (Nat.le_refl _) (hL hh) ⟨Nat.le_refl _,trivial,trivial⟩;have hfr:=hI.free x hx Ph
 have FI:Hid (∀ (W:World) (S':TS) (ow:Nat->Nat) (st':Nat),lM W B F gt ct (aO A hh x k s) st' S' ow (ak.set hh (aK aD (aO A hh x k s) (tr hh) (single x)).1.root)->cO S' (-1) (aK aD (aO A hh x k s) (tr hh) (single x)).1.root (aK aD (aO A hh x k s) (tr hh) (single x)).1->gL ow (aK aD (aO A hh x k s) (tr hh) (single x)).1->
   (∀y,y∉(tr hh).nodes++(single x).nodes->S.at S' y/\ow y=rk y)->mG W B F gt ct (aO A hh x k s) st' (fun q=>if q=hh then (aK aD (aO A hh x k s) (tr hh) (single x)).1 else tr q)):=fun W S' ow st' a1 a2 a3 a4=>by
  refine ⟨S',ow,_,a1,hI.put ok hM.jG hB a2 mp Yc (fun y hy=>(a4 y hy).1),fun q=>?_,fun q=>?_⟩
  ·show Lean (if q=hh then _ else _)
   split
   ·exact ml
   ·exact hL q
  ·show gL ow (if q=hh then _ else _)
   split
   ·exact a3
   ·rename_i hq
    refine (hR q).frame (fun y hy=>(a4 y (fun hm=>?_)).2);simp only [single,BT.nodes,List.append_nil,τ,List.mem_singleton] at hm;rcases hm with hm|hm
    ·have c1:=(hI.mem hh y).1 hm;have c2:=(hI.mem q y).1 hy;omega
    ·exact hI.out (g:=q) Ph (by rw [←hm];exact hy)
 have Xn:=hI.EE hh;have hRh:=hR hh;have htop:=hI.top hh ω;have hgn:hh<ak.length:=by rw [hM.jG];omega
 have u1:aa [] w (w.alloc (.cells #[.int .i64 k,.int .u64 s] 129)):=(aa.refl _ _).alloc _;have kp:=fun W (hW:aa [] (w.alloc (.cells #[.int .i64 k,.int .u64 s] 129)) W)=>oh (hM.cells.aA (u1.trans hW)) hh x k s hk hB;have h0:=hM.h0;have uV:B.n0∉F:=hM.bI.1;have hsz:w.heap.size∉F:=fun hm=>by have:=hlt w.heap.size (by simp [LB.blk,hm]);omega
 have r0:∀W,aa F (w.alloc (.cells #[.int .i64 k,.int .u64 s] 129)) W->W.cell? ⟨B.n0,0,none⟩=some (.pointer (some ⟨B.c,0,none⟩)):=fun W hW=>hW.kept (u1.was h0) uV;have r1:∀W,aa F (w.alloc (.cells #[.int .i64 k,.int .u64 s] 129)) W->W.cell? ⟨w.heap.size,0,none⟩=some (.int .i64 k):=fun W h=>h.kept σ hsz;have r2:∀W,aa F (w.alloc (.cells #[.int .i64 k,.int .u64 s] 129)) W->W.cell? ⟨w.heap.size,1,none⟩=some (.int .u64 s):=fun W h=>h.kept σ hsz;have HM:=χ hM;have HH:=χ (ψ hX (ψ hin (ψ Xn (ψ hRh hfr))));have WL:=χ hlt;have HSE:=χ (ψ hM.sep hM.bI);have hA:=ok.c1;have Wv:=ok.h1;have HXN:=χ vv
 clear hM hI hL hR ok ok' b1 b2 b3 Ph hcx vv hX hin WG mp mh Yc ml hfr h0 hlt Xn hRh;generalize hA':aO A hh x k s=A' at *;generalize htr:tr hh=th at *
 go_enter Tryz.func240,Tryz.ntmps240
 go_wp2
 go_region_held3 (aa F (w.alloc (.cells #[.int .i64 k,.int .u64 s] 129))) (exact ν)
  ((go_at_call 154;(with_reducible refine (kp _ β).mono ?_);rintro e w1 ⟨rfl,jF,hu1⟩;(have hu2:aa F (w.alloc (.cells #[.int .i64 k,.int .u64 s] 129)) w1:=ν)))
 have uF:aa F w (w.alloc (.cells #[.int .i64 k,.int .u64 s] 129)):=u1.mono σ;have hM1:=HM.out.dw (uF.trans hu2) jF (fun y hy=>Or.inl hy) hcs lQ;have h2:=hM1.h2;have dR:=hM1.ranks.cell x (by rw [hcs];exact hx);have fR:=hM1.ranks.free x;have hw1:aa F w w1:=uF.trans hu2;have jX:=χ hM1;clear r0 r1 r2 kp hu1 hu2 jF hM1 uF;rw [hcs] at h2;go_wp2;obtain ⟨w2,hw2⟩:∃w2,w2=w1.setCell ⟨B.br,x,none⟩ (.int .i64 1):=⟨_,rfl⟩;have u2:aa [B.br] w1 w2:=by rw [hw2];exact β
 have hM2:lM w2 B F gt ct A' st S (fun y=>if y=x then 1 else rk y) ak:=by rw [hw2];exact jX.out.dI x 1
 rw [←hw2];clear hw2 jX h2 dR fR;have km:=fun W (hW:aa [] w2 W)=>vN (hM2.aA hW) HH.out.2.2.1 (vI HH.out.2.2.2.2) HH.out.1 HH.out.2.1 (HH.out.2.2.2.1.frame (fun y hy=>if_neg (fun e=>HXN.out (by rw [←e];exact hy)))) ⟨by simp [BT.rank],trivial,trivial⟩;rw [show (single x).root=(x:Int) from rfl] at km;have d4:=hM2.jP.cell hh hgn;rw [htop] at d4;have f4:=hM2.jP.free hh;have h3:=hM2.h3;have hg:=hM2.lt gt (by simp [LB.blk]);have nJ:=χ hM2;have Et:B.n0∉[B.c,B.ba,B.br,gt]:=by
  have a1:=HSE.out;have a2:B.n0≠B.c:=fun e=>a1.2.1 (by rw [e];exact HM.out.cF);simp;omega
 have hgc:gt∉[B.c,B.ba,B.br]:=by
  have a1:=HSE.out;have a2:gt≠B.c:=fun e=>a1.2.2.2.2.2 (by rw [e];exact HM.out.cF);simp;omega
 have r3:∀W,aa [B.c,B.ba,B.br,gt] w2 W->W.cell? ⟨B.n0,3,none⟩=some (.slice (some ⟨gt,0,none⟩) ak.length ct):=fun W hW=>hW.kept h3 Et;have r4:∀W,aa [B.c,B.ba,B.br] w2 W->W.cell? ⟨gt,hh,none⟩=some (.int .i64 th.root)/\W.frozen? ⟨gt,hh,none⟩=false:=fun W hW=>⟨hW.kept d4 hgc,hW.aL d4 hgc f4⟩
 have Bq:(0:Int)<=(hh:Int):=ω;have F7:(hh:Int)<(ak.length:Int):=ω;have MG:Hid (aK aD A' th (single x)=aK aD A' th (single x)):=rfl;generalize hmt:(aK aD A' th (single x)).1=mt at *;generalize hmk:(aK aD A' th (single x)).2=mk at *;clear hM2 f4 h3 MG;have q3:=r3 _ (aa.refl _ _);have q4:=(r4 _ (aa.refl _ _)).1
 go_region_law
  (first
   | (go_simp;go_at_call 246;(with_reducible refine (km _ β).mono ?_);rintro e w5 ⟨rfl,xH,S5,WU,xu,Iz,MB,hs5⟩;(have dm:aa [B.c,B.ba,B.br] w2 w5:=aa.trans β xH);(have iU:aa [B.c,B.ba,B.br,gt] w2 w5:=dm.mono σ);obtain ⟨d5,f5⟩:=r4 _ dm;(have q5:=r3 _ iU)))
 all_goals
  go_wp2;go_ret;have qy:=HM.out.cF;have v1:aa (B.blk F gt) w w1:=hw1.mono (fun y hy=>by simp only [LB.blk,ρ];simp [hy]);have v2:aa (B.blk F gt) w w2:=v1.trans (u2.mono (fun y hy=>by simp at hy;simp [LB.blk,hy]))
  have v3:aa (B.blk F gt) w w5:=v2.trans (dm.mono (fun y hy=>by
   simp only [ρ,ς,or_false] at hy;simp only [LB.blk,ρ];rcases hy with rfl|rfl|rfl
   ·simp [qy]
   ·simp
   ·simp))
  subst hmt hmk;refine ⟨rfl,v3.setCell (Or.inl (by simp [LB.blk])) _,FI.out _ S5 WU _ (xu.qA hh _) Iz MB (fun y hy=>⟨(hs5 y hy).1,?_⟩)⟩;rw [(hs5 y hy).2,if_neg (fun e=>hy (by rw [e];simp [single,BT.nodes]))]
end
theorem Qw (n j:Nat) (hj:j<n):(madeCells #[Value.int .i64 0] (n*1)).toList.getD j undef=.int .i64 0:=by
 rw [φ,ε (by simp [madeCells];omega)];simp [madeCells,Nat.mod_one]
theorem QY (n:Nat) (w:World) (h:n<=65536) :
  Calls Tryz.prog 100 #[.int .i64 (n:Int)] w fun e w'=>∃B F gt,e=.returned (.tuple #[.pointer (some ⟨B.n0,0,none⟩),.int .i64 0])/\mG w' B F gt 1 (NS.new n) 0 (fun _=>.nil)/\aa [] w w'/\∀x,x∈B.blk F gt->w.heap.size<=x:=by
 go_enter Tryz.func100,Tryz.ntmps100
 go_wp2_with (first
  | ((go_at_call 107;(with_reducible refine (oq n _ h).mono ?_));rintro e w1 ⟨c,F,rfl,hC,hu1,hF⟩)
  | ((go_at_call 112;(with_reducible refine (vY n _ h).mono ?_));rintro e w2 ⟨bt,ba,rfl,hT,hu2,hb1,hb2⟩)
  | (at_make;refine wpList_make_row rfl _ 26 rfl 3 (.int .i64 0) 1 8 Tryz.underlying26 gz n rfl ω μ ?_;intro w3 hr3 hu3))
 go_ret2;have hcs:(NS.new n).cs.length=n:=by simp [NS.new]
 have l1:=hu1.size;have l2:=hu2.size;have l3:=hu3.size;have l4:=hr3.lt;have l5:=hT.head.lt;have l6:=hT.row.lt;have l7:=hC.lt;have lc:=l7 c hC.mem;have e3:((w3.alloc (.cells #[.int .i64 (-1)] 3)).heap.size)=w3.heap.size+1:=by rw [World.size_alloc]
 have hv:aa [] w3 (w3.alloc (.cells #[.int .i64 (-1)] 3)):=(aa.refl _ _).alloc _;have hw:aa [] w3 ((w3.alloc (.cells #[.int .i64 (-1)] 3)).alloc (.cells #[.pointer (some ⟨c,0,none⟩),.pointer (some ⟨bt,0,none⟩),.slice (some ⟨w2.heap.size,0,none⟩) n n,.slice (some ⟨w3.heap.size,0,none⟩) 1 1] 231)):=hv.alloc _;have hh:=eO (w3.alloc (.cells #[.int .i64 (-1)] 3)) [.pointer (some ⟨c,0,none⟩),.pointer (some ⟨bt,0,none⟩),.slice (some ⟨w2.heap.size,0,none⟩) n n,.slice (some ⟨w3.heap.size,0,none⟩) 1 1] 231;rw [e3] at hh
 have hi:IZ (w3.alloc (.cells #[.int .i64 (-1)] 3)) w3.heap.size 1 [-1]:=IZ.lit w3 [-1] σ;have hF':∀x,x∈F->x<w1.heap.size:=l7;have hnF:∀x,w1.heap.size<=x->x∉F:=fun x hx hm=>by have:=hF' x hm;omega
 refine ⟨⟨w3.heap.size+1,c,bt,ba,w2.heap.size⟩,F,w3.heap.size,rfl,⟨TS.none,fun _=>0,[-1],⟨by rw [hcs];exact hh,((hC.aA hu2).aA hu3).aA hw,by rw [hcs];exact (hT.upd hu3 σ σ).upd hw σ σ,?_,hi.upd ((aa.refl [] _).alloc _) σ,rfl,⟨hnF _ (by first|omega|(simp only;omega)),hnF _ (by first|omega|(simp only;omega)),hnF _ (by first|omega|(simp only;omega)),hnF _ (by first|omega|(simp only;omega)),hnF _ (by first|omega|(simp only;omega))⟩,⟨⟨by simp only;omega,by simp only;omega,by simp only;omega,by simp only;omega⟩,by simp only;omega,by simp only;omega,by simp only;omega,by simp only;omega,by simp only;omega⟩⟩,Eb n,fun _=>trivial,fun _=>trivial⟩,((hu1.trans hu2).trans hu3).trans hw,fun x hx=>?_⟩
 ·rw [hcs];have:=hr3.upd hw σ;rw [Nat.mul_one] at this;refine this.ext (fun j hj=>?_);have hz:(Value.int .i64 0).cells=#[.int .i64 0]:=rfl;have e:=Qw n j hj;rw [Nat.mul_one] at e;rw [hz,e];rfl
 ·simp only [LB.blk,ρ] at hx;rcases hx with rfl|rfl|rfl|rfl|rfl|hx
  ·omega
  ·omega
  ·omega
  ·omega
  ·omega
  ·exact hF x hx
section
variable {w:World} {B:LB} {F:List Nat} {gt ct:Nat} {A:NS} {st:Nat} {tr:Nat->BT}
theorem Tz (h:mG w B F gt ct A st tr) (hl:65536<A.hs.length) :
  Calls Tryz.prog 241 #[.pointer (some ⟨B.n0,0,none⟩)] w fun e w'=>e=.returned (.int .i64 0)/\Goes (B.blk F gt) w w' (fun F'=>∃F1,F'=B.blk F1 gt/\mG w' B F1 gt ct A st tr):=by
 obtain ⟨S,rk,ak,hM,hI⟩:=h;have k:=iZ hM.cells;have e1:dG A=0:=by unfold dG;rw [if_pos hl]
 have e2:aS A=A:=by unfold aS;rw [if_pos hl]
 rw [e1,e2] at k;have h0:=hM.h0;have HM:=χ hM;have HI:=χ hI;clear hM hI e1 e2
 go_enter Tryz.func241,Tryz.ntmps241
 go_wp2_with (first|((go_at_call 156;(with_reducible refine (k).mono ?_));rintro e w1 ⟨rfl,F1,hC,hu,hF⟩))
 go_ret
 exact ⟨rfl,B.blk F1 gt,⟨F1,rfl,S,rk,ak,HM.out.dw hu hC hF rfl rfl,HI.out⟩,hu.mono (fun y hy=>by simp [LB.blk,hy]),fun x hx=>by
  simp only [LB.blk,ρ] at hx ⊢;rcases hx with rfl|rfl|rfl|rfl|rfl|hx
  ·simp
  ·simp
  ·simp
  ·simp
  ·simp
  ·rcases hF x hx with h|h
   ·simp [h]
   ·exact Or.inr h⟩
theorem Ot (h:mG w B F gt ct A st tr) (hl:¬65536<A.hs.length) :
  Calls Tryz.prog 241 #[.pointer (some ⟨B.n0,0,none⟩)] w fun e w'=>e=.returned (.int .i64 (A.hs.length:Int))/\Goes (B.blk F gt) w w' (fun F'=>∃F1 pG Ic,F'=B.blk F1 pG/\mG w' B F1 pG Ic (aS A) st tr):=by
 obtain ⟨S,rk,ak,hM,hI,hL,hR⟩:=h;have k:=iZ hM.cells;have e1:dG A=A.hs.length:=by unfold dG;rw [if_neg hl]
 rw [e1] at k;have hcs:(aS A).cs.length=A.cs.length:=by unfold aS;rw [if_neg hl]
 have lQ:(aS A).hs.length=A.hs.length+1:=by unfold aS;rw [if_neg hl];simp
 have hI2:=hI.make hM.cells.ok hM.jG hl;have h0:=hM.h0;have hh0:=hM.cells.ok.h0;have HTN:=χ hM.jG;have htb:ak.length<=65536:=by rw [hM.jG];omega
 have HM:=χ hM;have HI:=χ (ψ hI2 (ψ hL hR));clear hM hI hL hR e1 hI2
 go_enter Tryz.func241,Tryz.ntmps241
 go_wp2_with (first
  | ((go_at_call 156;(with_reducible refine (k).mono ?_));rintro e w1 ⟨rfl,F1,hC,hu,hF⟩;(have d3:=hu.kept HM.out.h3 HM.out.bI.1);(have f3:=hu.aL HM.out.h3 HM.out.bI.1 (HM.out.head.free 3));(have ho1:=(HM.out.jP.upd hu HM.out.bI.2.2.2.2).own);(have g0:B.n0≠gt:=HM.out.sep.1.2.2.2);(have gl:=(HM.out.jP.upd hu HM.out.bI.2.2.2.2).lt))
  | ((at_builtin;refine aU rfl _ _ 26 rfl 0 3 (.int .i64 0) 1 8 Tryz.underlying26 gz rfl δ _ _ _ rfl (ho1) [.int .i64 (-1)] rfl (by simp [Value.oneCell']) (by first|rfl|(rw [World.size_alloc];rfl)) μ ω (ω) ?_;intro v2 w2 ho2 hu2 lS);(have hu2:aa [gt] w1 w2:=hu2);obtain ⟨pG,Ic,ev,hI2, -⟩:=IZ.iO (l:=ak++[-1]) (by rw [bL,υ];exact ho2) σ;rw [υ,List.length_singleton] at ev;subst ev;(have d4:=hu2.kept d3 ζ);(have f4:=hu2.aL d3 ζ f3)))
 go_ret;have hM:=HM.out;have hlt:=hM.lt;have f:=hM.bI;have q:=hM.sep;have hw3:aa [B.n0] w2 (w2.setCell ⟨B.n0,3,none⟩ (.slice (some ⟨pG,0,none⟩) (ak.length+1) Ic)):=β;have hg1:pG=gt\/w1.heap.size<pG:=by
  rcases lS with h|h
  ·exact Or.inl (Option.some.inj h)
  ·exact Or.inr (h pG rfl)
 have hws:=hu.size;have jF:=hC.lt;have l0:=hlt B.n0 (by simp [LB.blk]);have l1:=hlt B.bt (by simp [LB.blk]);have l2:=hlt B.ba (by simp [LB.blk]);have l3:=hlt B.br (by simp [LB.blk]);have l4:=hlt gt (by simp [LB.blk]);have hnF:∀y,y<w.heap.size->y∉F->y∉F1:=fun y hy hn hm=>by rcases hF y hm with h'|h';exact hn h';omega
 have ES:pG∉F1:=by
  rcases hg1 with e|e
  ·rw [e];exact hnF gt l4 f.2.2.2.2
  ·exact fun hm=>by have:=jF pG hm;omega
 have hb:w.heap.size<=pG\/pG=gt:=ω;have hhd:=((hM.head.upd hu f.1).upd hu2 ζ).set 3 (.slice (some ⟨pG,0,none⟩) (ak.length+1) Ic);refine ⟨rfl,B.blk F1 pG,⟨F1,pG,Ic,rfl,S,rk,ak++[-1],⟨?_,?_,?_,?_,hI2.upd hw3 ζ,?_,⟨hnF _ l0 f.1,hnF _ l1 f.2.1,hnF _ l2 f.2.2.1,hnF _ l3 f.2.2.2.1,ES⟩,⟨⟨q.1.1,q.1.2.1,q.1.2.2.1,ω⟩,q.2.1,ω,q.2.2.2.1,ω,ω⟩⟩,HI.out⟩,?_,fun y hy=>?_⟩
 ·rw [hcs,υ,List.length_singleton];refine hhd.ext (fun j hj=>?_);rcases (ω:j=0\/j=1\/j=2\/j=3) with rfl|rfl|rfl|rfl<;>rfl
 ·exact (hC.upd hu2 (fun y hy=>by simp at hy;rw [hy];exact hnF gt l4 f.2.2.2.2)).upd hw3 (fun y hy=>by simp at hy;rw [hy];exact hnF _ l0 f.1)
 ·rw [hcs];exact ((hM.trees.upd hu f.2.1 f.2.2.1).upd hu2 ζ ζ).upd hw3 ζ ζ
 ·rw [hcs];exact ((hM.ranks.upd hu f.2.2.2.1).upd hu2 ζ).upd hw3 ζ
 ·rw [υ,List.length_singleton,lQ,HTN.out]
 ·have u1:aa (B.blk F gt) w w1:=hu.mono (fun y hy=>by simp [LB.blk,hy]);exact (u1.trans (hu2.mono (fun y hy=>by simp at hy;simp [LB.blk,hy]))).trans (hw3.mono (fun y hy=>by simp at hy;simp [LB.blk,hy]))
 ·simp only [LB.blk,ρ] at hy ⊢;rcases hy with rfl|rfl|rfl|rfl|rfl|hy
  ·simp
  ·simp
  ·simp
  ·simp
  ·rcases hb with h|h
   ·exact Or.inr h
   ·exact Or.inl (by simp [h])
  ·rcases hF y hy with h|h
   ·simp [h]
   ·exact Or.inr h
end
theorem xw.first {A:NS} {S:TS} {ak:List Int} {tr:Nat->BT} (h:TrI A S ak tr) {g:Nat} (hg:0<eB A g):∃m:Nat,(tr g).root=m/\dW A g=some m:=by
 obtain ⟨x,hx,hi,h0⟩:=fP.1 hg;have hxm:x∈(tr g).nodes:=(h.mem g x).2 ⟨ω,hx,hi⟩;cases ht:tr g with
 | nil=>rw [ht] at hxm;cases hxm
 | node m l r=>
  have hm:=(h.mem g m).1 (by rw [ht];simp [BT.nodes]);have hH:=h.heap g;rw [ht] at hH;refine ⟨m,rfl,(iY h0).2 ⟨hm.2.1,hm.2.2,fun y hy hyi=>?_⟩⟩;have hym:=(h.mem g y).2 ⟨ω,hy,hyi⟩;rw [ht] at hym;simp only [BT.nodes,ρ,τ] at hym;rcases hym with e|e|e
  ·exact Or.inl e
  ·exact Or.inr (hH.1 y e)
  ·exact Or.inr (hH.2.1 y e)
section
variable {w:World} {B:LB} {F:List Nat} {gt ct:Nat} {A:NS} {st:Nat} {tr:Nat->BT}
theorem MC (h:mG w B F gt ct A st tr) (x:Int) (hx:-9223372036854775808<=x/\x<=9223372036854775807) (hn:eB A x=0) :
  Calls Tryz.prog 243 #[.pointer (some ⟨B.n0,0,none⟩),.int .i64 x] w fun e w'=>e=.returned (.tuple #[.int .i64 0,.bool false])/\w'=w:=by
 obtain ⟨S,rk,ak,hM, -, -, -⟩:=h;have k:=qm hM.cells x hx;rw [hn] at k;have h0:=hM.h0;clear hM hn
 go_enter Tryz.func243,Tryz.ntmps243
 go_wp2_with (first|(go_at_call 142;(with_reducible refine (k).mono ?_);rintro e w9 ⟨rfl,aN⟩;rw [aN];clear aN w9))
 go_ret2;exact ⟨rfl,rfl⟩
theorem CO (h:mG w B F gt ct A st tr) (g:Nat) (hn:0<eB A g) :
  Calls Tryz.prog 243 #[.pointer (some ⟨B.n0,0,none⟩),.int .i64 (g:Int)] w fun e w'=>∃m:Nat,dW A g=some m/\(tr g).root=m/\e=.returned (.tuple #[.int .i64 (m:Int),.bool true])/\w'=w:=by
 obtain ⟨S,rk,ak,hM,hI, -, -⟩:=h;obtain ⟨m,hm,hf⟩:=hI.first hn;obtain ⟨x,hx,hi,h0⟩:=fP.1 hn;have ok:=hM.cells.ok;have hgl:g<A.hs.length:=by have:=(ok.nat x hx).2;omega
 have Wv:=ok.h1;have k:=qm hM.cells (g:Int) ω;have hh0:=hM.h0;have h3:=hM.h3;have d:=hM.jP.cell g (by rw [hM.jG];exact hgl);rw [hI.top g hgl,hm] at d;have htl:g<ak.length:=by rw [hM.jG];exact hgl
 generalize hl:eB A (g:Int)=n at *;have hb:((n:Int) == 0)=false:=ζ;have HF:=χ (ψ hf hm);clear hM hI hm hf hx hi h0 ok hl
 go_enter Tryz.func243,Tryz.ntmps243
 go_wp2_with (first|(go_at_call 142;(with_reducible refine (k).mono ?_);rintro e w9 ⟨rfl,aN⟩;rw [aN];clear aN w9))
 go_ret2;exact ⟨m,HF.out.1,HF.out.2,rfl,rfl⟩
end
end Go.Proofs.YtklibcncmbofpaaGreat
