/-
  Lemmas for PqSorts: Sk, Sk2, Sk3, Sk4, Sk6, SkQ, SkO. Conditions: those of each lemma.
-/
import Derived.Test.YtnpdakpagnpanaaGreatA10
set_option linter.all false
set_option maxHeartbeats 8000000
set_option maxRecDepth 10000
namespace Go.Proofs.YtnpdakpagnpanaaGreat
open Go Go.RowKit
structure SB where
 n0:Nat
 c:Nat
 bt:Nat
 ba:Nat
 mb:Nat
structure mJ (w:World) (B:SB) (F:List Nat) (A:NS) (st:Nat) (S:TS) (f:Int->Option Int):Prop where
 head:aJ w B.n0 207 3 (λj=>[Value.pointer (some ⟨B.c,0,none⟩),.pointer (some ⟨B.bt,0,none⟩),.map (some B.mb)].getD j undef)
 cells:aB w B.c F A st
 trees:aY w B.bt B.ba A.cs.length S
 top:dW w B.mb f
 bI:B.n0∉F/\B.bt∉F/\B.ba∉F/\B.mb∉F
 sep:(B.n0≠B.bt/\B.n0≠B.ba/\B.n0≠B.mb)/\(B.bt≠B.mb/\B.ba≠B.mb)
section
variable {w:World} {B:SB} {F:List Nat} {A:NS} {st:Nat} {S:TS} {f:Int->Option Int}
def SB.blk (B:SB) (F:List Nat):List Nat:=B.n0::B.bt::B.ba::B.mb::F
theorem mJ.upd {w':World} {G:List Nat} (h:mJ w B F A st S f) (hu:aa G w w') (hG:∀x,x∈G->x∉B.blk F):mJ w' B F A st S f:=by
 have hb:∀y,y∈B.blk F->y∉G:=λy hy hm=>hG y hm hy;exact ⟨h.head.upd hu (hb _ (by simp [SB.blk])),h.cells.upd hu (λx hx hm=>hG x hx (by simp [SB.blk,hm])),h.trees.upd hu (hb _ (by simp [SB.blk])) (hb _ (by simp [SB.blk])),h.top.upd hu (hb _ (by simp [SB.blk])),h.bI,h.sep⟩
theorem mJ.ai {w':World} (h:mJ w B F A st S f) (hu:aa [] w w'):mJ w' B F A st S f:=h.upd hu σ
theorem mJ.lt (h:mJ w B F A st S f):∀x,x∈B.blk F->x<w.heap.size:=λx hx=>by
 simp only [SB.blk,ρ] at hx;rcases hx with rfl|rfl|rfl|rfl|hx
 ·exact h.head.lt
 ·exact h.trees.head.lt
 ·exact h.trees.row.lt
 ·exact h.top.lt
 ·exact h.cells.lt x hx
theorem mJ.cF (h:mJ w B F A st S f):B.c∈F:=h.cells.mem
theorem mJ.h0 (h:mJ w B F A st S f):w.cell? ⟨B.n0,0,none⟩=some (.pointer (some ⟨B.c,0,none⟩)):=h.head.cellAt 0 ω rfl
theorem mJ.h1 (h:mJ w B F A st S f):w.cell? ⟨B.n0,1,none⟩=some (.pointer (some ⟨B.bt,0,none⟩)):=h.head.cellAt 1 ω rfl
theorem mJ.h2 (h:mJ w B F A st S f):w.cell? ⟨B.n0,2,none⟩=some (.map (some B.mb)):=h.head.cellAt 2 ω rfl
theorem mJ.gY {w':World} {S':TS} (h:mJ w B F A st S f) (hu:aa [B.ba] w w') (hT:aY w' B.bt B.ba A.cs.length S'):mJ w' B F A st S' f:=by
 obtain ⟨⟨s1,s2,s3⟩,s4,s5⟩:=h.sep;obtain ⟨f1,f2,f3,f4⟩:=h.bI;exact ⟨h.head.upd hu (by simp;exact s2),h.cells.upd hu (λx hx hm=>by simp at hx;subst hx;exact f3 hm),hT,h.top.upd hu (by simp;exact Ne.symm s5),h.bI,h.sep⟩
theorem mJ.YM {w':World} {f':Int->Option Int} (h:mJ w B F A st S f) (hu:aa [B.mb] w w') (hM:dW w' B.mb f'):mJ w' B F A st S f':=by
 obtain ⟨⟨s1,s2,s3⟩,s4,s5⟩:=h.sep;obtain ⟨f1,f2,f3,f4⟩:=h.bI;exact ⟨h.head.upd hu (by simp;exact s3),h.cells.upd hu (λx hx hm=>by simp at hx;subst hx;exact f4 hm),h.trees.upd hu (by simp;exact s4) (by simp;exact s5),hM,h.bI,h.sep⟩
theorem mJ.dV {w':World} {F':List Nat} {A':NS} {st':Nat} (h:mJ w B F A st S f) (hu:aa F w w') (hC:aB w' B.c F' A' st') (hF:∀x,x∈F'->x∈F\/w.heap.size<=x) (h1:A'.cs.length=A.cs.length):mJ w' B F' A' st' S f:=by
 obtain ⟨f1,f2,f3,f4⟩:=h.bI;have hn:∀y,y<w.heap.size->y∉F->y∉F':=λy hy hm hm'=>by rcases hF y hm' with h'|h';exact hm h';omega
 have hl:=h.lt;exact ⟨h.head.upd hu f1,hC,by rw [h1];exact h.trees.upd hu f2 f3,h.top.upd hu f4,⟨hn _ (hl _ (by simp [SB.blk])) f1,hn _ (hl _ (by simp [SB.blk])) f2,hn _ (hl _ (by simp [SB.blk])) f3,hn _ (hl _ (by simp [SB.blk])) f4⟩,h.sep⟩
def Ny (o:Option Int):Int:=o.getD (-1)
theorem mf (h:mJ w B F A st S f) (q:Int) (hq:-9223372036854775808<=q/\q<=9223372036854775807) :
  Calls Tryz.prog 258 #[.pointer (some ⟨B.n0,0,none⟩),.int .i64 q] w λe w'=>e=.returned (.int .i64 (Ny (f q)))/\w'=w:=by
 have h2:=h.h2;have ht:=h.top;have k:=ht.look_ok q hq;unfold Ny;cases hf:f q with
 | none=>
  rw [hf] at k;simp only [Option.getD_none,Option.isSome_none] at k ⊢;clear ht h
  go_enter Tryz.func258,Tryz.ntmps258
  go_wp2;go_ret;exact ⟨rfl,rfl⟩
 | some z=>
  rw [hf] at k;simp only [Option.getD_some,Option.isSome_some] at k ⊢;clear ht h
  go_enter Tryz.func258,Tryz.ntmps258
  go_wp2;go_ret;exact ⟨rfl,rfl⟩
theorem oC (h:mJ w B F A st S f) (q:Nat) (z:Int) (hq:1<=q/\q<=65536) (hz:-1<=z/\z<=9223372036854775807) :
  Calls Tryz.prog 256 #[.pointer (some ⟨B.n0,0,none⟩),.int .i64 (q:Int),.int .i64 z] w λe w'=>e=.returned (.tuple #[])/\aa [B.mb] w w'/\mJ w' B F A st S (λy=>if y=(q:Int) then (if z=-1 then none else some z) else f y):=by
 have h2:=h.h2;have ht:=h.top;have H:=χ h
 by_cases he:z=-1
 ·subst he;clear h
  go_enter Tryz.func256,Tryz.ntmps256
  go_wp2_with (refine jX rfl _ _ rfl B.mb f rfl ht q rfl ω ?_;intro w1 hm1 hu1)
  go_end0;exact ⟨rfl,hu1,H.out.YM hu1 hm1⟩
 ·have hb:(z == -1)=false:=by simpa using he
  rw [Γ he];clear h he
  go_enter Tryz.func256,Tryz.ntmps256
  go_wp2_with (refine jm rfl _ _ _ rfl B.mb f rfl ht q z rfl rfl ω ω ?_;intro w1 hm1 hu1)
  go_end0;exact ⟨rfl,hu1,H.out.YM hu1 hm1⟩
theorem yj (h:mJ w B F A st S f) {fr:Fr} {P:List Fr} {t:BT} (hT:bY S (-1) (ak (fr::P) t).root (ak (fr::P) t)) (hn:(ak (fr::P) t).nodes.Nodup) (hlt:∀y,y∈(ak (fr::P) t).nodes->y<A.cs.length) :
  Calls Tryz.prog 259 #[.pointer (some ⟨B.n0,0,none⟩),.int .i64 (tv t.root),.bool (tb t.root)] w λe w'=>e=.returned (.int .i64 t.root)/\aa [B.ba] w w'/\
   ∃S',mJ w' B F A st S' f/\bY S' (-1) t.root t/\bY S' (-1) (ak (fr::P) .nil).root (ak (fr::P) .nil)/\∀y,y∉(ak (fr::P) t).nodes->S.at S' y:=by
 have h1:=h.h1
 by_cases ht:t=.nil
 ·subst ht;rw [show tv (BT.root .nil)=0 from rfl,show tb (BT.root .nil)=false from rfl,show BT.root .nil=-1 from rfl];have H:=χ (ψ h hT);clear h hT hn hlt
  go_enter Tryz.func259,Tryz.ntmps259
  go_wp2;go_ret;exact ⟨rfl,aa.refl _ _,S,H.out.1,rfl,H.out.2,λy _=>⟨rfl,rfl,rfl⟩⟩
 ·obtain ⟨r,hr⟩:∃r:Nat,t.root=r:=⟨_,BT.vK ht⟩;have kc:=qA h.trees hT hn hlt;rw [show tv t.root=(r:Int) by rw [hr];unfold tv;rw [Γ ω],show tb t.root=true by rw [hr];unfold tb;simp];have H:=χ h;have HR:=χ hr;rw [hr] at kc;generalize tb (r:Int)=bb at kc;generalize cutV fr t=cv at kc;clear h hT hn hlt hr
  go_enter Tryz.func259,Tryz.ntmps259
  go_wp2_with (first
   | ((go_at_call 234;(with_reducible refine (kc).mono ?_));rintro e w1 ⟨rfl,hu1,S1,hT1,ha1,hp1,hs1⟩)
   | fail)
  go_ret;rw [HR.out];exact ⟨rfl,hu1,S1,H.out.gY hu1 hT1,ha1,hp1,hs1⟩
end
def oo (x:Nat) (l m:BT):BT:=.node x m l
theorem vL:OI oo where
 nodes:=λx l r=>by
  unfold oo;simp only [BT.nodes];exact List.perm_append_comm.cons x
 heap:=λA x l r h1 h2 hl hr=>⟨h2,h1,hr,hl⟩
 root:=λx l r=>rfl
theorem zN {S:TS} {p:Int} {x:Nat} {l r:BT} (h:bY S p x (.node x l r)) (hn:(BT.node x l r).nodes.Nodup):bY (iG S x) p x (.node x r l)/\∀y,y≠x->S.at (iG S x) y:=by
 have hs:∀y,y≠x->S.at (iG S x) y:=λy hy=>by
  unfold iG TS.aD TS.at;simp [hy]
 have hl:(iG S x).l x=S.r x:=by unfold iG TS.aD;simp
 have hr:(iG S x).r x=S.l x:=by unfold iG TS.aD;simp
 have hu:(iG S x).u x=S.u x:=by unfold iG TS.aD;simp
 simp only [BT.nodes,Ζ,τ,not_or] at hn;refine ⟨OW (hu.trans h.2.1) ?_ ?_,hs⟩
 ·rw [hl];exact h.2.2.2.frame (λy hy=>hs y (λe=>hn.1.2 (by rw [←e];exact hy)))
 ·rw [hr];exact h.2.2.1.frame (λy hy=>hs y (λe=>hn.1.1 (by rw [←e];exact hy)))
section
variable {w:World} {B:SB} {F:List Nat} {A:NS} {st:Nat} {S:TS} {f:Int->Option Int}
theorem Kb (h:mJ w B F A st S f) {p:Int} {x:Nat} {l r:BT} (hT:bY S p x (.node x l r)) (hx:x<A.cs.length) (hr:∀y,y∈r.nodes->y<A.cs.length) :
  Calls Tryz.prog 259 #[.pointer (some ⟨B.n0,0,none⟩),.int .i64 (tv r.root),.bool (tb r.root)] w λe w'=>e=.returned (.int .i64 r.root)/\aa [B.ba] w w'/\mJ w' B F A st (yR S x r) f:=by
 have h1:=h.h1;cases r with
 | nil=>
  rw [show tv (BT.root .nil)=0 from rfl,show tb (BT.root .nil)=false from rfl,show BT.root .nil=-1 from rfl];have H:=χ h;clear h hT hr
  go_enter Tryz.func259,Tryz.ntmps259
  go_wp2;go_ret;exact ⟨rfl,aa.refl _ _,H.out⟩
 | node y a b=>
  obtain ⟨_,_,_,hr'⟩:=hT;have e2:S.u y=x:=hr'.2.1;have kc:=Bc B.bt B.ba A.cs.length S x y w h.trees hx (hr y (by simp [BT.nodes])) e2;rw [show tv (BT.root (.node y a b))=(y:Int) by show tv (y:Int)=y;unfold tv;rw [Γ ω],show tb (BT.root (.node y a b))=true by show tb (y:Int)=true;unfold tb;simp,show BT.root (.node y a b)=(y:Int) from rfl];have H:=χ h;clear h hr hr' e2
  go_enter Tryz.func259,Tryz.ntmps259
  go_wp2_with (first
   | ((go_at_call 234;(with_reducible refine (kc).mono ?_));rintro e w1 ⟨rfl,hT1,hu1⟩)
   | fail)
  go_ret;exact ⟨rfl,hu1,H.out.gY hu1 hT1⟩
theorem FU (h:mJ w B F A st S f) {p:Int} {x:Nat} {l r:BT} (hT:bY S p x (.node x l r)) (hx:x<A.cs.length) :
  Calls Tryz.prog 239 #[.pointer (some ⟨B.bt,0,none⟩),.int .i64 (x:Int)] w λe w'=>e=.returned (.tuple #[.int .i64 (tv r.root),.bool (tb r.root)])/\aa [] w w':=by
 refine (sU h.trees hT hx).mono ?_;rintro e w' ⟨rfl,k,rfl⟩;exact ⟨rfl,(aa.refl _ _).drewN k⟩
theorem BM (t:BT):-1<=t.root:=by cases t with
 | nil=>exact Int.le_refl _
 | node x l r=>show (-1:Int)<=(x:Int);omega
theorem sP (h:mJ w B F A st S f) {ta tb:BT} (ha:bY S (-1) ta.root ta) (hb:bY S (-1) tb.root tb) (hX:(ta.nodes++tb.nodes).Nodup) (hin:∀y,y∈ta.nodes++tb.nodes->bR A (y:Int)=true) :
  Calls Tryz.prog 257 #[.pointer (some ⟨B.n0,0,none⟩),.int .i64 ta.root,.int .i64 tb.root] w λe w'=>e=.returned (.int .i64 (aC oo A ta tb).1.root)/\aa [B.c,B.ba] w w'/\
   ∃S',mJ w' B F A (bS st (aC oo A ta tb).2) S' f/\bY S' (-1) (aC oo A ta tb).1.root (aC oo A ta tb).1/\∀y,y∉ta.nodes++tb.nodes->S.at S' y:=by
 have hblk:=h.lt;have om:=h.cF;have hbl0:=hblk B.n0 (by simp [SB.blk]);have hbl1:=hblk B.bt (by simp [SB.blk]);have hbl2:=hblk B.ba (by simp [SB.blk]);have hbl4:=hblk B.c (by simp [SB.blk,om]);have hs:=χ h.sep;have hA:=h.cells.ok.c1;have hlt:Hid (∀y,y∈ta.nodes++tb.nodes->y<A.cs.length):=λy hy=>((ay A y).1 (hin y hy)).1;have hXl:(ta.nodes++tb.nodes).length<=A.cs.length:=lu hX hlt.out;have Ux:=χ h;have HBL:=χ hblk;have D0:=χ (Down.start oo A ha hb);have KU:=χ hin;have HX:=χ hX;have hst:=h.cells.mH;clear h ha hb hblk om hin hX
 go_enter Tryz.func257,Tryz.ntmps257
 go_wp2
 go_loopw [1,2,7] (λa b way wr=>∃ (S1:TS) (W:List (Nat×BT)) (a1 b1:BT),a=.int .i64 a1.root/\b=.int .i64 b1.root/\wr.ownsRow w.heap.size 3 1 way W.length (Hl W)/\mJ wr B F A (bS st W.length) S1 f/\Down oo A S ta tb S1 W a1 b1/\aa [B.c,B.ba] w wr) (λ_ _ way _=>(ta.nodes++tb.nodes).length-lenOf way)
 case atStart=>
  exact ⟨S,[],ta,tb,rfl,rfl,⟨by simp [Hl,aT],Α ⟨rfl,rfl⟩⟩,by rw [List.length_nil,fB hst];exact Ux.out.ai β,D0.out,β⟩
 case round=>
  obtain ⟨S1,W,a1,b1,rfl,rfl,ho,hM,hD,hu⟩:=hrel;have HM:=χ hM;have HD:=χ hD;have HO:=χ ho;have hlen:=hD.len;have h0:=hM.h0;have h1:=hM.h1;clear hM hD;obtain ⟨a5,c5,rfl,Zw⟩:=bz ho;have CO:∀g,(Value.slice a5 W.length c5).ownBlock=some g->w.heap.size<=g:=λg hg=>(ho.lt g hg).1;have Rw:=χ CO;clear ho CO
  by_cases hne:a1=.nil\/b1=.nil
  ·obtain ⟨m0,e0,U0,hcnt,hor⟩:=HD.out.turn hne;have hz:(a1.root=-1/\b1.root=m0.root)\/(a1.root≠-1/\b1.root=-1/\a1.root=m0.root):=by
    by_cases e:a1.root=-1
    ·rw [Δ e] at e0;exact Α ⟨e,e0.symm⟩
    ·rw [Γ e] at e0;refine Β ⟨e,?_,e0.symm⟩;rcases hne with rfl|rfl
     ·exact absurd rfl e
     ·rfl
   have HU:=χ (ψ U0 hcnt);have hWl:=U0.len;have HUP:=χ hu;rw [←hcnt] at HM;have X6:=BM m0;clear hne hor U0 HD hcnt hu hlen h0 e0;generalize a1.root=za at *;generalize b1.root=zb at *;have e9:∃z9,m0.root=z9:=⟨_,rfl⟩;obtain ⟨z9,e9⟩:=e9;rw [e9] at hz X6;generalize hn0:W.length=n0 at *;have Ra:=χ hn0;clear hn0;have hz':(za=-1/\zb=-1/\z9=-1)\/(za=-1/\zb=z9/\z9 > -1)\/(za=z9/\zb=-1/\z9 > -1):=ω;clear hz X6;rcases hz' with ⟨rfl,rfl,rfl⟩|⟨rfl,rfl,hzg⟩|⟨rfl,rfl,hzg⟩
   all_goals
    try (have hz2:(za != -1)=true:=ζ)
    try (have hz3:¬ ((-1:Int) > za):=ω)
    go_wp2
    go_loopw [8,9] (λtop i w5=>∃ (S2:TS) (W2 U2:List (Nat×BT)) (m:BT),W=W2++U2/\top=.int .i64 m.root/\i=.int .i64 ((W2.length:Int)-1)/\mJ w5 B F A (bS st (aC oo A ta tb).2) S2 f/\Rv oo S (ta.nodes++tb.nodes) (aC oo A ta tb).1 S2 W2 m/\aa [B.ba] wr w5) (λ_ i _=>((intOf i)+1).toNat)
    case atStart=>exact ⟨S1,W,[],m0,σ,by rw [e9],by rw [Ra.out],HM.out,HU.out.1,aa.refl _ _⟩
    case round=>
     obtain ⟨S2,W2,U2,m,rfl,rfl,rfl,hM,hU,hu⟩:=hrel;rename World=>w5;rcases List.eq_nil_or_concat W2 with rfl|⟨W3,⟨x,l⟩,rfl⟩
     ·have e0:=hU.res;simp only [rX] at e0;simp only [List.length_nil];go_wp2;go_ret;rw [e0];exact ⟨rfl,HUP.out.trans (hu.mono σ),S2,hM,hU.ZE,λy hy=>hU.far y hy⟩
     ·have hpx:=hU.perm;simp only [List.concat_eq_append] at *;rw [nE,ϋ] at hpx;have yY:∀q,q∈(x::l.nodes)++m.nodes->q<A.cs.length:=λq hq=>hlt.out q (hpx.mem_iff.1 (List.mem_append_right _ hq));have hnd:((x::l.nodes)++m.nodes).Nodup:=(θ.1 (hpx.nodup_iff.2 HX.out)).2.1;have XK:=yY x σ;obtain ⟨g,cap,ee,hI,hg⟩:=IZ.iO (l:=(W3++[(x,l)]++U2).map λp=>(p.1:Int)) (by rw [List.length_map,Ra.out];exact au HO.out hu (λk hk=>by have:=Rw.out k hk;simp;omega)) ζ;rw [List.length_map,Ra.out] at ee
      injection ee with ee1 ee2 ee3
      subst ee1 ee3;have dz:=hI.cell W3.length σ;rw [show (((W3++[(x,l)]++U2).map λp=>(p.1:Int)).getD W3.length 0)=(x:Int) by simp [φ]] at dz;have h1:=hM.h1;have tC:=χ hM;have Lj:=χ hU;have Fh:=χ (ψ yY hnd);have hTx:=hU.way (x,l) σ;have UC:=χ hTx;have hil:((W3++[(x,l)]).length:Int)-1=W3.length:=σ;rw [hil];have hi0:((W3.length:Int)≥0):=ω;have hWn:W3.length+1+U2.length=n0:=by have:=Ra.out;simp at this;omega
      have Bd:(W3.length:Int)<(n0:Int):=ω;have hW3:W3.length<=65536:=ω;clear hM hU yY hnd hTx hpx hil hI ee2
      by_cases hm:m=.nil
      ·subst hm;simp only [BT.root];have rM:bY S2 (-1) x (.node x l .nil):=UC.out;obtain ⟨D8,PU⟩:=zN rM (by simpa [BT.nodes] using Fh.out.2);have kt:=xB B.bt B.ba A.cs.length S2 x w5 tC.out.trees XK;have HT3:=χ (ψ D8 PU);clear rM D8 PU
       go_wp2_with (first
        | ((go_at_call 249;(with_reducible refine (kt).mono ?_));rintro e w6 ⟨rfl,Lc,jy⟩)
        | fail)
       refine ⟨⟨iG S2 x,W3,(x,l)::U2,oo x l .nil,σ,rfl,by go_num,tC.out.gY jy Lc,Lj.out.turn vL HX.out HT3.out.1 (λy h1 _ _=>HT3.out.2 y h1),hu.trans jy⟩,by simp [intOf]⟩
      ·obtain ⟨mr,hmr⟩:∃mr:Nat,m.root=mr:=⟨_,BT.vK hm⟩;have hmm:=(bL hm).1;rw [hmr,π] at hmm;have rM:bY S2 (-1) x (.node x l .nil):=UC.out;have Va:=Lj.out.ZE;have hur:S2.u mr=-1:=by
        cases m with
        | nil=>exact absurd rfl hm
        | node q a b=>
         have e:q=mr:=by have e':(q:Int)=mr:=hmr;omega
         subst e;exact Va.2.1
       have hnd:=Fh.out.2;have hxm:x≠mr:=λe=>by
        rw [θ] at hnd;exact hnd.2.2 x σ mr hmm e
       obtain ⟨D8,PU⟩:=zW (m:=m) rM Va hm (by simpa [BT.nodes] using hnd);rw [hmr] at D8 PU;obtain ⟨PT,Wo⟩:=zN D8 (by simpa [BT.nodes] using hnd);have HT3:=χ (ψ D8 (ψ hm (ψ PU (ψ PT Wo))));have kh:=yl B.bt B.ba A.cs.length S2 x mr true w5 (tC.out.trees) XK (Fh.out.1 mr (List.mem_append_right _ hmm)) hxm hur rM.2.2.2;have HMR:=χ hmr;rw [hmr];have hz4:((mr:Int) != -1)=true:=σ;clear rM Va hur hnd D8 PU PT Wo hm hmr hmm
       go_wp2_with (first
        | ((go_at_call 241;(with_reducible refine (kh).mono ?_));rintro e w6 ⟨rfl,Lc,jy⟩;(have h16:=(tC.out.gY jy Lc).h1);(have kt:=xB B.bt B.ba A.cs.length _ x w6 Lc XK))
        | ((go_at_call 249;(with_reducible refine (kt).mono ?_));rintro e w7 ⟨rfl,PQ,ny⟩)
        | fail)
       refine ⟨⟨_,W3,(x,l)::U2,oo x l m,σ,rfl,by go_num,(tC.out.gY jy Lc).gY ny PQ,Lj.out.turn vL HX.out HT3.out.2.2.2.1 (λy h1 _ h3=>?_),(hu.trans jy).trans ny⟩,by simp [intOf]⟩;have a1:=HT3.out.2.2.1 y h1 h3;have a2:=HT3.out.2.2.2.2 y h1;exact ⟨a2.1.trans a1.1,a2.2.1.trans a1.2.1,a2.2.2.trans a1.2.2⟩
  ·obtain ⟨x,l,r,rfl⟩:∃x l r,a1=.node x l r:=by
    cases a1 with
    | nil=>exact absurd (Α rfl) hne
    | node x l r=>exact ⟨x,l,r,rfl⟩
   obtain ⟨y,l',r',rfl⟩:∃x l r,b1=.node x l r:=by
    cases b1 with
    | nil=>exact absurd (Β rfl) hne
    | node x l r=>exact ⟨x,l,r,rfl⟩
   clear hne;have hmx:∀z,z∈(BT.node x l r).nodes++(BT.node y l' r').nodes->z∈ta.nodes++tb.nodes:=λz hz=>HD.out.perm.mem_iff.1 (List.mem_append_right _ hz);have hxm:=hmx x (by simp [BT.nodes]);have hym:=hmx y (by simp [BT.nodes]);have hWl:W.length+2<=(ta.nodes++tb.nodes).length:=by simp only [BT.nodes,Ω,υ] at hlen ⊢;omega
   have WR:=χ hmx;have hxb:((x:Int) != -1)=true:=σ;have hyb:((y:Int) != -1)=true:=σ;clear hmx hlen;have kA:=gW HM.out.cells y x (KU.out y hym) (KU.out x hxm);obtain ⟨sw,hsw⟩:∃sw,decide (dO A y x)=sw:=⟨_,rfl⟩;rw [hsw] at kA;have KEY:∃ (z:Nat) (lz rz o:BT),z=(if sw then y else x)/\Down oo A S ta tb (yR S1 z rz) (W++[(z,lz)]) rz o/\bY S1 (-1) z (.node z lz rz)/\z<A.cs.length/\(∀q,q∈rz.nodes->q<A.cs.length)/\o.root=(if sw then (x:Int) else (y:Int)):=by
    cases sw with
    | true=>
     exact ⟨y,l',r',.node x l r,rfl,HD.out.takeB HX.out (Ϡ hsw),HD.out.YV,hlt.out y hym,λq hq=>hlt.out q (WR.out q (by simp [BT.nodes,hq])),rfl⟩
    | false=>
     exact ⟨x,l,r,.node y l' r',rfl,HD.out.takeA HX.out (of_decide_eq_false hsw),HD.out.Yc,hlt.out x hxm,λq hq=>hlt.out q (WR.out q (by simp [BT.nodes,hq])),rfl⟩
   obtain ⟨z,lz,rz,o,ez,hD2,Yl,hz,hrz,eo⟩:=KEY;have HD2:=χ hD2;have HT:=χ Yl;have HQ:=χ hrz;clear hD2 Yl hrz hsw;simp only [BT.root];cases sw
   all_goals
    simp only [if_true,if_false,ϟ] at ez eo;subst ez
    go_wp2_with fail
    refine kA.mono ?_;rintro e w1 ⟨rfl,gK,hu1⟩;have hM1:=χ (HM.out.dV (hu1.mono (by simp [HM.out.cF])) gK (λx hx=>Α hx) rfl);have hss:bS (bS st W.length) 1=bS st (W.length+1):=iV _ _ _;rw [hss] at hM1;have ho1:=au HO.out hu1 (λk hk=>by have:=Rw.out k hk;simp;omega);have h01:=hM1.out.h0;have h11:=hM1.out.h1;clear h0 h1 kA hss;have QM:=χ (ψ hu hu1);clear hu hu1 gK;have HGB:Hid (∀g,g∈(Value.slice a5 W.length c5).ownBlock.toList->g∉B.blk F):=λg hg hb=>by
     have h1:=Rw.out g (Option.mem_toList.1 hg);have h2:=HBL.out g hb;omega
    have hsz1:w.heap.size<=w1.heap.size:=(QM.out.1.trans (QM.out.2.mono σ)).size
    go_wp2_with (first
     | ((at_builtin;refine aW rfl _ _ 77 rfl w.heap.size 3 (.int .i64 0) 1 8 Tryz.underlying77 fF rfl δ _ _ _ rfl (ho1) [.int .i64 (z:Int)] rfl (by simp [Value.oneCell']) (by first|rfl|(rw [Κ];rfl)) μ ω (ω) ?_;intro v2 w2 ho2 hu2 kZ);(have hM2:=χ (hM1.out.upd hu2 HGB.out));(have k12:=hM2.out.h1);(have kr:=FU hM2.out HT.out hz))
     | (go_at_call 239;(with_reducible refine (kr).mono ?_);rintro e w3 ⟨rfl,hu3⟩;(have lq:=χ (hM2.out.ai hu3));(have kc:=Kb lq.out HT.out hz HQ.out))
     | (go_at_call 259;(with_reducible refine (kc).mono ?_);rintro e w4 ⟨rfl,jJ,xg⟩)
     | fail)
    obtain ⟨a6,c6,rfl,hc6⟩:=bz ho2;have Vr:∀k,(Value.slice a6 (W.length+1) c6).ownBlock=some k->w.heap.size<=k:=λk hk=>(ho2.lt k hk).1;refine ⟨⟨_,W++[(z,lz)],rz,o,rfl,congrArg (Value.int .i64) eo.symm,?_,?_,HD2.out,?_⟩,?_⟩
    ·rw [zZ,υ,List.length_singleton];exact au (au ho2 hu3 σ) jJ (λk hk=>by have:=Vr k hk;simp;omega)
    ·rw [υ,List.length_singleton];exact xg
    ·have v1:aa [B.c,B.ba] w w1:=QM.out.1.trans (QM.out.2.mono σ);have v2:aa [B.c,B.ba] w w2:=v1.joined hu2 (λg hg=>Β (Rw.out g (Option.mem_toList.1 hg)));exact (v2.trans (hu3.mono σ)).trans (jJ.mono σ)
    ·show (ta.nodes++tb.nodes).length-(W.length+1)<(ta.nodes++tb.nodes).length-W.length
     omega
end
def nU (A:NS) (tr:Nat->BT) (q:Int):Option Int:=if 1<=q/\q<A.hs.length then (if (tr q.toNat).root=-1 then none else some (tr q.toNat).root) else none
def ve (A:NS) (tr:Nat->BT):List Int:=(List.range A.hs.length).map λh=>(tr h).root
theorem vg.I9 {K:Pj} {A:NS} {S:TS} {ag:List Int} {tr:Nat->BT} (h:vg K A S ag tr):vg K A S (ve A tr) tr:=
 ⟨λq hq=>by unfold ve;simp [φ,hq],h.zP,h.mem,h.nd,h.heap,h.free⟩
def lC (w:World) (B:SB) (F:List Nat) (A:NS) (st:Nat) (tr:Nat->BT):Prop:=∃S,mJ w B F A st S (nU A tr)/\Z8 A S (ve A tr) tr
theorem uW (A:NS) (tr:Nat->BT) (q:Nat) (h:1<=q/\q<A.hs.length):Ny (nU A tr (q:Int))=(tr q).root:=by
 unfold nU Ny;rw [Δ ω,π]
 split
 ·rename_i e;rw [e];rfl
 ·rfl
theorem mJ.ext {w:World} {B:SB} {F:List Nat} {A:NS} {st:Nat} {S:TS} {f g:Int->Option Int} (h:mJ w B F A st S f) (e:∀k,f k=g k):mJ w B F A st S g:=⟨h.head,h.cells,h.trees,h.top.ext e,h.bI,h.sep⟩
theorem CR {A A':NS} {tr:Nat->BT} {q:Nat} {t:BT} (hl:A'.hs.length=A.hs.length) (hq:1<=q/\q<A.hs.length) (k:Int):(if k=(q:Int) then (if t.root=-1 then none else some t.root) else nU A tr k)=nU A' (λy=>if y=q then t else tr y) k:=by
 by_cases e:k=(q:Int)
 ·subst e;have e1:nU A' (λy=>if y=q then t else tr y) (q:Int)=(if t.root=-1 then none else some t.root):=by
   unfold nU;rw [hl,Δ (show 1<=(q:Int)/\(q:Int)<A.hs.length by omega)];have:(λy=>if y=q then t else tr y) (q:Int).toNat=t:=σ;rw [this]
  rw [e1,Δ rfl]
 ·have e1:nU A' (λy=>if y=q then t else tr y) k=nU A tr k:=by
   unfold nU;rw [hl]
   by_cases h:1<=k/\k<A.hs.length
   ·rw [Δ h,Δ h];have:(λy=>if y=q then t else tr y) k.toNat=tr k.toNat:=by
     show (if k.toNat=q then t else tr k.toNat)=_
     rw [Γ ω]
    rw [this]
   ·rw [Γ h,Γ h]
  rw [e1,Γ e]
theorem Hu {A:NS} {S:TS} {ag:List Int} {tr:Nat->BT} (h:Z8 A S ag tr) (hA:A.cs.length<=65536) {t:BT} (ht:∀y,y∈t.nodes->y<A.cs.length):-1<=t.root/\t.root<=9223372036854775807:=by
 refine ⟨BM t,?_⟩
 by_cases e:t=.nil
 ·rw [e];show (-1:Int)<=_;omega
 ·have h1:=bL e;have h2:=ht _ h1.1;omega
section
variable {w:World} {B:SB} {F:List Nat} {A:NS} {st:Nat} {tr:Nat->BT}
theorem lC.upd {w':World} {G:List Nat} (h:lC w B F A st tr) (hu:aa G w w') (hG:∀x,x∈G->x∉B.blk F):lC w' B F A st tr:=by
 obtain ⟨S,hM,hI⟩:=h;exact ⟨S,hM.upd hu hG,hI⟩
theorem lC.ai {w':World} (h:lC w B F A st tr) (hu:aa [] w w'):lC w' B F A st tr:=h.upd hu σ
theorem DL (h:lC w B F A st tr) (hh x:Nat) (k s:Int) (hk:-9223372036854775808<=k/\k<=9223372036854775807/\0<=s/\s<=18446744073709551615) (hB:nX A hh x=true) :
  Calls Tryz.prog 253 #[.pointer (some ⟨B.n0,0,none⟩),.int .i64 (hh:Int),.int .i64 (x:Int),.agg #[.int .i64 k,.int .u64 s]] w λe w'=>e=.returned (.bool true)/\aa (B.blk F) w w'/\
   lC w' B F (aG A hh x k s) (bS st (aC oo (aG A hh x k s) (tr hh) (single x)).2) (λq=>if q=hh then (aC oo (aG A hh x k s) (tr hh) (single x)).1 else tr q):=by
 obtain ⟨S,hM,hI⟩:=h;have hlt:=hM.lt;have ok:=hM.cells.ok;obtain ⟨b1,b2,b3⟩:=(dP _ _ _).1 hB;have b4:=(aA _ _).1 b1;have hx:x<A.cs.length:=by have:=(fJ _ _).1 b2;omega
 have LQ:(A.c x).i=0:=by
  have:=(ok.nat x hx).1;have h3:¬ (0<(A.c x).i):=λh'=>by rw [(ay A x).2 ⟨hx,h'⟩] at b3;cases b3
  omega
 have hcs:(aG A hh x k s).cs.length=A.cs.length:=by unfold aG;rw [Δ hB,fD]
 have iN:(aG A hh x k s).hs.length=A.hs.length:=by unfold aG;rw [Δ hB];rfl
 have hcx:∀y,(aG A hh x k s).c y=if y=x then ⟨hh,k,s⟩ else A.c y:=λy=>by
  unfold aG;rw [Δ hB,π,jA]
  by_cases e:y=x
  ·rw [Δ ⟨e,hx⟩,Δ e]
  ·rw [Γ (λh=>e h.1),Γ e]
 have sD:x∉(tr hh).nodes:=hI.out LQ;have hX:((tr hh).nodes++(single x).nodes).Nodup:=by
  rw [θ];refine ⟨hI.nd hh,by simp [single,BT.nodes],λa ha b hb e=>?_⟩;simp only [single,BT.nodes,Υ,ϒ] at hb;exact sD (by rw [←hb,←e];exact ha)
 have hin:∀y,y∈(tr hh).nodes++(single x).nodes->bR (aG A hh x k s) (y:Int)=true:=λy hy=>by
  rw [ay,hcs,hcx];simp only [single,BT.nodes,Υ,τ,ϒ] at hy
  by_cases e:y=x
  ·rw [Δ e,e];exact ⟨hx,by show (0:Int)<(hh:Int);omega⟩
  ·rw [Γ e];have:=(hI.mem hh y).1 (hy.resolve_right e);exact ⟨this.2.1,ω⟩
 have Sy:Heap (aG A hh x k s) (tr hh):=(hI.heap hh).frame (λy hy=>by rw [hcx,Γ (λe=>sD (by rw [←e];exact hy))]);obtain ⟨mp,mh⟩:=mF vL (aG A hh x k s) _ (tr hh) (single x) (Θ _);have Ka:=mh Sy ⟨by simp [BT.nodes],by simp [BT.nodes],trivial,trivial⟩ hX;have hfr:=hI.free x hx LQ;have Tw:=hI.zP hh;have hq:1<=hh/\hh<A.hs.length:=ω;have Yb:=ok.h1
 have hmr:=Hu hI ok.c1 (t:=(aC oo (aG A hh x k s) (tr hh) (single x)).1) (λy hy=>by
  have h1:=mp.mem_iff.1 hy;have:=(ay _ y).1 (hin y h1)
  rw [hcs] at this;exact this.1)
 have hfst:=uW A tr hh hq
 have FI:Hid (∀ (W:World) (S':TS) (st':Nat),mJ W B F (aG A hh x k s) st' S' (λy=>if y=(hh:Int) then (if (aC oo (aG A hh x k s) (tr hh) (single x)).1.root=-1 then none else some (aC oo (aG A hh x k s) (tr hh) (single x)).1.root) else nU A tr y)->bY S' (-1) (aC oo (aG A hh x k s) (tr hh) (single x)).1.root (aC oo (aG A hh x k s) (tr hh) (single x)).1->
   (∀y,y∉(tr hh).nodes++(single x).nodes->S.at S' y)->lC W B F (aG A hh x k s) st' (λq=>if q=hh then (aC oo (aG A hh x k s) (tr hh) (single x)).1 else tr q)):=λW S' st' a1 a2 a4=>
  ⟨S',a1.ext (CR iN hq),(hI.put ok (by simp [ve]) hB a2 mp Ka (λy hy=>a4 y hy)).I9⟩
 have u1:aa [] w (w.alloc (.cells #[.int .i64 k,.int .u64 s] 97)):=(aa.refl _ _).alloc _;have kp:=λW (hW:aa [] (w.alloc (.cells #[.int .i64 k,.int .u64 s] 97)) W)=>lS (hM.cells.ai (u1.trans hW)) hh x k s hk hB;have h0:=hM.h0;have Nj:B.n0∉F:=hM.bI.1;have hsz:w.heap.size∉F:=λhm=>by have:=hlt w.heap.size (by simp [SB.blk,hm]);omega
 have r0:∀W,aa F (w.alloc (.cells #[.int .i64 k,.int .u64 s] 97)) W->W.cell? ⟨B.n0,0,none⟩=some (.pointer (some ⟨B.c,0,none⟩)):=λW hW=>hW.kept (u1.was h0) Nj;have r1:∀W,aa F (w.alloc (.cells #[.int .i64 k,.int .u64 s] 97)) W->W.cell? ⟨w.heap.size,0,none⟩=some (.int .i64 k):=λW h=>h.kept σ hsz;have r2:∀W,aa F (w.alloc (.cells #[.int .i64 k,.int .u64 s] 97)) W->W.cell? ⟨w.heap.size,1,none⟩=some (.int .u64 s):=λW h=>h.kept σ hsz;have HM:=χ hM;have HH:=χ (ψ hX (ψ hin (ψ Tw hfr)));have om:=hM.cF;clear hM hI ok b1 b2 b3 LQ hcx sD hX hin Sy mp mh Ka hfr h0 hlt Tw
 generalize hA':aG A hh x k s=A' at *;generalize htr:tr hh=th at *
 go_enter Tryz.func253,Tryz.ntmps253
 go_wp2
 go_region_held3 (aa F (w.alloc (.cells #[.int .i64 k,.int .u64 s] 97))) (exact ν)
  ((go_at_call 138;(with_reducible refine (kp _ β).mono ?_);rintro e w1 ⟨rfl,gK,hu1⟩;(have hu2:aa F (w.alloc (.cells #[.int .i64 k,.int .u64 s] 97)) w1:=ν)))
 have uF:aa F w (w.alloc (.cells #[.int .i64 k,.int .u64 s] 97)):=u1.mono σ;have hM1:=HM.out.dV (uF.trans hu2) gK (λy hy=>Α hy) hcs;have hw1:aa F w w1:=uF.trans hu2;have k1:=mf hM1 (hh:Int) ω;rw [hfst] at k1;have km:=sP hM1 HH.out.2.2.1 (si HH.out.2.2.2) HH.out.1 HH.out.2.1;rw [show (single x).root=(x:Int) from rfl] at km;clear r0 r1 r2 kp hu1 hu2 gK uF hM1
 go_wp2_with (first
  | (go_at_call 258;(with_reducible refine (k1).mono ?_);rintro e w9 ⟨rfl,aH⟩;rw [aH];clear aH w9)
  | ((go_at_call 257;(with_reducible refine (km).mono ?_));rintro e w2 ⟨rfl,hu2,S2,hM2,rM,hs2⟩;(have kc:=oC hM2 hh _ ω hmr))
  | ((go_at_call 256;(with_reducible refine (kc).mono ?_));rintro e w3 ⟨rfl,hu3,lq⟩)
  | fail)
 go_ret;refine ⟨rfl,((hw1.mono (λy hy=>by simp only [SB.blk,ρ];simp [hy])).trans (hu2.mono (λy hy=>?_))).trans (hu3.mono (by simp [SB.blk])),FI.out _ S2 _ lq rM hs2⟩;simp only [ρ,ς,or_false] at hy;simp only [SB.blk,ρ];rcases hy with rfl|rfl
 ·simp [om]
 ·simp
theorem JE (h:lC w B F A st tr) (x:Int) (hx:-9223372036854775808<=x/\x<=9223372036854775807) (hn:bU A x=0) :
  Calls Tryz.prog 255 #[.pointer (some ⟨B.n0,0,none⟩),.int .i64 x] w λe w'=>e=.returned (.tuple #[.int .i64 0,.bool false])/\w'=w:=by
 obtain ⟨S,hM,hI⟩:=h;have hr:Ny (nU A tr x)=-1:=by
  unfold nU
  split
  ·rename_i hq
   have:(tr x.toNat)=.nil:=by
    cases e:tr x.toNat with
    | nil=>rfl
    | node y a b=>
     have:=(hI.mem x.toNat y).1 (by rw [e];simp [BT.nodes]);have:0<bU A x:=fw.2 ⟨y,this.2.1,by show (A.c y).i=x;omega,by omega⟩;omega
   rw [this];rfl
  ·rfl
 have k:=mf hM x hx;rw [hr] at k;clear hM hI
 go_enter Tryz.func255,Tryz.ntmps255
 go_wp2_with (first|(go_at_call 258;(with_reducible refine (k).mono ?_);rintro e w9 ⟨rfl,aH⟩;rw [aH];clear aH w9)|fail)
 go_ret2;exact ⟨rfl,rfl⟩
theorem zV (h:lC w B F A st tr) (g:Nat) (hn:0<bU A g) :
  Calls Tryz.prog 255 #[.pointer (some ⟨B.n0,0,none⟩),.int .i64 (g:Int)] w λe w'=>∃m:Nat,dM A g=some m/\(tr g).root=m/\e=.returned (.tuple #[.int .i64 (m:Int),.bool true])/\w'=w:=by
 obtain ⟨S,hM,hI⟩:=h;obtain ⟨m,hm1,hm2⟩:=hI.first hn;have hin:=(jW hm2);have hq:=(aA _ _).1 (jB hM.cells.ok hin.2.2.2);rw [π,hin.2.2.1] at hq;have hb:=hM.cells.ok.h1;have k:=mf hM (g:Int) ω;rw [uW A tr g ω,hm1] at k;have hb1:((m:Int) == -1)=false:=σ;clear hM hI
 go_enter Tryz.func255,Tryz.ntmps255
 go_wp2_with (first|(go_at_call 258;(with_reducible refine (k).mono ?_);rintro e w9 ⟨rfl,aH⟩;rw [aH];clear aH w9)|fail)
 go_ret2;exact ⟨m,hm2,hm1,rfl,rfl⟩
end
noncomputable def CZ (A:NS) (t:BT) (x:Nat):BT×Nat:=(ak (pathOf t x).1 (aC oo A (pathOf t x).2.1 (pathOf t x).2.2).1,(aC oo A (pathOf t x).2.1 (pathOf t x).2.2).2)
section
variable {w:World} {B:SB} {F:List Nat} {A:NS} {st:Nat} {tr:Nat->BT} {S:TS} {f:Int->Option Int}
theorem FZ {bt ba n:Nat} (h:aY w bt ba n S) {fr:Fr} {P:List Fr} {x:Nat} {l r:BT} (hT:bY S (-1) (ak (fr::P) (.node x l r)).root (ak (fr::P) (.node x l r))) (hn:(ak (fr::P) (.node x l r)).nodes.Nodup) (hf:fr.1<n) :
  ∃ (r':Int) (b:Bool),((b=true/\(r' == (x:Int))=fr.2.1)\/(b=false/\fr.2.1=false))/\Calls Tryz.prog 239 #[.pointer (some ⟨bt,0,none⟩),.int .i64 (fr.1:Int)] w λe w'=>e=.returned (.tuple #[.int .i64 r',.bool b])/\∃k,w'=w.drewN k:=by
 obtain ⟨z,hz,k⟩:=zY h hT hn hf
 by_cases e:z=-1
 ·refine ⟨tv z,tb z,Β ⟨by rw [e];rfl,?_⟩,k⟩;rw [←hz,e];first|(simp;done)|(simp;omega)
 ·exact ⟨tv z,tb z,Α ⟨by unfold tb;simp [e],by unfold tv;rw [Γ e];exact hz⟩,k⟩
def Q6 (w':World) (B:SB) (F:List Nat) (A:NS) (st:Nat) (S:TS) (f:Int->Option Int) (g x:Nat) (P:List Fr) (X:List Nat) (T:BT):Prop:=
 ∃S',mJ w' B F (aU A x) st S' (λy=>if P=[]/\y=(g:Int) then (if T.root=-1 then none else some T.root) else f y)/\bY S' (-1) T.root T/\(∀y,y∉X->S.at S' y)/\(S'.l x=-1/\S'.r x=-1/\S'.u x=-1)
theorem BH (hM:mJ w B F A st S f) {g x:Nat} {P:List Fr} {l r:BT} (hin:bR A (x:Int)=true) (hg:(A.c x).i=g) (ZV:1<=g/\g<=65536)
  (hT:bY S (-1) (ak P (.node x l r)).root (ak P (.node x l r))) (hn:(ak P (.node x l r)).nodes.Nodup) (hall:∀y,y∈(ak P (.node x l r)).nodes->bR A (y:Int)=true) :
  Calls Tryz.prog 251 #[.pointer (some ⟨B.n0,0,none⟩),.int .i64 (x:Int)] w λe w'=>e=.returned (.bool true)/\aa (B.blk F) w w'/\
   Q6 w' B F A (bS st (aC oo A l r).2) S f g x P (ak P (.node x l r)).nodes (ak P (aC oo A l r).1):=by
 have hxl:=((ay A x).1 hin).1;have hlt:∀y,y∈(ak P (.node x l r)).nodes->y<A.cs.length:=λy hy=>((ay A y).1 (hall y hy)).1;have kh:=ic hM.cells x hin;rw [hg] at kh;have h0:=hM.h0;have HM:=χ hM;have OB:=sK hn;have mp:=(mF vL A _ l r (Θ _)).1;have hblk:=χ hM.lt;have om:=hM.cF;have hsep:=χ (ψ hM.sep hM.bI);have HT:=χ (ψ hT (ψ hn (ψ hall hlt)));have HP:=χ OB;have hA:=hM.cells.ok.c1;obtain ⟨m,k,hmk⟩:∃m k,aC oo A l r=(m,k):=⟨_,_,rfl⟩;rw [hmk] at mp;rw [hmk]
 have VW:∀y,y∈m.nodes->y<A.cs.length:=λy hy=>hlt y (aK.2 (Α (by
  have:=mp.mem_iff.1 hy
  simp only [BT.nodes];exact Λ _ this)))
 have hmr:-1<=m.root/\m.root<=9223372036854775807:=by
  refine ⟨BM m,?_⟩
  by_cases e:m=.nil
  ·rw [e];show (-1:Int)<=_;omega
  ·have h1:=bL e;have h2:=VW _ h1.1;omega
 have Ua:=χ mp;have HMK:=χ hmk;have KU:=χ hin;have HML:=χ VW;clear hM hT hn hall hlt OB mp hmk hin hg VW
 go_enter Tryz.func251,Tryz.ntmps251
 go_wp2_with (first|((go_at_call 124;(with_reducible refine (kh).mono ?_));rintro e w1 ⟨rfl,gK,hu1⟩;(have g1:=(HM.out.dV hu1 gK (λy hy=>Α hy) rfl).h1))|fail)
 have hM1:=HM.out.dV hu1 gK (λy hy=>Α hy) rfl;have kl:=λW (hW:aa [] w1 W)=>Ad (hM1.ai hW).trees ((dE _ _).1 HT.out.1).1 hxl;have klo:=λW (hW:aa [] w1 W)=>yj (hM1.ai hW) (fr:=(x,false,r)) (P:=P) (t:=l) HT.out.1 HT.out.2.1 HT.out.2.2.2;have hn0:B.n0∉[B.c,B.ba]:=by
  have a1:=hsep.out;have a2:B.n0≠B.c:=λe=>a1.2.1 (by rw [e];exact om);simp;omega
 have r1:∀W,aa [B.c,B.ba] w1 W->W.cell? ⟨B.n0,1,none⟩=some (.pointer (some ⟨B.bt,0,none⟩)):=λW hW=>hW.kept g1 hn0;have Ir:(ak ((x,true,.nil)::P) r).nodes.Nodup:=by
  have e:=(aX P (.node x .nil r));refine e.nodup_iff.2 ?_;obtain ⟨⟨a1,a2,a3⟩,a4,a5,a6,a7⟩:=HP.out;simp only [BT.nodes,Ϛ,θ] at a4 ⊢;refine ⟨Ζ.2 ⟨a2,a4.2.1⟩,a7,λy hy z hz e=>?_⟩;subst e;rcases ρ.1 hy with e|hy
  ·exact a3 (by rw [←e];exact hz)
  ·exact a6 y hy hz
 have AU:∀y,y∈(ak ((x,true,.nil)::P) r).nodes->y∈(ak P (.node x l r)).nodes:=λy hy=>by
  have h':y∈(ak P (.node x .nil r)).nodes:=hy;rw [aK] at h' ⊢;simp only [BT.nodes,Ϛ,ρ,τ] at h' ⊢;rcases h' with (h'|h')|h'
  ·exact Α (Α h')
  ·exact Α (Β (Β h'))
  ·exact Β h'
 have PI:∀y,y∈l.nodes->y∉(ak ((x,true,.nil)::P) r).nodes:=λy hy hm=>by
  obtain ⟨⟨a1,a2,a3⟩,a4,a5,a6,a7⟩:=HP.out;rw [θ] at a4;have h':y∈(ak P (.node x .nil r)).nodes:=hm;rw [aK] at h';simp only [BT.nodes,Ϛ,ρ] at h';rcases h' with (h'|h')|h'
  ·exact a1 (by rw [←h'];exact hy)
  ·exact a4.2.2 y hy y h' rfl
  ·exact a5 y hy h'
 have H3:=χ (ψ Ir (ψ AU PI));clear hM1 gK kh h0 Ir AU PI
 go_region_held3 (aa [B.c,B.ba] w1) (exact ν)
  (first
   | ((go_at_call 238;(with_reducible refine (kl _ η).mono ?_));rintro e w2 ⟨rfl,k2,hw2⟩;(have hq2:aa [] w1 w2:=(by rw [hw2];refine aa.drewN ?_ _;exact η));clear hw2;(have hv2:aa [B.c,B.ba] w1 w2:=hq2.mono σ))
   | ((go_at_call 259;(with_reducible refine (klo _ η).mono ?_));rintro e w3 ⟨rfl,hu3,S3,lq,hl3,hp3,hs3⟩;(have hv3:aa [B.c,B.ba] w1 w3:=aa.trans ν (hu3.mono σ));(have JK:bY S3 (-1) (ak ((x,true,.nil)::P) r).root (ak ((x,true,.nil)::P) r):=hp3);(have kr:=λW (hW:aa [] w3 W)=>sU (lq.ai hW).trees ((dE P (.node x .nil r)).1 JK).1 hxl);(have XM:=λW (hW:aa [] w3 W)=>yj (lq.ai hW) (fr:=(x,true,.nil)) (P:=P) (t:=r) JK H3.out.1 (λy hy=>HT.out.2.2.2 y (H3.out.2.1 y hy))))
   | ((go_at_call 239;(with_reducible refine (kr _ η).mono ?_));rintro e w4 ⟨rfl,k4,hw4⟩;(have hq4:aa [] w3 w4:=(by rw [hw4];refine aa.drewN ?_ _;exact η));clear hw4;(have hv4:aa [B.c,B.ba] w1 w4:=hv3.trans (hq4.mono σ)))
   | ((go_at_call 259;(with_reducible refine (XM _ η).mono ?_));rintro e w5 ⟨rfl,cB,S5,xQ,Fe,P5,hs5⟩;(have hv5:aa [B.c,B.ba] w1 w5:=aa.trans ν (cB.mono σ));(have km:=λW (hW:aa [] w5 W)=>sP (xQ.ai hW) (hl3.frame (λy hy=>hs5 y (H3.out.2.2 y hy))) Fe HP.out.2.1 (λy hy=>HT.out.2.2.1 y (aK.2 (Α (by simp only [BT.nodes];exact Λ _ hy)))));rw [HMK.out] at km)
   | ((go_at_call 257;(with_reducible refine (km _ η).mono ?_));rintro e w6 ⟨rfl,jy,S6,rV,Lc,hs6⟩;(have hv6:aa [B.c,B.ba] w1 w6:=aa.trans ν jy)))
 have ZT:bY S6 (-1) (ak P (.node x .nil .nil)).root (ak P (.node x .nil .nil)):=bY.frame (show bY S5 (-1) (ak P (.node x .nil .nil)).root (ak P (.node x .nil .nil)) from P5) (λy hy=>hs6 y (λhm=>by
  obtain ⟨⟨a1,a2,a3⟩,a4,a5,a6,a7⟩:=HP.out;rw [aK] at hy;simp only [BT.nodes,Ϛ,ρ,ς,or_false] at hy;rw [τ] at hm;rcases hy with e|hy
  ·subst e;rcases hm with hm|hm;exact a1 hm;exact a2 hm
  ·rcases hm with hm|hm;exact a5 y hm hy;exact a6 y hm hy))
 have f6:∀y,y∉(ak P (.node x l r)).nodes->S.at S6 y:=λy hy=>by
  have h1:y∉l.nodes++r.nodes:=λhm=>hy (aK.2 (Α (by simp only [BT.nodes];exact Λ _ hm)));exact gT (gT (hs3 y hy) (hs5 y (λhm=>hy (H3.out.2.1 y hm)))) (hs6 y h1)
 have u6:aa (B.blk F) w w6:=(hu1.mono (λy hy=>by simp only [SB.blk,ρ];simp [hy])).trans (hv6.mono (λy hy=>by
   simp only [ρ,ς,or_false] at hy;simp only [SB.blk,ρ];rcases hy with rfl|rfl
   ·simp [om]
   ·simp))
 have ku:=λW (hW:aa [] w6 W)=>I7 (rV.ai hW).trees ZT hxl;have VL:=λW (hW:aa [] w6 W)=>(rV.ai hW).h1;have uG:=χ rV;have H6:=χ (ψ ZT (ψ f6 Lc));have hmm:Hid (∀y,y∈m.nodes->y∉dC P/\y≠x):=λy hy=>by
  obtain ⟨⟨a1,a2,a3⟩,a4,a5,a6,a7⟩:=HP.out;have h1:=Ua.out.mem_iff.1 hy;rw [τ] at h1;rcases h1 with h1|h1
  ·exact ⟨a5 y h1,λe=>a1 (by rw [←e];exact h1)⟩
  ·exact ⟨a6 y h1,λe=>a2 (by rw [←e];exact h1)⟩
 have hmx:Hid (∀y,y∈m.nodes->y∈(ak P (.node x l r)).nodes):=λy hy=>aK.2 (Α (by
  have h1:=Ua.out.mem_iff.1 hy
  simp only [BT.nodes,ρ];exact Β h1))
 have JA:Hid m.nodes.Nodup:=Ua.out.nodup_iff.2 HP.out.2.1;have H31:=VL w6 (aa.refl _ _);have H32:=(rV.ai ((aa.refl [] w6).drew)).h1;clear rV ZT f6 Lc hs6 hs5 hs3 P5 hp3 JK hl3 Fe xQ lq km klo XM kr kl r1 hu1 g1 hv6 hv5 hv4 hv3 hv2 hq2 hq4 hu3 cB jy H31 H32;obtain ⟨wX,hwX,uX⟩:∃wX,wX=w6/\aa [] w6 wX:=⟨w6,rfl,aa.refl _ _⟩;cases P with
 | nil=>
  rw [show zK ([]:List Fr)=-1 from rfl,show tv (-1)=0 from rfl,show tb (-1)=false from rfl] at ku;have g61:=VL w6 (aa.refl _ _);clear VL
  go_wp2_with (first
   | ((go_at_call 240;(with_reducible refine (ku _ η).mono ?_));rintro e w7 ⟨rfl,kk,hw7⟩;(have u7:aa [] w6 w7:=(by rw [hw7];refine aa.drewN ?_ _;exact η));clear hw7;(have kc:=oC (uG.out.ai u7) g m.root ZV hmr))
   | ((go_at_call 256;(with_reducible refine (kc).mono ?_));rintro e w8 ⟨rfl,AV,hM8⟩;(have g80:=hM8.h0);(have kd:=fO hM8.cells x KU.out))
   | ((go_at_call 134;(with_reducible refine (kd).mono ?_));rintro e w9 ⟨rfl,hC9,xO⟩)
   | fail)
  go_ret;obtain ⟨b1,b2,b4⟩:=H6.out;have bx:=((dE _ _).1 b1).1;refine ⟨rfl,((u6.trans (u7.mono σ)).trans (AV.mono (by simp [SB.blk]))).trans (xO.mono (λy hy=>by simp only [SB.blk,ρ];simp [hy])),S6,(hM8.dV xO hC9 (λy hy=>Α hy) (dK _ _)).ext (λy=>?_),b4,b2,⟨bx.2.2.1.root,bx.2.2.2.root,bx.2.1⟩⟩
  by_cases e:y=(g:Int)
  ·rw [Δ (show ([]:List Fr)=[]/\y=(g:Int) from ⟨rfl,e⟩),Δ e];rfl
  ·rw [Γ e,Γ (show ¬ (([]:List Fr)=[]/\y=(g:Int)) from λh=>e h.2)]
 | cons fr P2=>
  rw [show zK (fr::P2)=(fr.1:Int) from rfl,NA,Mk] at ku;have hfl:fr.1<A.cs.length:=HT.out.2.2.2 fr.1 (aK.2 (Β (by simp [dC])));have JX:(ak (fr::P2) (.node x .nil .nil)).nodes.Nodup:=by
   refine (aX (fr::P2) (.node x .nil .nil)).nodup_iff.2 ?_;obtain ⟨⟨a1,a2,a3⟩,a4,a5,a6,a7⟩:=HP.out;simp only [BT.nodes,Ϛ,List.singleton_append,Ζ];exact ⟨a3,a7⟩
  have GZ:∀y,y∈(ak (fr::P2) (.node x .nil .nil)).nodes->y∈(ak (fr::P2) (.node x l r)).nodes:=λy hy=>by
   rw [aK] at hy ⊢;simp only [BT.nodes,Ϛ,ρ,ς,or_false] at hy;rcases hy with hy|hy
   ·exact Α (by simp [BT.nodes,hy])
   ·exact Β hy
  have XL:=λW (hW:aa [] w6 W)=>FZ (uG.out.ai hW).trees H6.out.1 JX hfl;have Pz:=λW (hW:aa [] w6 W)=>qA (uG.out.ai hW).trees (f:=fr) (P:=P2) (t:=.node x .nil .nil) H6.out.1 JX (λy hy=>HT.out.2.2.2 y (GZ y hy));rw [show BT.root (.node x .nil .nil)=(x:Int) from rfl] at Pz;generalize hcv:cutV fr (.node x .nil .nil)=cv at Pz;generalize hcb:tb (x:Int)=cb at Pz;have Fh:=χ (ψ JX GZ);have g61:=VL w6 (aa.refl _ _);clear JX GZ hcv hcb
  go_wp2_with (first
   | ((go_at_call 240;(with_reducible refine (ku _ η).mono ?_));rintro e w7 ⟨rfl,kk,hw7⟩;(have u7:aa [] w6 w7:=(by rw [hw7];refine aa.drewN ?_ _;exact η));clear hw7;(have g71:=VL w7 u7))
   | fail)
  obtain ⟨r',bb,hbb,kr⟩:=XL w7 u7;have hmz':(m=.nil/\(m.root != -1)=false)\/(m≠.nil/\(m.root != -1)=true):=by
   by_cases e:m=.nil
   ·exact Α ⟨e,by rw [e];rfl⟩
   ·exact Β ⟨e,by have:=(bL e).2;simp;omega⟩
  have YW:=χ VL;clear XL ku VL;rcases hmz' with ⟨hmz,hmb⟩|⟨hmz,hmb⟩
  ·have UF:=χ hmz;clear hmz;rcases hbb with ⟨rfl,hb2⟩|⟨rfl,hb2⟩
   all_goals
    go_wp2_with (first
     | ((go_at_call 239;(with_reducible refine (kr).mono ?_));rintro e w8 ⟨rfl,k8,hw8⟩;(have u8:aa [] w6 w8:=(by rw [hw8];exact u7.drewN k8));clear hw8;(have g81:=YW.out w8 u8);(have kc:=Pz w8 u8))
     | ((go_at_call 234;(with_reducible refine (kc).mono ?_));rintro e w9 ⟨rfl,xO,S9,QZ,Vw,hp9,Zm⟩;(have g90:=((uG.out.ai u8).gY xO QZ).h0);(have kd:=fO ((uG.out.ai u8).gY xO QZ).cells x KU.out))
     | ((go_at_call 134;(with_reducible refine (kd).mono ?_));rintro e w10 ⟨rfl,Gf,xI⟩)
     | fail)
    go_ret;have hz:=UF.out;subst hz;refine ⟨rfl,((u6.trans (u8.mono σ)).trans (xO.mono (by simp [SB.blk]))).trans (xI.mono (λy hy=>by simp only [SB.blk,ρ];simp [hy])),S9,(((uG.out.ai u8).gY xO QZ).dV xI Gf (λy hy=>Α hy) (dK _ _)).ext (λy=>by rw [Γ σ]),hp9,λy hy=>gT (H6.out.2.1 y hy) (Zm y (λhm=>hy (Fh.out.2 y hm))),⟨Vw.2.2.1.root,Vw.2.2.2.root,Vw.2.1⟩⟩
  ·have UF:=χ hmz;have hxm:∀y,y∈m.nodes->y∉(ak (fr::P2) (.node x .nil .nil)).nodes:=λy hy hm=>by
    have b1:=hmm.out y hy;rw [aK] at hm;simp only [BT.nodes,Ϛ,ρ,ς,or_false] at hm;rcases hm with hm|hm
    ·exact b1.2 hm
    ·exact b1.1 hm
   have hnd:(m.nodes++dC (fr::P2)).Nodup:=by
    rw [θ];exact ⟨JA.out,HP.out.2.2.2.2,λa ha b hb e=>(hmm.out a ha).1 (by rw [e];exact hb)⟩
   have hsm:∀y,y∈m.nodes++dC (fr::P2)->y∈(ak (fr::P2) (.node x l r)).nodes:=λy hy=>by
    rw [τ] at hy;rcases hy with hy|hy
    ·exact hmx.out y hy
    ·exact aK.2 (Β hy)
   have LJ:=χ (ψ hxm (ψ hnd hsm));clear hmz hxm hnd hsm;rcases hbb with ⟨rfl,hb2⟩|⟨rfl,hb2⟩
   all_goals
    go_wp2_with (first
     | ((go_at_call 239;(with_reducible refine (kr).mono ?_));rintro e w8 ⟨rfl,k8,hw8⟩;(have u8:aa [] w6 w8:=(by rw [hw8];exact u7.drewN k8));clear hw8;(have g81:=YW.out w8 u8);(have kc:=Pz w8 u8))
     | ((go_at_call 234;(with_reducible refine (kc).mono ?_));rintro e w9 ⟨rfl,xO,S9,QZ,Vw,hp9,Zm⟩;(have g91:=((uG.out.ai u8).gY xO QZ).h1);(have Z5:=Aj QZ hp9 (H6.out.2.2.frame (λy hy=>Zm y (LJ.out.1 y hy))) UF.out LJ.out.2.1 (λy hy=>HT.out.2.2.2 y (LJ.out.2.2 y hy)));(try rw [hb2] at Z5))
     | ((go_at_call 241;(with_reducible refine (Z5).mono ?_));rintro e w9b ⟨rfl,QA,S9b,UG,hp9b,Yy⟩;(have g90:=(((uG.out.ai u8).gY xO QZ).gY QA UG).h0);(have kd:=fO (((uG.out.ai u8).gY xO QZ).gY QA UG).cells x KU.out))
     | ((go_at_call 134;(with_reducible refine (kd).mono ?_));rintro e w10 ⟨rfl,Gf,xI⟩)
     | fail)
    go_ret;have sD:x∉m.nodes++dC (fr::P2):=λhm=>by
     rw [τ] at hm;rcases hm with hm|hm
     ·exact (hmm.out x hm).2 rfl
     ·exact HP.out.1.2.2 hm
    have a3:=Yy x sD;refine ⟨rfl,(((u6.trans (u8.mono σ)).trans (xO.mono (by simp [SB.blk]))).trans (QA.mono (by simp [SB.blk]))).trans (xI.mono (λy hy=>by simp only [SB.blk,ρ];simp [hy])),S9b,((((uG.out.ai u8).gY xO QZ).gY QA UG).dV xI Gf (λy hy=>Α hy) (dK _ _)).ext (λy=>by rw [Γ σ]),hp9b,λy hy=>gT (gT (H6.out.2.1 y hy) (Zm y (λhm=>hy (Fh.out.2 y hm)))) (Yy y (λhm=>hy (LJ.out.2.2 y hm))),⟨a3.1.trans Vw.2.2.1.root,a3.2.1.trans Vw.2.2.2.root,a3.2.2.trans Vw.2.1⟩⟩
theorem Ej (h:lC w B F A st tr) (g x:Nat) (hx:x∈(tr g).nodes) :
  Calls Tryz.prog 251 #[.pointer (some ⟨B.n0,0,none⟩),.int .i64 (x:Int)] w λe w'=>e=.returned (.bool true)/\aa (B.blk F) w w'/\
   lC w' B F (aU A x) (bS st (CZ A (tr g) x).2) (λq=>if q=g then (CZ A (tr g) x).1 else tr q):=by
 obtain ⟨S,hM,hI⟩:=h;have hm:=(hI.mem g x).1 hx;have hin:bR A (x:Int)=true:=(ay A x).2 ⟨hm.2.1,ω⟩;have e:=wy hx;unfold CZ;generalize (pathOf (tr g) x).1=P at *;generalize (pathOf (tr g) x).2.1=l at *;generalize (pathOf (tr g) x).2.2=r at *;have hq:1<=g/\g<A.hs.length:=by have:=hM.cells.ok.nat x hm.2.1;omega
 have Yb:=hM.cells.ok.h1;have hT:=hI.zP g;have hn:=hI.nd g;have hH:=hI.heap g;rw [e] at hT hn hH;obtain ⟨d1,d2,d3⟩:=Du vL hn hH;refine (BH hM hin hm.2.2 ω hT hn (λy hy=>?_)).mono ?_
 ·rw [←e] at hy;have:=(hI.mem g y).1 hy;exact (ay A y).2 ⟨this.2.1,ω⟩
 ·rintro e' w' ⟨rfl,hu,S',q1,q2,q4,q5⟩;refine ⟨rfl,hu,S',q1.ext (λy=>?_),(vg.del (kE:=ve (aU A x) (λq=>if q=g then (ak P (aC oo A l r).1) else tr q)) hI hx q2 ?_ d2 (λy hy=>q4 y (by rw [←e];exact hy)) q5 (λq hq'=>?_))⟩
  ·rw [←CR (A':=aU A x) (tr:=tr) (t:=ak P (aC oo A l r).1) (by rw [gM]) hq y]
   by_cases ey:y=(g:Int)
   ·rw [Δ ey]
    by_cases hp:P=[]
    ·rw [Δ ⟨hp,ey⟩]
    ·rw [Γ (λh=>hp h.1),ey];cases P with
     | nil=>exact absurd rfl hp
     | cons f P2=>
      unfold nU;rw [Δ ω,π,e,oU f P2 (.node x l r) (aC oo A l r).1]
   ·rw [Γ ey,Γ (λh=>ey h.2)]
  ·rw [e];exact d1
  ·have hq'':q<(aU A (x:Int)).hs.length:=by rw [gM];exact hq'
   unfold ve;rw [φ,ϑ,List.getElem?_range hq'']
   show (if q=g then ak P (aC oo A l r).1 else tr q).root=_
   by_cases eq:q=g
   ·rw [Δ eq,Δ eq]
   ·rw [Γ eq,Γ eq];rw [φ,ϑ,List.getElem?_range hq'];rfl
theorem y9 (h:lC w B F A st tr) (g:Nat) (hn:0<bU A g) :
  Calls Tryz.prog 252 #[.pointer (some ⟨B.n0,0,none⟩),.int .i64 (g:Int)] w λe w'=>∃m:Nat,dM A g=some m/\e=.returned (.tuple #[.int .i64 (m:Int),.bool true])/\aa (B.blk F) w w'/\
   lC w' B F (aU A m) (bS st (CZ A (tr g) m).2) (λq=>if q=g then (CZ A (tr g) m).1 else tr q):=by
 have k:=zV h g hn;have kd:=λm hm=>Ej h g m hm;have hroot:∀m:Nat,(tr g).root=m->m∈(tr g).nodes:=λm hm=>by
  have hne:tr g≠.nil:=λe=>by rw [e] at hm;have:(-1:Int)=m:=hm;omega
  have:=(bL hne).1;rw [hm] at this;simpa using this
 clear h
 go_enter Tryz.func252,Tryz.ntmps252
 go_wp2_with (first
  | ((go_at_call 255;(with_reducible refine (k).mono ?_));rintro e w1 ⟨m,hm1,hm2,rfl,rfl⟩;(have Yg:=kd m (hroot m hm2)))
  | ((go_at_call 251;(with_reducible refine (Yg).mono ?_));rintro e w2 ⟨rfl,hu2,hL2⟩)
  | fail)
 go_ret2;exact ⟨m,hm1,rfl,hu2,hL2⟩
end
theorem KC {A A':NS} {tr:Nat->BT} {a b:Nat} {t:BT} (hl:A'.hs.length=A.hs.length) (ha:1<=a/\a<A.hs.length) (hb:1<=b/\b<A.hs.length) (hne:a≠b) (k:Int) :
  (if k=(b:Int) then (if (-1:Int)=-1 then none else some (-1)) else if k=(a:Int) then (if t.root=-1 then none else some t.root) else nU A tr k)=nU A' (λq=>if q=a then t else if q=b then .nil else tr q) k:=by
 unfold nU;rw [hl]
 by_cases e1:k=(b:Int)
 ·subst e1;rw [Δ rfl,Δ rfl,Δ ω,π];have:(λq=>if q=a then t else if q=b then .nil else tr q) b=.nil:=by
   show (if b=a then t else if b=b then .nil else tr b)=_
   rw [Γ (Ne.symm hne),Δ rfl]
  rw [this];rfl
 ·rw [Γ e1]
  by_cases e2:k=(a:Int)
  ·subst e2;rw [Δ rfl,Δ (show 1<=(a:Int)/\(a:Int)<A.hs.length by omega),π];have:(λq=>if q=a then t else if q=b then .nil else tr q) a=t:=by
    show (if a=a then t else if a=b then .nil else tr a)=_
    rw [Δ rfl]
   rw [this]
  ·rw [Γ e2]
   by_cases h:1<=k/\k<A.hs.length
   ·rw [Δ h,Δ h];have:(λq=>if q=a then t else if q=b then .nil else tr q) k.toNat=tr k.toNat:=by
     show (if k.toNat=a then t else if k.toNat=b then .nil else tr k.toNat)=_
     rw [Γ ω,Γ ω]
    rw [this]
   ·rw [Γ h,Γ h]
section
variable {w:World} {B:SB} {F:List Nat} {A:NS} {st:Nat} {tr:Nat->BT}
theorem Kw (h:lC w B F A st tr) (a b:Nat) (hj:fQ A a b=true) :
  Calls Tryz.prog 254 #[.pointer (some ⟨B.n0,0,none⟩),.int .i64 (a:Int),.int .i64 (b:Int)] w λe w'=>e=.returned (.bool true)/\aa (B.blk F) w w'/\
   lC w' B F (ah A a b) (bS st (Az oo A tr a b).2) (λq=>if q=a then (Az oo A tr a b).1 else if q=b then .nil else tr q):=by
 obtain ⟨S,hM,hI⟩:=h;obtain ⟨j1,j2,j3⟩:=(cO _ _ _).1 hj;have a1:=(aA _ _).1 j1;have a2:=(aA _ _).1 j2;have hne:a≠b:=λe=>j3 (by rw [e]);have hcs:=dA A a b;have iN:(ah A a b).hs.length=A.hs.length:=by unfold ah;rw [Δ hj];simp
 have hX:((tr a).nodes++(tr b).nodes).Nodup:=by
  rw [θ];refine ⟨hI.nd a,hI.nd b,λx hx y hy e2=>?_⟩;have b1:=(hI.mem a x).1 hx;have b2:=(hI.mem b y).1 hy;rw [e2] at b1;omega
 have hin:∀y,y∈(tr a).nodes++(tr b).nodes->bR (ah A a b) (y:Int)=true:=λy hy=>by
  rw [ay,hcs,kY hj];rw [τ] at hy;rcases hy with hy|hy
  ·have:=(hI.mem a y).1 hy;refine ⟨this.2.1,?_⟩
   show 0<(if _ then _ else _:Int)
   split<;>omega
  ·have:=(hI.mem b y).1 hy;refine ⟨this.2.1,?_⟩
   show 0<(if _ then _ else _:Int)
   split<;>omega
 obtain ⟨mp,mh⟩:=mF vL (ah A a b) _ (tr a) (tr b) (Θ _);have Ka:=mh (lN hj (hI.heap a)) (lN hj (hI.heap b)) hX;have CY:=hI.zP a;have CJ:=hI.zP b;have hfa:=uW A tr a ω;have hfb:=uW A tr b ω;have ok:=hM.cells.ok;have Yb:=ok.h1
 have hmr:=Hu hI ok.c1 (t:=(aC oo (ah A a b) (tr a) (tr b)).1) (λy hy=>by
  have h1:=mp.mem_iff.1 hy;have:=(ay _ y).1 (hin y h1)
  rw [hcs] at this;exact this.1)
 have hqa:1<=a/\a<A.hs.length:=ω;have Tz:1<=b/\b<A.hs.length:=ω;unfold Az
 have FI:Hid (∀ (W:World) (S':TS) (st':Nat),mJ W B F (ah A a b) st' S' (λk=>if k=(b:Int) then (if (-1:Int)=-1 then none else some (-1)) else if k=(a:Int) then (if (aC oo (ah A a b) (tr a) (tr b)).1.root=-1 then none else some (aC oo (ah A a b) (tr a) (tr b)).1.root) else nU A tr k)->bY S' (-1) (aC oo (ah A a b) (tr a) (tr b)).1.root (aC oo (ah A a b) (tr a) (tr b)).1->
   (∀y,y∉(tr a).nodes++(tr b).nodes->S.at S' y)->lC W B F (ah A a b) st' (λq=>if q=a then (aC oo (ah A a b) (tr a) (tr b)).1 else if q=b then .nil else tr q)):=λW S' st' b1 b2 b4=>by
  refine ⟨S',b1.ext (KC iN hqa Tz hne),(hI.join hj b2 mp Ka b4 (kE:=ve (ah A a b) (λq=>if q=a then (aC oo (ah A a b) (tr a) (tr b)).1 else if q=b then .nil else tr q)) (λq hq=>?_)).I9⟩;unfold ve;rw [iN];simp only [φ,ϑ,List.getElem?_range hq,Option.map_some,Option.getD_some]
  by_cases e:q=a
  ·rw [Δ e,Δ e]
  ·rw [Γ e,Γ e]
   by_cases e2:q=b
   ·rw [Δ e2,Δ e2];rfl
   ·rw [Γ e2,Γ e2]
 have kj:=jQ hM.cells a b hj;have h0:=hM.h0;have HM:=χ hM;have HH:=χ (ψ hX (ψ hin (ψ CY CJ)));have om:=hM.cF;clear hM hI hX hin mp mh Ka CY CJ j1 j2 j3 a1 a2 ok;generalize hA':ah A a b=A' at *;generalize Xo:tr a=ta at *;generalize XI:tr b=tb at *
 go_enter Tryz.func254,Tryz.ntmps254
 go_wp2_with (first
  | ((go_at_call 141;(with_reducible refine (kj).mono ?_));rintro e w1 ⟨rfl,gK,hu1⟩)
  | fail)
 have hM1:=HM.out.dV hu1 gK (λy hy=>Α hy) hcs;have k1:=mf hM1 (a:Int) ω;rw [hfa] at k1;have k2:=mf hM1 (b:Int) ω;rw [hfb] at k2;have km:=sP hM1 HH.out.2.2.1 HH.out.2.2.2 HH.out.1 HH.out.2.1;have nC:=χ hM1;clear hM1 gK
 go_wp2_with (first
  | ((go_at_call 258;(first|(with_reducible refine (k1).mono ?_)|(with_reducible refine (k2).mono ?_)));rintro e w9 ⟨rfl,rfl⟩)
  | ((go_at_call 257;(with_reducible refine (km).mono ?_));rintro e w2 ⟨rfl,hu2,S2,hM2,rM,hs2⟩;(have kc:=oC hM2 a _ ω hmr))
  | ((go_at_call 256;(first|(with_reducible refine (kc).mono ?_;rintro e w3 ⟨rfl,hu3,lq⟩;(have kd:=oC lq b (-1) ω ω))|(with_reducible refine (kd).mono ?_;rintro e w4 ⟨rfl,jJ,xg⟩))))
  | fail)
 go_ret;refine ⟨rfl,(((hu1.mono (λy hy=>by simp only [SB.blk,ρ];simp [hy])).trans (hu2.mono (λy hy=>?_))).trans (hu3.mono (by simp [SB.blk]))).trans (jJ.mono (by simp [SB.blk])),FI.out _ S2 _ xg rM hs2⟩;simp only [ρ,ς,or_false] at hy;simp only [SB.blk,ρ];rcases hy with rfl|rfl
 ·simp [om]
 ·simp
end
theorem OX (n:Nat) (w:World) (h:n<=65536) :
  Calls Tryz.prog 68 #[.int .i64 (n:Int)] w λe w'=>∃B F,e=.returned (.tuple #[.pointer (some ⟨B.n0,0,none⟩),.int .i64 0])/\lC w' B F (NS.new n) 0 (λ_=>.nil)/\aa [] w w'/\∀x,x∈B.blk F->w.heap.size<=x:=by
 have hmm:=@run_makeMap Tryz.prog
 go_enter Tryz.func68,Tryz.ntmps68
 go_wp2_with (first
  | ((go_at_call 84;(with_reducible refine (lX n _ h).mono ?_));rintro e w1 ⟨c,F,rfl,hC,hu1,hF⟩)
  | ((go_at_call 89;(with_reducible refine (tK n _ h).mono ?_));rintro e w2 ⟨bt,ba,rfl,hT,hu2,hb1,hb2⟩))
 go_ret2;have hcs:(NS.new n).cs.length=n:=by simp [NS.new]
 have l1:=hu1.size;have l2:=hu2.size;have l5:=hT.head.lt;have l6:=hT.row.lt;have l7:=hC.lt;have lc:=l7 c hC.mem;have hm:=dW.made w2;have e3:((w2.alloc (.map #[] 0)).heap.size)=w2.heap.size+1:=by rw [Κ]
 have hv1:aa [] w2 (w2.alloc (.map #[] 0)):=(aa.refl _ _).alloc _;have hv2:aa [] (w2.alloc (.map #[] 0)) ((w2.alloc (.map #[] 0)).alloc (.cells #[.pointer (some ⟨c,0,none⟩),.pointer (some ⟨bt,0,none⟩),.map (some w2.heap.size)] 207)):=(aa.refl _ _).alloc _;have hv:=hv1.trans hv2;have hh:=dL (w2.alloc (.map #[] 0)) [.pointer (some ⟨c,0,none⟩),.pointer (some ⟨bt,0,none⟩),.map (some w2.heap.size)] 207;rw [e3] at hh;have hnF:∀x,w1.heap.size<=x->x∉F:=λx hx hm=>by have:=l7 x hm;omega
 refine ⟨⟨w2.heap.size+1,c,bt,ba,w2.heap.size⟩,F,rfl,⟨TS.none,⟨hh,(hC.ai hu2).ai hv,by rw [hcs];exact hT.upd hv σ σ,?_,⟨hnF _ (by simp only;omega),hnF _ (by simp only;omega),hnF _ (by simp only;omega),hnF _ (by simp only;omega)⟩,⟨⟨by simp only;omega,by simp only;omega,by simp only;omega⟩,by simp only;omega,by simp only;omega⟩⟩,(BS n).I9⟩,(hu1.trans hu2).trans hv,λx hx=>?_⟩
 ·refine (hm.upd hv2 σ).ext (λk=>?_);unfold nU
  split
  ·rfl
  ·rfl
 ·simp only [SB.blk,ρ] at hx;rcases hx with rfl|rfl|rfl|rfl|hx
  ·omega
  ·omega
  ·omega
  ·omega
  ·exact hF x hx
section
variable {w:World} {B:SB} {F:List Nat} {A:NS} {st:Nat} {tr:Nat->BT}
theorem lC.make {w':World} {F':List Nat} (h:lC w B F A st tr) (hl:¬65536<A.hs.length) (hu:aa F w w') (hC:aB w' B.c F' (aI A) st) (hF:∀x,x∈F'->x∈F\/w.heap.size<=x):lC w' B F' (aI A) st tr:=by
 obtain ⟨S,hM,hI⟩:=h;have ok:=hM.cells.ok;have e1:(aI A).cs.length=A.cs.length:=by unfold aI;rw [Γ hl]
 have e2:(aI A).hs.length=A.hs.length+1:=by unfold aI;rw [Γ hl];simp
 have hI2:=hI.make ok (by simp [ve]) hl;have hnil:(tr A.hs.length)=.nil:=by
  cases e:tr A.hs.length with
  | nil=>rfl
  | node y a b=>
   exfalso;have:=(hI.mem A.hs.length y).1 (by rw [e];simp [BT.nodes]);have h3:=jB ok ((ay A y).2 ⟨this.2.1,ω⟩);have:=(aA _ _).1 h3;rw [π] at this;omega
 refine ⟨S,(hM.dV hu hC hF e1).ext (λk=>?_),hI2.I9⟩;unfold nU;rw [e2]
 by_cases h1:1<=k/\k<A.hs.length
 ·rw [Δ h1,Δ (show 1<=k/\k<((A.hs.length+1:Nat):Int) by omega)]
 ·rw [Γ h1]
  by_cases h2:k=A.hs.length
  ·subst h2;rw [π,hnil]
   split
   ·rfl
   ·rfl
  ·rw [Γ (show ¬ (1<=k/\k<((A.hs.length+1:Nat):Int)) by omega)]
end
theorem Hm (p c:Nat):∀W:World,W.cell? ⟨p,0,none⟩=some (.pointer (some ⟨c,0,none⟩))->(method 409 142 (.pointer (some ⟨p,0,none⟩)) "Has").run Tryz.prog W=.ok (123,.pointer (some ⟨c,0,none⟩)) W:=(by intro W h;unfold method;have hm:∃m,(Array.find? (λx=>x.name == "Has") Tryz.t142.methods)=some m/\m.path.toList=[⟨207,0,true⟩]/\m.func=some (123,true)/\m.path.isEmpty=false:=⟨(Array.find? (λx=>x.name == "Has") Tryz.t142.methods).get!,by kernel_rfl,by kernel_rfl,by kernel_rfl,by kernel_rfl⟩;obtain ⟨m,h1,h2,h3,h4⟩:=hm;go_simp;simp only [follow,Place.get];go_simp;(try unfold receiverAt);(try simp only [Place.get]);(try go_simp))
theorem Cq (p c:Nat):∀W:World,W.cell? ⟨p,0,none⟩=some (.pointer (some ⟨c,0,none⟩))->(method 409 142 (.pointer (some ⟨p,0,none⟩)) "Entry").run Tryz.prog W=.ok (121,.pointer (some ⟨c,0,none⟩)) W:=(by intro W h;unfold method;have hm:∃m,(Array.find? (λx=>x.name == "Entry") Tryz.t142.methods)=some m/\m.path.toList=[⟨207,0,true⟩]/\m.func=some (121,true)/\m.path.isEmpty=false:=⟨(Array.find? (λx=>x.name == "Entry") Tryz.t142.methods).get!,by kernel_rfl,by kernel_rfl,by kernel_rfl,by kernel_rfl⟩;obtain ⟨m,h1,h2,h3,h4⟩:=hm;go_simp;simp only [follow,Place.get];go_simp;(try unfold receiverAt);(try simp only [Place.get]);(try go_simp))
theorem EL (p c:Nat):∀W:World,W.cell? ⟨p,0,none⟩=some (.pointer (some ⟨c,0,none⟩))->(method 409 142 (.pointer (some ⟨p,0,none⟩)) "Make").run Tryz.prog W=.ok (140,.pointer (some ⟨c,0,none⟩)) W:=(by intro W h;unfold method;have hm:∃m,(Array.find? (λx=>x.name == "Make") Tryz.t142.methods)=some m/\m.path.toList=[⟨207,0,true⟩]/\m.func=some (140,true)/\m.path.isEmpty=false:=⟨(Array.find? (λx=>x.name == "Make") Tryz.t142.methods).get!,by kernel_rfl,by kernel_rfl,by kernel_rfl,by kernel_rfl⟩;obtain ⟨m,h1,h2,h3,h4⟩:=hm;go_simp;simp only [follow,Place.get];go_simp;(try unfold receiverAt);(try simp only [Place.get]);(try go_simp))
theorem Jv (p:Nat):∀W:World,(method 409 142 (.pointer (some ⟨p,0,none⟩)) "Insert").run Tryz.prog W=.ok (253,.pointer (some ⟨p,0,none⟩)) W:=λ_=>by kernel_rfl
theorem TH (p:Nat):∀W:World,(method 409 142 (.pointer (some ⟨p,0,none⟩)) "Min").run Tryz.prog W=.ok (255,.pointer (some ⟨p,0,none⟩)) W:=λ_=>by kernel_rfl
theorem Gi (p:Nat):∀W:World,(method 409 142 (.pointer (some ⟨p,0,none⟩)) "Extract").run Tryz.prog W=.ok (252,.pointer (some ⟨p,0,none⟩)) W:=λ_=>by kernel_rfl
def SkQ (w:World) (p:Nat) (F:List Nat) (A:NS):Prop:=∃B F1 st tr,p=B.n0/\F=B.blk F1/\lC w B F1 A st tr
def uI:NestQ where
 ty:=142
 at_:=SkQ
 upd:=λh hu hS=>by
  obtain ⟨B,F1,st,tr,rfl,rfl,hL⟩:=h;exact ⟨B,F1,st,tr,rfl,rfl,hL.upd hu hS⟩
 lt:=λh=>by
  obtain ⟨B,F1,st,tr,rfl,rfl,S,hM, -⟩:=h;exact hM.lt
 ok:=λh=>by
  obtain ⟨B,F1,st,tr,rfl,rfl,S,hM, -⟩:=h;exact hM.cells.ok
 make:=λ{w p F A} h=>by
  obtain ⟨B,F1,st,tr,rfl,rfl,hL⟩:=h;have h0:w.cell? ⟨B.n0,0,none⟩=some (.pointer (some ⟨B.c,0,none⟩)):=by obtain ⟨S,hM, -⟩:=hL;exact hM.h0
  refine gN 140 (λ_ _=>by kernel_rfl) h0 (EL _ _) (λW hW=>?_);have mg:=hL.ai hW;have hC:aB W B.c F1 A st:=by obtain ⟨S,hM, -⟩:=mg;exact hM.cells
  refine (gQ hC).mono ?_;rintro e w' ⟨rfl,F',hC2,hu,hf⟩;have hu2:aa (B.blk F1) W w':=hu.mono (λz hz=>by simp only [SB.blk,ρ];simp [hz]);have hf2:∀z,z∈B.blk F'->z∈B.blk F1\/W.heap.size<=z:=λz hz=>by
   simp only [SB.blk,ρ] at hz ⊢;rcases hz with rfl|rfl|rfl|rfl|hz
   ·simp
   ·simp
   ·simp
   ·simp
   ·rcases hf z hz with h1|h1
    ·simp [h1]
    ·exact Β h1
  refine ⟨rfl,B.blk F',?_,hu2,hf2⟩
  by_cases hl:65536<A.hs.length
  ·have e2:aI A=A:=by unfold aI;rw [Δ hl]
   rw [e2] at hC2 ⊢;obtain ⟨S,hM,hI⟩:=mg;exact ⟨B,F',st,tr,rfl,rfl,S,hM.dV hu hC2 hf rfl,hI⟩
  ·exact ⟨B,F',st,_,rfl,rfl,mg.make hl hu hC2 hf⟩
 insert:=λ{w p F A} g y k s hk hB h=>by
  obtain ⟨B,F1,st,tr,rfl,rfl,hL⟩:=h;refine aP 253 (λ_ _=>by kernel_rfl) (Jv _) (λW hW=>?_);refine (DL (hL.ai hW) g y k s hk hB).mono ?_;rintro e w' ⟨rfl,hu,hL2⟩;exact ⟨rfl,Goes.stay ⟨B,F1,_,_,rfl,rfl,hL2⟩ hu⟩
 min:=λ{w p F A} y hB h=>by
  obtain ⟨B,F1,st,tr,rfl,rfl,hL⟩:=h;refine aP 255 (λ_ _=>by kernel_rfl) (TH _) (λW hW=>?_);have mg:=hL.ai hW;have hok:A.Ok:=by obtain ⟨S,hM, -⟩:=hL;exact hM.cells.ok
  by_cases hl:bU A (y:Int)=0
  ·rw [gI.2 hl];have h4:=(aA _ _).1 hB;have h5:=hok.h1;refine (JE mg y ω hl).mono ?_;rintro e w' ⟨rfl,rfl⟩;exact ⟨rfl,Goes.stay ⟨B,F1,st,tr,rfl,rfl,mg⟩ (aa.refl _ _)⟩
  ·refine (zV mg y ω).mono ?_;rintro e w' ⟨m,hm, -,rfl,rfl⟩;rw [hm];exact ⟨rfl,Goes.stay ⟨B,F1,st,tr,rfl,rfl,mg⟩ (aa.refl _ _)⟩
 extract:=λ{w p F A} y m hm h=>by
  obtain ⟨B,F1,st,tr,rfl,rfl,hL⟩:=h;refine aP 252 (λ_ _=>by kernel_rfl) (Gi _) (λW hW=>?_);have hl:¬bU A (y:Int)=0:=λe=>by rw [gI.2 e] at hm;cases hm
  refine (y9 (hL.ai hW) y ω).mono ?_;rintro e w' ⟨m',hm',rfl,hu,hL2⟩;rw [hm] at hm';cases hm';exact ⟨rfl,Goes.stay ⟨B,F1,_,_,rfl,rfl,hL2⟩ hu⟩
 has:=λx h=>by
  obtain ⟨B,F1,st,tr,rfl,rfl,S,hM, -⟩:=h;exact gN 123 (λ_ _=>by kernel_rfl) hM.h0 (Hm _ _) (λW hW=>iM (hM.ai hW).cells x)
 entry:=λ{w p F A} x h=>by
  obtain ⟨B,F1,st,tr,rfl,rfl,S,hM, -⟩:=h;refine gN 121 (λ_ _=>by kernel_rfl) hM.h0 (Cq _ _) (λW hW=>?_);cases hin:bR A x with
  | false=>simpa using jP (hM.ai hW).cells x hin
  | true=>
   obtain ⟨y,rfl⟩:=oW hin;simpa using iZ (hM.ai hW).cells y hin
theorem Fw (p:Nat) (w:World):Calls Tryz.prog 67 #[.pointer (some ⟨p,0,none⟩),.int .i64 0] w λe w'=>e=.returned (.tuple #[.iface 142 (.pointer (some ⟨p,0,none⟩)),.int .i64 0])/\w'=w:=by
 go_enter Tryz.func67,Tryz.ntmps67
 go_wp2;go_ret2;exact ⟨rfl,rfl⟩
theorem Dm (n:Nat) (hn:n<=65536):nW uI 7 0 n:=by
 intro w;have kn:=λW=>OX n W hn;have km:=Fw;have hty:uI.ty=142:=rfl;have hat:∀w' B F,lC w' B F (NS.new n) 0 (λ_=>.nil)->uI.at_ w' B.n0 (B.blk F) (NS.new n)/\Ef w' B.n0 n:=λw' B F h=>⟨⟨B,F,_,_,rfl,rfl,h⟩,by obtain ⟨S,hM, -⟩:=h;exact ⟨_,_,hM.h0,hM.cells⟩⟩
 generalize uI=K at *;rw [hty]
 go_enter Tryz.func35,Tryz.ntmps35
 go_wp2_with (first
  | ((go_at_call 68;(with_reducible refine (kn _).mono ?_));rintro e w1 ⟨B,F,rfl,hS,hu1,hf⟩)
  | ((go_at_call 67;(with_reducible refine (km _ _).mono ?_));rintro e w2 ⟨rfl,rfl⟩)
  | fail)
 go_ret2;exact ⟨B.n0,B.blk F,rfl,(hat _ _ _ hS).1,(hat _ _ _ hS).2,aa.trans β hu1,λx hx=>by have:=hf x hx;simp at this;omega⟩
end Go.Proofs.YtnpdakpagnpanaaGreat
