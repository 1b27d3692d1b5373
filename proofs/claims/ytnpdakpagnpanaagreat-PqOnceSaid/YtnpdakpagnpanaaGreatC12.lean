/-
  Lemmas for PqAlike: Sk, Sk2, Sk3, Sk4, Sk5, Sk6, SkQ, SkO. Conditions: those of each lemma.
-/
import Derived.Test.YtnpdakpagnpanaaGreatC08
set_option linter.all false
set_option maxHeartbeats 8000000
set_option maxRecDepth 10000
namespace Go.Proofs.YtnpdakpagnpanaaGreat
open Tryz
open Go Go.RowKit
structure SB where
 n0:Nat
 c:Nat
 bt:Nat
 ba:Nat
 mb:Nat
structure nM(w:World)(B:SB)(F:List Nat)(A:NS)(st:Nat)(S:TS)(f:Int->Option Int):Prop where
 head:aS w B.n0 207 3 (λj=>[Value.pointer (some ⟨B.c,0,none⟩),.pointer (some ⟨B.bt,0,none⟩),.map (some B.mb)].getD j undef)
 cells:aF w B.c F A st
 trees:bL w B.bt B.ba A.cs.length S
 top:fJ w B.mb f
 bS:B.n0∉F/\B.bt∉F/\B.ba∉F/\B.mb∉F
 sep:(B.n0≠B.bt/\B.n0≠B.ba/\B.n0≠B.mb)/\(B.bt≠B.mb/\B.ba≠B.mb)
section
variable{w:World}{B:SB}{F:List Nat}{A:NS}{st:Nat}{S:TS}{f:Int->Option Int}
def SB.blk(B:SB)(F:List Nat):List Nat:=B.n0::B.bt::B.ba::B.mb::F
theorem nM.upd{w':World}{G:List Nat}(h:nM w B F A st S f)(hu:ae G w w')(hG:∀x,x∈G->x∉B.blk F):nM w' B F A st S f:=by
 have hb:∀y,y∈B.blk F->y∉G:=λy hy hm=>hG y hm hy;exact⟨h.head.upd hu (hb _ (by simp[SB.blk])),h.cells.upd hu (λx hx hm=>hG x hx (by simp[SB.blk,hm])),h.trees.upd hu (hb _ (by simp[SB.blk])) (hb _ (by simp[SB.blk])),h.top.upd hu (hb _ (by simp[SB.blk])),h.bS,h.sep⟩
theorem nM.ag{w':World}(h:nM w B F A st S f)(hu:ae [] w w'):nM w' B F A st S f:=h.upd hu σ
theorem nM.lt(h:nM w B F A st S f):∀x,x∈B.blk F->x<w.heap.size:=λx hx=>by
 simp only[SB.blk,ρ] at hx;rcases hx with rfl|rfl|rfl|rfl|hx
 ·exact h.head.lt
 ·exact h.trees.head.lt
 ·exact h.trees.row.lt
 ·exact h.top.lt
 ·exact h.cells.lt x hx
theorem nM.cF(h:nM w B F A st S f):B.c∈F:=h.cells.mem
theorem nM.h0(h:nM w B F A st S f):w.cell? ⟨B.n0,0,none⟩=some (.pointer (some ⟨B.c,0,none⟩)):=h.head.cellAt 0 ω rfl
theorem nM.h1(h:nM w B F A st S f):w.cell? ⟨B.n0,1,none⟩=some (.pointer (some ⟨B.bt,0,none⟩)):=h.head.cellAt 1 ω rfl
theorem nM.h2(h:nM w B F A st S f):w.cell? ⟨B.n0,2,none⟩=some (.map (some B.mb)):=h.head.cellAt 2 ω rfl
theorem nM.iC{w':World}{S':TS}(h:nM w B F A st S f)(hu:ae [B.ba] w w')(hT:bL w' B.bt B.ba A.cs.length S'):nM w' B F A st S' f:=by
 obtain⟨⟨s1,s2,s3⟩,s4,s5⟩:=h.sep;obtain⟨f1,f2,f3,f4⟩:=h.bS;exact⟨h.head.upd hu (by simp;exact s2),h.cells.upd hu (λx hx hm=>by simp at hx;subst hx;exact f3 hm),hT,h.top.upd hu (by simp;exact Ne.symm s5),h.bS,h.sep⟩
theorem nM.setM{w':World}{f':Int->Option Int}(h:nM w B F A st S f)(hu:ae [B.mb] w w')(hM:fJ w' B.mb f'):nM w' B F A st S f':=by
 obtain⟨⟨s1,s2,s3⟩,s4,s5⟩:=h.sep;obtain⟨f1,f2,f3,f4⟩:=h.bS;exact⟨h.head.upd hu (by simp;exact s3),h.cells.upd hu (λx hx hm=>by simp at hx;subst hx;exact f4 hm),h.trees.upd hu (by simp;exact s4) (by simp;exact s5),hM,h.bS,h.sep⟩
theorem nM.cB{w':World}{F':List Nat}{A':NS}{st':Nat}(h:nM w B F A st S f)(hu:ae F w w')(hC:aF w' B.c F' A' st')(hF:∀x,x∈F'->x∈F\/w.heap.size<=x)(h1:A'.cs.length=A.cs.length):nM w' B F' A' st' S f:=by
 obtain⟨f1,f2,f3,f4⟩:=h.bS;have hn:∀y,y<w.heap.size->y∉F->y∉F':=λy hy hm hm'=>by rcases hF y hm' with h'|h';exact hm h';omega
 have hl:=h.lt;exact⟨h.head.upd hu f1,hC,by rw[h1];exact h.trees.upd hu f2 f3,h.top.upd hu f4,⟨hn _ (hl _ (by simp[SB.blk])) f1,hn _ (hl _ (by simp[SB.blk])) f2,hn _ (hl _ (by simp[SB.blk])) f3,hn _ (hl _ (by simp[SB.blk])) f4⟩,h.sep⟩
def Qt(o:Option Int):Int:=o.getD (-1)
theorem l8(h:nM w B F A st S f)(q:Int)(hq:-9223372036854775808<=q/\q<=9223372036854775807) :
  Calls prog 258 #[.pointer (some ⟨B.n0,0,none⟩),.int .i64 q] w λe w'=>e=.returned (.int .i64 (Qt (f q)))/\w'=w:=by
 have h2:=h.h2;have ht:=h.top;have k:=ht.look_ok q hq;unfold Qt;cases hf:f q with
 |none=>
  rw[hf] at k;simp only[Option.getD_none,Option.isSome_none] at k ⊢;clear ht h
  go_enter func258,ntmps258
  go_wp2;go_ret;exact⟨rfl,rfl⟩
 |some z=>
  rw[hf] at k;simp only[Option.getD_some,Option.isSome_some] at k ⊢;clear ht h
  go_enter func258,ntmps258
  go_wp2;go_ret;exact⟨rfl,rfl⟩
theorem oF(h:nM w B F A st S f)(q:Nat)(z:Int)(hq:1<=q/\q<=65536)(hz:-1<=z/\z<=9223372036854775807) :
  Calls prog 256 #[.pointer (some ⟨B.n0,0,none⟩),.int .i64 (q:Int),.int .i64 z] w λe w'=>e=.returned (.tuple #[])/\ae [B.mb] w w'/\nM w' B F A st S (λy=>if y=(q:Int) then(if z=-1 then none else some z) else f y):=by
 have h2:=h.h2;have ht:=h.top;have H:=χ h
 by_cases he:z=-1
 ·subst he;clear h
  go_enter func256,ntmps256
  go_wp2_with (refine mF rfl _ _ rfl B.mb f rfl ht q rfl ω ?_;intro w1 hm1 hu1)
  go_end0;exact⟨rfl,hu1,H.out.setM hu1 hm1⟩
 ·have hb:(z == -1)=false:=by simpa using he
  rw[Γ he];clear h he
  go_enter func256,ntmps256
  go_wp2_with (refine kG rfl _ _ _ rfl B.mb f rfl ht q z rfl rfl ω ω ?_;intro w1 hm1 hu1)
  go_end0;exact⟨rfl,hu1,H.out.setM hu1 hm1⟩
theorem BL(h:nM w B F A st S f){fr:Fr}{P:List Fr}{t:BT}(hT:dL S (-1) (au (fr::P) t).root (au (fr::P) t))(hn:(au (fr::P) t).nodes.Nodup)(hlt:∀y,y∈(au (fr::P) t).nodes->y<A.cs.length) :
  Calls prog 259 #[.pointer (some ⟨B.n0,0,none⟩),.int .i64 (tv t.root),.bool (tb t.root)] w λe w'=>e=.returned (.int .i64 t.root)/\ae [B.ba] w w'/\
   ∃S',nM w' B F A st S' f/\dL S' (-1) t.root t/\dL S' (-1) (au (fr::P) .nil).root (au (fr::P) .nil)/\∀y,y∉(au (fr::P) t).nodes->S.at S' y:=by
 have h1:=h.h1
 by_cases ht:t=.nil
 ·subst ht;rw[show tv (BT.root .nil)=0 from rfl,show tb (BT.root .nil)=false from rfl,show BT.root .nil=-1 from rfl];have H:=χ (ψ h hT);clear h hT hn hlt
  go_enter func259,ntmps259
  go_wp2;go_ret;exact⟨rfl,ae.refl _ _,S,H.out.1,rfl,H.out.2,λy _=>⟨rfl,rfl,rfl⟩⟩
 ·obtain⟨r,hr⟩:∃r:Nat,t.root=r:=⟨_,BT.yX ht⟩;have kc:=nV h.trees hT hn hlt;rw[show tv t.root=(r:Int) by rw[hr];unfold tv;rw[Γ ω],show tb t.root=true by rw[hr];unfold tb;simp];have H:=χ h;have HR:=χ hr;rw[hr] at kc;generalize tb (r:Int)=bb at kc;generalize cutV fr t=cv at kc;clear h hT hn hlt hr
  go_enter func259,ntmps259
  go_wp2_with (first
   |((go_at_call 234;(with_reducible refine(kc).mono ?_));rintro e w1 ⟨rfl,hu1,S1,hT1,ha1,hp1,hs1⟩)
   | fail)
  go_ret;rw[HR.out];exact⟨rfl,hu1,S1,H.out.iC hu1 hT1,ha1,hp1,hs1⟩
end
def oP(x:Nat)(l m:BT):BT:=.node x m l
theorem uj:Vl oP where
 nodes:=λx l r=>by
  unfold oP;simp only[BT.nodes];exact List.perm_append_comm.cons x
 heap:=λA x l r h1 h2 hl hr=>⟨h2,h1,hr,hl⟩
 root:=λx l r=>rfl
theorem DK{S:TS}{p:Int}{x:Nat}{l r:BT}(h:dL S p x (.node x l r))(hn:(BT.node x l r).nodes.Nodup):dL (jD S x) p x (.node x r l)/\∀y,y≠x->S.at (jD S x) y:=by
 have hs:∀y,y≠x->S.at (jD S x) y:=λy hy=>by
  unfold jD TS.aK TS.at;simp[hy]
 have hl:(jD S x).l x=S.r x:=by unfold jD TS.aK;simp
 have hr:(jD S x).r x=S.l x:=by unfold jD TS.aK;simp
 have hu:(jD S x).u x=S.u x:=by unfold jD TS.aK;simp
 simp only[BT.nodes,Ζ,τ,not_or] at hn;refine⟨Vf (hu.trans h.2.1) ?_ ?_,hs⟩
 ·rw[hl];exact h.2.2.2.frame (λy hy=>hs y (λe=>hn.1.2 (by rw[←e];exact hy)))
 ·rw[hr];exact h.2.2.1.frame (λy hy=>hs y (λe=>hn.1.1 (by rw[←e];exact hy)))
section
variable{w:World}{B:SB}{F:List Nat}{A:NS}{st:Nat}{S:TS}{f:Int->Option Int}
theorem OA(h:nM w B F A st S f){p:Int}{x:Nat}{l r:BT}(hT:dL S p x (.node x l r))(hx:x<A.cs.length)(hr:∀y,y∈r.nodes->y<A.cs.length) :
  Calls prog 259 #[.pointer (some ⟨B.n0,0,none⟩),.int .i64 (tv r.root),.bool (tb r.root)] w λe w'=>e=.returned (.int .i64 r.root)/\ae [B.ba] w w'/\nM w' B F A st (Av S x r) f:=by
 have h1:=h.h1;cases r with
 |nil=>
  rw[show tv (BT.root .nil)=0 from rfl,show tb (BT.root .nil)=false from rfl,show BT.root .nil=-1 from rfl];have H:=χ h;clear h hT hr
  go_enter func259,ntmps259
  go_wp2;go_ret;exact⟨rfl,ae.refl _ _,H.out⟩
 |node y a b=>
  obtain⟨_,_,_,hr'⟩:=hT;have e2:S.u y=x:=hr'.2.1;have kc:=E5 B.bt B.ba A.cs.length S x y w h.trees hx (hr y (by simp[BT.nodes])) e2;rw[show tv (BT.root (.node y a b))=(y:Int) by show tv (y:Int)=y;unfold tv;rw[Γ ω],show tb (BT.root (.node y a b))=true by show tb (y:Int)=true;unfold tb;simp,show BT.root (.node y a b)=(y:Int) from rfl];have H:=χ h;clear h hr hr' e2
  go_enter func259,ntmps259
  go_wp2_with (first
   |((go_at_call 234;(with_reducible refine(kc).mono ?_));rintro e w1 ⟨rfl,hT1,hu1⟩)
   | fail)
  go_ret;exact⟨rfl,hu1,H.out.iC hu1 hT1⟩
theorem MF(h:nM w B F A st S f){p:Int}{x:Nat}{l r:BT}(hT:dL S p x (.node x l r))(hx:x<A.cs.length) :
  Calls prog 239 #[.pointer (some ⟨B.bt,0,none⟩),.int .i64 (x:Int)] w λe w'=>e=.returned (.tuple #[.int .i64 (tv r.root),.bool (tb r.root)])/\ae [] w w':=by
 refine(wB h.trees hT hx).mono ?_;rintro e w' ⟨rfl,k,rfl⟩;exact⟨rfl,(ae.refl _ _).drewN k⟩
theorem zK(t:BT):-1<=t.root:=by cases t with
 |nil=>exact Int.le_refl _
 |node x l r=>show(-1:Int)<=(x:Int);omega
theorem rO(h:nM w B F A st S f){ta tb:BT}(ha:dL S (-1) ta.root ta)(hb:dL S (-1) tb.root tb)(hX:(ta.nodes++tb.nodes).Nodup)(hin:∀y,y∈ta.nodes++tb.nodes->bY A (y:Int)=true) :
  Calls prog 257 #[.pointer (some ⟨B.n0,0,none⟩),.int .i64 ta.root,.int .i64 tb.root] w λe w'=>e=.returned (.int .i64 (aH oP A ta tb).1.root)/\ae [B.c,B.ba] w w'/\
   ∃S',nM w' B F A (cK st (aH oP A ta tb).2) S' f/\dL S' (-1) (aH oP A ta tb).1.root (aH oP A ta tb).1/\∀y,y∉ta.nodes++tb.nodes->S.at S' y:=by
 have hblk:=h.lt;have oC:=h.cF;have hbl2:=hblk B.ba (by simp[SB.blk]);have hbl4:=hblk B.c (by simp[SB.blk,oC]);have hA:=h.cells.ok.c1;have hlt:Hid (∀y,y∈ta.nodes++tb.nodes->y<A.cs.length):=λy hy=>((aj A y).1 (hin y hy)).1;have hXl:(ta.nodes++tb.nodes).length<=A.cs.length:=nI hX hlt.out;have HM0:=χ h;have HBL:=χ hblk;have D0:=χ (Down.start oP A ha hb);have OB:=χ hin;have HX:=χ hX;have hst:=h.cells.nH;clear h ha hb hblk oC hin hX
 go_enter func257,ntmps257
 go_wp2
 go_loopw [1,2,7] (λa b way wr=>∃(S1:TS) (W:List (Nat×BT)) (a1 b1:BT),a=.int .i64 a1.root/\b=.int .i64 b1.root/\wr.ownsRow w.heap.size 3 1 way W.length (Kq W)/\nM wr B F A (cK st W.length) S1 f/\Down oP A S ta tb S1 W a1 b1/\ae [B.c,B.ba] w wr) (λ_ _ way _=>(ta.nodes++tb.nodes).length-lenOf way)
 case atStart=>
  exact⟨S,[],ta,tb,rfl,rfl,⟨by simp[Kq,bz],Α ⟨rfl,rfl⟩⟩,by rw[List.length_nil,fF hst];exact HM0.out.ag β,D0.out,β⟩
 case round=>
  obtain⟨S1,W,a1,b1,rfl,rfl,ho,hM,hD,hu⟩:=hrel;have HM:=χ hM;have HD:=χ hD;have HO:=χ ho;have hlen:=hD.len;have h0:=hM.h0;have h1:=hM.h1;clear hM hD;obtain⟨a5,c5,rfl,hc5⟩:=aV ho;have I6:∀g,(Value.slice a5 W.length c5).ownBlock=some g->w.heap.size<=g:=λg hg=>(ho.lt g hg).1;have Yb:=χ I6;clear ho I6
  by_cases hne:a1=.nil\/b1=.nil
  ·obtain⟨m0,e0,U0,hcnt,hor⟩:=HD.out.turn hne;have hz:(a1.root=-1/\b1.root=m0.root)\/(a1.root≠-1/\b1.root=-1/\a1.root=m0.root):=by
    by_cases e:a1.root=-1
    ·rw[Δ e] at e0;exact Α ⟨e,e0.symm⟩
    ·rw[Γ e] at e0;refine Β ⟨e,?_,e0.symm⟩;rcases hne with rfl|rfl
     ·exact absurd rfl e
     ·rfl
   have HU:=χ (ψ U0 hcnt);have hWl:=U0.len;have HUP:=χ hu;rw[←hcnt] at HM;have hzge:=zK m0;clear hne hor U0 HD hcnt hu hlen h0 e0;generalize a1.root=za at *;generalize b1.root=zb at *;have e9:∃z9,m0.root=z9:=⟨_,rfl⟩;obtain⟨z9,e9⟩:=e9;rw[e9] at hz hzge;generalize hn0:W.length=n0 at *;have XZ:=χ hn0;clear hn0;have hz':(za=-1/\zb=-1/\z9=-1)\/(za=-1/\zb=z9/\z9 > -1)\/(za=z9/\zb=-1/\z9 > -1):=ω;clear hz hzge;rcases hz' with⟨rfl,rfl,rfl⟩|⟨rfl,rfl,hzg⟩|⟨rfl,rfl,hzg⟩
   all_goals
    try(have hz2:(za != -1)=true:=ζ)
    try(have hz3:¬((-1:Int) > za):=ω)
    go_wp2
    go_loopw [8,9] (λtop i w5=>∃(S2:TS) (W2 U2:List (Nat×BT)) (m:BT),W=W2++U2/\top=.int .i64 m.root/\i=.int .i64 ((W2.length:Int)-1)/\nM w5 B F A (cK st (aH oP A ta tb).2) S2 f/\Xi oP S (ta.nodes++tb.nodes) (aH oP A ta tb).1 S2 W2 m/\ae [B.ba] wr w5) (λ_ i _=>((intOf i)+1).toNat)
    case atStart=>exact⟨S1,W,[],m0,σ,by rw[e9],by rw[XZ.out],HM.out,HU.out.1,ae.refl _ _⟩
    case round=>
     obtain⟨S2,W2,U2,m,rfl,rfl,rfl,hM,hU,hu⟩:=hrel;rename World=>w5;rcases List.eq_nil_or_concat W2 with rfl|⟨W3,⟨x,l⟩,rfl⟩
     ·have e0:=hU.res;simp only[vM] at e0;simp only[List.length_nil];go_wp2;go_ret;rw[e0];exact⟨rfl,HUP.out.trans (hu.mono σ),S2,hM,hU.isM,λy hy=>hU.far y hy⟩
     ·have hpx:=hU.perm;simp only[List.concat_eq_append] at *;rw[qc,ϋ] at hpx;have CW:∀q,q∈(x::l.nodes)++m.nodes->q<A.cs.length:=λq hq=>hlt.out q (hpx.mem_iff.1 (List.mem_append_right _ hq));have hnd:((x::l.nodes)++m.nodes).Nodup:=(θ.1 (hpx.nodup_iff.2 HX.out)).2.1;have hxA:=CW x σ;obtain⟨g,cap,ee,hI,hg⟩:=IZ.iA (l:=(W3++[(x,l)]++U2).map λp=>(p.1:Int)) (by rw[List.length_map,XZ.out];exact ak HO.out hu (λk hk=>by have:=Yb.out k hk;simp;omega)) ζ;rw[List.length_map,XZ.out] at ee
      injection ee with ee1 ee2 ee3
      subst ee1 ee3;have dz:=hI.cell W3.length σ;rw[show(((W3++[(x,l)]++U2).map λp=>(p.1:Int)).getD W3.length 0)=(x:Int) by simp[φ]] at dz;have h1:=hM.h1;have wK:=χ hM;have Qe:=χ hU;have JV:=χ (ψ CW hnd);have hTx:=hU.way (x,l) σ;have Zg:=χ hTx;have hil:((W3++[(x,l)]).length:Int)-1=W3.length:=σ;rw[hil];have hi0:((W3.length:Int)≥0):=ω;have hWn:W3.length+1+U2.length=n0:=by have:=XZ.out;simp at this;omega
      have CB:(W3.length:Int)<(n0:Int):=ω;have hW3:W3.length<=65536:=ω;clear hM hU CW hnd hTx hpx hil hI ee2
      by_cases hm:m=.nil
      ·subst hm;simp only[BT.root];have zW:dL S2 (-1) x (.node x l .nil):=Zg.out;obtain⟨Cg,Vy⟩:=DK zW (by simpa[BT.nodes] using JV.out.2);have kt:=BI B.bt B.ba A.cs.length S2 x w5 wK.out.trees hxA;have HT3:=χ (ψ Cg Vy);clear zW Cg Vy
       go_wp2_with (first
        |((go_at_call 249;(with_reducible refine(kt).mono ?_));rintro e w6 ⟨rfl,Qj,iX⟩)
        | fail)
       refine⟨⟨jD S2 x,W3,(x,l)::U2,oP x l .nil,σ,rfl,by go_num,wK.out.iC iX Qj,Qe.out.turn uj HX.out HT3.out.1 (λy h1 _ _=>HT3.out.2 y h1),hu.trans iX⟩,by simp[intOf]⟩
      ·obtain⟨mr,hmr⟩:∃mr:Nat,m.root=mr:=⟨_,BT.yX hm⟩;have hmm:=(cz hm).1;rw[hmr,π] at hmm;have zW:dL S2 (-1) x (.node x l .nil):=Zg.out;have hTm:=Qe.out.isM;have hur:S2.u mr=-1:=by
        cases m with
        |nil=>exact absurd rfl hm
        |node q a b=>
         have e:q=mr:=by have e':(q:Int)=mr:=hmr;omega
         subst e;exact hTm.2.1
       have hnd:=JV.out.2;have hxm:x≠mr:=λe=>by
        rw[θ] at hnd;exact hnd.2.2 x σ mr hmm e
       obtain⟨Cg,Vy⟩:=Dl (m:=m) zW hTm hm (by simpa[BT.nodes] using hnd);rw[hmr] at Cg Vy;obtain⟨Q0,hS4⟩:=DK Cg (by simpa[BT.nodes] using hnd);have HT3:=χ (ψ Cg (ψ hm (ψ Vy (ψ Q0 hS4))));have kh:=Ae B.bt B.ba A.cs.length S2 x mr true w5 (wK.out.trees) hxA (JV.out.1 mr (List.mem_append_right _ hmm)) hxm hur zW.2.2.2;rw[hmr];have hz4:((mr:Int) != -1)=true:=σ;clear zW hTm hur hnd Cg Vy Q0 hS4 hm hmr hmm
       go_wp2_with (first
        |((go_at_call 241;(with_reducible refine(kh).mono ?_));rintro e w6 ⟨rfl,Qj,iX⟩;(have h16:=(wK.out.iC iX Qj).h1);(have kt:=BI B.bt B.ba A.cs.length _ x w6 Qj hxA))
        |((go_at_call 249;(with_reducible refine(kt).mono ?_));rintro e w7 ⟨rfl,VE,kS⟩)
        | fail)
       refine⟨⟨_,W3,(x,l)::U2,oP x l m,σ,rfl,by go_num,(wK.out.iC iX Qj).iC kS VE,Qe.out.turn uj HX.out HT3.out.2.2.2.1 (λy h1 _ h3=>?_),(hu.trans iX).trans kS⟩,by simp[intOf]⟩;have a1:=HT3.out.2.2.1 y h1 h3;have a2:=HT3.out.2.2.2.2 y h1;exact⟨a2.1.trans a1.1,a2.2.1.trans a1.2.1,a2.2.2.trans a1.2.2⟩
  ·obtain⟨x,l,r,rfl⟩:∃x l r,a1=.node x l r:=by
    cases a1 with
    |nil=>exact absurd (Α rfl) hne
    |node x l r=>exact⟨x,l,r,rfl⟩
   obtain⟨y,l',r',rfl⟩:∃x l r,b1=.node x l r:=by
    cases b1 with
    |nil=>exact absurd (Β rfl) hne
    |node x l r=>exact⟨x,l,r,rfl⟩
   clear hne;have hmx:∀z,z∈(BT.node x l r).nodes++(BT.node y l' r').nodes->z∈ta.nodes++tb.nodes:=λz hz=>HD.out.perm.mem_iff.1 (List.mem_append_right _ hz);have hxm:=hmx x (by simp[BT.nodes]);have hym:=hmx y (by simp[BT.nodes]);have hWl:W.length+2<=(ta.nodes++tb.nodes).length:=by simp only[BT.nodes,Ω,υ] at hlen ⊢;omega
   have HMX:=χ hmx;have hxb:((x:Int) != -1)=true:=σ;have hyb:((y:Int) != -1)=true:=σ;clear hmx hlen;have kA:=fB HM.out.cells y x (OB.out y hym) (OB.out x hxm);obtain⟨sw,hsw⟩:∃sw,decide (dB A y x)=sw:=⟨_,rfl⟩;rw[hsw] at kA;have KEY:∃(z:Nat) (lz rz o:BT),z=(if sw then y else x)/\Down oP A S ta tb (Av S1 z rz) (W++[(z,lz)]) rz o/\dL S1 (-1) z (.node z lz rz)/\z<A.cs.length/\(∀q,q∈rz.nodes->q<A.cs.length)/\o.root=(if sw then(x:Int) else(y:Int)):=by
    cases sw with
    |true=>
     exact⟨y,l',r',.node x l r,rfl,HD.out.takeB HX.out (ϣ hsw),HD.out.isB,hlt.out y hym,λq hq=>hlt.out q (HMX.out q (by simp[BT.nodes,hq])),rfl⟩
    |false=>
     exact⟨x,l,r,.node y l' r',rfl,HD.out.takeA HX.out (of_decide_eq_false hsw),HD.out.isA,hlt.out x hxm,λq hq=>hlt.out q (HMX.out q (by simp[BT.nodes,hq])),rfl⟩
   obtain⟨z,lz,rz,o,ez,hD2,hTz,hz,hrz,eo⟩:=KEY;have HD2:=χ hD2;have HT:=χ hTz;have HQ:=χ hrz;clear hD2 hTz hrz hsw;simp only[BT.root];cases sw
   all_goals
    simp only[if_true,if_false,Ϣ] at ez eo;subst ez
    go_wp2_with fail
    refine kA.mono ?_;rintro e w1 ⟨rfl,gG,hu1⟩;have hM1:=χ (HM.out.cB (hu1.mono (by simp[HM.out.cF])) gG (λx hx=>Α hx) rfl);have hss:cK (cK st W.length) 1=cK st (W.length+1):=iN _ _ _;rw[hss] at hM1;have ho1:=ak HO.out hu1 (λk hk=>by have:=Yb.out k hk;simp;omega);clear h0 h1 kA hss;have WT:=χ (ψ hu hu1);clear hu hu1 gG;have HGB:Hid (∀g,g∈(Value.slice a5 W.length c5).ownBlock.toList->g∉B.blk F):=λg hg hb=>by
     have h1:=Yb.out g (Option.mem_toList.1 hg);have h2:=HBL.out g hb;omega
    have hsz1:w.heap.size<=w1.heap.size:=(WT.out.1.trans (WT.out.2.mono σ)).size
    go_wp2_with (first
     |((at_builtin;refine bI rfl _ _ 77 rfl w.heap.size 3 (.int .i64 0) 1 8 underlying77 gI rfl δ _ _ _ rfl (ho1) [.int .i64 (z:Int)] rfl (by simp[Value.oneCell']) (by first|rfl|(rw[Κ];rfl)) μ ω (ω) ?_;intro v2 w2 ho2 hu2 nC);(have hM2:=χ (hM1.out.upd hu2 HGB.out));(have k12:=hM2.out.h1);(have kr:=MF hM2.out HT.out hz))
     |(go_at_call 239;(with_reducible refine(kr).mono ?_);rintro e w3 ⟨rfl,hu3⟩;(have jo:=χ (hM2.out.ag hu3));(have kc:=OA jo.out HT.out hz HQ.out))
     |(go_at_call 259;(with_reducible refine(kc).mono ?_);rintro e w4 ⟨rfl,fU,sM⟩)
     | fail)
    obtain⟨a6,c6,rfl,hc6⟩:=aV ho2;have Y9:∀k,(Value.slice a6 (W.length+1) c6).ownBlock=some k->w.heap.size<=k:=λk hk=>(ho2.lt k hk).1;refine⟨⟨_,W++[(z,lz)],rz,o,rfl,congrArg (Value.int .i64) eo.symm,?_,?_,HD2.out,?_⟩,?_⟩
    ·rw[D5,υ,List.length_singleton];exact ak (ak ho2 hu3 σ) fU (λk hk=>by have:=Y9 k hk;simp;omega)
    ·rw[υ,List.length_singleton];exact sM
    ·have v1:ae [B.c,B.ba] w w1:=WT.out.1.trans (WT.out.2.mono σ);have v2:ae [B.c,B.ba] w w2:=v1.joined hu2 (λg hg=>Β (Yb.out g (Option.mem_toList.1 hg)));exact(v2.trans (hu3.mono σ)).trans (fU.mono σ)
    ·show(ta.nodes++tb.nodes).length-(W.length+1)<(ta.nodes++tb.nodes).length-W.length
     omega
end
def oN(A:NS)(tr:Nat->BT)(q:Int):Option Int:=if 1<=q/\q<A.hs.length then(if(tr q.toNat).root=-1 then none else some (tr q.toNat).root) else none
def tu(A:NS)(tr:Nat->BT):List Int:=(List.range A.hs.length).map λh=>(tr h).root
theorem vN.MU{K:Rb}{A:NS}{S:TS}{ai:List Int}{tr:Nat->BT}(h:vN K A S ai tr):vN K A S (tu A tr) tr:=
 ⟨λq hq=>by unfold tu;simp[φ,hq],h.zG,h.mem,h.nd,h.heap,h.free⟩
def lK(w:World)(B:SB)(F:List Nat)(A:NS)(st:Nat)(tr:Nat->BT):Prop:=∃S,nM w B F A st S (oN A tr)/\TrI A S (tu A tr) tr
theorem tY(A:NS)(tr:Nat->BT)(q:Nat)(h:1<=q/\q<A.hs.length):Qt (oN A tr (q:Int))=(tr q).root:=by
 unfold oN Qt;rw[Δ ω,π]
 split
 ·rename_i e;rw[e];rfl
 ·rfl
theorem nM.ext{w:World}{B:SB}{F:List Nat}{A:NS}{st:Nat}{S:TS}{f g:Int->Option Int}(h:nM w B F A st S f)(e:∀k,f k=g k):nM w B F A st S g:=⟨h.head,h.cells,h.trees,h.top.ext e,h.bS,h.sep⟩
theorem Bh{A A':NS}{tr:Nat->BT}{q:Nat}{t:BT}(hl:A'.hs.length=A.hs.length)(hq:1<=q/\q<A.hs.length)(k:Int):(if k=(q:Int) then(if t.root=-1 then none else some t.root) else oN A tr k)=oN A' (λy=>if y=q then t else tr y) k:=by
 by_cases e:k=(q:Int)
 ·subst e;have e1:oN A' (λy=>if y=q then t else tr y) (q:Int)=(if t.root=-1 then none else some t.root):=by
   unfold oN;rw[hl,Δ (show 1<=(q:Int)/\(q:Int)<A.hs.length by omega)];have:(λy=>if y=q then t else tr y) (q:Int).toNat=t:=σ;rw[this]
  rw[e1,Δ rfl]
 ·have e1:oN A' (λy=>if y=q then t else tr y) k=oN A tr k:=by
   unfold oN;rw[hl]
   by_cases h:1<=k/\k<A.hs.length
   ·rw[Δ h,Δ h];have:(λy=>if y=q then t else tr y) k.toNat=tr k.toNat:=by
     show(if k.toNat=q then t else tr k.toNat)=_
     rw[Γ ω]
    rw[this]
   ·rw[Γ h,Γ h]
  rw[e1,Γ e]
theorem Nw{A:NS}{S:TS}{ai:List Int}{tr:Nat->BT}(h:TrI A S ai tr)(hA:A.cs.length<=65536){t:BT}(ht:∀y,y∈t.nodes->y<A.cs.length):-1<=t.root/\t.root<=9223372036854775807:=by
 refine⟨zK t,?_⟩
 by_cases e:t=.nil
 ·rw[e];show(-1:Int)<=_;omega
 ·have h1:=cz e;have h2:=ht _ h1.1;omega
section
variable{w:World}{B:SB}{F:List Nat}{A:NS}{st:Nat}{tr:Nat->BT}
theorem lK.upd{w':World}{G:List Nat}(h:lK w B F A st tr)(hu:ae G w w')(hG:∀x,x∈G->x∉B.blk F):lK w' B F A st tr:=by
 obtain⟨S,hM,hI⟩:=h;exact⟨S,hM.upd hu hG,hI⟩
theorem lK.ag{w':World}(h:lK w B F A st tr)(hu:ae [] w w'):lK w' B F A st tr:=h.upd hu σ
theorem Iq(h:lK w B F A st tr)(hh x:Nat)(k s:Int)(hk:-9223372036854775808<=k/\k<=9223372036854775807/\0<=s/\s<=18446744073709551615)(hB:rG A hh x=true) :
  Calls prog 253 #[.pointer (some ⟨B.n0,0,none⟩),.int .i64 (hh:Int),.int .i64 (x:Int),.agg #[.int .i64 k,.int .u64 s]] w λe w'=>e=.returned (.bool true)/\ae (B.blk F) w w'/\
   lK w' B F (aO A hh x k s) (cK st (aH oP (aO A hh x k s) (tr hh) (single x)).2) (λq=>if q=hh then(aH oP (aO A hh x k s) (tr hh) (single x)).1 else tr q):=by
 obtain⟨S,hM,hI⟩:=h;have hlt:=hM.lt;have ok:=hM.cells.ok;obtain⟨b1,b2,b3⟩:=(fP _ _ _).1 hB;have b4:=(aC _ _).1 b1;have hx:x<A.cs.length:=by have:=(ic _ _).1 b2;omega
 have QX:(A.c x).i=0:=by
  have:=(ok.nat x hx).1;have h3:¬(0<(A.c x).i):=λh'=>by rw[(aj A x).2 ⟨hx,h'⟩] at b3;cases b3
  omega
 have hcs:(aO A hh x k s).cs.length=A.cs.length:=by unfold aO;rw[Δ hB,fO]
 have jd:(aO A hh x k s).hs.length=A.hs.length:=by unfold aO;rw[Δ hB];rfl
 have hcx:∀y,(aO A hh x k s).c y=if y=x then⟨hh,k,s⟩ else A.c y:=λy=>by
  unfold aO;rw[Δ hB,π,lg]
  by_cases e:y=x
  ·rw[Δ ⟨e,hx⟩,Δ e]
  ·rw[Γ (λh=>e h.1),Γ e]
 have wM:x∉(tr hh).nodes:=hI.out QX;have hX:((tr hh).nodes++(single x).nodes).Nodup:=by
  rw[θ];refine⟨hI.nd hh,by simp[single,BT.nodes],λa ha b hb e=>?_⟩;simp only[single,BT.nodes,Υ,ϓ] at hb;exact wM (by rw[←hb,←e];exact ha)
 have hin:∀y,y∈(tr hh).nodes++(single x).nodes->bY (aO A hh x k s) (y:Int)=true:=λy hy=>by
  rw[aj,hcs,hcx];simp only[single,BT.nodes,Υ,τ,ϓ] at hy
  by_cases e:y=x
  ·rw[Δ e,e];exact⟨hx,by show(0:Int)<(hh:Int);omega⟩
  ·rw[Γ e];have:=(hI.mem hh y).1 (hy.resolve_right e);exact⟨this.2.1,ω⟩
 have Yy:Heap (aO A hh x k s) (tr hh):=(hI.heap hh).frame (λy hy=>by rw[hcx,Γ (λe=>wM (by rw[←e];exact hy))]);obtain⟨mp,mh⟩:=jO uj (aO A hh x k s) _ (tr hh) (single x) (Θ _);have Qz:=mh Yy ⟨by simp[BT.nodes],by simp[BT.nodes],trivial,trivial⟩ hX;have hfr:=hI.free x hx QX;have YF:=hI.zG hh;have hq:1<=hh/\hh<A.hs.length:=ω;have Zi:=ok.h1
 have hmr:=Nw hI ok.c1 (t:=(aH oP (aO A hh x k s) (tr hh) (single x)).1) (λy hy=>by
  have h1:=mp.mem_iff.1 hy;have:=(aj _ y).1 (hin y h1)
  rw [hcs] at this;exact this.1)
 have hfst:=tY A tr hh hq
 have FI:Hid (∀ (W:World) (S':TS) (st':Nat),nM W B F (aO A hh x k s) st' S' (λy=>if y=(hh:Int) then (if (aH oP (aO A hh x k s) (tr hh) (single x)).1.root=-1 then none else some (aH oP (aO A hh x k s) (tr hh) (single x)).1.root) else oN A tr y)->dL S' (-1) (aH oP (aO A hh x k s) (tr hh) (single x)).1.root (aH oP (aO A hh x k s) (tr hh) (single x)).1->
   (∀y,y∉(tr hh).nodes++(single x).nodes->S.at S' y)->lK W B F (aO A hh x k s) st' (λq=>if q=hh then (aH oP (aO A hh x k s) (tr hh) (single x)).1 else tr q)):=λW S' st' a1 a2 a4=>
  ⟨S',a1.ext (Bh jd hq),(hI.put ok (by simp[tu]) hB a2 mp Qz (λy hy=>a4 y hy)).MU⟩
 have u1:ae [] w (w.alloc (.cells #[.int .i64 k,.int .u64 s] 97)):=(ae.refl _ _).alloc _;have kp:=λW (hW:ae [] (w.alloc (.cells #[.int .i64 k,.int .u64 s] 97)) W)=>og (hM.cells.ag (u1.trans hW)) hh x k s hk hB;have h0:=hM.h0;have wN:B.n0∉F:=hM.bS.1;have hsz:w.heap.size∉F:=λhm=>by have:=hlt w.heap.size (by simp[SB.blk,hm]);omega
 have r0:∀W,ae F (w.alloc (.cells #[.int .i64 k,.int .u64 s] 97)) W->W.cell? ⟨B.n0,0,none⟩=some (.pointer (some ⟨B.c,0,none⟩)):=λW hW=>hW.kept (u1.was h0) wN;have r1:∀W,ae F (w.alloc (.cells #[.int .i64 k,.int .u64 s] 97)) W->W.cell? ⟨w.heap.size,0,none⟩=some (.int .i64 k):=λW h=>h.kept σ hsz;have r2:∀W,ae F (w.alloc (.cells #[.int .i64 k,.int .u64 s] 97)) W->W.cell? ⟨w.heap.size,1,none⟩=some (.int .u64 s):=λW h=>h.kept σ hsz;have HM:=χ hM;have HH:=χ (ψ hX (ψ hin (ψ YF hfr)));have oC:=hM.cF;clear hM hI ok b1 b2 b3 QX hcx wM hX hin Yy mp mh Qz hfr h0 hlt YF
 generalize hA':aO A hh x k s=A' at *;generalize htr:tr hh=th at *
 go_enter func253,ntmps253
 go_wp2
 go_region_held3 (ae F (w.alloc (.cells #[.int .i64 k,.int .u64 s] 97))) (exact ν)
  ((go_at_call 138;(with_reducible refine(kp _ β).mono ?_);rintro e w1 ⟨rfl,gG,hu1⟩;(have hu2:ae F (w.alloc (.cells #[.int .i64 k,.int .u64 s] 97)) w1:=ν)))
 have uF:ae F w (w.alloc (.cells #[.int .i64 k,.int .u64 s] 97)):=u1.mono σ;have hM1:=HM.out.cB (uF.trans hu2) gG (λy hy=>Α hy) hcs;have hw1:ae F w w1:=uF.trans hu2;have k1:=l8 hM1 (hh:Int) ω;rw[hfst] at k1;have km:=rO hM1 HH.out.2.2.1 (wH HH.out.2.2.2) HH.out.1 HH.out.2.1;rw[show(single x).root=(x:Int) from rfl] at km;clear r0 r1 r2 kp hu1 hu2 gG uF hM1
 go_wp2_with (first
  |(go_at_call 258;(with_reducible refine aT (k1) ?_))
  |((go_at_call 257;(with_reducible refine(km).mono ?_));rintro e w2 ⟨rfl,hu2,S2,hM2,zW,hs2⟩;(have kc:=oF hM2 hh _ ω hmr))
  |((go_at_call 256;(with_reducible refine(kc).mono ?_));rintro e w3 ⟨rfl,hu3,jo⟩)
  | fail)
 go_ret;refine⟨rfl,((hw1.mono (λy hy=>by simp only[SB.blk,ρ];simp[hy])).trans (hu2.mono (λy hy=>?_))).trans (hu3.mono (by simp[SB.blk])),FI.out _ S2 _ jo zW hs2⟩;simp only[ρ,ς,or_false] at hy;simp only[SB.blk,ρ];rcases hy with rfl|rfl
 ·simp[oC]
 ·simp
theorem PU(h:lK w B F A st tr)(x:Int)(hx:-9223372036854775808<=x/\x<=9223372036854775807)(hn:dD A x=0) :
  Calls prog 255 #[.pointer (some ⟨B.n0,0,none⟩),.int .i64 x] w λe w'=>e=.returned (.tuple #[.int .i64 0,.bool false])/\w'=w:=by
 obtain⟨S,hM,hI⟩:=h;have hr:Qt (oN A tr x)=-1:=by
  unfold oN
  split
  ·rename_i hq
   have:(tr x.toNat)=.nil:=by
    cases e:tr x.toNat with
    |nil=>rfl
    |node y a b=>
     have:=(hI.mem x.toNat y).1 (by rw[e];simp[BT.nodes]);have:0<dD A x:=fM.2 ⟨y,this.2.1,by show(A.c y).i=x;omega,by omega⟩;omega
   rw[this];rfl
  ·rfl
 have k:=l8 hM x hx;rw[hr] at k;clear hM hI
 go_enter func255,ntmps255
 go_wp2_with (first|(go_at_call 258;(with_reducible refine aT (k) ?_))|fail)
 go_ret2;exact⟨rfl,rfl⟩
theorem CY(h:lK w B F A st tr)(g:Nat)(hn:0<dD A g) :
  Calls prog 255 #[.pointer (some ⟨B.n0,0,none⟩),.int .i64 (g:Int)] w λe w'=>∃m:Nat,dN A g=some m/\(tr g).root=m/\e=.returned (.tuple #[.int .i64 (m:Int),.bool true])/\w'=w:=by
 obtain⟨S,hM,hI⟩:=h;obtain⟨m,hm1,hm2⟩:=hI.first hn;have hin:=(lH hm2);have hq:=(aC _ _).1 (iL hM.cells.ok hin.2.2.2);rw[π,hin.2.2.1] at hq;have hb:=hM.cells.ok.h1;have k:=l8 hM (g:Int) ω;rw[tY A tr g ω,hm1] at k;have hb1:((m:Int) == -1)=false:=σ;clear hM hI
 go_enter func255,ntmps255
 go_wp2_with (first|(go_at_call 258;(with_reducible refine aT (k) ?_))|fail)
 go_ret2;exact⟨m,hm2,hm1,rfl,rfl⟩
end
noncomputable def Hu(A:NS)(t:BT)(x:Nat):BT×Nat:=(au (pathOf t x).1 (aH oP A (pathOf t x).2.1 (pathOf t x).2.2).1,(aH oP A (pathOf t x).2.1 (pathOf t x).2.2).2)
section
variable{w:World}{B:SB}{F:List Nat}{A:NS}{st:Nat}{tr:Nat->BT}{S:TS}{f:Int->Option Int}
theorem Lx{bt ba n:Nat}(h:bL w bt ba n S){fr:Fr}{P:List Fr}{x:Nat}{l r:BT}(hT:dL S (-1) (au (fr::P) (.node x l r)).root (au (fr::P) (.node x l r)))(hn:(au (fr::P) (.node x l r)).nodes.Nodup)(hf:fr.1<n) :
  ∃(r':Int) (b:Bool),((b=true/\(r' == (x:Int))=fr.2.1)\/(b=false/\fr.2.1=false))/\Calls prog 239 #[.pointer (some ⟨bt,0,none⟩),.int .i64 (fr.1:Int)] w λe w'=>e=.returned (.tuple #[.int .i64 r',.bool b])/\∃k,w'=w.drewN k:=by
 obtain⟨z,hz,k⟩:=Et h hT hn hf
 by_cases e:z=-1
 ·refine⟨tv z,tb z,Β ⟨by rw[e];rfl,?_⟩,k⟩;rw[←hz,e];first|(simp;done)|(simp;omega)
 ·exact⟨tv z,tb z,Α ⟨by unfold tb;simp[e],by unfold tv;rw[Γ e];exact hz⟩,k⟩
def WR(w':World)(B:SB)(F:List Nat)(A:NS)(st:Nat)(S:TS)(f:Int->Option Int)(g x:Nat)(P:List Fr)(X:List Nat)(T:BT):Prop:=
 ∃S',nM w' B F (bg A x) st S' (λy=>if P=[]/\y=(g:Int) then(if T.root=-1 then none else some T.root) else f y)/\dL S' (-1) T.root T/\(∀y,y∉X->S.at S' y)/\(S'.l x=-1/\S'.r x=-1/\S'.u x=-1)
theorem E9(hM:nM w B F A st S f){g x:Nat}{P:List Fr}{l r:BT}(hin:bY A (x:Int)=true)(hg:(A.c x).i=g)(hgq:1<=g/\g<=65536)
  (hT:dL S (-1) (au P (.node x l r)).root (au P (.node x l r))) (hn:(au P (.node x l r)).nodes.Nodup) (hall:∀y,y∈(au P (.node x l r)).nodes->bY A (y:Int)=true) :
  Calls prog 251 #[.pointer (some ⟨B.n0,0,none⟩),.int .i64 (x:Int)] w λe w'=>e=.returned (.bool true)/\ae (B.blk F) w w'/\
   WR w' B F A (cK st (aH oP A l r).2) S f g x P (au P (.node x l r)).nodes (au P (aH oP A l r).1):=by
 have hxl:=((aj A x).1 hin).1;have hlt:∀y,y∈(au P (.node x l r)).nodes->y<A.cs.length:=λy hy=>((aj A y).1 (hall y hy)).1;have kh:=bV hM.cells x hin;rw[hg] at kh;have h0:=hM.h0;have HM:=χ hM;have Vx:=rq hn;have mp:=(jO uj A _ l r (Θ _)).1;have oC:=hM.cF;have hsep:=χ (ψ hM.sep hM.bS);have HT:=χ (ψ hT (ψ hn (ψ hall hlt)));have HP:=χ Vx;have hA:=hM.cells.ok.c1;obtain⟨m,k,hmk⟩:∃m k,aH oP A l r=(m,k):=⟨_,_,rfl⟩;rw[hmk] at mp;rw[hmk]
 have aa5:∀y,y∈m.nodes->y<A.cs.length:=λy hy=>hlt y (aI.2 (Α (by
  have:=mp.mem_iff.1 hy
  simp only [BT.nodes];exact Λ _ this)))
 have hmr:-1<=m.root/\m.root<=9223372036854775807:=by
  refine⟨zK m,?_⟩
  by_cases e:m=.nil
  ·rw[e];show(-1:Int)<=_;omega
  ·have h1:=cz e;have h2:=aa5 _ h1.1;omega
 have ZE:=χ mp;have HMK:=χ hmk;have OB:=χ hin;have HML:=χ aa5;clear hM hT hn hall hlt Vx mp hmk hin hg aa5
 go_enter func251,ntmps251
 go_wp2_with (first|((go_at_call 124;(with_reducible refine(kh).mono ?_));rintro e w1 ⟨rfl,gG,hu1⟩;(have g1:=(HM.out.cB hu1 gG (λy hy=>Α hy) rfl).h1))|fail)
 have hM1:=HM.out.cB hu1 gG (λy hy=>Α hy) rfl;have kl:=λW (hW:ae [] w1 W)=>De (hM1.ag hW).trees ((fq _ _).1 HT.out.1).1 hxl;have klo:=λW (hW:ae [] w1 W)=>BL (hM1.ag hW) (fr:=(x,false,r)) (P:=P) (t:=l) HT.out.1 HT.out.2.1 HT.out.2.2.2;have hn0:B.n0∉[B.c,B.ba]:=by
  have a1:=hsep.out;have a2:B.n0≠B.c:=λe=>a1.2.1 (by rw[e];exact oC);simp;omega
 have r1:∀W,ae [B.c,B.ba] w1 W->W.cell? ⟨B.n0,1,none⟩=some (.pointer (some ⟨B.bt,0,none⟩)):=λW hW=>hW.kept g1 hn0;have MN:(au ((x,true,.nil)::P) r).nodes.Nodup:=by
  have e:=(aW P (.node x .nil r));refine e.nodup_iff.2 ?_;obtain⟨⟨a1,a2,a3⟩,a4,a5,a6,a7⟩:=HP.out;simp only[BT.nodes,ϛ,θ] at a4 ⊢;refine⟨Ζ.2 ⟨a2,a4.2.1⟩,a7,λy hy z hz e=>?_⟩;subst e;rcases ρ.1 hy with e|hy
  ·exact a3 (by rw[←e];exact hz)
  ·exact a6 y hy hz
 have Dg:∀y,y∈(au ((x,true,.nil)::P) r).nodes->y∈(au P (.node x l r)).nodes:=λy hy=>by
  have h':y∈(au P (.node x .nil r)).nodes:=hy;rw[aI] at h' ⊢;simp only[BT.nodes,ϛ,ρ,τ] at h' ⊢;rcases h' with(h'|h')|h'
  ·exact Α (Α h')
  ·exact Α (Β (Β h'))
  ·exact Β h'
 have Te:∀y,y∈l.nodes->y∉(au ((x,true,.nil)::P) r).nodes:=λy hy hm=>by
  obtain⟨⟨a1,a2,a3⟩,a4,a5,a6,a7⟩:=HP.out;rw[θ] at a4;have h':y∈(au P (.node x .nil r)).nodes:=hm;rw[aI] at h';simp only[BT.nodes,ϛ,ρ] at h';rcases h' with(h'|h')|h'
  ·exact a1 (by rw[←h'];exact hy)
  ·exact a4.2.2 y hy y h' rfl
  ·exact a5 y hy h'
 have H3:=χ (ψ MN (ψ Dg Te));clear hM1 gG kh h0 MN Dg Te
 go_region_held3 (ae [B.c,B.ba] w1) (exact ν)
  (first
   |((go_at_call 238;(with_reducible refine(kl _ η).mono ?_));rintro e w2 ⟨rfl,k2,hw2⟩;(have hq2:ae [] w1 w2:=(by rw[hw2];refine ae.drewN ?_ _;exact η));clear hw2;(have hv2:ae [B.c,B.ba] w1 w2:=hq2.mono σ))
   |((go_at_call 259;(with_reducible refine(klo _ η).mono ?_));rintro e w3 ⟨rfl,hu3,S3,jo,hl3,hp3,hs3⟩;(have hv3:ae [B.c,B.ba] w1 w3:=ae.trans ν (hu3.mono σ));(have PR:dL S3 (-1) (au ((x,true,.nil)::P) r).root (au ((x,true,.nil)::P) r):=hp3);(have kr:=λW (hW:ae [] w3 W)=>wB (jo.ag hW).trees ((fq P (.node x .nil r)).1 PR).1 hxl);(have klo2:=λW (hW:ae [] w3 W)=>BL (jo.ag hW) (fr:=(x,true,.nil)) (P:=P) (t:=r) PR H3.out.1 (λy hy=>HT.out.2.2.2 y (H3.out.2.1 y hy))))
   |((go_at_call 239;(with_reducible refine(kr _ η).mono ?_));rintro e w4 ⟨rfl,k4,hw4⟩;(have hq4:ae [] w3 w4:=(by rw[hw4];refine ae.drewN ?_ _;exact η));clear hw4;(have hv4:ae [B.c,B.ba] w1 w4:=hv3.trans (hq4.mono σ)))
   |((go_at_call 259;(with_reducible refine(klo2 _ η).mono ?_));rintro e w5 ⟨rfl,bW,S5,vQ,LA,VD,hs5⟩;(have hv5:ae [B.c,B.ba] w1 w5:=ae.trans ν (bW.mono σ));(have km:=λW (hW:ae [] w5 W)=>rO (vQ.ag hW) (hl3.frame (λy hy=>hs5 y (H3.out.2.2 y hy))) LA HP.out.2.1 (λy hy=>HT.out.2.2.1 y (aI.2 (Α (by simp only[BT.nodes];exact Λ _ hy)))));rw[HMK.out] at km)
   | ((go_at_call 257;(with_reducible refine (km _ η).mono ?_));rintro e w6 ⟨rfl,iX,S6,vE,Qj,hs6⟩;(have hv6:ae [B.c,B.ba] w1 w6:=ae.trans ν iX)))
 have hp6:dL S6 (-1) (au P (.node x .nil .nil)).root (au P (.node x .nil .nil)):=dL.frame (show dL S5 (-1) (au P (.node x .nil .nil)).root (au P (.node x .nil .nil)) from VD) (λy hy=>hs6 y (λhm=>by
  obtain⟨⟨a1,a2,a3⟩,a4,a5,a6,a7⟩:=HP.out;rw[aI] at hy;simp only[BT.nodes,ϛ,ρ,ς,or_false] at hy;rw[τ] at hm;rcases hy with e|hy
  ·subst e;rcases hm with hm|hm;exact a1 hm;exact a2 hm
  ·rcases hm with hm|hm;exact a5 y hm hy;exact a6 y hm hy))
 have f6:∀y,y∉(au P (.node x l r)).nodes->S.at S6 y:=λy hy=>by
  have h1:y∉l.nodes++r.nodes:=λhm=>hy (aI.2 (Α (by simp only[BT.nodes];exact Λ _ hm)));exact gL (gL (hs3 y hy) (hs5 y (λhm=>hy (H3.out.2.1 y hm)))) (hs6 y h1)
 have u6:ae (B.blk F) w w6:=(hu1.mono (λy hy=>by simp only [SB.blk,ρ];simp [hy])).trans (hv6.mono (λy hy=>by
   simp only[ρ,ς,or_false] at hy;simp only[SB.blk,ρ];rcases hy with rfl|rfl
   ·simp[oC]
   ·simp))
 have ku:=λW (hW:ae [] w6 W)=>NF (vE.ag hW).trees hp6 hxl;have q61:=λW (hW:ae [] w6 W)=>(vE.ag hW).h1;have xn:=χ vE;have H6:=χ (ψ hp6 (ψ f6 Qj));have hmm:Hid (∀y,y∈m.nodes->y∉eH P/\y≠x):=λy hy=>by
  obtain⟨⟨a1,a2,a3⟩,a4,a5,a6,a7⟩:=HP.out;have h1:=ZE.out.mem_iff.1 hy;rw[τ] at h1;rcases h1 with h1|h1
  ·exact⟨a5 y h1,λe=>a1 (by rw[←e];exact h1)⟩
  ·exact⟨a6 y h1,λe=>a2 (by rw[←e];exact h1)⟩
 have hmx:Hid (∀y,y∈m.nodes->y∈(au P (.node x l r)).nodes):=λy hy=>aI.2 (Α (by
  have h1:=ZE.out.mem_iff.1 hy
  simp only [BT.nodes,ρ];exact Β h1))
 have PM:Hid m.nodes.Nodup:=ZE.out.nodup_iff.2 HP.out.2.1;clear vE hp6 f6 Qj hs6 hs5 hs3 VD hp3 PR hl3 LA vQ jo km klo klo2 kr kl r1 hu1 g1 hv6 hv5 hv4 hv3 hv2 hq2 hq4 hu3 bW iX;obtain⟨wX,hwX,uX⟩:∃wX,wX=w6/\ae [] w6 wX:=⟨w6,rfl,ae.refl _ _⟩;cases P with
 |nil=>
  rw[show DY ([]:List Fr)=-1 from rfl,show tv (-1)=0 from rfl,show tb (-1)=false from rfl] at ku;have g61:=q61 w6 (ae.refl _ _);clear q61
  go_wp2_with (first
   |((go_at_call 240;(with_reducible refine(ku _ η).mono ?_));rintro e w7 ⟨rfl,kk,hw7⟩;(have u7:ae [] w6 w7:=(by rw[hw7];refine ae.drewN ?_ _;exact η));clear hw7;(have kc:=oF (xn.out.ag u7) g m.root hgq hmr))
   |((go_at_call 256;(with_reducible refine(kc).mono ?_));rintro e w8 ⟨rfl,wD,hM8⟩;(have g80:=hM8.h0);(have kd:=gT hM8.cells x OB.out))
   |((go_at_call 134;(with_reducible refine(kd).mono ?_));rintro e w9 ⟨rfl,hC9,Ca⟩)
   | fail)
  go_ret;obtain⟨b1,b2,b4⟩:=H6.out;have bx:=((fq _ _).1 b1).1;refine⟨rfl,((u6.trans (u7.mono σ)).trans (wD.mono (by simp[SB.blk]))).trans (Ca.mono (λy hy=>by simp only[SB.blk,ρ];simp[hy])),S6,(hM8.cB Ca hC9 (λy hy=>Α hy) (fD _ _)).ext (λy=>?_),b4,b2,⟨bx.2.2.1.root,bx.2.2.2.root,bx.2.1⟩⟩
  by_cases e:y=(g:Int)
  ·rw[Δ (show([]:List Fr)=[]/\y=(g:Int) from⟨rfl,e⟩),Δ e];rfl
  ·rw[Γ e,Γ (show ¬(([]:List Fr)=[]/\y=(g:Int)) from λh=>e h.2)]
 |cons fr P2=>
  rw[show DY (fr::P2)=(fr.1:Int) from rfl,Ut,Ey] at ku;have hfl:fr.1<A.cs.length:=HT.out.2.2.2 fr.1 (aI.2 (Β (by simp[eH])));have Jy:(au (fr::P2) (.node x .nil .nil)).nodes.Nodup:=by
   refine(aW (fr::P2) (.node x .nil .nil)).nodup_iff.2 ?_;obtain⟨⟨a1,a2,a3⟩,a4,a5,a6,a7⟩:=HP.out;simp only[BT.nodes,ϛ,List.singleton_append,Ζ];exact⟨a3,a7⟩
  have Ll:∀y,y∈(au (fr::P2) (.node x .nil .nil)).nodes->y∈(au (fr::P2) (.node x l r)).nodes:=λy hy=>by
   rw[aI] at hy ⊢;simp only[BT.nodes,ϛ,ρ,ς,or_false] at hy;rcases hy with hy|hy
   ·exact Α (by simp[BT.nodes,hy])
   ·exact Β hy
  have ksd:=λW (hW:ae [] w6 W)=>Lx (xn.out.ag hW).trees H6.out.1 Jy hfl;have Gr:=λW (hW:ae [] w6 W)=>nV (xn.out.ag hW).trees (f:=fr) (P:=P2) (t:=.node x .nil .nil) H6.out.1 Jy (λy hy=>HT.out.2.2.2 y (Ll y hy));rw[show BT.root (.node x .nil .nil)=(x:Int) from rfl] at Gr;generalize hcv:cutV fr (.node x .nil .nil)=cv at Gr;generalize hcb:tb (x:Int)=cb at Gr;have JV:=χ (ψ Jy Ll);have g61:=q61 w6 (ae.refl _ _);clear Jy Ll hcv hcb
  go_wp2_with (first
   |((go_at_call 240;(with_reducible refine(ku _ η).mono ?_));rintro e w7 ⟨rfl,kk,hw7⟩;(have u7:ae [] w6 w7:=(by rw[hw7];refine ae.drewN ?_ _;exact η));clear hw7)
   | fail)
  obtain⟨r',bb,hbb,kr⟩:=ksd w7 u7;have hmz':(m=.nil/\(m.root != -1)=false)\/(m≠.nil/\(m.root != -1)=true):=by
   by_cases e:m=.nil
   ·exact Α ⟨e,by rw[e];rfl⟩
   ·exact Β ⟨e,by have:=(cz e).2;simp;omega⟩
  have HQ61:=χ q61;clear ksd ku q61;rcases hmz' with⟨hmz,hmb⟩|⟨hmz,hmb⟩
  ·have HMZ:=χ hmz;clear hmz;rcases hbb with⟨rfl,hb2⟩|⟨rfl,hb2⟩
   all_goals
    go_wp2_with (first
     |((go_at_call 239;(with_reducible refine(kr).mono ?_));rintro e w8 ⟨rfl,k8,hw8⟩;(have u8:ae [] w6 w8:=(by rw[hw8];exact u7.drewN k8));clear hw8;(have g81:=HQ61.out w8 u8);(have kc:=Gr w8 u8))
     |((go_at_call 234;(with_reducible refine(kc).mono ?_));rintro e w9 ⟨rfl,Ca,S9,Xy,hx9,hp9,hs9⟩;(have g90:=((xn.out.ag u8).iC Ca Xy).h0);(have kd:=gT ((xn.out.ag u8).iC Ca Xy).cells x OB.out))
     |((go_at_call 134;(with_reducible refine(kd).mono ?_));rintro e w10 ⟨rfl,K8,Ad⟩)
     | fail)
    go_ret;have hz:=HMZ.out;subst hz;refine⟨rfl,((u6.trans (u8.mono σ)).trans (Ca.mono (by simp[SB.blk]))).trans (Ad.mono (λy hy=>by simp only[SB.blk,ρ];simp[hy])),S9,(((xn.out.ag u8).iC Ca Xy).cB Ad K8 (λy hy=>Α hy) (fD _ _)).ext (λy=>by rw[Γ σ]),hp9,λy hy=>gL (H6.out.2.1 y hy) (hs9 y (λhm=>hy (JV.out.2 y hm))),⟨hx9.2.2.1.root,hx9.2.2.2.root,hx9.2.1⟩⟩
  ·have HMZ:=χ hmz;have hxm:∀y,y∈m.nodes->y∉(au (fr::P2) (.node x .nil .nil)).nodes:=λy hy hm=>by
    have b1:=hmm.out y hy;rw[aI] at hm;simp only[BT.nodes,ϛ,ρ,ς,or_false] at hm;rcases hm with hm|hm
    ·exact b1.2 hm
    ·exact b1.1 hm
   have hnd:(m.nodes++eH (fr::P2)).Nodup:=by
    rw[θ];exact⟨PM.out,HP.out.2.2.2.2,λa ha b hb e=>(hmm.out a ha).1 (by rw[e];exact hb)⟩
   have hsm:∀y,y∈m.nodes++eH (fr::P2)->y∈(au (fr::P2) (.node x l r)).nodes:=λy hy=>by
    rw[τ] at hy;rcases hy with hy|hy
    ·exact hmx.out y hy
    ·exact aI.2 (Β hy)
   have Q9:=χ (ψ hxm (ψ hnd hsm));clear hmz hxm hnd hsm;rcases hbb with⟨rfl,hb2⟩|⟨rfl,hb2⟩
   all_goals
    go_wp2_with (first
     |((go_at_call 239;(with_reducible refine(kr).mono ?_));rintro e w8 ⟨rfl,k8,hw8⟩;(have u8:ae [] w6 w8:=(by rw[hw8];exact u7.drewN k8));clear hw8;(have g81:=HQ61.out w8 u8);(have kc:=Gr w8 u8))
     |((go_at_call 234;(with_reducible refine(kc).mono ?_));rintro e w9 ⟨rfl,Ca,S9,Xy,hx9,hp9,hs9⟩;(have g91:=((xn.out.ag u8).iC Ca Xy).h1);(have khg:=D6 Xy hp9 (H6.out.2.2.frame (λy hy=>hs9 y (Q9.out.1 y hy))) HMZ.out Q9.out.2.1 (λy hy=>HT.out.2.2.2 y (Q9.out.2.2 y hy)));(try rw[hb2] at khg))
     |((go_at_call 241;(with_reducible refine(khg).mono ?_));rintro e w9b ⟨rfl,V4,S9b,ZG,hp9b,hs9b⟩;(have g90:=(((xn.out.ag u8).iC Ca Xy).iC V4 ZG).h0);(have kd:=gT (((xn.out.ag u8).iC Ca Xy).iC V4 ZG).cells x OB.out))
     |((go_at_call 134;(with_reducible refine(kd).mono ?_));rintro e w10 ⟨rfl,K8,Ad⟩)
     | fail)
    go_ret;have wM:x∉m.nodes++eH (fr::P2):=λhm=>by
     rw[τ] at hm;rcases hm with hm|hm
     ·exact(hmm.out x hm).2 rfl
     ·exact HP.out.1.2.2 hm
    have a3:=hs9b x wM;refine⟨rfl,(((u6.trans (u8.mono σ)).trans (Ca.mono (by simp[SB.blk]))).trans (V4.mono (by simp[SB.blk]))).trans (Ad.mono (λy hy=>by simp only[SB.blk,ρ];simp[hy])),S9b,((((xn.out.ag u8).iC Ca Xy).iC V4 ZG).cB Ad K8 (λy hy=>Α hy) (fD _ _)).ext (λy=>by rw[Γ σ]),hp9b,λy hy=>gL (gL (H6.out.2.1 y hy) (hs9 y (λhm=>hy (JV.out.2 y hm)))) (hs9b y (λhm=>hy (Q9.out.2.2 y hm))),⟨a3.1.trans hx9.2.2.1.root,a3.2.1.trans hx9.2.2.2.root,a3.2.2.trans hx9.2.1⟩⟩
theorem zh(h:lK w B F A st tr)(g x:Nat)(hx:x∈(tr g).nodes) :
  Calls prog 251 #[.pointer (some ⟨B.n0,0,none⟩),.int .i64 (x:Int)] w λe w'=>e=.returned (.bool true)/\ae (B.blk F) w w'/\
   lK w' B F (bg A x) (cK st (Hu A (tr g) x).2) (λq=>if q=g then(Hu A (tr g) x).1 else tr q):=by
 obtain⟨S,hM,hI⟩:=h;have hm:=(hI.mem g x).1 hx;have hin:bY A (x:Int)=true:=(aj A x).2 ⟨hm.2.1,ω⟩;have e:=nP hx;unfold Hu;generalize (pathOf (tr g) x).1=P at *;generalize (pathOf (tr g) x).2.1=l at *;generalize (pathOf (tr g) x).2.2=r at *;have hq:1<=g/\g<A.hs.length:=by have:=hM.cells.ok.nat x hm.2.1;omega
 have Zi:=hM.cells.ok.h1;have hT:=hI.zG g;have hn:=hI.nd g;have hH:=hI.heap g;rw[e] at hT hn hH;obtain⟨d1,d2,d3⟩:=IK uj hn hH;refine(E9 hM hin hm.2.2 ω hT hn (λy hy=>?_)).mono ?_
 ·rw[←e] at hy;have:=(hI.mem g y).1 hy;exact(aj A y).2 ⟨this.2.1,ω⟩
 ·rintro e' w' ⟨rfl,hu,S',q1,q2,q4,q5⟩;refine⟨rfl,hu,S',q1.ext (λy=>?_),(vN.del (iI:=tu (bg A x) (λq=>if q=g then(au P (aH oP A l r).1) else tr q)) hI hx q2 ?_ d2 (λy hy=>q4 y (by rw[←e];exact hy)) q5 (λq hq'=>?_))⟩
  ·rw[←Bh (A':=bg A x) (tr:=tr) (t:=au P (aH oP A l r).1) (by rw[iV]) hq y]
   by_cases ey:y=(g:Int)
   ·rw[Δ ey]
    by_cases hp:P=[]
    ·rw[Δ ⟨hp,ey⟩]
    ·rw[Γ (λh=>hp h.1),ey];cases P with
     |nil=>exact absurd rfl hp
     |cons f P2=>
      unfold oN;rw[Δ ω,π,e,jU f P2 (.node x l r) (aH oP A l r).1]
   ·rw[Γ ey,Γ (λh=>ey h.2)]
  ·rw[e];exact d1
  ·have ZO:q<(bg A (x:Int)).hs.length:=by rw[iV];exact hq'
   unfold tu;rw[φ,ϒ,List.getElem?_range ZO]
   show(if q=g then au P (aH oP A l r).1 else tr q).root=_
   by_cases eq:q=g
   ·rw[Δ eq,Δ eq]
   ·rw[Γ eq,Γ eq];rw[φ,ϒ,List.getElem?_range hq'];rfl
theorem Cv(h:lK w B F A st tr)(g:Nat)(hn:0<dD A g) :
  Calls prog 252 #[.pointer (some ⟨B.n0,0,none⟩),.int .i64 (g:Int)] w λe w'=>∃m:Nat,dN A g=some m/\e=.returned (.tuple #[.int .i64 (m:Int),.bool true])/\ae (B.blk F) w w'/\
   lK w' B F (bg A m) (cK st (Hu A (tr g) m).2) (λq=>if q=g then(Hu A (tr g) m).1 else tr q):=by
 have k:=CY h g hn;have kd:=λm hm=>zh h g m hm;have hroot:∀m:Nat,(tr g).root=m->m∈(tr g).nodes:=λm hm=>by
  have hne:tr g≠.nil:=λe=>by rw[e] at hm;have:(-1:Int)=m:=hm;omega
  have:=(cz hne).1;rw[hm] at this;simpa using this
 clear h
 go_enter func252,ntmps252
 go_wp2_with (first
  |((go_at_call 255;(with_reducible refine(k).mono ?_));rintro e w1 ⟨m,hm1,hm2,rfl,rfl⟩;(have SQ:=kd m (hroot m hm2)))
  |((go_at_call 251;(with_reducible refine(SQ).mono ?_));rintro e w2 ⟨rfl,hu2,hL2⟩)
  | fail)
 go_ret2;exact⟨m,hm1,rfl,hu2,hL2⟩
end
noncomputable def Ri(A':NS)(t:BT)(x:Nat):BT×Nat:=
 match(pathOf t x).1 with
 | []=>(t,0)
 |_::_=>aH oP A' (au (pathOf t x).1 .nil) (.node x (pathOf t x).2.1 (pathOf t x).2.2)
section
variable{w:World}{B:SB}{F:List Nat}{A:NS}{st:Nat}{tr:Nat->BT}{S:TS}{f:Int->Option Int}
def Ga(w':World)(B:SB)(F:List Nat)(A':NS)(st:Nat)(S:TS)(f:Int->Option Int)(g:Nat)(X:List Nat)(T:BT):Prop:=
 ∃S' f',nM w' B F A' st S' f'/\dL S' (-1) T.root T/\(∀y,y∉X->S.at S' y)/\∀y,f' y=if y=(g:Int) then(if T.root=-1 then none else some T.root) else f y
theorem Uq(hM:nM w B F A st S f){g x:Nat}{l r:BT}{k s:Int}(hk:-9223372036854775808<=k/\k<=9223372036854775807/\0<=s/\s<=18446744073709551615)(hB:jf A x k s=true)
  (hg:(A.c x).i=g) (hg0:0<g) (htop:f (g:Int)=some (x:Int)) (hxl:x<A.cs.length) (hT:dL S (-1) (BT.node x l r).root (.node x l r)) :
  Calls prog 250 #[.pointer (some ⟨B.n0,0,none⟩),.int .i64 (x:Int),.agg #[.int .i64 k,.int .u64 s]] w λe w'=>e=.returned (.bool true)/\ae (B.blk F) w w'/\
   Ga w' B F (aA A x k s) st S f g (BT.node x l r).nodes (.node x l r):=by
 have hcs:=gD A x k s;have hin':bY (aA A x k s) (x:Int)=true:=(aj _ x).2 ⟨by rw[hcs];exact hxl,by rw[iH hB hxl,hg];omega⟩;have hi':((aA A x k s).c x).i=g:=by rw[iH hB hxl,hg]
 have hux:S.u x=-1:=hT.2.1;have u1:ae [] w (w.alloc (.cells #[.int .i64 k,.int .u64 s] 97)):=(ae.refl _ _).alloc _;have kp:=λW (hW:ae [] (w.alloc (.cells #[.int .i64 k,.int .u64 s] 97)) W)=>iD (hM.cells.ag (u1.trans hW)) x k s hk hB;have h0:=hM.h0;have wN:B.n0∉F:=hM.bS.1;have hlt:=hM.lt;have hsz:w.heap.size∉F:=λhm=>by have:=hlt w.heap.size (by simp[SB.blk,hm]);omega
 have r0:∀W,ae F (w.alloc (.cells #[.int .i64 k,.int .u64 s] 97)) W->W.cell? ⟨B.n0,0,none⟩=some (.pointer (some ⟨B.c,0,none⟩)):=λW hW=>hW.kept (u1.was h0) wN;have r1:∀W,ae F (w.alloc (.cells #[.int .i64 k,.int .u64 s] 97)) W->W.cell? ⟨w.heap.size,0,none⟩=some (.int .i64 k):=λW h=>h.kept σ hsz;have r2:∀W,ae F (w.alloc (.cells #[.int .i64 k,.int .u64 s] 97)) W->W.cell? ⟨w.heap.size,1,none⟩=some (.int .u64 s):=λW h=>h.kept σ hsz;have HM:=χ hM;have HG:=χ (ψ htop hT);clear hM hT htop hlt h0 hg;generalize hA':aA A x k s=A' at *
 go_enter func250,ntmps250
 go_wp2
 go_region_held3 (ae F (w.alloc (.cells #[.int .i64 k,.int .u64 s] 97))) (exact ν)
  ((go_at_call 131;(with_reducible refine(kp _ β).mono ?_);rintro e w1 ⟨rfl,gG,hu1⟩;(have hu2:ae F (w.alloc (.cells #[.int .i64 k,.int .u64 s] 97)) w1:=ν)))
 have uF:ae F w (w.alloc (.cells #[.int .i64 k,.int .u64 s] 97)):=u1.mono σ;have hM1:=HM.out.cB (uF.trans hu2) gG (λy hy=>Α hy) hcs;have kh:=bV hM1.cells x hin';rw[hi'] at kh;have g10:=hM1.h0;have jJ:=χ hM1;have u01:=χ (uF.trans hu2);clear r0 r1 r2 kp hu1 hu2 gG hM1 uF
 go_wp2_with (first
  |((go_at_call 124;(with_reducible refine(kh).mono ?_));rintro e w2 ⟨rfl,hC2,hu2⟩;(have g21:=(jJ.out.cB hu2 hC2 (λy hy=>Α hy) rfl).h1);(have kc:=Fs B.bt B.ba A'.cs.length S (x:Int) w2 (jJ.out.cB hu2 hC2 (λy hy=>Α hy) rfl).trees (by unfold pQ;rw[Δ ω,π];exact hux)))
  |(go_at_call 234;(with_reducible refine aT (kc) ?_))
  | fail)
 go_ret;refine⟨rfl,(u01.out.trans hu2).mono (λy hy=>by simp only[SB.blk,ρ];simp[hy]),S,f,jJ.out.cB hu2 hC2 (λy hy=>Α hy) rfl,HG.out.2,λy _=>⟨rfl,rfl,rfl⟩,λy=>?_⟩
 by_cases e:y=(g:Int)
 ·rw[Δ e,e,HG.out.1,Γ (by show ¬(x:Int)=-1;omega)];rfl
 ·rw[Γ e]
theorem WE(hM:nM w B F A st S f){g x:Nat}{fr:Fr}{P:List Fr}{l r:BT}{k s:Int}(hk:-9223372036854775808<=k/\k<=9223372036854775807/\0<=s/\s<=18446744073709551615)(hB:jf A x k s=true)
  (hg:(A.c x).i=g) (hg0:1<=g/\g<=65536) (htop:Qt (f (g:Int))=(au (fr::P) (.node x l r)).root) (hT:dL S (-1) (au (fr::P) (.node x l r)).root (au (fr::P) (.node x l r))) (hn:(au (fr::P) (.node x l r)).nodes.Nodup)
  (hall:∀y,y∈(au (fr::P) (.node x l r)).nodes->bY A (y:Int)=true) :
  Calls prog 250 #[.pointer (some ⟨B.n0,0,none⟩),.int .i64 (x:Int),.agg #[.int .i64 k,.int .u64 s]] w λe w'=>e=.returned (.bool true)/\ae (B.blk F) w w'/\
   Ga w' B F (aA A x k s) (cK st (aH oP (aA A x k s) (au (fr::P) .nil) (.node x l r)).2) S f g (au (fr::P) (.node x l r)).nodes (aH oP (aA A x k s) (au (fr::P) .nil) (.node x l r)).1:=by
 have hcs:=gD A x k s;have hxl:x<A.cs.length:=by
  have:=hall x (aI.2 (Α (by simp[BT.nodes])));exact((aj A x).1 this).1
 have hin':bY (aA A x k s) (x:Int)=true:=(aj _ x).2 ⟨by rw[hcs];exact hxl,by rw[iH hB hxl,hg];omega⟩;have hi':((aA A x k s).c x).i=g:=by rw[iH hB hxl,hg]
 have sU:∀y,y∈(au (fr::P) (.node x l r)).nodes->bY (aA A x k s) (y:Int)=true:=λy hy=>by
  have:=(aj A y).1 (hall y hy);exact(aj _ y).2 ⟨by rw[hcs];exact this.1,by rw[iH hB hxl];exact this.2⟩
 have hlt':∀y,y∈(au (fr::P) (.node x l r)).nodes->y<(aA A x k s).cs.length:=λy hy=>((aj _ y).1 (sU y hy)).1;have hpn:=(aW (fr::P) (.node x l r)).nodup_iff.1 hn;rw[θ] at hpn;have hn0:(au (fr::P) .nil).nodes.Nodup:=(aW (fr::P) .nil).nodup_iff.2 (by simpa[BT.nodes] using hpn.2.1);have BO:∀y,y∈(au (fr::P) .nil).nodes↔y∈eH (fr::P):=λy=>by rw[aI];simp[BT.nodes]
 have tC:((au (fr::P) .nil).nodes++(BT.node x l r).nodes).Nodup:=by
  rw[θ];exact⟨hn0,hpn.1,λa ha b hb e=>hpn.2.2 b hb a ((BO a).1 ha) e.symm⟩
 have Nu:∀y,y∈(au (fr::P) .nil).nodes++(BT.node x l r).nodes->y∈(au (fr::P) (.node x l r)).nodes:=λy hy=>by
  rw[τ,BO] at hy;rw[aI];exact hy.symm
 have hrt:(au (fr::P) (.node x l r)).root=(au (fr::P) .nil).root:=jU _ _ _ _;rw[hrt] at htop;obtain⟨mp, -⟩:=jO uj (aA A x k s) _ (au (fr::P) .nil) (.node x l r) (Θ _);have hmr:-1<=(aH oP (aA A x k s) (au (fr::P) .nil) (.node x l r)).1.root/\(aH oP (aA A x k s) (au (fr::P) .nil) (.node x l r)).1.root<=9223372036854775807:=by
  refine⟨zK _,?_⟩
  by_cases e:(aH oP (aA A x k s) (au (fr::P) .nil) (.node x l r)).1=.nil
  ·rw[e];show(-1:Int)<=_;omega
  ·have h1:=cz e;have h2:=hlt' _ (Nu _ (mp.mem_iff.1 h1.1));have h3:=hM.cells.ok.c1;rw[hcs] at h2;omega
 have u1:ae [] w (w.alloc (.cells #[.int .i64 k,.int .u64 s] 97)):=(ae.refl _ _).alloc _;have kp:=λW (hW:ae [] (w.alloc (.cells #[.int .i64 k,.int .u64 s] 97)) W)=>iD (hM.cells.ag (u1.trans hW)) x k s hk hB;have h0:=hM.h0;have wN:B.n0∉F:=hM.bS.1;have hlt:=hM.lt;have hsz:w.heap.size∉F:=λhm=>by have:=hlt w.heap.size (by simp[SB.blk,hm]);omega
 have r0:∀W,ae F (w.alloc (.cells #[.int .i64 k,.int .u64 s] 97)) W->W.cell? ⟨B.n0,0,none⟩=some (.pointer (some ⟨B.c,0,none⟩)):=λW hW=>hW.kept (u1.was h0) wN;have r1:∀W,ae F (w.alloc (.cells #[.int .i64 k,.int .u64 s] 97)) W->W.cell? ⟨w.heap.size,0,none⟩=some (.int .i64 k):=λW h=>h.kept σ hsz;have r2:∀W,ae F (w.alloc (.cells #[.int .i64 k,.int .u64 s] 97)) W->W.cell? ⟨w.heap.size,1,none⟩=some (.int .u64 s):=λW h=>h.kept σ hsz;have HM:=χ hM;have oC:=hM.cF;have HG:=χ (ψ hT (ψ hn (ψ sU hlt')));have HX:=χ (ψ tC Nu);clear hM hT hn hall sU hlt' hpn hlt h0 hg tC Nu hn0 BO hrt wN hsz mp
 generalize hA':aA A x k s=A' at *
 go_enter func250,ntmps250
 go_wp2
 go_region_held3 (ae F (w.alloc (.cells #[.int .i64 k,.int .u64 s] 97))) (exact ν)
  ((go_at_call 131;(with_reducible refine(kp _ β).mono ?_);rintro e w1 ⟨rfl,gG,hu1⟩;(have hu2:ae F (w.alloc (.cells #[.int .i64 k,.int .u64 s] 97)) w1:=ν)))
 have uF:ae F w (w.alloc (.cells #[.int .i64 k,.int .u64 s] 97)):=u1.mono σ;have hM1:=HM.out.cB (uF.trans hu2) gG (λy hy=>Α hy) hcs;have kh:=bV hM1.cells x hin';rw[hi'] at kh;have g10:=hM1.h0;have jJ:=χ hM1;have u01:=χ (uF.trans hu2);clear r0 r1 r2 kp hu1 hu2 gG hM1 uF;have Gr:∀w2,ae F w1 w2->aF w2 B.c F A' st->_:=λw2 hu2 hC2=>nV (jJ.out.cB hu2 hC2 (λy hy=>Α hy) rfl).trees (f:=fr) (P:=P) (t:=.node x l r) HG.out.1 HG.out.2.1 HG.out.2.2.2;rw[show BT.root (.node x l r)=(x:Int) from rfl,Ey] at Gr;generalize cutV fr (.node x l r)=cv at Gr
 go_wp2_with (first
  |((go_at_call 124;(with_reducible refine(kh).mono ?_));rintro e w2 ⟨rfl,hC2,hu2⟩;(have g21:=(jJ.out.cB hu2 hC2 (λy hy=>Α hy) rfl).h1);(have kc:=Gr w2 hu2 hC2))
  |((go_at_call 234;(with_reducible refine(kc).mono ?_));rintro e w3 ⟨rfl,hu3,S3,Cg,hx3,hp3,hs3⟩;(have jo:=(jJ.out.cB hu2 hC2 (λy hy=>Α hy) rfl).iC hu3 Cg);(have kf:=l8 jo (g:Int) ω);rw[htop] at kf;(have km:=rO jo (ta:=au (fr::P) .nil) (tb:=.node x l r) hp3 hx3 HX.out.1 (λy hy=>HG.out.2.2.1 y (HX.out.2 y hy)));rw[show BT.root (.node x l r)=(x:Int) from rfl] at km)
  |(go_at_call 258;(with_reducible refine aT (kf) ?_))
  |((go_at_call 257;(with_reducible refine(km).mono ?_));rintro e w4 ⟨rfl,fU,S4,sM,Q0,hs4⟩;(have kcr:=oF sM g _ ω hmr))
  |((go_at_call 256;(with_reducible refine(kcr).mono ?_));rintro e w5 ⟨rfl,bW,vQ⟩)
  | fail)
 go_ret;refine⟨rfl,((((u01.out.trans hu2).mono (λy hy=>by simp only[SB.blk,ρ];simp[hy])).trans (hu3.mono (by simp[SB.blk]))).trans (fU.mono (λy hy=>?_))).trans (bW.mono (by simp[SB.blk])),S4,_,vQ,Q0,λy hy=>gL (hs3 y hy) (hs4 y (λhm=>hy (HX.out.2 y hm))),λy=>rfl⟩;simp only[ρ,ς,or_false] at hy;simp only[SB.blk,ρ];rcases hy with rfl|rfl
 ·simp[oC]
 ·simp
theorem Us(h:lK w B F A st tr)(g x:Nat)(hx:x∈(tr g).nodes)(k s:Int)(hk:-9223372036854775808<=k/\k<=9223372036854775807/\0<=s/\s<=18446744073709551615)(hB:jf A x k s=true) :
  Calls prog 250 #[.pointer (some ⟨B.n0,0,none⟩),.int .i64 (x:Int),.agg #[.int .i64 k,.int .u64 s]] w λe w'=>e=.returned (.bool true)/\ae (B.blk F) w w'/\
   lK w' B F (aA A x k s) (cK st (Ri (aA A x k s) (tr g) x).2) (λq=>if q=g then(Ri (aA A x k s) (tr g) x).1 else tr q):=by
 obtain⟨S,hM,hI⟩:=h;have hm:=(hI.mem g x).1 hx;have e:=nP hx;unfold Ri;generalize (pathOf (tr g) x).1=P at *;generalize (pathOf (tr g) x).2.1=l at *;generalize (pathOf (tr g) x).2.2=r at *;have hq:1<=g/\g<A.hs.length:=by have:=hM.cells.ok.nat x hm.2.1;omega
 have Zi:=hM.cells.ok.h1;have hT:=hI.zG g;have hn:=hI.nd g;have hH:=hI.heap g;have htp:=tY A tr g hq;rw[e] at hT hn hH htp;obtain⟨d1,d2⟩:=IY hB hm.2.1 hn hH;have fin:∀w' T st',Ga w' B F (aA A x k s) st' S (oN A tr) g (tr g).nodes T->T.nodes.Perm (tr g).nodes->Heap (aA A x k s) T->lK w' B F (aA A x k s) st' (λq=>if q=g then T else tr q):=λw' T st' hE hp hh=>by
  obtain⟨S',f',q1,q2,q4,q6⟩:=hE;refine⟨S',q1.ext (λy=>by rw[q6 y];exact Bh (by rw[lQ]) hq y),vN.low (iI:=tu (aA A x k s) (λq=>if q=g then T else tr q)) hI hB hx q2 hp hh q4 (λq hq'=>?_)⟩;have ZO:q<(aA A x k s).hs.length:=by rw[lQ];exact hq'
  unfold tu;rw[φ,ϒ,List.getElem?_range ZO]
  show(if q=g then T else tr q).root=_
  by_cases eq:q=g
  ·rw[Δ eq,Δ eq]
  ·rw[Γ eq,Γ eq];rw[φ,ϒ,List.getElem?_range hq'];rfl
 cases P with
 |nil=>
  have ht2:oN A tr (g:Int)=some (x:Int):=by
   unfold oN;rw[Δ ω,π,e]
   show(if(x:Int)=-1 then none else some (x:Int))=_
   rw[Γ ω]
  refine(Uq hM hk hB hm.2.2 hm.1 ht2 hm.2.1 hT).mono ?_;rintro e' w' ⟨rfl,hu,hE⟩;have e2:tr g=.node x l r:=e;refine⟨rfl,hu,?_⟩
  show lK w' B F (aA A x k s) (cK st 0) (λq=>if q=g then tr g else tr q)
  rw[fF hM.cells.nH];refine fin w' _ st (by rw[e2];exact hE) (ό _) (by rw[e2];exact d2)
 |cons fr P2=>
  refine(WE hM hk hB hm.2.2 ω htp hT hn (λy hy=>?_)).mono ?_
  ·rw[←e] at hy;have:=(hI.mem g y).1 hy;exact(aj A y).2 ⟨this.2.1,ω⟩
  ·rintro e' w' ⟨rfl,hu,hE⟩;refine⟨rfl,hu,?_⟩;obtain⟨mp,mh⟩:=jO uj (aA A x k s) _ (au (fr::P2) .nil) (.node x l r) (Θ _);have pn:((au (fr::P2) .nil).nodes++(BT.node x l r).nodes).Perm (tr g).nodes:=by
    rw[e];refine((aW (fr::P2) .nil).append_right _).trans ?_;refine List.perm_append_comm.trans ?_;simp only[BT.nodes,ϛ];exact(aW (fr::P2) (.node x l r)).symm
   refine fin w' _ _ (by rw[e];exact hE) (mp.trans pn) (mh d1 d2 (pn.nodup_iff.2 (hI.nd g)))
end
theorem Pe{A A':NS}{tr:Nat->BT}{a b:Nat}{t:BT}(hl:A'.hs.length=A.hs.length)(ha:1<=a/\a<A.hs.length)(hb:1<=b/\b<A.hs.length)(hne:a≠b)(k:Int) :
  (if k=(b:Int) then(if(-1:Int)=-1 then none else some (-1)) else if k=(a:Int) then(if t.root=-1 then none else some t.root) else oN A tr k)=oN A' (λq=>if q=a then t else if q=b then .nil else tr q) k:=by
 unfold oN;rw[hl]
 by_cases e1:k=(b:Int)
 ·subst e1;rw[Δ rfl,Δ rfl,Δ ω,π];have:(λq=>if q=a then t else if q=b then .nil else tr q) b=.nil:=by
   show(if b=a then t else if b=b then .nil else tr b)=_
   rw[Γ (Ne.symm hne),Δ rfl]
  rw[this];rfl
 ·rw[Γ e1]
  by_cases e2:k=(a:Int)
  ·subst e2;rw[Δ rfl,Δ (show 1<=(a:Int)/\(a:Int)<A.hs.length by omega),π];have:(λq=>if q=a then t else if q=b then .nil else tr q) a=t:=by
    show(if a=a then t else if a=b then .nil else tr a)=_
    rw[Δ rfl]
   rw[this]
  ·rw[Γ e2]
   by_cases h:1<=k/\k<A.hs.length
   ·rw[Δ h,Δ h];have:(λq=>if q=a then t else if q=b then .nil else tr q) k.toNat=tr k.toNat:=by
     show(if k.toNat=a then t else if k.toNat=b then .nil else tr k.toNat)=_
     rw[Γ ω,Γ ω]
    rw[this]
   ·rw[Γ h,Γ h]
section
variable{w:World}{B:SB}{F:List Nat}{A:NS}{st:Nat}{tr:Nat->BT}
theorem Ps(h:lK w B F A st tr)(a b:Nat)(hj:gJ A a b=true) :
  Calls prog 254 #[.pointer (some ⟨B.n0,0,none⟩),.int .i64 (a:Int),.int .i64 (b:Int)] w λe w'=>e=.returned (.bool true)/\ae (B.blk F) w w'/\
   lK w' B F (az A a b) (cK st (DJ oP A tr a b).2) (λq=>if q=a then(DJ oP A tr a b).1 else if q=b then .nil else tr q):=by
 obtain⟨S,hM,hI⟩:=h;obtain⟨j1,j2,j3⟩:=(dG _ _ _).1 hj;have a1:=(aC _ _).1 j1;have a2:=(aC _ _).1 j2;have hne:a≠b:=λe=>j3 (by rw[e]);have hcs:=eY A a b;have jd:(az A a b).hs.length=A.hs.length:=by unfold az;rw[Δ hj];simp
 have hX:((tr a).nodes++(tr b).nodes).Nodup:=by
  rw[θ];refine⟨hI.nd a,hI.nd b,λx hx y hy e2=>?_⟩;have b1:=(hI.mem a x).1 hx;have b2:=(hI.mem b y).1 hy;rw[e2] at b1;omega
 have hin:∀y,y∈(tr a).nodes++(tr b).nodes->bY (az A a b) (y:Int)=true:=λy hy=>by
  rw[aj,hcs,oO hj];rw[τ] at hy;rcases hy with hy|hy
  ·have:=(hI.mem a y).1 hy;refine⟨this.2.1,?_⟩
   show 0<(if _ then _ else _:Int)
   split<;>omega
  ·have:=(hI.mem b y).1 hy;refine⟨this.2.1,?_⟩
   show 0<(if _ then _ else _:Int)
   split<;>omega
 obtain⟨mp,mh⟩:=jO uj (az A a b) _ (tr a) (tr b) (Θ _);have Qz:=mh (nO hj (hI.heap a)) (nO hj (hI.heap b)) hX;have Iw:=hI.zG a;have JH:=hI.zG b;have hfa:=tY A tr a ω;have VL:=tY A tr b ω;have ok:=hM.cells.ok;have Zi:=ok.h1
 have hmr:=Nw hI ok.c1 (t:=(aH oP (az A a b) (tr a) (tr b)).1) (λy hy=>by
  have h1:=mp.mem_iff.1 hy;have:=(aj _ y).1 (hin y h1)
  rw [hcs] at this;exact this.1)
 have hqa:1<=a/\a<A.hs.length:=ω;have hqb:1<=b/\b<A.hs.length:=ω;unfold DJ
 have FI:Hid (∀ (W:World) (S':TS) (st':Nat),nM W B F (az A a b) st' S' (λk=>if k=(b:Int) then (if (-1:Int)=-1 then none else some (-1)) else if k=(a:Int) then (if (aH oP (az A a b) (tr a) (tr b)).1.root=-1 then none else some (aH oP (az A a b) (tr a) (tr b)).1.root) else oN A tr k)->dL S' (-1) (aH oP (az A a b) (tr a) (tr b)).1.root (aH oP (az A a b) (tr a) (tr b)).1->
   (∀y,y∉(tr a).nodes++(tr b).nodes->S.at S' y)->lK W B F (az A a b) st' (λq=>if q=a then (aH oP (az A a b) (tr a) (tr b)).1 else if q=b then .nil else tr q)):=λW S' st' b1 b2 b4=>by
  refine⟨S',b1.ext (Pe jd hqa hqb hne),(hI.join hj b2 mp Qz b4 (iI:=tu (az A a b) (λq=>if q=a then(aH oP (az A a b) (tr a) (tr b)).1 else if q=b then .nil else tr q)) (λq hq=>?_)).MU⟩;unfold tu;rw[jd];simp only[φ,ϒ,List.getElem?_range hq,ϝ,Option.getD_some]
  by_cases e:q=a
  ·rw[Δ e,Δ e]
  ·rw[Γ e,Γ e]
   by_cases e2:q=b
   ·rw[Δ e2,Δ e2];rfl
   ·rw[Γ e2,Γ e2]
 have kj:=mf hM.cells a b hj;have h0:=hM.h0;have HM:=χ hM;have HH:=χ (ψ hX (ψ hin (ψ Iw JH)));have oC:=hM.cF;clear hM hI hX hin mp mh Qz Iw JH j1 j2 j3 a1 a2 ok;generalize hA':az A a b=A' at *;generalize htra:tr a=ta at *;generalize htrb:tr b=tb at *
 go_enter func254,ntmps254
 go_wp2_with (first
  |((go_at_call 141;(with_reducible refine(kj).mono ?_));rintro e w1 ⟨rfl,gG,hu1⟩)
  | fail)
 have hM1:=HM.out.cB hu1 gG (λy hy=>Α hy) hcs;have k1:=l8 hM1 (a:Int) ω;rw[hfa] at k1;have k2:=l8 hM1 (b:Int) ω;rw[VL] at k2;have km:=rO hM1 HH.out.2.2.1 HH.out.2.2.2 HH.out.1 HH.out.2.1;have jJ:=χ hM1;clear hM1 gG
 go_wp2_with (first
  |((go_at_call 258;(first|(with_reducible refine(k1).mono ?_)|(with_reducible refine(k2).mono ?_)));rintro e w9 ⟨rfl,rfl⟩)
  |((go_at_call 257;(with_reducible refine(km).mono ?_));rintro e w2 ⟨rfl,hu2,S2,hM2,zW,hs2⟩;(have kc:=oF hM2 a _ ω hmr))
  |((go_at_call 256;(first|(with_reducible refine(kc).mono ?_;rintro e w3 ⟨rfl,hu3,jo⟩;(have kd:=oF jo b (-1) ω ω))|(with_reducible refine(kd).mono ?_;rintro e w4 ⟨rfl,fU,sM⟩))))
  | fail)
 go_ret;refine⟨rfl,(((hu1.mono (λy hy=>by simp only[SB.blk,ρ];simp[hy])).trans (hu2.mono (λy hy=>?_))).trans (hu3.mono (by simp[SB.blk]))).trans (fU.mono (by simp[SB.blk])),FI.out _ S2 _ sM zW hs2⟩;simp only[ρ,ς,or_false] at hy;simp only[SB.blk,ρ];rcases hy with rfl|rfl
 ·simp[oC]
 ·simp
end
theorem Sm(n:Nat)(w:World)(h:n<=65536) :
  Calls prog 68 #[.int .i64 (n:Int)] w λe w'=>∃B F,e=.returned (.tuple #[.pointer (some ⟨B.n0,0,none⟩),.int .i64 0])/\lK w' B F (NS.new n) 0 (λ_=>.nil)/\ae [] w w'/\∀x,x∈B.blk F->w.heap.size<=x:=by
 have hmm:=@run_makeMap prog
 go_enter func68,ntmps68
 go_wp2_with (first
  |((go_at_call 84;(with_reducible refine(oH n _ h).mono ?_));rintro e w1 ⟨c,F,rfl,hC,hu1,hF⟩)
  | ((go_at_call 89;(with_reducible refine (wS n _ h).mono ?_));rintro e w2 ⟨bt,ba,rfl,hT,hu2,hb1,hb2⟩))
 go_ret2;have hcs:(NS.new n).cs.length=n:=by simp[NS.new]
 have l1:=hu1.size;have l2:=hu2.size;have l5:=hT.head.lt;have l6:=hT.row.lt;have l7:=hC.lt;have hm:=fJ.made w2;have e3:((w2.alloc (.map #[] 0)).heap.size)=w2.heap.size+1:=by rw[Κ]
 have hv1:ae [] w2 (w2.alloc (.map #[] 0)):=(ae.refl _ _).alloc _;have hv2:ae [] (w2.alloc (.map #[] 0)) ((w2.alloc (.map #[] 0)).alloc (.cells #[.pointer (some ⟨c,0,none⟩),.pointer (some ⟨bt,0,none⟩),.map (some w2.heap.size)] 207)):=(ae.refl _ _).alloc _;have hv:=hv1.trans hv2;have hh:=eZ (w2.alloc (.map #[] 0)) [.pointer (some ⟨c,0,none⟩),.pointer (some ⟨bt,0,none⟩),.map (some w2.heap.size)] 207;rw[e3] at hh;have hnF:∀x,w1.heap.size<=x->x∉F:=λx hx hm=>by have:=l7 x hm;omega
 refine⟨⟨w2.heap.size+1,c,bt,ba,w2.heap.size⟩,F,rfl,⟨TS.none,⟨hh,(hC.ag hu2).ag hv,by rw[hcs];exact hT.upd hv σ σ,?_,⟨hnF _ (by simp only;omega),hnF _ (by simp only;omega),hnF _ (by simp only;omega),hnF _ (by simp only;omega)⟩,⟨⟨by simp only;omega,by simp only;omega,by simp only;omega⟩,by simp only;omega,by simp only;omega⟩⟩,(Gi n).MU⟩,(hu1.trans hu2).trans hv,λx hx=>?_⟩
 ·refine(hm.upd hv2 σ).ext (λk=>?_);unfold oN
  split
  ·rfl
  ·rfl
 ·simp only[SB.blk,ρ] at hx;rcases hx with rfl|rfl|rfl|rfl|hx
  ·omega
  ·omega
  ·omega
  ·omega
  ·exact hF x hx
section
variable{w:World}{B:SB}{F:List Nat}{A:NS}{st:Nat}{tr:Nat->BT}
theorem lK.make{w':World}{F':List Nat}(h:lK w B F A st tr)(hl:¬65536<A.hs.length)(hu:ae F w w')(hC:aF w' B.c F' (aU A) st)(hF:∀x,x∈F'->x∈F\/w.heap.size<=x):lK w' B F' (aU A) st tr:=by
 obtain⟨S,hM,hI⟩:=h;have ok:=hM.cells.ok;have e1:(aU A).cs.length=A.cs.length:=by unfold aU;rw[Γ hl]
 have e2:(aU A).hs.length=A.hs.length+1:=by unfold aU;rw[Γ hl];simp
 have hI2:=hI.make ok (by simp[tu]) hl;have hnil:(tr A.hs.length)=.nil:=by
  cases e:tr A.hs.length with
  |nil=>rfl
  |node y a b=>
   exfalso;have:=(hI.mem A.hs.length y).1 (by rw[e];simp[BT.nodes]);have h3:=iL ok ((aj A y).2 ⟨this.2.1,ω⟩);have:=(aC _ _).1 h3;rw[π] at this;omega
 refine⟨S,(hM.cB hu hC hF e1).ext (λk=>?_),hI2.MU⟩;unfold oN;rw[e2]
 by_cases h1:1<=k/\k<A.hs.length
 ·rw[Δ h1,Δ (show 1<=k/\k<((A.hs.length+1:Nat):Int) by omega)]
 ·rw[Γ h1]
  by_cases h2:k=A.hs.length
  ·subst h2;rw[π,hnil]
   split
   ·rfl
   ·rfl
  ·rw[Γ (show ¬(1<=k/\k<((A.hs.length+1:Nat):Int)) by omega)]
end
theorem Kl:VI 142 "Has" 123:=by intro p c W h;unfold method;obtain⟨m,h1,h2,h3,h4⟩:=wC Tryz.t142.methods "Has" [⟨207,0,true⟩] 123 (by kernel_rfl);exact vZ
theorem FW:VI 142 "Entry" 121:=by intro p c W h;unfold method;obtain⟨m,h1,h2,h3,h4⟩:=wC Tryz.t142.methods "Entry" [⟨207,0,true⟩] 121 (by kernel_rfl);exact vZ
theorem JK:VI 142 "Make" 140:=by intro p c W h;unfold method;obtain⟨m,h1,h2,h3,h4⟩:=wC Tryz.t142.methods "Make" [⟨207,0,true⟩] 140 (by kernel_rfl);exact vZ
theorem Pd:MI 142 "Insert" 253:=λ_ _=>by kernel_rfl
theorem abh:MI 142 "Min" 255:=λ_ _=>by kernel_rfl
theorem Kg:MI 142 "Extract" 252:=λ_ _=>by kernel_rfl
theorem JA:MI 142 "Decrease" 250:=λ_ _=>by kernel_rfl
def SkQ(w:World)(p:Nat)(F:List Nat)(A:NS):Prop:=∃B F1 st tr,p=B.n0/\F=B.blk F1/\lK w B F1 A st tr
def wV:NestQ where
 ty:=142
 at_:=SkQ
 upd:=λh hu hS=>by
  obtain⟨B,F1,st,tr,rfl,rfl,hL⟩:=h;exact⟨B,F1,st,tr,rfl,rfl,hL.upd hu hS⟩
 lt:=λh=>by
  obtain⟨B,F1,st,tr,rfl,rfl,S,hM, -⟩:=h;exact hM.lt
 ok:=λh=>by
  obtain⟨B,F1,st,tr,rfl,rfl,S,hM, -⟩:=h;exact hM.cells.ok
 make:=λ{w p F A} h=>by
  obtain⟨B,F1,st,tr,rfl,rfl,hL⟩:=h;have h0:w.cell? ⟨B.n0,0,none⟩=some (.pointer (some ⟨B.c,0,none⟩)):=by obtain⟨S,hM, -⟩:=hL;exact hM.h0
  refine dQ 140 (λ_ _=>by kernel_rfl) h0 (JK _ _) (λW hW=>?_);have jG:=hL.ag hW;have hC:aF W B.c F1 A st:=by obtain⟨S,hM, -⟩:=jG;exact hM.cells
  refine(iP hC).mono ?_;rintro e w' ⟨rfl,F',hC2,hu,hf⟩;have hu2:ae (B.blk F1) W w':=hu.mono (λz hz=>by simp only[SB.blk,ρ];simp[hz]);have hf2:∀z,z∈B.blk F'->z∈B.blk F1\/W.heap.size<=z:=λz hz=>by
   simp only[SB.blk,ρ] at hz ⊢;rcases hz with rfl|rfl|rfl|rfl|hz
   ·simp
   ·simp
   ·simp
   ·simp
   ·rcases hf z hz with h1|h1
    ·simp[h1]
    ·exact Β h1
  refine⟨rfl,B.blk F',?_,hu2,hf2⟩
  by_cases hl:65536<A.hs.length
  ·have e2:aU A=A:=by unfold aU;rw[Δ hl]
   rw[e2] at hC2 ⊢;obtain⟨S,hM,hI⟩:=jG;exact⟨B,F',st,tr,rfl,rfl,S,hM.cB hu hC2 hf rfl,hI⟩
  ·exact⟨B,F',st,_,rfl,rfl,jG.make hl hu hC2 hf⟩
 insert:=λ{w p F A} g y k s hk hB h=>by
  obtain⟨B,F1,st,tr,rfl,rfl,hL⟩:=h;refine aJ 253 (λ_ _=>by kernel_rfl) (Pd _) (λW hW=>?_);refine(Iq (hL.ag hW) g y k s hk hB).mono ?_;rintro e w' ⟨rfl,hu,hL2⟩;exact⟨rfl,Goes.stay ⟨B,F1,_,_,rfl,rfl,hL2⟩ hu⟩
 min:=λ{w p F A} y hB h=>by
  obtain⟨B,F1,st,tr,rfl,rfl,hL⟩:=h;refine aJ 255 (λ_ _=>by kernel_rfl) (abh _) (λW hW=>?_);have jG:=hL.ag hW;have hok:A.Ok:=by obtain⟨S,hM, -⟩:=hL;exact hM.cells.ok
  by_cases hl:dD A (y:Int)=0
  ·rw[iB.2 hl];have h4:=(aC _ _).1 hB;have h5:=hok.h1;refine(PU jG y ω hl).mono ?_;rintro e w' ⟨rfl,rfl⟩;exact⟨rfl,Goes.stay ⟨B,F1,st,tr,rfl,rfl,jG⟩ (ae.refl _ _)⟩
  ·refine(CY jG y ω).mono ?_;rintro e w' ⟨m,hm, -,rfl,rfl⟩;rw[hm];exact⟨rfl,Goes.stay ⟨B,F1,st,tr,rfl,rfl,jG⟩ (ae.refl _ _)⟩
 extract:=λ{w p F A} y m hm h=>by
  obtain⟨B,F1,st,tr,rfl,rfl,hL⟩:=h;refine aJ 252 (λ_ _=>by kernel_rfl) (Kg _) (λW hW=>?_);have hl:¬dD A (y:Int)=0:=λe=>by rw[iB.2 e] at hm;cases hm
  refine(Cv (hL.ag hW) y ω).mono ?_;rintro e w' ⟨m',hm',rfl,hu,hL2⟩;rw[hm] at hm';cases hm';exact⟨rfl,Goes.stay ⟨B,F1,_,_,rfl,rfl,hL2⟩ hu⟩
 mJ:=λ{w p F A} y k s hk hB h=>by
  obtain⟨B,F1,st,tr,rfl,rfl,hL⟩:=h;refine aJ 250 (λ_ _=>by kernel_rfl) (JA _) (λW hW=>?_);have jG:=hL.ag hW;have hin:=ry hB;have hx:y∈(tr (A.c y).i.toNat).nodes:=by
   obtain⟨S,hM,hI⟩:=jG;have:=(aj _ _).1 hin;exact(hI.mem _ y).2 ⟨ω,this.1,ω⟩
  refine(Us jG _ y hx k s hk hB).mono ?_;rintro e w' ⟨rfl,hu,hL2⟩;exact⟨rfl,Goes.stay ⟨B,F1,_,_,rfl,rfl,hL2⟩ hu⟩
 has:=λx h=>by
  obtain⟨B,F1,st,tr,rfl,rfl,S,hM, -⟩:=h;exact dQ 123 (λ_ _=>by kernel_rfl) hM.h0 (Kl _ _) (λW hW=>jr (hM.ag hW).cells x)
 entry:=λ{w p F A} x h=>by
  obtain⟨B,F1,st,tr,rfl,rfl,S,hM, -⟩:=h;refine dQ 121 (λ_ _=>by kernel_rfl) hM.h0 (FW _ _) (λW hW=>?_);cases hin:bY A x with
  |false=>simpa using l9 (hM.ag hW).cells x hin
  |true=>
   obtain⟨y,rfl⟩:=rC hin;simpa using jT (hM.ag hW).cells y hin
theorem Md(p:Nat)(w:World):Calls prog 67 #[.pointer (some ⟨p,0,none⟩),.int .i64 0] w λe w'=>e=.returned (.tuple #[.iface 142 (.pointer (some ⟨p,0,none⟩)),.int .i64 0])/\w'=w:=by
 go_enter func67,ntmps67
 go_wp2;go_ret2;exact⟨rfl,rfl⟩
theorem Il(n:Nat)(hn:n<=65536):o9 wV 7 0 n:=by
 intro w;have kn:=λW=>Sm n W hn;have km:=Md;have hty:wV.ty=142:=rfl;have hat:∀w' B F,lK w' B F (NS.new n) 0 (λ_=>.nil)->wV.at_ w' B.n0 (B.blk F) (NS.new n)/\Ih w' B.n0 n:=λw' B F h=>⟨⟨B,F,_,_,rfl,rfl,h⟩,by obtain⟨S,hM, -⟩:=h;exact⟨_,_,hM.h0,hM.cells⟩⟩
 generalize wV=K at *;rw[hty]
 go_enter func35,ntmps35
 go_wp2_with (first
  |((go_at_call 68;(with_reducible refine(kn _).mono ?_));rintro e w1 ⟨B,F,rfl,hS,hu1,hf⟩)
  |((go_at_call 67;(with_reducible refine(km _ _).mono ?_));rintro e w2 ⟨rfl,rfl⟩)
  | fail)
 go_ret2;exact⟨B.n0,B.blk F,rfl,(hat _ _ _ hS).1,(hat _ _ _ hS).2,ae.trans β hu1,λx hx=>by have:=hf x hx;simp at this;omega⟩
end Go.Proofs.YtnpdakpagnpanaaGreat
