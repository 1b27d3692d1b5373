/-
  Lemmas for PqOpens: Sk, Sk2, Sk3, Sk6, SkQ, SkO. Conditions: those of each lemma.
-/
import Derived.Test.YtnpdakpagnpanaaGreatD05
set_option linter.all false
set_option maxHeartbeats 8000000
set_option maxRecDepth 10000
namespace Go.Proofs.YtnpdakpagnpanaaGreat
open Go Go.RowKit
structure SB where
 n0:Nat
 c:Nat
 bt:Nat
 ba:Nat
 mb:Nat
structure ig (w:World) (B:SB) (F:List Nat) (A:NS) (st:Nat) (S:TS) (f:Int->Option Int):Prop where
 head:ak w B.n0 207 3 (λj=>[Value.pointer (some ⟨B.c,0,none⟩),.pointer (some ⟨B.bt,0,none⟩),.map (some B.mb)].getD j undef)
 cells:ai w B.c F A st
 trees:aO w B.bt B.ba A.cs.length S
 top:cu w B.mb f
 aS:B.n0∉F/\B.bt∉F/\B.ba∉F/\B.mb∉F
 sep:(B.n0≠B.bt/\B.n0≠B.ba/\B.n0≠B.mb)/\(B.bt≠B.mb/\B.ba≠B.mb)
section
variable {w:World} {B:SB} {F:List Nat} {A:NS} {st:Nat} {S:TS} {f:Int->Option Int}
def SB.blk (B:SB) (F:List Nat):List Nat:=B.n0::B.bt::B.ba::B.mb::F
theorem ig.upd {w':World} {G:List Nat} (h:ig w B F A st S f) (hu:aa G w w') (hG:∀x,x∈G->x∉B.blk F):ig w' B F A st S f:=by
 have hb:∀y,y∈B.blk F->y∉G:=λy hy hm=>hG y hm hy;exact ⟨h.head.upd hu (hb _ (by simp [SB.blk])),h.cells.upd hu (λx hx hm=>hG x hx (by simp [SB.blk,hm])),h.trees.upd hu (hb _ (by simp [SB.blk])) (hb _ (by simp [SB.blk])),h.top.upd hu (hb _ (by simp [SB.blk])),h.aS,h.sep⟩
theorem ig.ah {w':World} (h:ig w B F A st S f) (hu:aa [] w w'):ig w' B F A st S f:=h.upd hu σ
theorem ig.lt (h:ig w B F A st S f):∀x,x∈B.blk F->x<w.heap.size:=λx hx=>by
 simp only [SB.blk,ρ] at hx;rcases hx with rfl|rfl|rfl|rfl|hx
 ·exact h.head.lt
 ·exact h.trees.head.lt
 ·exact h.trees.row.lt
 ·exact h.top.lt
 ·exact h.cells.lt x hx
theorem ig.cF (h:ig w B F A st S f):B.c∈F:=h.cells.mem
theorem ig.h0 (h:ig w B F A st S f):w.cell? ⟨B.n0,0,none⟩=some (.pointer (some ⟨B.c,0,none⟩)):=h.head.cellAt 0 ω rfl
theorem ig.h1 (h:ig w B F A st S f):w.cell? ⟨B.n0,1,none⟩=some (.pointer (some ⟨B.bt,0,none⟩)):=h.head.cellAt 1 ω rfl
theorem ig.h2 (h:ig w B F A st S f):w.cell? ⟨B.n0,2,none⟩=some (.map (some B.mb)):=h.head.cellAt 2 ω rfl
theorem ig.iY {w':World} {S':TS} (h:ig w B F A st S f) (hu:aa [B.ba] w w') (hT:aO w' B.bt B.ba A.cs.length S'):ig w' B F A st S' f:=by
 obtain ⟨⟨s1,s2,s3⟩,s4,s5⟩:=h.sep;obtain ⟨f1,f2,f3,f4⟩:=h.aS;exact ⟨h.head.upd hu (by simp;exact s2),h.cells.upd hu (λx hx hm=>by simp at hx;subst hx;exact f3 hm),hT,h.top.upd hu (by simp;exact Ne.symm s5),h.aS,h.sep⟩
theorem ig.Hw {w':World} {f':Int->Option Int} (h:ig w B F A st S f) (hu:aa [B.mb] w w') (hM:cu w' B.mb f'):ig w' B F A st S f':=by
 obtain ⟨⟨s1,s2,s3⟩,s4,s5⟩:=h.sep;obtain ⟨f1,f2,f3,f4⟩:=h.aS;exact ⟨h.head.upd hu (by simp;exact s3),h.cells.upd hu (λx hx hm=>by simp at hx;subst hx;exact f4 hm),h.trees.upd hu (by simp;exact s4) (by simp;exact s5),hM,h.aS,h.sep⟩
theorem ig.fw {w':World} {F':List Nat} {A':NS} {st':Nat} (h:ig w B F A st S f) (hu:aa F w w') (hC:ai w' B.c F' A' st') (hF:∀x,x∈F'->x∈F\/w.heap.size<=x) (h1:A'.cs.length=A.cs.length):ig w' B F' A' st' S f:=by
 obtain ⟨f1,f2,f3,f4⟩:=h.aS;have hn:∀y,y<w.heap.size->y∉F->y∉F':=λy hy hm hm'=>by rcases hF y hm' with h'|h';exact hm h';omega
 have hl:=h.lt;exact ⟨h.head.upd hu f1,hC,by rw [h1];exact h.trees.upd hu f2 f3,h.top.upd hu f4,⟨hn _ (hl _ (by simp [SB.blk])) f1,hn _ (hl _ (by simp [SB.blk])) f2,hn _ (hl _ (by simp [SB.blk])) f3,hn _ (hl _ (by simp [SB.blk])) f4⟩,h.sep⟩
def Bd (o:Option Int):Int:=o.getD (-1)
theorem jQ (h:ig w B F A st S f) (q:Int) (hq:-9223372036854775808<=q/\q<=9223372036854775807) :
  Calls Tryz.prog 258 #[.pointer (some ⟨B.n0,0,none⟩),.int .i64 q] w λe w'=>e=.returned (.int .i64 (Bd (f q)))/\w'=w:=by
 have h2:=h.h2;have ht:=h.top;have k:=ht.look_ok q hq;unfold Bd;cases hf:f q with
 | none=>
  rw [hf] at k;simp only [Option.getD_none,Option.isSome_none] at k ⊢;clear ht h
  go_enter Tryz.func258,Tryz.ntmps258
  go_wp2;go_ret;exact ⟨rfl,rfl⟩
 | some z=>
  rw [hf] at k;simp only [Option.getD_some,Option.isSome_some] at k ⊢;clear ht h
  go_enter Tryz.func258,Tryz.ntmps258
  go_wp2;go_ret;exact ⟨rfl,rfl⟩
theorem vP (h:ig w B F A st S f) (q:Nat) (z:Int) (hq:1<=q/\q<=65536) (hz:-1<=z/\z<=9223372036854775807) :
  Calls Tryz.prog 256 #[.pointer (some ⟨B.n0,0,none⟩),.int .i64 (q:Int),.int .i64 z] w λe w'=>e=.returned (.tuple #[])/\aa [B.mb] w w'/\ig w' B F A st S (λy=>if y=(q:Int) then (if z=-1 then none else some z) else f y):=by
 have h2:=h.h2;have ht:=h.top;have H:=χ h
 by_cases he:z=-1
 ·subst he;clear h
  go_enter Tryz.func256,Tryz.ntmps256
  go_wp2_with (refine sV rfl _ _ rfl B.mb f rfl ht q rfl ω ?_;intro w1 hm1 hu1)
  go_end0;exact ⟨rfl,hu1,H.out.Hw hu1 hm1⟩
 ·have hb:(z == -1)=false:=by simpa using he
  rw [Γ he];clear h he
  go_enter Tryz.func256,Tryz.ntmps256
  go_wp2_with (refine jc rfl _ _ _ rfl B.mb f rfl ht q z rfl rfl ω ω ?_;intro w1 hm1 hu1)
  go_end0;exact ⟨rfl,hu1,H.out.Hw hu1 hm1⟩
end
def nP (x:Nat) (l m:BT):BT:=.node x m l
theorem uW:CJ nP where
 nodes:=λx l r=>by
  unfold nP;simp only [BT.nodes];exact List.perm_append_comm.cons x
 heap:=λA x l r h1 h2 hl hr=>⟨h2,h1,hr,hl⟩
 root:=λx l r=>rfl
theorem oF {S:TS} {p:Int} {x:Nat} {l r:BT} (h:dD S p x (.node x l r)) (hn:(BT.node x l r).nodes.Nodup):dD (dG S x) p x (.node x r l)/\∀y,y≠x->S.at (dG S x) y:=by
 have hs:∀y,y≠x->S.at (dG S x) y:=λy hy=>by
  unfold dG TS.aC TS.at;simp [hy]
 have hl:(dG S x).l x=S.r x:=by unfold dG TS.aC;simp
 have hr:(dG S x).r x=S.l x:=by unfold dG TS.aC;simp
 have hu:(dG S x).u x=S.u x:=by unfold dG TS.aC;simp
 simp only [BT.nodes,Ζ,τ,not_or] at hn;refine ⟨Bb (hu.trans h.2.1) ?_ ?_,hs⟩
 ·rw [hl];exact h.2.2.2.frame (λy hy=>hs y (λe=>hn.1.2 (by rw [←e];exact hy)))
 ·rw [hr];exact h.2.2.1.frame (λy hy=>hs y (λe=>hn.1.1 (by rw [←e];exact hy)))
section
variable {w:World} {B:SB} {F:List Nat} {A:NS} {st:Nat} {S:TS} {f:Int->Option Int}
theorem xZ (h:ig w B F A st S f) {p:Int} {x:Nat} {l r:BT} (hT:dD S p x (.node x l r)) (hx:x<A.cs.length) (hr:∀y,y∈r.nodes->y<A.cs.length) :
  Calls Tryz.prog 259 #[.pointer (some ⟨B.n0,0,none⟩),.int .i64 (tv r.root),.bool (tb r.root)] w λe w'=>e=.returned (.int .i64 r.root)/\aa [B.ba] w w'/\ig w' B F A st (nC S x r) f:=by
 have h1:=h.h1;cases r with
 | nil=>
  rw [show tv (BT.root .nil)=0 from rfl,show tb (BT.root .nil)=false from rfl,show BT.root .nil=-1 from rfl];have H:=χ h;clear h hT hr
  go_enter Tryz.func259,Tryz.ntmps259
  go_wp2;go_ret;exact ⟨rfl,aa.refl _ _,H.out⟩
 | node y a b=>
  obtain ⟨_,_,_,hr'⟩:=hT;have e2:S.u y=x:=hr'.2.1;have kc:=wI B.bt B.ba A.cs.length S x y w h.trees hx (hr y (by simp [BT.nodes])) e2;rw [show tv (BT.root (.node y a b))=(y:Int) by show tv (y:Int)=y;unfold tv;rw [Γ ω],show tb (BT.root (.node y a b))=true by show tb (y:Int)=true;unfold tb;simp,show BT.root (.node y a b)=(y:Int) from rfl];have H:=χ h;clear h hr hr' e2
  go_enter Tryz.func259,Tryz.ntmps259
  go_wp2_with (first
   | ((go_at_call 234;(with_reducible refine (kc).mono ?_));rintro e w1 ⟨rfl,hT1,hu1⟩)
   | fail)
  go_ret;exact ⟨rfl,hu1,H.out.iY hu1 hT1⟩
theorem uE (h:ig w B F A st S f) {p:Int} {x:Nat} {l r:BT} (hT:dD S p x (.node x l r)) (hx:x<A.cs.length) :
  Calls Tryz.prog 239 #[.pointer (some ⟨B.bt,0,none⟩),.int .i64 (x:Int)] w λe w'=>e=.returned (.tuple #[.int .i64 (tv r.root),.bool (tb r.root)])/\aa [] w w':=by
 refine (uT h.trees hT hx).mono ?_;rintro e w' ⟨rfl,k,rfl⟩;exact ⟨rfl,(aa.refl _ _).drewN k⟩
theorem wy (t:BT):-1<=t.root:=by cases t with
 | nil=>exact Int.le_refl _
 | node x l r=>show (-1:Int)<=(x:Int);omega
theorem vK (h:ig w B F A st S f) {ta tb:BT} (ha:dD S (-1) ta.root ta) (hb:dD S (-1) tb.root tb) (hX:(ta.nodes++tb.nodes).Nodup) (hin:∀y,y∈ta.nodes++tb.nodes->dh A (y:Int)=true) :
  Calls Tryz.prog 257 #[.pointer (some ⟨B.n0,0,none⟩),.int .i64 ta.root,.int .i64 tb.root] w λe w'=>e=.returned (.int .i64 (az nP A ta tb).1.root)/\aa [B.c,B.ba] w w'/\
   ∃S',ig w' B F A (bR st (az nP A ta tb).2) S' f/\dD S' (-1) (az nP A ta tb).1.root (az nP A ta tb).1/\∀y,y∉ta.nodes++tb.nodes->S.at S' y:=by
 have hblk:=h.lt;have qz:=h.cF;have Jy:=hblk B.n0 (by simp [SB.blk]);have KL:=hblk B.bt (by simp [SB.blk]);have KJ:=hblk B.ba (by simp [SB.blk]);have KU:=hblk B.c (by simp [SB.blk,qz]);have hs:=χ h.sep;have hA:=h.cells.ok.c1;have hlt:Hid (∀y,y∈ta.nodes++tb.nodes->y<A.cs.length):=λy hy=>((aK A y).1 (hin y hy)).1;have hXl:(ta.nodes++tb.nodes).length<=A.cs.length:=fI hX hlt.out;have Hm:=χ h;have Kz:=χ hblk;have D0:=χ (Down.start nP A ha hb);have G7:=χ hin;have HX:=χ hX;have hst:=h.cells.ni;clear h ha hb hblk qz hin hX
 go_enter Tryz.func257,Tryz.ntmps257
 go_wp2
 go_loopw [1,2,7] (λa b way wr=>∃ (S1:TS) (W:List (Nat×BT)) (a1 b1:BT),a=.int .i64 a1.root/\b=.int .i64 b1.root/\wr.ownsRow w.heap.size 3 1 way W.length (uK W)/\ig wr B F A (bR st W.length) S1 f/\Down nP A S ta tb S1 W a1 b1/\aa [B.c,B.ba] w wr) (λ_ _ way _=>(ta.nodes++tb.nodes).length-lenOf way)
 case atStart=>
  exact ⟨S,[],ta,tb,rfl,rfl,⟨by simp [uK,bD],Α ⟨rfl,rfl⟩⟩,by rw [List.length_nil,eu hst];exact Hm.out.ah β,D0.out,β⟩
 case round=>
  obtain ⟨S1,W,a1,b1,rfl,rfl,ho,hM,hD,hu⟩:=hrel;have HM:=χ hM;have HD:=χ hD;have HO:=χ ho;have hlen:=hD.len;have h0:=hM.h0;have h1:=hM.h1;clear hM hD;obtain ⟨a5,c5,rfl,Jv⟩:=bM ho;have yK:∀g,(Value.slice a5 W.length c5).ownBlock=some g->w.heap.size<=g:=λg hg=>(ho.lt g hg).1;have Dl:=χ yK;clear ho yK
  by_cases hne:a1=.nil\/b1=.nil
  ·obtain ⟨m0,e0,U0,hcnt,hor⟩:=HD.out.turn hne;have hz:(a1.root=-1/\b1.root=m0.root)\/(a1.root≠-1/\b1.root=-1/\a1.root=m0.root):=by
    by_cases e:a1.root=-1
    ·rw [Δ e] at e0;exact Α ⟨e,e0.symm⟩
    ·rw [Γ e] at e0;refine Β ⟨e,?_,e0.symm⟩;rcases hne with rfl|rfl
     ·exact absurd rfl e
     ·rfl
   have HU:=χ (ψ U0 hcnt);have J5:=U0.len;have Jj:=χ hu;rw [←hcnt] at HM;have GG:=wy m0;clear hne hor U0 HD hcnt hu hlen h0 e0;generalize a1.root=za at *;generalize b1.root=zb at *;have e9:∃z9,m0.root=z9:=⟨_,rfl⟩;obtain ⟨z9,e9⟩:=e9;rw [e9] at hz GG;generalize hn0:W.length=n0 at *;have Ci:=χ hn0;clear hn0;have hz':(za=-1/\zb=-1/\z9=-1)\/(za=-1/\zb=z9/\z9 > -1)\/(za=z9/\zb=-1/\z9 > -1):=ω;clear hz GG;rcases hz' with ⟨rfl,rfl,rfl⟩|⟨rfl,rfl,hzg⟩|⟨rfl,rfl,hzg⟩
   all_goals
    try (have hz2:(za != -1)=true:=ζ)
    try (have hz3:¬ ((-1:Int) > za):=ω)
    go_wp2
    go_loopw [8,9] (λtop i w5=>∃ (S2:TS) (W2 U2:List (Nat×BT)) (m:BT),W=W2++U2/\top=.int .i64 m.root/\i=.int .i64 ((W2.length:Int)-1)/\ig w5 B F A (bR st (az nP A ta tb).2) S2 f/\Cr nP S (ta.nodes++tb.nodes) (az nP A ta tb).1 S2 W2 m/\aa [B.ba] wr w5) (λ_ i _=>((intOf i)+1).toNat)
    case atStart=>exact ⟨S1,W,[],m0,σ,by rw [e9],by rw [Ci.out],HM.out,HU.out.1,aa.refl _ _⟩
    case round=>
     obtain ⟨S2,W2,U2,m,rfl,rfl,rfl,hM,hU,hu⟩:=hrel;rename World=>w5;rcases List.eq_nil_or_concat W2 with rfl|⟨W3,⟨x,l⟩,rfl⟩
     ·have e0:=hU.res;simp only [jH] at e0;simp only [List.length_nil];go_wp2;go_ret;rw [e0];exact ⟨rfl,Jj.out.trans (hu.mono σ),S2,hM,hU.I1,λy hy=>hU.far y hy⟩
     ·have hpx:=hU.perm;simp only [List.concat_eq_append] at *;rw [gY,ϋ] at hpx;have vv:∀q,q∈(x::l.nodes)++m.nodes->q<A.cs.length:=λq hq=>hlt.out q (hpx.mem_iff.1 (List.mem_append_right _ hq));have hnd:((x::l.nodes)++m.nodes).Nodup:=(θ.1 (hpx.nodup_iff.2 HX.out)).2.1;have Ir:=vv x σ;obtain ⟨g,cap,ee,hI,hg⟩:=IZ.gp (l:=(W3++[(x,l)]++U2).map λp=>(p.1:Int)) (by rw [List.length_map,Ci.out];exact ay HO.out hu (λk hk=>by have:=Dl.out k hk;simp;omega)) ζ;rw [List.length_map,Ci.out] at ee
      injection ee with KO Kc Ko
      subst KO Ko;have dz:=hI.cell W3.length σ;rw [show (((W3++[(x,l)]++U2).map λp=>(p.1:Int)).getD W3.length 0)=(x:Int) by simp [φ]] at dz;have h1:=hM.h1;have wh:=χ hM;have Cv:=χ hU;have BF:=χ (ψ vv hnd);have hTx:=hU.way (x,l) σ;have El:=χ hTx;have hil:((W3++[(x,l)]).length:Int)-1=W3.length:=σ;rw [hil];have hi0:((W3.length:Int)≥0):=ω;have hWn:W3.length+1+U2.length=n0:=by have:=Ci.out;simp at this;omega
      have zx:(W3.length:Int)<(n0:Int):=ω;have hW3:W3.length<=65536:=ω;clear hM hU vv hnd hTx hpx hil hI Kc
      by_cases hm:m=.nil
      ·subst hm;simp only [BT.root];have wU:dD S2 (-1) x (.node x l .nil):=El.out;obtain ⟨zU,BA⟩:=oF wU (by simpa [BT.nodes] using BF.out.2);have kt:=mK B.bt B.ba A.cs.length S2 x w5 wh.out.trees Ir;have HT3:=χ (ψ zU BA);clear wU zU BA
       go_wp2_with (first
        | ((go_at_call 249;(with_reducible refine (kt).mono ?_));rintro e w6 ⟨rfl,DZ,xO⟩)
        | fail)
       refine ⟨⟨dG S2 x,W3,(x,l)::U2,nP x l .nil,σ,rfl,by go_num,wh.out.iY xO DZ,Cv.out.turn uW HX.out HT3.out.1 (λy h1 _ _=>HT3.out.2 y h1),hu.trans xO⟩,by simp [intOf]⟩
      ·obtain ⟨mr,hmr⟩:∃mr:Nat,m.root=mr:=⟨_,BT.oJ hm⟩;have hmm:=(dH hm).1;rw [hmr,π] at hmm;have wU:dD S2 (-1) x (.node x l .nil):=El.out;have Ev:=Cv.out.I1;have hur:S2.u mr=-1:=by
        cases m with
        | nil=>exact absurd rfl hm
        | node q a b=>
         have e:q=mr:=by have e':(q:Int)=mr:=hmr;omega
         subst e;exact Ev.2.1
       have hnd:=BF.out.2;have hxm:x≠mr:=λe=>by
        rw [θ] at hnd;exact hnd.2.2 x σ mr hmm e
       obtain ⟨zU,BA⟩:=oU (m:=m) wU Ev hm (by simpa [BT.nodes] using hnd);rw [hmr] at zU BA;obtain ⟨hT4,IQ⟩:=oF zU (by simpa [BT.nodes] using hnd);have HT3:=χ (ψ zU (ψ hm (ψ BA (ψ hT4 IQ))));have kh:=rZ B.bt B.ba A.cs.length S2 x mr true w5 (wh.out.trees) Ir (BF.out.1 mr (List.mem_append_right _ hmm)) hxm hur wU.2.2.2;have HMR:=χ hmr;rw [hmr];have hz4:((mr:Int) != -1)=true:=σ;clear wU Ev hur hnd zU BA hT4 IQ hm hmr hmm
       go_wp2_with (first
        | ((go_at_call 241;(with_reducible refine (kh).mono ?_));rintro e w6 ⟨rfl,DZ,xO⟩;(have h16:=(wh.out.iY xO DZ).h1);(have kt:=mK B.bt B.ba A.cs.length _ x w6 DZ Ir))
        | ((go_at_call 249;(with_reducible refine (kt).mono ?_));rintro e w7 ⟨rfl,Fe,DK⟩)
        | fail)
       refine ⟨⟨_,W3,(x,l)::U2,nP x l m,σ,rfl,by go_num,(wh.out.iY xO DZ).iY DK Fe,Cv.out.turn uW HX.out HT3.out.2.2.2.1 (λy h1 _ h3=>?_),(hu.trans xO).trans DK⟩,by simp [intOf]⟩;have a1:=HT3.out.2.2.1 y h1 h3;have a2:=HT3.out.2.2.2.2 y h1;exact ⟨a2.1.trans a1.1,a2.2.1.trans a1.2.1,a2.2.2.trans a1.2.2⟩
  ·obtain ⟨x,l,r,rfl⟩:∃x l r,a1=.node x l r:=by
    cases a1 with
    | nil=>exact absurd (Α rfl) hne
    | node x l r=>exact ⟨x,l,r,rfl⟩
   obtain ⟨y,l',r',rfl⟩:∃x l r,b1=.node x l r:=by
    cases b1 with
    | nil=>exact absurd (Β rfl) hne
    | node x l r=>exact ⟨x,l,r,rfl⟩
   clear hne;have hmx:∀z,z∈(BT.node x l r).nodes++(BT.node y l' r').nodes->z∈ta.nodes++tb.nodes:=λz hz=>HD.out.perm.mem_iff.1 (List.mem_append_right _ hz);have hxm:=hmx x (by simp [BT.nodes]);have hym:=hmx y (by simp [BT.nodes]);have J5:W.length+2<=(ta.nodes++tb.nodes).length:=by simp only [BT.nodes,Ω,υ] at hlen ⊢;omega
   have Iw:=χ hmx;have hxb:((x:Int) != -1)=true:=σ;have hyb:((y:Int) != -1)=true:=σ;clear hmx hlen;have kA:=dE HM.out.cells y x (G7.out y hym) (G7.out x hxm);obtain ⟨sw,hsw⟩:∃sw,decide (dm A y x)=sw:=⟨_,rfl⟩;rw [hsw] at kA;have KEY:∃ (z:Nat) (lz rz o:BT),z=(if sw then y else x)/\Down nP A S ta tb (nC S1 z rz) (W++[(z,lz)]) rz o/\dD S1 (-1) z (.node z lz rz)/\z<A.cs.length/\(∀q,q∈rz.nodes->q<A.cs.length)/\o.root=(if sw then (x:Int) else (y:Int)):=by
    cases sw with
    | true=>
     exact ⟨y,l',r',.node x l r,rfl,HD.out.takeB HX.out (Ϙ hsw),HD.out.Iz,hlt.out y hym,λq hq=>hlt.out q (Iw.out q (by simp [BT.nodes,hq])),rfl⟩
    | false=>
     exact ⟨x,l,r,.node y l' r',rfl,HD.out.takeA HX.out (of_decide_eq_false hsw),HD.out.Ic,hlt.out x hxm,λq hq=>hlt.out q (Iw.out q (by simp [BT.nodes,hq])),rfl⟩
   obtain ⟨z,lz,rz,o,ez,hD2,GN,hz,hrz,eo⟩:=KEY;have HD2:=χ hD2;have HT:=χ GN;have HQ:=χ hrz;clear hD2 GN hrz hsw;simp only [BT.root];cases sw
   all_goals
    simp only [if_true,if_false,ϗ] at ez eo;subst ez
    go_wp2_with fail
    refine kA.mono ?_;rintro e w1 ⟨rfl,iU,hu1⟩;have hM1:=χ (HM.out.fw (hu1.mono (by simp [HM.out.cF])) iU (λx hx=>Α hx) rfl);have hss:bR (bR st W.length) 1=bR st (W.length+1):=kI _ _ _;rw [hss] at hM1;have ho1:=ay HO.out hu1 (λk hk=>by have:=Dl.out k hk;simp;omega);have h01:=hM1.out.h0;have h11:=hM1.out.h1;clear h0 h1 kA hss;have Cs:=χ (ψ hu hu1);clear hu hu1 iU;have JL:Hid (∀g,g∈(Value.slice a5 W.length c5).ownBlock.toList->g∉B.blk F):=λg hg hb=>by
     have h1:=Dl.out g (Option.mem_toList.1 hg);have h2:=Kz.out g hb;omega
    have hsz1:w.heap.size<=w1.heap.size:=(Cs.out.1.trans (Cs.out.2.mono σ)).size
    go_wp2_with (first
     | ((at_builtin;refine aL rfl _ _ 77 rfl w.heap.size 3 (.int .i64 0) 1 8 Tryz.underlying77 dO rfl δ _ _ _ rfl (ho1) [.int .i64 (z:Int)] rfl (by simp [Value.oneCell']) (by first|rfl|(rw [Κ];rfl)) μ ω (ω) ?_;intro v2 w2 ho2 hu2 iI);(have hM2:=χ (hM1.out.upd hu2 JL.out));(have k12:=hM2.out.h1);(have kr:=uE hM2.out HT.out hz))
     | (go_at_call 239;(with_reducible refine (kr).mono ?_);rintro e w3 ⟨rfl,hu3⟩;(have Dx:=χ (hM2.out.ah hu3));(have kc:=xZ Dx.out HT.out hz HQ.out))
     | (go_at_call 259;(with_reducible refine (kc).mono ?_);rintro e w4 ⟨rfl,lC,FX⟩)
     | fail)
    obtain ⟨a6,c6,rfl,hc6⟩:=bM ho2;have Eo:∀k,(Value.slice a6 (W.length+1) c6).ownBlock=some k->w.heap.size<=k:=λk hk=>(ho2.lt k hk).1;refine ⟨⟨_,W++[(z,lz)],rz,o,rfl,congrArg (Value.int .i64) eo.symm,?_,?_,HD2.out,?_⟩,?_⟩
    ·rw [oD,υ,List.length_singleton];exact ay (ay ho2 hu3 σ) lC (λk hk=>by have:=Eo k hk;simp;omega)
    ·rw [υ,List.length_singleton];exact FX
    ·have v1:aa [B.c,B.ba] w w1:=Cs.out.1.trans (Cs.out.2.mono σ);have v2:aa [B.c,B.ba] w w2:=v1.joined hu2 (λg hg=>Β (Dl.out g (Option.mem_toList.1 hg)));exact (v2.trans (hu3.mono σ)).trans (lC.mono σ)
    ·show (ta.nodes++tb.nodes).length-(W.length+1)<(ta.nodes++tb.nodes).length-W.length
     omega
end
def jP (A:NS) (tr:Nat->BT) (q:Int):Option Int:=if 1<=q/\q<A.hs.length then (if (tr q.toNat).root=-1 then none else some (tr q.toNat).root) else none
def sj (A:NS) (tr:Nat->BT):List Int:=(List.range A.hs.length).map λh=>(tr h).root
theorem oq.AZ {K:BV} {A:NS} {S:TS} {ae:List Int} {tr:Nat->BT} (h:oq K A S ae tr):oq K A S (sj A tr) tr:=
 ⟨λq hq=>by unfold sj;simp [φ,hq],h.Hf,h.mem,h.nd,h.heap,h.free⟩
def jf (w:World) (B:SB) (F:List Nat) (A:NS) (st:Nat) (tr:Nat->BT):Prop:=∃S,ig w B F A st S (jP A tr)/\IX A S (sj A tr) tr
theorem sP (A:NS) (tr:Nat->BT) (q:Nat) (h:1<=q/\q<A.hs.length):Bd (jP A tr (q:Int))=(tr q).root:=by
 unfold jP Bd;rw [Δ ω,π]
 split
 ·rename_i e;rw [e];rfl
 ·rfl
theorem ig.ext {w:World} {B:SB} {F:List Nat} {A:NS} {st:Nat} {S:TS} {f g:Int->Option Int} (h:ig w B F A st S f) (e:∀k,f k=g k):ig w B F A st S g:=⟨h.head,h.cells,h.trees,h.top.ext e,h.aS,h.sep⟩
theorem Al {A A':NS} {tr:Nat->BT} {q:Nat} {t:BT} (hl:A'.hs.length=A.hs.length) (hq:1<=q/\q<A.hs.length) (k:Int):(if k=(q:Int) then (if t.root=-1 then none else some t.root) else jP A tr k)=jP A' (λy=>if y=q then t else tr y) k:=by
 by_cases e:k=(q:Int)
 ·subst e;have e1:jP A' (λy=>if y=q then t else tr y) (q:Int)=(if t.root=-1 then none else some t.root):=by
   unfold jP;rw [hl,Δ (show 1<=(q:Int)/\(q:Int)<A.hs.length by omega)];have:(λy=>if y=q then t else tr y) (q:Int).toNat=t:=σ;rw [this]
  rw [e1,Δ rfl]
 ·have e1:jP A' (λy=>if y=q then t else tr y) k=jP A tr k:=by
   unfold jP;rw [hl]
   by_cases h:1<=k/\k<A.hs.length
   ·rw [Δ h,Δ h];have:(λy=>if y=q then t else tr y) k.toNat=tr k.toNat:=by
     show (if k.toNat=q then t else tr k.toNat)=_
     rw [Γ ω]
    rw [this]
   ·rw [Γ h,Γ h]
  rw [e1,Γ e]
theorem CK {A:NS} {S:TS} {ae:List Int} {tr:Nat->BT} (h:IX A S ae tr) (hA:A.cs.length<=65536) {t:BT} (ht:∀y,y∈t.nodes->y<A.cs.length):-1<=t.root/\t.root<=9223372036854775807:=by
 refine ⟨wy t,?_⟩
 by_cases e:t=.nil
 ·rw [e];show (-1:Int)<=_;omega
 ·have h1:=dH e;have h2:=ht _ h1.1;omega
section
variable {w:World} {B:SB} {F:List Nat} {A:NS} {st:Nat} {tr:Nat->BT}
theorem jf.upd {w':World} {G:List Nat} (h:jf w B F A st tr) (hu:aa G w w') (hG:∀x,x∈G->x∉B.blk F):jf w' B F A st tr:=by
 obtain ⟨S,hM,hI⟩:=h;exact ⟨S,hM.upd hu hG,hI⟩
theorem jf.ah {w':World} (h:jf w B F A st tr) (hu:aa [] w w'):jf w' B F A st tr:=h.upd hu σ
theorem tK (h:jf w B F A st tr) (hh x:Nat) (k s:Int) (hk:-9223372036854775808<=k/\k<=9223372036854775807/\0<=s/\s<=18446744073709551615) (hB:iq A hh x=true) :
  Calls Tryz.prog 253 #[.pointer (some ⟨B.n0,0,none⟩),.int .i64 (hh:Int),.int .i64 (x:Int),.agg #[.int .i64 k,.int .u64 s]] w λe w'=>e=.returned (.bool true)/\aa (B.blk F) w w'/\
   jf w' B F (af A hh x k s) (bR st (az nP (af A hh x k s) (tr hh) (single x)).2) (λq=>if q=hh then (az nP (af A hh x k s) (tr hh) (single x)).1 else tr q):=by
 obtain ⟨S,hM,hI⟩:=h;have hlt:=hM.lt;have ok:=hM.cells.ok;obtain ⟨b1,b2,b3⟩:=(bG _ _ _).1 hB;have b4:=(aA _ _).1 b1;have hx:x<A.cs.length:=by have:=(bS _ _).1 b2;omega
 have yO:(A.c x).i=0:=by
  have:=(ok.nat x hx).1;have h3:¬ (0<(A.c x).i):=λh'=>by rw [(aK A x).2 ⟨hx,h'⟩] at b3;cases b3
  omega
 have hcs:(af A hh x k s).cs.length=A.cs.length:=by unfold af;rw [Δ hB,bU]
 have gW:(af A hh x k s).hs.length=A.hs.length:=by unfold af;rw [Δ hB];rfl
 have hcx:∀y,(af A hh x k s).c y=if y=x then ⟨hh,k,s⟩ else A.c y:=λy=>by
  unfold af;rw [Δ hB,π,fE]
  by_cases e:y=x
  ·rw [Δ ⟨e,hx⟩,Δ e]
  ·rw [Γ (λh=>e h.1),Γ e]
 have yM:x∉(tr hh).nodes:=hI.out yO;have hX:((tr hh).nodes++(single x).nodes).Nodup:=by
  rw [θ];refine ⟨hI.nd hh,by simp [single,BT.nodes],λa ha b hb e=>?_⟩;simp only [single,BT.nodes,Υ,Ϗ] at hb;exact yM (by rw [←hb,←e];exact ha)
 have hin:∀y,y∈(tr hh).nodes++(single x).nodes->dh (af A hh x k s) (y:Int)=true:=λy hy=>by
  rw [aK,hcs,hcx];simp only [single,BT.nodes,Υ,τ,Ϗ] at hy
  by_cases e:y=x
  ·rw [Δ e,e];exact ⟨hx,by show (0:Int)<(hh:Int);omega⟩
  ·rw [Γ e];have:=(hI.mem hh y).1 (hy.resolve_right e);exact ⟨this.2.1,ω⟩
 have Eg:Heap (af A hh x k s) (tr hh):=(hI.heap hh).frame (λy hy=>by rw [hcx,Γ (λe=>yM (by rw [←e];exact hy))]);obtain ⟨mp,mh⟩:=rX uW (af A hh x k s) _ (tr hh) (single x) (Θ _);have Hu:=mh Eg ⟨by simp [BT.nodes],by simp [BT.nodes],trivial,trivial⟩ hX;have hfr:=hI.free x hx yO;have Ed:=hI.Hf hh;have hq:1<=hh/\hh<A.hs.length:=ω;have hb65:=ok.h1
 have hmr:=CK hI ok.c1 (t:=(az nP (af A hh x k s) (tr hh) (single x)).1) (λy hy=>by
  have h1:=mp.mem_iff.1 hy;have:=(aK _ y).1 (hin y h1)
  rw [hcs] at this;exact this.1)
 have Km:=sP A tr hh hq
 have FI:Hid (∀ (W:World) (S':TS) (st':Nat),ig W B F (af A hh x k s) st' S' (λy=>if y=(hh:Int) then (if (az nP (af A hh x k s) (tr hh) (single x)).1.root=-1 then none else some (az nP (af A hh x k s) (tr hh) (single x)).1.root) else jP A tr y)->dD S' (-1) (az nP (af A hh x k s) (tr hh) (single x)).1.root (az nP (af A hh x k s) (tr hh) (single x)).1->
   (∀y,y∉(tr hh).nodes++(single x).nodes->S.at S' y)->jf W B F (af A hh x k s) st' (λq=>if q=hh then (az nP (af A hh x k s) (tr hh) (single x)).1 else tr q)):=λW S' st' a1 a2 a4=>
  ⟨S',a1.ext (Al gW hq),(hI.put ok (by simp [sj]) hB a2 mp Hu (λy hy=>a4 y hy)).AZ⟩
 have u1:aa [] w (w.alloc (.cells #[.int .i64 k,.int .u64 s] 97)):=(aa.refl _ _).alloc _;have kp:=λW (hW:aa [] (w.alloc (.cells #[.int .i64 k,.int .u64 s] 97)) W)=>fZ (hM.cells.ah (u1.trans hW)) hh x k s hk hB;have h0:=hM.h0;have BP:B.n0∉F:=hM.aS.1;have hsz:w.heap.size∉F:=λhm=>by have:=hlt w.heap.size (by simp [SB.blk,hm]);omega
 have r0:∀W,aa F (w.alloc (.cells #[.int .i64 k,.int .u64 s] 97)) W->W.cell? ⟨B.n0,0,none⟩=some (.pointer (some ⟨B.c,0,none⟩)):=λW hW=>hW.kept (u1.was h0) BP;have r1:∀W,aa F (w.alloc (.cells #[.int .i64 k,.int .u64 s] 97)) W->W.cell? ⟨w.heap.size,0,none⟩=some (.int .i64 k):=λW h=>h.kept σ hsz;have r2:∀W,aa F (w.alloc (.cells #[.int .i64 k,.int .u64 s] 97)) W->W.cell? ⟨w.heap.size,1,none⟩=some (.int .u64 s):=λW h=>h.kept σ hsz;have HM:=χ hM;have HH:=χ (ψ hX (ψ hin (ψ Ed hfr)));have qz:=hM.cF;clear hM hI ok b1 b2 b3 yO hcx yM hX hin Eg mp mh Hu hfr h0 hlt Ed
 generalize hA':af A hh x k s=A' at *;generalize htr:tr hh=th at *
 go_enter Tryz.func253,Tryz.ntmps253
 go_wp2
 go_region_held3 (aa F (w.alloc (.cells #[.int .i64 k,.int .u64 s] 97))) (exact ν)
  ((go_at_call 138;(with_reducible refine (kp _ β).mono ?_);rintro e w1 ⟨rfl,iU,hu1⟩;(have hu2:aa F (w.alloc (.cells #[.int .i64 k,.int .u64 s] 97)) w1:=ν)))
 have uF:aa F w (w.alloc (.cells #[.int .i64 k,.int .u64 s] 97)):=u1.mono σ;have hM1:=HM.out.fw (uF.trans hu2) iU (λy hy=>Α hy) hcs;have hw1:aa F w w1:=uF.trans hu2;have k1:=jQ hM1 (hh:Int) ω;rw [Km] at k1;have km:=vK hM1 HH.out.2.2.1 (jN HH.out.2.2.2) HH.out.1 HH.out.2.1;rw [show (single x).root=(x:Int) from rfl] at km;clear r0 r1 r2 kp hu1 hu2 iU uF hM1
 go_wp2_with (first
  | (go_at_call 258;(with_reducible refine (k1).mono ?_);rintro e w9 ⟨rfl,aB⟩;rw [aB];clear aB w9)
  | ((go_at_call 257;(with_reducible refine (km).mono ?_));rintro e w2 ⟨rfl,hu2,S2,hM2,wU,hs2⟩;(have kc:=vP hM2 hh _ ω hmr))
  | ((go_at_call 256;(with_reducible refine (kc).mono ?_));rintro e w3 ⟨rfl,hu3,Dx⟩)
  | fail)
 go_ret;refine ⟨rfl,((hw1.mono (λy hy=>by simp only [SB.blk,ρ];simp [hy])).trans (hu2.mono (λy hy=>?_))).trans (hu3.mono (by simp [SB.blk])),FI.out _ S2 _ Dx wU hs2⟩;simp only [ρ,ς,or_false] at hy;simp only [SB.blk,ρ];rcases hy with rfl|rfl
 ·simp [qz]
 ·simp
theorem xq (h:jf w B F A st tr) (x:Int) (hx:-9223372036854775808<=x/\x<=9223372036854775807) (hn:bO A x=0) :
  Calls Tryz.prog 255 #[.pointer (some ⟨B.n0,0,none⟩),.int .i64 x] w λe w'=>e=.returned (.tuple #[.int .i64 0,.bool false])/\w'=w:=by
 obtain ⟨S,hM,hI⟩:=h;have hr:Bd (jP A tr x)=-1:=by
  unfold jP
  split
  ·rename_i hq
   have:(tr x.toNat)=.nil:=by
    cases e:tr x.toNat with
    | nil=>rfl
    | node y a b=>
     have:=(hI.mem x.toNat y).1 (by rw [e];simp [BT.nodes]);have:0<bO A x:=bX.2 ⟨y,this.2.1,by show (A.c y).i=x;omega,by omega⟩;omega
   rw [this];rfl
  ·rfl
 have k:=jQ hM x hx;rw [hr] at k;clear hM hI
 go_enter Tryz.func255,Tryz.ntmps255
 go_wp2_with (first|(go_at_call 258;(with_reducible refine (k).mono ?_);rintro e w9 ⟨rfl,aB⟩;rw [aB];clear aB w9)|fail)
 go_ret2;exact ⟨rfl,rfl⟩
theorem xw (h:jf w B F A st tr) (g:Nat) (hn:0<bO A g) :
  Calls Tryz.prog 255 #[.pointer (some ⟨B.n0,0,none⟩),.int .i64 (g:Int)] w λe w'=>∃m:Nat,bQ A g=some m/\(tr g).root=m/\e=.returned (.tuple #[.int .i64 (m:Int),.bool true])/\w'=w:=by
 obtain ⟨S,hM,hI⟩:=h;obtain ⟨m,hm1,hm2⟩:=hI.first hn;have hin:=(mg hm2);have hq:=(aA _ _).1 (ma hM.cells.ok hin.2.2.2);rw [π,hin.2.2.1] at hq;have hb:=hM.cells.ok.h1;have k:=jQ hM (g:Int) ω;rw [sP A tr g ω,hm1] at k;have hb1:((m:Int) == -1)=false:=σ;clear hM hI
 go_enter Tryz.func255,Tryz.ntmps255
 go_wp2_with (first|(go_at_call 258;(with_reducible refine (k).mono ?_);rintro e w9 ⟨rfl,aB⟩;rw [aB];clear aB w9)|fail)
 go_ret2;exact ⟨m,hm2,hm1,rfl,rfl⟩
end
theorem AV (n:Nat) (w:World) (h:n<=65536) :
  Calls Tryz.prog 68 #[.int .i64 (n:Int)] w λe w'=>∃B F,e=.returned (.tuple #[.pointer (some ⟨B.n0,0,none⟩),.int .i64 0])/\jf w' B F (NS.new n) 0 (λ_=>.nil)/\aa [] w w'/\∀x,x∈B.blk F->w.heap.size<=x:=by
 have hmm:=@run_makeMap Tryz.prog
 go_enter Tryz.func68,Tryz.ntmps68
 go_wp2_with (first
  | ((go_at_call 84;(with_reducible refine (gu n _ h).mono ?_));rintro e w1 ⟨c,F,rfl,hC,hu1,hF⟩)
  | ((go_at_call 89;(with_reducible refine (jY n _ h).mono ?_));rintro e w2 ⟨bt,ba,rfl,hT,hu2,hb1,hb2⟩))
 go_ret2;have hcs:(NS.new n).cs.length=n:=by simp [NS.new]
 have l1:=hu1.size;have l2:=hu2.size;have l5:=hT.head.lt;have l6:=hT.row.lt;have l7:=hC.lt;have lc:=l7 c hC.mem;have hm:=cu.made w2;have e3:((w2.alloc (.map #[] 0)).heap.size)=w2.heap.size+1:=by rw [Κ]
 have hv1:aa [] w2 (w2.alloc (.map #[] 0)):=(aa.refl _ _).alloc _;have hv2:aa [] (w2.alloc (.map #[] 0)) ((w2.alloc (.map #[] 0)).alloc (.cells #[.pointer (some ⟨c,0,none⟩),.pointer (some ⟨bt,0,none⟩),.map (some w2.heap.size)] 207)):=(aa.refl _ _).alloc _;have hv:=hv1.trans hv2;have hh:=aY (w2.alloc (.map #[] 0)) [.pointer (some ⟨c,0,none⟩),.pointer (some ⟨bt,0,none⟩),.map (some w2.heap.size)] 207;rw [e3] at hh;have hnF:∀x,w1.heap.size<=x->x∉F:=λx hx hm=>by have:=l7 x hm;omega
 refine ⟨⟨w2.heap.size+1,c,bt,ba,w2.heap.size⟩,F,rfl,⟨TS.none,⟨hh,(hC.ah hu2).ah hv,by rw [hcs];exact hT.upd hv σ σ,?_,⟨hnF _ (by simp only;omega),hnF _ (by simp only;omega),hnF _ (by simp only;omega),hnF _ (by simp only;omega)⟩,⟨⟨by simp only;omega,by simp only;omega,by simp only;omega⟩,by simp only;omega,by simp only;omega⟩⟩,(pM n).AZ⟩,(hu1.trans hu2).trans hv,λx hx=>?_⟩
 ·refine (hm.upd hv2 σ).ext (λk=>?_);unfold jP
  split
  ·rfl
  ·rfl
 ·simp only [SB.blk,ρ] at hx;rcases hx with rfl|rfl|rfl|rfl|hx
  ·omega
  ·omega
  ·omega
  ·omega
  ·exact hF x hx
section
variable {w:World} {B:SB} {F:List Nat} {A:NS} {st:Nat} {tr:Nat->BT}
theorem jf.make {w':World} {F':List Nat} (h:jf w B F A st tr) (hl:¬65536<A.hs.length) (hu:aa F w w') (hC:ai w' B.c F' (ag A) st) (hF:∀x,x∈F'->x∈F\/w.heap.size<=x):jf w' B F' (ag A) st tr:=by
 obtain ⟨S,hM,hI⟩:=h;have ok:=hM.cells.ok;have e1:(ag A).cs.length=A.cs.length:=by unfold ag;rw [Γ hl]
 have e2:(ag A).hs.length=A.hs.length+1:=by unfold ag;rw [Γ hl];simp
 have hI2:=hI.make ok (by simp [sj]) hl;have hnil:(tr A.hs.length)=.nil:=by
  cases e:tr A.hs.length with
  | nil=>rfl
  | node y a b=>
   exfalso;have:=(hI.mem A.hs.length y).1 (by rw [e];simp [BT.nodes]);have h3:=ma ok ((aK A y).2 ⟨this.2.1,ω⟩);have:=(aA _ _).1 h3;rw [π] at this;omega
 refine ⟨S,(hM.fw hu hC hF e1).ext (λk=>?_),hI2.AZ⟩;unfold jP;rw [e2]
 by_cases h1:1<=k/\k<A.hs.length
 ·rw [Δ h1,Δ (show 1<=k/\k<((A.hs.length+1:Nat):Int) by omega)]
 ·rw [Γ h1]
  by_cases h2:k=A.hs.length
  ·subst h2;rw [π,hnil]
   split
   ·rfl
   ·rfl
  ·rw [Γ (show ¬ (1<=k/\k<((A.hs.length+1:Nat):Int)) by omega)]
end
theorem vI (p c:Nat):∀W:World,W.cell? ⟨p,0,none⟩=some (.pointer (some ⟨c,0,none⟩))->(method 409 142 (.pointer (some ⟨p,0,none⟩)) "Has").run Tryz.prog W=.ok (123,.pointer (some ⟨c,0,none⟩)) W:=(by intro W h;unfold method;have hm:∃m,(Array.find? (λx=>x.name == "Has") Tryz.t142.methods)=some m/\m.path.toList=[⟨207,0,true⟩]/\m.func=some (123,true)/\m.path.isEmpty=false:=⟨(Array.find? (λx=>x.name == "Has") Tryz.t142.methods).get!,by kernel_rfl,by kernel_rfl,by kernel_rfl,by kernel_rfl⟩;obtain ⟨m,h1,h2,h3,h4⟩:=hm;go_simp;simp only [follow,Place.get];go_simp;(try unfold receiverAt);(try simp only [Place.get]);(try go_simp))
theorem qD (p c:Nat):∀W:World,W.cell? ⟨p,0,none⟩=some (.pointer (some ⟨c,0,none⟩))->(method 409 142 (.pointer (some ⟨p,0,none⟩)) "Entry").run Tryz.prog W=.ok (121,.pointer (some ⟨c,0,none⟩)) W:=(by intro W h;unfold method;have hm:∃m,(Array.find? (λx=>x.name == "Entry") Tryz.t142.methods)=some m/\m.path.toList=[⟨207,0,true⟩]/\m.func=some (121,true)/\m.path.isEmpty=false:=⟨(Array.find? (λx=>x.name == "Entry") Tryz.t142.methods).get!,by kernel_rfl,by kernel_rfl,by kernel_rfl,by kernel_rfl⟩;obtain ⟨m,h1,h2,h3,h4⟩:=hm;go_simp;simp only [follow,Place.get];go_simp;(try unfold receiverAt);(try simp only [Place.get]);(try go_simp))
theorem qR (p c:Nat):∀W:World,W.cell? ⟨p,0,none⟩=some (.pointer (some ⟨c,0,none⟩))->(method 409 142 (.pointer (some ⟨p,0,none⟩)) "Make").run Tryz.prog W=.ok (140,.pointer (some ⟨c,0,none⟩)) W:=(by intro W h;unfold method;have hm:∃m,(Array.find? (λx=>x.name == "Make") Tryz.t142.methods)=some m/\m.path.toList=[⟨207,0,true⟩]/\m.func=some (140,true)/\m.path.isEmpty=false:=⟨(Array.find? (λx=>x.name == "Make") Tryz.t142.methods).get!,by kernel_rfl,by kernel_rfl,by kernel_rfl,by kernel_rfl⟩;obtain ⟨m,h1,h2,h3,h4⟩:=hm;go_simp;simp only [follow,Place.get];go_simp;(try unfold receiverAt);(try simp only [Place.get]);(try go_simp))
theorem xy (p:Nat):∀W:World,(method 409 142 (.pointer (some ⟨p,0,none⟩)) "Insert").run Tryz.prog W=.ok (253,.pointer (some ⟨p,0,none⟩)) W:=λ_=>by kernel_rfl
theorem EI (p:Nat):∀W:World,(method 409 142 (.pointer (some ⟨p,0,none⟩)) "Min").run Tryz.prog W=.ok (255,.pointer (some ⟨p,0,none⟩)) W:=λ_=>by kernel_rfl
def SkQ (w:World) (p:Nat) (F:List Nat) (A:NS):Prop:=∃B F1 st tr,p=B.n0/\F=B.blk F1/\jf w B F1 A st tr
def lZ:bV where
 ty:=142
 at_:=SkQ
 upd:=λh hu hS=>by
  obtain ⟨B,F1,st,tr,rfl,rfl,hL⟩:=h;exact ⟨B,F1,st,tr,rfl,rfl,hL.upd hu hS⟩
 lt:=λh=>by
  obtain ⟨B,F1,st,tr,rfl,rfl,S,hM, -⟩:=h;exact hM.lt
 ok:=λh=>by
  obtain ⟨B,F1,st,tr,rfl,rfl,S,hM, -⟩:=h;exact hM.cells.ok
 make:=λ{w p F A} h=>by
  obtain ⟨B,F1,st,tr,rfl,rfl,hL⟩:=h;have h0:w.cell? ⟨B.n0,0,none⟩=some (.pointer (some ⟨B.c,0,none⟩)):=by obtain ⟨S,hM, -⟩:=hL;exact hM.h0
  refine cB 140 (λ_ _=>by kernel_rfl) h0 (qR _ _) (λW hW=>?_);have jg:=hL.ah hW;have hC:ai W B.c F1 A st:=by obtain ⟨S,hM, -⟩:=jg;exact hM.cells
  refine (cZ hC).mono ?_;rintro e w' ⟨rfl,F',hC2,hu,hf⟩;have hu2:aa (B.blk F1) W w':=hu.mono (λz hz=>by simp only [SB.blk,ρ];simp [hz]);have hf2:∀z,z∈B.blk F'->z∈B.blk F1\/W.heap.size<=z:=λz hz=>by
   simp only [SB.blk,ρ] at hz ⊢;rcases hz with rfl|rfl|rfl|rfl|hz
   ·simp
   ·simp
   ·simp
   ·simp
   ·rcases hf z hz with h1|h1
    ·simp [h1]
    ·exact Β h1
  refine ⟨rfl,B.blk F',?_,hu2,hf2⟩
  by_cases hl:65536<A.hs.length
  ·have e2:ag A=A:=by unfold ag;rw [Δ hl]
   rw [e2] at hC2 ⊢;obtain ⟨S,hM,hI⟩:=jg;exact ⟨B,F',st,tr,rfl,rfl,S,hM.fw hu hC2 hf rfl,hI⟩
  ·exact ⟨B,F',st,_,rfl,rfl,jg.make hl hu hC2 hf⟩
 insert:=λ{w p F A} g y k s hk hB h=>by
  obtain ⟨B,F1,st,tr,rfl,rfl,hL⟩:=h;refine aQ 253 (λ_ _=>by kernel_rfl) (xy _) (λW hW=>?_);refine (tK (hL.ah hW) g y k s hk hB).mono ?_;rintro e w' ⟨rfl,hu,hL2⟩;exact ⟨rfl,Goes.stay ⟨B,F1,_,_,rfl,rfl,hL2⟩ hu⟩
 min:=λ{w p F A} y hB h=>by
  obtain ⟨B,F1,st,tr,rfl,rfl,hL⟩:=h;refine aQ 255 (λ_ _=>by kernel_rfl) (EI _) (λW hW=>?_);have jg:=hL.ah hW;have hok:A.Ok:=by obtain ⟨S,hM, -⟩:=hL;exact hM.cells.ok
  by_cases hl:bO A (y:Int)=0
  ·rw [fe.2 hl];have h4:=(aA _ _).1 hB;have h5:=hok.h1;refine (xq jg y ω hl).mono ?_;rintro e w' ⟨rfl,rfl⟩;exact ⟨rfl,Goes.stay ⟨B,F1,st,tr,rfl,rfl,jg⟩ (aa.refl _ _)⟩
  ·refine (xw jg y ω).mono ?_;rintro e w' ⟨m,hm, -,rfl,rfl⟩;rw [hm];exact ⟨rfl,Goes.stay ⟨B,F1,st,tr,rfl,rfl,jg⟩ (aa.refl _ _)⟩
 has:=λx h=>by
  obtain ⟨B,F1,st,tr,rfl,rfl,S,hM, -⟩:=h;exact cB 123 (λ_ _=>by kernel_rfl) hM.h0 (vI _ _) (λW hW=>dF (hM.ah hW).cells x)
 entry:=λ{w p F A} x h=>by
  obtain ⟨B,F1,st,tr,rfl,rfl,S,hM, -⟩:=h;refine cB 121 (λ_ _=>by kernel_rfl) hM.h0 (qD _ _) (λW hW=>?_);cases hin:dh A x with
  | false=>simpa using eQ (hM.ah hW).cells x hin
  | true=>
   obtain ⟨y,rfl⟩:=iD hin;simpa using dQ (hM.ah hW).cells y hin
theorem tZ (p:Nat) (w:World):Calls Tryz.prog 67 #[.pointer (some ⟨p,0,none⟩),.int .i64 0] w λe w'=>e=.returned (.tuple #[.iface 142 (.pointer (some ⟨p,0,none⟩)),.int .i64 0])/\w'=w:=by
 go_enter Tryz.func67,Tryz.ntmps67
 go_wp2;go_ret2;exact ⟨rfl,rfl⟩
theorem sF (n:Nat) (hn:n<=65536):fP lZ 7 0 n:=by
 intro w;have kn:=λW=>AV n W hn;have km:=tZ;have hty:lZ.ty=142:=rfl;have hat:∀w' B F,jf w' B F (NS.new n) 0 (λ_=>.nil)->lZ.at_ w' B.n0 (B.blk F) (NS.new n)/\lX w' B.n0 n:=λw' B F h=>⟨⟨B,F,_,_,rfl,rfl,h⟩,by obtain ⟨S,hM, -⟩:=h;exact ⟨_,_,hM.h0,hM.cells⟩⟩
 generalize lZ=K at *;rw [hty]
 go_enter Tryz.func35,Tryz.ntmps35
 go_wp2_with (first
  | ((go_at_call 68;(with_reducible refine (kn _).mono ?_));rintro e w1 ⟨B,F,rfl,hS,hu1,hf⟩)
  | ((go_at_call 67;(with_reducible refine (km _ _).mono ?_));rintro e w2 ⟨rfl,rfl⟩)
  | fail)
 go_ret2;exact ⟨B.n0,B.blk F,rfl,(hat _ _ _ hS).1,(hat _ _ _ hS).2,aa.trans β hu1,λx hx=>by have:=hf x hx;simp at this;omega⟩
end Go.Proofs.YtnpdakpagnpanaaGreat
