/-
  Lemmas for RankSplits: Sk, Sk2, Sk3, Sk4, Sk6, SkQ, SkO. Conditions: those of each lemma.
-/
import Derived.Test.YtklibcncmbofpaaGreatC06
set_option linter.all false
set_option maxHeartbeats 8000000
set_option maxRecDepth 10000
namespace Go.Proofs.YtklibcncmbofpaaGreat
open Go Go.RowKit
structure SB where
 n0:Nat
 c:Nat
 bt:Nat
 ba:Nat
 mb:Nat
structure mJ (w:World) (B:SB) (F:List Nat) (A:NS) (st:Nat) (S:TS) (f:Int->Option Int):Prop where
 head:aG w B.n0 234 3 (fun j=>[Value.pointer (some ⟨B.c,0,none⟩),.pointer (some ⟨B.bt,0,none⟩),.map (some B.mb)].getD j undef)
 cells:aD w B.c F A st
 trees:aY w B.bt B.ba A.cs.length S
 top:eZ w B.mb f
 bI:B.n0∉F/\B.bt∉F/\B.ba∉F/\B.mb∉F
 sep:(B.n0≠B.bt/\B.n0≠B.ba/\B.n0≠B.mb)/\(B.bt≠B.mb/\B.ba≠B.mb)
section
variable {w:World} {B:SB} {F:List Nat} {A:NS} {st:Nat} {S:TS} {f:Int->Option Int}
def SB.blk (B:SB) (F:List Nat):List Nat:=B.n0::B.bt::B.ba::B.mb::F
theorem mJ.upd {w':World} {G:List Nat} (h:mJ w B F A st S f) (hu:aa G w w') (hG:∀x,x∈G->x∉B.blk F):mJ w' B F A st S f:=by
 have hb:∀y,y∈B.blk F->y∉G:=fun y hy hm=>hG y hm hy;exact ⟨h.head.upd hu (hb _ (by simp [SB.blk])),h.cells.upd hu (fun x hx hm=>hG x hx (by simp [SB.blk,hm])),h.trees.upd hu (hb _ (by simp [SB.blk])) (hb _ (by simp [SB.blk])),h.top.upd hu (hb _ (by simp [SB.blk])),h.bI,h.sep⟩
theorem mJ.ae {w':World} (h:mJ w B F A st S f) (hu:aa [] w w'):mJ w' B F A st S f:=h.upd hu σ
theorem mJ.lt (h:mJ w B F A st S f):∀x,x∈B.blk F->x<w.heap.size:=fun x hx=>by
 simp only [SB.blk,ρ] at hx;rcases hx with rfl|rfl|rfl|rfl|hx
 ·exact h.head.lt
 ·exact h.trees.head.lt
 ·exact h.trees.row.lt
 ·exact h.top.lt
 ·exact h.cells.lt x hx
theorem mJ.cF (h:mJ w B F A st S f):B.c∈F:=h.cells.mem
theorem mJ.h0 (h:mJ w B F A st S f):w.cell? ⟨B.n0,0,none⟩=some (.pointer (some ⟨B.c,0,none⟩)):=h.head.cellAt 0 ω rfl
theorem mJ.h1 (h:mJ w B F A st S f):w.cell? ⟨B.n0,1,none⟩=some (.pointer (some ⟨B.bt,0,none⟩)):=h.head.cellAt 1 ω rfl
theorem mJ.h2 (h:mJ w B F A st S f):w.cell? ⟨B.n0,2,none⟩=some (.map (some B.mb)):=h.head.cellAt 2 ω rfl
theorem mJ.il {w':World} {S':TS} (h:mJ w B F A st S f) (hu:aa [B.ba] w w') (hT:aY w' B.bt B.ba A.cs.length S'):mJ w' B F A st S' f:=by
 obtain ⟨⟨s1,s2,s3⟩,s4,s5⟩:=h.sep;obtain ⟨f1,f2,f3,f4⟩:=h.bI;exact ⟨h.head.upd hu (by simp;exact s2),h.cells.upd hu (fun x hx hm=>by simp at hx;subst hx;exact f3 hm),hT,h.top.upd hu (by simp;exact Ne.symm s5),h.bI,h.sep⟩
theorem mJ.X9 {w':World} {f':Int->Option Int} (h:mJ w B F A st S f) (hu:aa [B.mb] w w') (hM:eZ w' B.mb f'):mJ w' B F A st S f':=by
 obtain ⟨⟨s1,s2,s3⟩,s4,s5⟩:=h.sep;obtain ⟨f1,f2,f3,f4⟩:=h.bI;exact ⟨h.head.upd hu (by simp;exact s3),h.cells.upd hu (fun x hx hm=>by simp at hx;subst hx;exact f4 hm),h.trees.upd hu (by simp;exact s4) (by simp;exact s5),hM,h.bI,h.sep⟩
theorem mJ.fH {w':World} {F':List Nat} {A':NS} {st':Nat} (h:mJ w B F A st S f) (hu:aa F w w') (hC:aD w' B.c F' A' st') (hF:∀x,x∈F'->x∈F\/w.heap.size<=x) (h1:A'.cs.length=A.cs.length):mJ w' B F' A' st' S f:=by
 obtain ⟨f1,f2,f3,f4⟩:=h.bI;have hn:∀y,y<w.heap.size->y∉F->y∉F':=fun y hy hm hm'=>by rcases hF y hm' with h'|h';exact hm h';omega
 have hl:=h.lt;exact ⟨h.head.upd hu f1,hC,by rw [h1];exact h.trees.upd hu f2 f3,h.top.upd hu f4,⟨hn _ (hl _ (by simp [SB.blk])) f1,hn _ (hl _ (by simp [SB.blk])) f2,hn _ (hl _ (by simp [SB.blk])) f3,hn _ (hl _ (by simp [SB.blk])) f4⟩,h.sep⟩
def Oe (o:Option Int):Int:=o.getD (-1)
theorem tq (h:mJ w B F A st S f) (q:Int) (hq:-9223372036854775808<=q/\q<=9223372036854775807) :
  Calls Tryz.prog 268 #[.pointer (some ⟨B.n0,0,none⟩),.int .i64 q] w fun e w'=>e=.returned (.int .i64 (Oe (f q)))/\w'=w:=by
 have h2:=h.h2;have ht:=h.top;have k:=ht.look_ok q hq;unfold Oe;cases hf:f q with
 | none=>
  rw [hf] at k;simp only [Option.getD_none,Option.isSome_none] at k ⊢;clear ht h
  go_enter Tryz.func268,Tryz.ntmps268
  go_wp2;go_ret;exact ⟨rfl,rfl⟩
 | some z=>
  rw [hf] at k;simp only [Option.getD_some,Option.isSome_some] at k ⊢;clear ht h
  go_enter Tryz.func268,Tryz.ntmps268
  go_wp2;go_ret;exact ⟨rfl,rfl⟩
theorem yK (h:mJ w B F A st S f) (q:Nat) (z:Int) (hq:1<=q/\q<=65536) (hz:-1<=z/\z<=9223372036854775807) :
  Calls Tryz.prog 266 #[.pointer (some ⟨B.n0,0,none⟩),.int .i64 (q:Int),.int .i64 z] w fun e w'=>e=.returned (.tuple #[])/\aa [B.mb] w w'/\mJ w' B F A st S (fun y=>if y=(q:Int) then (if z=-1 then none else some z) else f y):=by
 have h2:=h.h2;have ht:=h.top;have H:=χ h
 by_cases he:z=-1
 ·subst he;clear h
  go_enter Tryz.func266,Tryz.ntmps266
  go_wp2_with (refine mW rfl _ _ rfl B.mb f rfl ht q rfl ω ?_;intro w1 hm1 hu1)
  go_end0;exact ⟨rfl,hu1,H.out.X9 hu1 hm1⟩
 ·have hb:(z == -1)=false:=by simpa using he
  rw [Γ he];clear h he
  go_enter Tryz.func266,Tryz.ntmps266
  go_wp2_with (refine kL rfl _ _ _ rfl B.mb f rfl ht q z rfl rfl ω ω ?_;intro w1 hm1 hu1)
  go_end0;exact ⟨rfl,hu1,H.out.X9 hu1 hm1⟩
theorem yj (h:mJ w B F A st S f) {fr:Fr} {P:List Fr} {t:BT} (hT:bT S (-1) (ag (fr::P) t).root (ag (fr::P) t)) (hn:(ag (fr::P) t).nodes.Nodup) (hlt:∀y,y∈(ag (fr::P) t).nodes->y<A.cs.length) :
  Calls Tryz.prog 269 #[.pointer (some ⟨B.n0,0,none⟩),.int .i64 (tv t.root),.bool (tb t.root)] w fun e w'=>e=.returned (.int .i64 t.root)/\aa [B.ba] w w'/\
   ∃S',mJ w' B F A st S' f/\bT S' (-1) t.root t/\bT S' (-1) (ag (fr::P) .nil).root (ag (fr::P) .nil)/\∀y,y∉(ag (fr::P) t).nodes->S.at S' y:=by
 have h1:=h.h1
 by_cases ht:t=.nil
 ·subst ht;rw [show tv (BT.root .nil)=0 from rfl,show tb (BT.root .nil)=false from rfl,show BT.root .nil=-1 from rfl];have H:=χ (ψ h hT);clear h hT hn hlt
  go_enter Tryz.func269,Tryz.ntmps269
  go_wp2;go_ret;exact ⟨rfl,aa.refl _ _,S,H.out.1,rfl,H.out.2,fun y _=>⟨rfl,rfl,rfl⟩⟩
 ·obtain ⟨r,hr⟩:∃r:Nat,t.root=r:=⟨_,BT.vH ht⟩;have kc:=qE h.trees hT hn hlt;rw [show tv t.root=(r:Int) by rw [hr];unfold tv;rw [Γ ω],show tb t.root=true by rw [hr];unfold tb;simp];have H:=χ h;have HR:=χ hr;rw [hr] at kc;generalize tb (r:Int)=bb at kc;generalize cutV fr t=cv at kc;clear h hT hn hlt hr
  go_enter Tryz.func269,Tryz.ntmps269
  go_wp2_with (first
   | ((go_at_call 244;(with_reducible refine (kc).mono ?_));rintro e w1 ⟨rfl,hu1,S1,hT1,ha1,hp1,hs1⟩)
   | fail)
  go_ret;rw [HR.out];exact ⟨rfl,hu1,S1,H.out.il hu1 hT1,ha1,hp1,hs1⟩
end
def sM (x:Nat) (l m:BT):BT:=.node x m l
theorem yf:OC sM where
 nodes:=fun x l r=>by
  unfold sM;simp only [BT.nodes];exact List.perm_append_comm.cons x
 heap:=fun A x l r h1 h2 hl hr=>⟨h2,h1,hr,hl⟩
 root:=fun x l r=>rfl
theorem Au {S:TS} {p:Int} {x:Nat} {l r:BT} (h:bT S p x (.node x l r)) (hn:(BT.node x l r).nodes.Nodup):bT (iB S x) p x (.node x r l)/\∀y,y≠x->S.at (iB S x) y:=by
 have hs:∀y,y≠x->S.at (iB S x) y:=fun y hy=>by
  unfold iB TS.aB TS.at;simp [hy]
 have hl:(iB S x).l x=S.r x:=by unfold iB TS.aB;simp
 have hr:(iB S x).r x=S.l x:=by unfold iB TS.aB;simp
 have hu:(iB S x).u x=S.u x:=by unfold iB TS.aB;simp
 simp only [BT.nodes,Ζ,τ,not_or] at hn;refine ⟨Nn (hu.trans h.2.1) ?_ ?_,hs⟩
 ·rw [hl];exact h.2.2.2.frame (fun y hy=>hs y (fun e=>hn.1.2 (by rw [←e];exact hy)))
 ·rw [hr];exact h.2.2.1.frame (fun y hy=>hs y (fun e=>hn.1.1 (by rw [←e];exact hy)))
section
variable {w:World} {B:SB} {F:List Nat} {A:NS} {st:Nat} {S:TS} {f:Int->Option Int}
theorem Ls (h:mJ w B F A st S f) {p:Int} {x:Nat} {l r:BT} (hT:bT S p x (.node x l r)) (hx:x<A.cs.length) (hr:∀y,y∈r.nodes->y<A.cs.length) :
  Calls Tryz.prog 269 #[.pointer (some ⟨B.n0,0,none⟩),.int .i64 (tv r.root),.bool (tb r.root)] w fun e w'=>e=.returned (.int .i64 r.root)/\aa [B.ba] w w'/\mJ w' B F A st (yS S x r) f:=by
 have h1:=h.h1;cases r with
 | nil=>
  rw [show tv (BT.root .nil)=0 from rfl,show tb (BT.root .nil)=false from rfl,show BT.root .nil=-1 from rfl];have H:=χ h;clear h hT hr
  go_enter Tryz.func269,Tryz.ntmps269
  go_wp2;go_ret;exact ⟨rfl,aa.refl _ _,H.out⟩
 | node y a b=>
  obtain ⟨_,_,_,hr'⟩:=hT;have e2:S.u y=x:=hr'.2.1;have kc:=BH B.bt B.ba A.cs.length S x y w h.trees hx (hr y (by simp [BT.nodes])) e2;rw [show tv (BT.root (.node y a b))=(y:Int) by show tv (y:Int)=y;unfold tv;rw [Γ ω],show tb (BT.root (.node y a b))=true by show tb (y:Int)=true;unfold tb;simp,show BT.root (.node y a b)=(y:Int) from rfl];have H:=χ h;clear h hr hr' e2
  go_enter Tryz.func269,Tryz.ntmps269
  go_wp2_with (first
   | ((go_at_call 244;(with_reducible refine (kc).mono ?_));rintro e w1 ⟨rfl,hT1,hu1⟩)
   | fail)
  go_ret;exact ⟨rfl,hu1,H.out.il hu1 hT1⟩
theorem GL (h:mJ w B F A st S f) {p:Int} {x:Nat} {l r:BT} (hT:bT S p x (.node x l r)) (hx:x<A.cs.length) :
  Calls Tryz.prog 249 #[.pointer (some ⟨B.bt,0,none⟩),.int .i64 (x:Int)] w fun e w'=>e=.returned (.tuple #[.int .i64 (tv r.root),.bool (tb r.root)])/\aa [] w w':=by
 refine (sQ h.trees hT hx).mono ?_;rintro e w' ⟨rfl,k,rfl⟩;exact ⟨rfl,(aa.refl _ _).drewN k⟩
theorem CV (t:BT):-1<=t.root:=by cases t with
 | nil=>exact Int.le_refl _
 | node x l r=>show (-1:Int)<=(x:Int);omega
theorem xK (h:mJ w B F A st S f) {ta tb:BT} (ha:bT S (-1) ta.root ta) (hb:bT S (-1) tb.root tb) (hX:(ta.nodes++tb.nodes).Nodup) (hin:∀y,y∈ta.nodes++tb.nodes->bV A (y:Int)=true) :
  Calls Tryz.prog 267 #[.pointer (some ⟨B.n0,0,none⟩),.int .i64 ta.root,.int .i64 tb.root] w fun e w'=>e=.returned (.int .i64 (aH sM A ta tb).1.root)/\aa [B.c,B.ba] w w'/\
   ∃S',mJ w' B F A (dF st (aH sM A ta tb).2) S' f/\bT S' (-1) (aH sM A ta tb).1.root (aH sM A ta tb).1/\∀y,y∉ta.nodes++tb.nodes->S.at S' y:=by
 have hblk:=h.lt;have su:=h.cF;have hbl0:=hblk B.n0 (by simp [SB.blk]);have hbl1:=hblk B.bt (by simp [SB.blk]);have hbl2:=hblk B.ba (by simp [SB.blk]);have hbl4:=hblk B.c (by simp [SB.blk,su]);have hs:=χ h.sep;have hA:=h.cells.ok.c1;have hlt:Hid (∀y,y∈ta.nodes++tb.nodes->y<A.cs.length):=fun y hy=>((aj A y).1 (hin y hy)).1;have QM:(ta.nodes++tb.nodes).length<=A.cs.length:=lI hX hlt.out;have Vp:=χ h;have HBL:=χ hblk;have D0:=χ (Down.start sM A ha hb);have Ma:=χ hin;have HX:=χ hX;have hst:=h.cells.qp;clear h ha hb hblk su hin hX
 go_enter Tryz.func267,Tryz.ntmps267
 go_wp2
 go_loopw [1,2,7] (fun a b way wr=>∃ (S1:TS) (W:List (Nat×BT)) (a1 b1:BT),a=.int .i64 a1.root/\b=.int .i64 b1.root/\wr.ownsRow w.heap.size 3 1 way W.length (GV W)/\mJ wr B F A (dF st W.length) S1 f/\Down sM A S ta tb S1 W a1 b1/\aa [B.c,B.ba] w wr) (fun _ _ way _=>(ta.nodes++tb.nodes).length-lenOf way)
 case atStart=>
  exact ⟨S,[],ta,tb,rfl,rfl,⟨by simp [GV,aM],Α ⟨rfl,rfl⟩⟩,by rw [List.length_nil,ig hst];exact Vp.out.ae β,D0.out,β⟩
 case round=>
  obtain ⟨S1,W,a1,b1,rfl,rfl,ho,hM,hD,hu⟩:=hrel;have HM:=χ hM;have HD:=χ hD;have HO:=χ ho;have hlen:=hD.len;have h0:=hM.h0;have h1:=hM.h1;clear hM hD;obtain ⟨a5,c5,rfl,Z4⟩:=aU ho;have DW:∀g,(Value.slice a5 W.length c5).ownBlock=some g->w.heap.size<=g:=fun g hg=>(ho.lt g hg).1;have Rs:=χ DW;clear ho DW
  by_cases hne:a1=.nil\/b1=.nil
  ·obtain ⟨m0,e0,U0,hcnt,hor⟩:=HD.out.turn hne;have hz:(a1.root=-1/\b1.root=m0.root)\/(a1.root≠-1/\b1.root=-1/\a1.root=m0.root):=by
    by_cases e:a1.root=-1
    ·rw [Δ e] at e0;exact Α ⟨e,e0.symm⟩
    ·rw [Γ e] at e0;refine Β ⟨e,?_,e0.symm⟩;rcases hne with rfl|rfl
     ·exact absurd rfl e
     ·rfl
   have HU:=χ (ψ U0 hcnt);have hWl:=U0.len;have HUP:=χ hu;rw [←hcnt] at HM;have Yt:=CV m0;clear hne hor U0 HD hcnt hu hlen h0 e0;generalize a1.root=za at *;generalize b1.root=zb at *;have e9:∃z9,m0.root=z9:=⟨_,rfl⟩;obtain ⟨z9,e9⟩:=e9;rw [e9] at hz Yt;generalize hn0:W.length=n0 at *;have TF:=χ hn0;clear hn0;have hz':(za=-1/\zb=-1/\z9=-1)\/(za=-1/\zb=z9/\z9 > -1)\/(za=z9/\zb=-1/\z9 > -1):=ω;clear hz Yt;rcases hz' with ⟨rfl,rfl,rfl⟩|⟨rfl,rfl,hzg⟩|⟨rfl,rfl,hzg⟩
   all_goals
    try (have hz2:(za != -1)=true:=ζ)
    try (have hz3:¬ ((-1:Int) > za):=ω)
    go_wp2
    go_loopw [8,9] (fun top i w5=>∃ (S2:TS) (W2 U2:List (Nat×BT)) (m:BT),W=W2++U2/\top=.int .i64 m.root/\i=.int .i64 ((W2.length:Int)-1)/\mJ w5 B F A (dF st (aH sM A ta tb).2) S2 f/\SE sM S (ta.nodes++tb.nodes) (aH sM A ta tb).1 S2 W2 m/\aa [B.ba] wr w5) (fun _ i _=>((intOf i)+1).toNat)
    case atStart=>exact ⟨S1,W,[],m0,σ,by rw [e9],by rw [TF.out],HM.out,HU.out.1,aa.refl _ _⟩
    case round=>
     obtain ⟨S2,W2,U2,m,rfl,rfl,rfl,hM,hU,hu⟩:=hrel;rename World=>w5;rcases List.eq_nil_or_concat W2 with rfl|⟨W3,⟨x,l⟩,rfl⟩
     ·have e0:=hU.res;simp only [si] at e0;simp only [List.length_nil];go_wp2;go_ret;rw [e0];exact ⟨rfl,HUP.out.trans (hu.mono σ),S2,hM,hU.isM,fun y hy=>hU.far y hy⟩
     ·have hpx:=hU.perm;simp only [List.concat_eq_append] at *;rw [nJ,ϋ] at hpx;have Ae:∀q,q∈(x::l.nodes)++m.nodes->q<A.cs.length:=fun q hq=>hlt.out q (hpx.mem_iff.1 (List.mem_append_right _ hq));have hnd:((x::l.nodes)++m.nodes).Nodup:=(θ.1 (hpx.nodup_iff.2 HX.out)).2.1;have Yx:=Ae x σ;obtain ⟨g,cap,ee,hI,hg⟩:=IZ.fQ (l:=(W3++[(x,l)]++U2).map fun p=>(p.1:Int)) (by rw [ϓ,TF.out];exact ay HO.out hu (fun k hk=>by have:=Rs.out k hk;simp;omega)) ζ;rw [ϓ,TF.out] at ee
      injection ee with ee1 ee2 ee3
      subst ee1 ee3;have dz:=hI.cell W3.length σ;rw [show (((W3++[(x,l)]++U2).map fun p=>(p.1:Int)).getD W3.length 0)=(x:Int) by simp [φ]] at dz;have h1:=hM.h1;have tQ:=χ hM;have Ki:=χ hU;have FW:=χ (ψ Ae hnd);have hTx:=hU.way (x,l) σ;have Vt:=χ hTx;have hil:((W3++[(x,l)]).length:Int)-1=W3.length:=σ;rw [hil];have hi0:((W3.length:Int)≥0):=ω;have hWn:W3.length+1+U2.length=n0:=by have:=TF.out;simp at this;omega
      have J7:(W3.length:Int)<(n0:Int):=ω;have hW3:W3.length<=65536:=ω;clear hM hU Ae hnd hTx hpx hil hI ee2
      by_cases hm:m=.nil
      ·subst hm;simp only [BT.root];have q9:bT S2 (-1) x (.node x l .nil):=Vt.out;obtain ⟨Ai,Hz⟩:=Au q9 (by simpa [BT.nodes] using FW.out.2);have kt:=yo B.bt B.ba A.cs.length S2 x w5 tQ.out.trees Yx;have HT3:=χ (ψ Ai Hz);clear q9 Ai Hz
       go_wp2_with (first
        | ((go_at_call 259;(with_reducible refine (kt).mono ?_));rintro e w6 ⟨rfl,Ml,gX⟩)
        | fail)
       refine ⟨⟨iB S2 x,W3,(x,l)::U2,sM x l .nil,σ,rfl,by go_num,tQ.out.il gX Ml,Ki.out.turn yf HX.out HT3.out.1 (fun y h1 _ _=>HT3.out.2 y h1),hu.trans gX⟩,by simp [intOf]⟩
      ·obtain ⟨mr,hmr⟩:∃mr:Nat,m.root=mr:=⟨_,BT.vH hm⟩;have hmm:=(bH hm).1;rw [hmr,π] at hmm;have q9:bT S2 (-1) x (.node x l .nil):=Vt.out;have Ww:=Ki.out.isM;have hur:S2.u mr=-1:=by
        cases m with
        | nil=>exact absurd rfl hm
        | node q a b=>
         have e:q=mr:=by have e':(q:Int)=mr:=hmr;omega
         subst e;exact Ww.2.1
       have hnd:=FW.out.2;have hxm:x≠mr:=fun e=>by
        rw [θ] at hnd;exact hnd.2.2 x σ mr hmm e
       obtain ⟨Ai,Hz⟩:=Br (m:=m) q9 Ww hm (by simpa [BT.nodes] using hnd);rw [hmr] at Ai Hz;obtain ⟨QP,Xn⟩:=Au Ai (by simpa [BT.nodes] using hnd);have HT3:=χ (ψ Ai (ψ hm (ψ Hz (ψ QP Xn))));have kh:=xN B.bt B.ba A.cs.length S2 x mr true w5 (tQ.out.trees) Yx (FW.out.1 mr (List.mem_append_right _ hmm)) hxm hur q9.2.2.2;have HMR:=χ hmr;rw [hmr];have hz4:((mr:Int) != -1)=true:=σ;clear q9 Ww hur hnd Ai Hz QP Xn hm hmr hmm
       go_wp2_with (first
        | ((go_at_call 251;(with_reducible refine (kh).mono ?_));rintro e w6 ⟨rfl,Ml,gX⟩;(have h16:=(tQ.out.il gX Ml).h1);(have kt:=yo B.bt B.ba A.cs.length _ x w6 Ml Yx))
        | ((go_at_call 259;(with_reducible refine (kt).mono ?_));rintro e w7 ⟨rfl,QQ,pV⟩)
        | fail)
       refine ⟨⟨_,W3,(x,l)::U2,sM x l m,σ,rfl,by go_num,(tQ.out.il gX Ml).il pV QQ,Ki.out.turn yf HX.out HT3.out.2.2.2.1 (fun y h1 _ h3=>?_),(hu.trans gX).trans pV⟩,by simp [intOf]⟩;have a1:=HT3.out.2.2.1 y h1 h3;have a2:=HT3.out.2.2.2.2 y h1;exact ⟨a2.1.trans a1.1,a2.2.1.trans a1.2.1,a2.2.2.trans a1.2.2⟩
  ·obtain ⟨x,l,r,rfl⟩:∃x l r,a1=.node x l r:=by
    cases a1 with
    | nil=>exact absurd (Α rfl) hne
    | node x l r=>exact ⟨x,l,r,rfl⟩
   obtain ⟨y,l',r',rfl⟩:∃x l r,b1=.node x l r:=by
    cases b1 with
    | nil=>exact absurd (Β rfl) hne
    | node x l r=>exact ⟨x,l,r,rfl⟩
   clear hne;have hmx:∀z,z∈(BT.node x l r).nodes++(BT.node y l' r').nodes->z∈ta.nodes++tb.nodes:=fun z hz=>HD.out.perm.mem_iff.1 (List.mem_append_right _ hz);have hxm:=hmx x (by simp [BT.nodes]);have hym:=hmx y (by simp [BT.nodes]);have hWl:W.length+2<=(ta.nodes++tb.nodes).length:=by simp only [BT.nodes,Ω,υ] at hlen ⊢;omega
   have ZN:=χ hmx;have hxb:((x:Int) != -1)=true:=σ;have hyb:((y:Int) != -1)=true:=σ;clear hmx hlen;have kA:=gZ HM.out.cells y x (Ma.out y hym) (Ma.out x hxm);obtain ⟨sw,hsw⟩:∃sw,decide (eU A y x)=sw:=⟨_,rfl⟩;rw [hsw] at kA;have KEY:∃ (z:Nat) (lz rz o:BT),z=(if sw then y else x)/\Down sM A S ta tb (yS S1 z rz) (W++[(z,lz)]) rz o/\bT S1 (-1) z (.node z lz rz)/\z<A.cs.length/\(∀q,q∈rz.nodes->q<A.cs.length)/\o.root=(if sw then (x:Int) else (y:Int)):=by
    cases sw with
    | true=>
     exact ⟨y,l',r',.node x l r,rfl,HD.out.takeB HX.out (Ϧ hsw),HD.out.XG,hlt.out y hym,fun q hq=>hlt.out q (ZN.out q (by simp [BT.nodes,hq])),rfl⟩
    | false=>
     exact ⟨x,l,r,.node y l' r',rfl,HD.out.takeA HX.out (ϧ hsw),HD.out.Y5,hlt.out x hxm,fun q hq=>hlt.out q (ZN.out q (by simp [BT.nodes,hq])),rfl⟩
   obtain ⟨z,lz,rz,o,ez,hD2,ZX,hz,hrz,eo⟩:=KEY;have HD2:=χ hD2;have HT:=χ ZX;have HQ:=χ hrz;clear hD2 ZX hrz hsw;simp only [BT.root];cases sw
   all_goals
    simp only [if_true,if_false,ϥ] at ez eo;subst ez
    go_wp2_with fail
    refine kA.mono ?_;rintro e w1 ⟨rfl,jN,hu1⟩;have hM1:=χ (HM.out.fH (hu1.mono (by simp [HM.out.cF])) jN (fun x hx=>Α hx) rfl);have hss:dF (dF st W.length) 1=dF st (W.length+1):=kG _ _ _;rw [hss] at hM1;have ho1:=ay HO.out hu1 (fun k hk=>by have:=Rs.out k hk;simp;omega);have h01:=hM1.out.h0;have h11:=hM1.out.h1;clear h0 h1 kA hss;have Tc:=χ (ψ hu hu1);clear hu hu1 jN;have HGB:Hid (∀g,g∈(Value.slice a5 W.length c5).ownBlock.toList->g∉B.blk F):=fun g hg hb=>by
     have h1:=Rs.out g (Option.mem_toList.1 hg);have h2:=HBL.out g hb;omega
    have hsz1:w.heap.size<=w1.heap.size:=(Tc.out.1.trans (Tc.out.2.mono σ)).size
    go_wp2_with (first
     | ((at_builtin;refine aI rfl _ _ 26 rfl w.heap.size 3 (.int .i64 0) 1 8 Tryz.underlying26 dX rfl δ _ _ _ rfl (ho1) [.int .i64 (z:Int)] rfl (by simp [Value.oneCell']) (by first|rfl|(rw [Κ];rfl)) μ ω (ω) ?_;intro v2 w2 ho2 hu2 lF);(have hM2:=χ (hM1.out.upd hu2 HGB.out));(have k12:=hM2.out.h1);(have kr:=GL hM2.out HT.out hz))
     | (go_at_call 249;(with_reducible refine (kr).mono ?_);rintro e w3 ⟨rfl,hu3⟩;(have oP:=χ (hM2.out.ae hu3));(have kc:=Ls oP.out HT.out hz HQ.out))
     | (go_at_call 269;(with_reducible refine (kc).mono ?_);rintro e w4 ⟨rfl,om,zG⟩)
     | fail)
    obtain ⟨a6,c6,rfl,hc6⟩:=aU ho2;have VG:∀k,(Value.slice a6 (W.length+1) c6).ownBlock=some k->w.heap.size<=k:=fun k hk=>(ho2.lt k hk).1;refine ⟨⟨_,W++[(z,lz)],rz,o,rfl,congrArg (Value.int .i64) eo.symm,?_,?_,HD2.out,?_⟩,?_⟩
    ·rw [Aq,υ,List.length_singleton];exact ay (ay ho2 hu3 σ) om (fun k hk=>by have:=VG k hk;simp;omega)
    ·rw [υ,List.length_singleton];exact zG
    ·have v1:aa [B.c,B.ba] w w1:=Tc.out.1.trans (Tc.out.2.mono σ);have v2:aa [B.c,B.ba] w w2:=v1.joined hu2 (fun g hg=>Β (Rs.out g (Option.mem_toList.1 hg)));exact (v2.trans (hu3.mono σ)).trans (om.mono σ)
    ·show (ta.nodes++tb.nodes).length-(W.length+1)<(ta.nodes++tb.nodes).length-W.length
     omega
end
def rR (A:NS) (tr:Nat->BT) (q:Int):Option Int:=if 1<=q/\q<A.hs.length then (if (tr q.toNat).root=-1 then none else some (tr q.toNat).root) else none
def yM (A:NS) (tr:Nat->BT):List Int:=(List.range A.hs.length).map fun h=>(tr h).root
theorem wU.Nt {K:Q3} {A:NS} {S:TS} {af:List Int} {tr:Nat->BT} (h:wU K A S af tr):wU K A S (yM A tr) tr:=
 ⟨fun q hq=>by unfold yM;simp [φ,hq],h.I7,h.mem,h.nd,h.heap,h.free⟩
def nD (w:World) (B:SB) (F:List Nat) (A:NS) (st:Nat) (tr:Nat->BT):Prop:=∃S,mJ w B F A st S (rR A tr)/\Z7 A S (yM A tr) tr
theorem Fg (A:NS) (tr:Nat->BT) (q:Nat) (h:1<=q/\q<A.hs.length):Oe (rR A tr (q:Int))=(tr q).root:=by
 unfold rR Oe;rw [Δ ω,π]
 split
 ·rename_i e;rw [e];rfl
 ·rfl
theorem mJ.ext {w:World} {B:SB} {F:List Nat} {A:NS} {st:Nat} {S:TS} {f g:Int->Option Int} (h:mJ w B F A st S f) (e:∀k,f k=g k):mJ w B F A st S g:=⟨h.head,h.cells,h.trees,h.top.ext e,h.bI,h.sep⟩
theorem EU {A A':NS} {tr:Nat->BT} {q:Nat} {t:BT} (hl:A'.hs.length=A.hs.length) (hq:1<=q/\q<A.hs.length) (k:Int):(if k=(q:Int) then (if t.root=-1 then none else some t.root) else rR A tr k)=rR A' (fun y=>if y=q then t else tr y) k:=by
 by_cases e:k=(q:Int)
 ·subst e;have e1:rR A' (fun y=>if y=q then t else tr y) (q:Int)=(if t.root=-1 then none else some t.root):=by
   unfold rR;rw [hl,Δ (show 1<=(q:Int)/\(q:Int)<A.hs.length by omega)];have:(fun y=>if y=q then t else tr y) (q:Int).toNat=t:=σ;rw [this]
  rw [e1,Δ rfl]
 ·have e1:rR A' (fun y=>if y=q then t else tr y) k=rR A tr k:=by
   unfold rR;rw [hl]
   by_cases h:1<=k/\k<A.hs.length
   ·rw [Δ h,Δ h];have:(fun y=>if y=q then t else tr y) k.toNat=tr k.toNat:=by
     show (if k.toNat=q then t else tr k.toNat)=_
     rw [Γ ω]
    rw [this]
   ·rw [Γ h,Γ h]
  rw [e1,Γ e]
theorem RQ {A:NS} {S:TS} {af:List Int} {tr:Nat->BT} (h:Z7 A S af tr) (hA:A.cs.length<=65536) {t:BT} (ht:∀y,y∈t.nodes->y<A.cs.length):-1<=t.root/\t.root<=9223372036854775807:=by
 refine ⟨CV t,?_⟩
 by_cases e:t=.nil
 ·rw [e];show (-1:Int)<=_;omega
 ·have h1:=bH e;have h2:=ht _ h1.1;omega
section
variable {w:World} {B:SB} {F:List Nat} {A:NS} {st:Nat} {tr:Nat->BT}
theorem nD.upd {w':World} {G:List Nat} (h:nD w B F A st tr) (hu:aa G w w') (hG:∀x,x∈G->x∉B.blk F):nD w' B F A st tr:=by
 obtain ⟨S,hM,hI⟩:=h;exact ⟨S,hM.upd hu hG,hI⟩
theorem nD.ae {w':World} (h:nD w B F A st tr) (hu:aa [] w w'):nD w' B F A st tr:=h.upd hu σ
theorem EP (h:nD w B F A st tr) (hh x:Nat) (k s:Int) (hk:-9223372036854775808<=k/\k<=9223372036854775807/\0<=s/\s<=18446744073709551615) (hB:iM A hh x=true) :
  Calls Tryz.prog 263 #[.pointer (some ⟨B.n0,0,none⟩),.int .i64 (hh:Int),.int .i64 (x:Int),.agg #[.int .i64 k,.int .u64 s]] w fun e w'=>e=.returned (.bool true)/\aa (B.blk F) w w'/\
   nD w' B F (az A hh x k s) (dF st (aH sM (az A hh x k s) (tr hh) (single x)).2) (fun q=>if q=hh then (aH sM (az A hh x k s) (tr hh) (single x)).1 else tr q):=by
 obtain ⟨S,hM,hI⟩:=h;have hlt:=hM.lt;have ok:=hM.cells.ok;obtain ⟨b1,b2,b3⟩:=(bX _ _ _).1 hB;have b4:=(aQ _ _).1 b1;have hx:x<A.cs.length:=by have:=(dE _ _).1 b2;omega
 have Na:(A.c x).i=0:=by
  have:=(ok.nat x hx).1;have h3:¬ (0<(A.c x).i):=fun h'=>by rw [(aj A x).2 ⟨hx,h'⟩] at b3;cases b3
  omega
 have hcs:(az A hh x k s).cs.length=A.cs.length:=by unfold az;rw [Δ hB,fq]
 have nG:(az A hh x k s).hs.length=A.hs.length:=by unfold az;rw [Δ hB];rfl
 have hcx:∀y,(az A hh x k s).c y=if y=x then ⟨hh,k,s⟩ else A.c y:=fun y=>by
  unfold az;rw [Δ hB,π,iN]
  by_cases e:y=x
  ·rw [Δ ⟨e,hx⟩,Δ e]
  ·rw [Γ (fun h=>e h.1),Γ e]
 have tY:x∉(tr hh).nodes:=hI.out Na;have hX:((tr hh).nodes++(single x).nodes).Nodup:=by
  rw [θ];refine ⟨hI.nd hh,by simp [single,BT.nodes],fun a ha b hb e=>?_⟩;simp only [single,BT.nodes,Υ,ϕ] at hb;exact tY (by rw [←hb,←e];exact ha)
 have hin:∀y,y∈(tr hh).nodes++(single x).nodes->bV (az A hh x k s) (y:Int)=true:=fun y hy=>by
  rw [aj,hcs,hcx];simp only [single,BT.nodes,Υ,τ,ϕ] at hy
  by_cases e:y=x
  ·rw [Δ e,e];exact ⟨hx,by show (0:Int)<(hh:Int);omega⟩
  ·rw [Γ e];have:=(hI.mem hh y).1 (hy.resolve_right e);exact ⟨this.2.1,ω⟩
 have UA:Heap (az A hh x k s) (tr hh):=(hI.heap hh).frame (fun y hy=>by rw [hcx,Γ (fun e=>tY (by rw [←e];exact hy))]);obtain ⟨mp,mh⟩:=qg yf (az A hh x k s) _ (tr hh) (single x) (Θ _);have VZ:=mh UA ⟨by simp [BT.nodes],by simp [BT.nodes],trivial,trivial⟩ hX;have hfr:=hI.free x hx Na;have T9:=hI.I7 hh;have hq:1<=hh/\hh<A.hs.length:=ω;have hb65:=ok.h1
 have hmr:=RQ hI ok.c1 (t:=(aH sM (az A hh x k s) (tr hh) (single x)).1) (fun y hy=>by
  have h1:=mp.mem_iff.1 hy;have:=(aj _ y).1 (hin y h1)
  rw [hcs] at this;exact this.1)
 have hfst:=Fg A tr hh hq
 have FI:Hid (∀ (W:World) (S':TS) (st':Nat),mJ W B F (az A hh x k s) st' S' (fun y=>if y=(hh:Int) then (if (aH sM (az A hh x k s) (tr hh) (single x)).1.root=-1 then none else some (aH sM (az A hh x k s) (tr hh) (single x)).1.root) else rR A tr y)->bT S' (-1) (aH sM (az A hh x k s) (tr hh) (single x)).1.root (aH sM (az A hh x k s) (tr hh) (single x)).1->
   (∀y,y∉(tr hh).nodes++(single x).nodes->S.at S' y)->nD W B F (az A hh x k s) st' (fun q=>if q=hh then (aH sM (az A hh x k s) (tr hh) (single x)).1 else tr q)):=fun W S' st' a1 a2 a4=>
  ⟨S',a1.ext (EU nG hq),(hI.put ok (by simp [yM]) hB a2 mp VZ (fun y hy=>a4 y hy)).Nt⟩
 have u1:aa [] w (w.alloc (.cells #[.int .i64 k,.int .u64 s] 129)):=(aa.refl _ _).alloc _;have kp:=fun W (hW:aa [] (w.alloc (.cells #[.int .i64 k,.int .u64 s] 129)) W)=>l9 (hM.cells.ae (u1.trans hW)) hh x k s hk hB;have h0:=hM.h0;have wC:B.n0∉F:=hM.bI.1;have hsz:w.heap.size∉F:=fun hm=>by have:=hlt w.heap.size (by simp [SB.blk,hm]);omega
 have r0:∀W,aa F (w.alloc (.cells #[.int .i64 k,.int .u64 s] 129)) W->W.cell? ⟨B.n0,0,none⟩=some (.pointer (some ⟨B.c,0,none⟩)):=fun W hW=>hW.kept (u1.was h0) wC;have r1:∀W,aa F (w.alloc (.cells #[.int .i64 k,.int .u64 s] 129)) W->W.cell? ⟨w.heap.size,0,none⟩=some (.int .i64 k):=fun W h=>h.kept σ hsz;have r2:∀W,aa F (w.alloc (.cells #[.int .i64 k,.int .u64 s] 129)) W->W.cell? ⟨w.heap.size,1,none⟩=some (.int .u64 s):=fun W h=>h.kept σ hsz;have HM:=χ hM;have HH:=χ (ψ hX (ψ hin (ψ T9 hfr)));have su:=hM.cF;clear hM hI ok b1 b2 b3 Na hcx tY hX hin UA mp mh VZ hfr h0 hlt T9
 generalize hA':az A hh x k s=A' at *;generalize htr:tr hh=th at *
 go_enter Tryz.func263,Tryz.ntmps263
 go_wp2
 go_region_held3 (aa F (w.alloc (.cells #[.int .i64 k,.int .u64 s] 129))) (exact ν)
  ((go_at_call 154;(with_reducible refine (kp _ β).mono ?_);rintro e w1 ⟨rfl,jN,hu1⟩;(have hu2:aa F (w.alloc (.cells #[.int .i64 k,.int .u64 s] 129)) w1:=ν)))
 have uF:aa F w (w.alloc (.cells #[.int .i64 k,.int .u64 s] 129)):=u1.mono σ;have hM1:=HM.out.fH (uF.trans hu2) jN (fun y hy=>Α hy) hcs;have hw1:aa F w w1:=uF.trans hu2;have k1:=tq hM1 (hh:Int) ω;rw [hfst] at k1;have km:=xK hM1 HH.out.2.2.1 (sU HH.out.2.2.2) HH.out.1 HH.out.2.1;rw [show (single x).root=(x:Int) from rfl] at km;clear r0 r1 r2 kp hu1 hu2 jN uF hM1
 go_wp2_with (first
  | (go_at_call 268;(with_reducible refine (k1).mono ?_);rintro e w9 ⟨rfl,aS⟩;rw [aS];clear aS w9)
  | ((go_at_call 267;(with_reducible refine (km).mono ?_));rintro e w2 ⟨rfl,hu2,S2,hM2,q9,hs2⟩;(have kc:=yK hM2 hh _ ω hmr))
  | ((go_at_call 266;(with_reducible refine (kc).mono ?_));rintro e w3 ⟨rfl,hu3,oP⟩)
  | fail)
 go_ret;refine ⟨rfl,((hw1.mono (fun y hy=>by simp only [SB.blk,ρ];simp [hy])).trans (hu2.mono (fun y hy=>?_))).trans (hu3.mono (by simp [SB.blk])),FI.out _ S2 _ oP q9 hs2⟩;simp only [ρ,ς,or_false] at hy;simp only [SB.blk,ρ];rcases hy with rfl|rfl
 ·simp [su]
 ·simp
theorem Mx (h:nD w B F A st tr) (x:Int) (hx:-9223372036854775808<=x/\x<=9223372036854775807) (hn:dG A x=0) :
  Calls Tryz.prog 265 #[.pointer (some ⟨B.n0,0,none⟩),.int .i64 x] w fun e w'=>e=.returned (.tuple #[.int .i64 0,.bool false])/\w'=w:=by
 obtain ⟨S,hM,hI⟩:=h;have hr:Oe (rR A tr x)=-1:=by
  unfold rR
  split
  ·rename_i hq
   have:(tr x.toNat)=.nil:=by
    cases e:tr x.toNat with
    | nil=>rfl
    | node y a b=>
     have:=(hI.mem x.toNat y).1 (by rw [e];simp [BT.nodes]);have:0<dG A x:=dL.2 ⟨y,this.2.1,by show (A.c y).i=x;omega,by omega⟩;omega
   rw [this];rfl
  ·rfl
 have k:=tq hM x hx;rw [hr] at k;clear hM hI
 go_enter Tryz.func265,Tryz.ntmps265
 go_wp2_with (first|(go_at_call 268;(with_reducible refine (k).mono ?_);rintro e w9 ⟨rfl,aS⟩;rw [aS];clear aS w9)|fail)
 go_ret2;exact ⟨rfl,rfl⟩
theorem AZ (h:nD w B F A st tr) (g:Nat) (hn:0<dG A g) :
  Calls Tryz.prog 265 #[.pointer (some ⟨B.n0,0,none⟩),.int .i64 (g:Int)] w fun e w'=>∃m:Nat,bB A g=some m/\(tr g).root=m/\e=.returned (.tuple #[.int .i64 (m:Int),.bool true])/\w'=w:=by
 obtain ⟨S,hM,hI⟩:=h;obtain ⟨m,hm1,hm2⟩:=hI.first hn;have hin:=(j5 hm2);have hq:=(aQ _ _).1 (jH hM.cells.ok hin.2.2.2);rw [π,hin.2.2.1] at hq;have hb:=hM.cells.ok.h1;have k:=tq hM (g:Int) ω;rw [Fg A tr g ω,hm1] at k;have hb1:((m:Int) == -1)=false:=σ;clear hM hI
 go_enter Tryz.func265,Tryz.ntmps265
 go_wp2_with (first|(go_at_call 268;(with_reducible refine (k).mono ?_);rintro e w9 ⟨rfl,aS⟩;rw [aS];clear aS w9)|fail)
 go_ret2;exact ⟨m,hm2,hm1,rfl,rfl⟩
end
noncomputable def Fs (A:NS) (t:BT) (x:Nat):BT×Nat:=(ag (pathOf t x).1 (aH sM A (pathOf t x).2.1 (pathOf t x).2.2).1,(aH sM A (pathOf t x).2.1 (pathOf t x).2.2).2)
section
variable {w:World} {B:SB} {F:List Nat} {A:NS} {st:Nat} {tr:Nat->BT} {S:TS} {f:Int->Option Int}
theorem Gu {bt ba n:Nat} (h:aY w bt ba n S) {fr:Fr} {P:List Fr} {x:Nat} {l r:BT} (hT:bT S (-1) (ag (fr::P) (.node x l r)).root (ag (fr::P) (.node x l r))) (hn:(ag (fr::P) (.node x l r)).nodes.Nodup) (hf:fr.1<n) :
  ∃ (r':Int) (b:Bool),((b=true/\(r' == (x:Int))=fr.2.1)\/(b=false/\fr.2.1=false))/\Calls Tryz.prog 249 #[.pointer (some ⟨bt,0,none⟩),.int .i64 (fr.1:Int)] w fun e w'=>e=.returned (.tuple #[.int .i64 r',.bool b])/\∃k,w'=w.drewN k:=by
 obtain ⟨z,hz,k⟩:=Bo h hT hn hf
 by_cases e:z=-1
 ·refine ⟨tv z,tb z,Β ⟨by rw [e];rfl,?_⟩,k⟩;rw [←hz,e];first|(simp;done)|(simp;omega)
 ·exact ⟨tv z,tb z,Α ⟨by unfold tb;simp [e],by unfold tv;rw [Γ e];exact hz⟩,k⟩
def Q6 (w':World) (B:SB) (F:List Nat) (A:NS) (st:Nat) (S:TS) (f:Int->Option Int) (g x:Nat) (P:List Fr) (X:List Nat) (T:BT):Prop:=
 ∃S',mJ w' B F (aN A x) st S' (fun y=>if P=[]/\y=(g:Int) then (if T.root=-1 then none else some T.root) else f y)/\bT S' (-1) T.root T/\(∀y,y∉X->S.at S' y)/\(S'.l x=-1/\S'.r x=-1/\S'.u x=-1)
theorem Dh (hM:mJ w B F A st S f) {g x:Nat} {P:List Fr} {l r:BT} (hin:bV A (x:Int)=true) (hg:(A.c x).i=g) (hgq:1<=g/\g<=65536)
  (hT:bT S (-1) (ag P (.node x l r)).root (ag P (.node x l r))) (hn:(ag P (.node x l r)).nodes.Nodup) (hall:∀y,y∈(ag P (.node x l r)).nodes->bV A (y:Int)=true) :
  Calls Tryz.prog 261 #[.pointer (some ⟨B.n0,0,none⟩),.int .i64 (x:Int)] w fun e w'=>e=.returned (.bool true)/\aa (B.blk F) w w'/\
   Q6 w' B F A (dF st (aH sM A l r).2) S f g x P (ag P (.node x l r)).nodes (ag P (aH sM A l r).1):=by
 have hxl:=((aj A x).1 hin).1;have hlt:∀y,y∈(ag P (.node x l r)).nodes->y<A.cs.length:=fun y hy=>((aj A y).1 (hall y hy)).1;have kh:=jq hM.cells x hin;rw [hg] at kh;have h0:=hM.h0;have HM:=χ hM;have WT:=sV hn;have mp:=(qg yf A _ l r (Θ _)).1;have hblk:=χ hM.lt;have su:=hM.cF;have hsep:=χ (ψ hM.sep hM.bI);have HT:=χ (ψ hT (ψ hn (ψ hall hlt)));have HP:=χ WT;have hA:=hM.cells.ok.c1;obtain ⟨m,k,hmk⟩:∃m k,aH sM A l r=(m,k):=⟨_,_,rfl⟩;rw [hmk] at mp;rw [hmk]
 have Ws:∀y,y∈m.nodes->y<A.cs.length:=fun y hy=>hlt y (aJ.2 (Α (by
  have:=mp.mem_iff.1 hy
  simp only [BT.nodes];exact Λ _ this)))
 have hmr:-1<=m.root/\m.root<=9223372036854775807:=by
  refine ⟨CV m,?_⟩
  by_cases e:m=.nil
  ·rw [e];show (-1:Int)<=_;omega
  ·have h1:=bH e;have h2:=Ws _ h1.1;omega
 have UT:=χ mp;have HMK:=χ hmk;have Ma:=χ hin;have HML:=χ Ws;clear hM hT hn hall hlt WT mp hmk hin hg Ws
 go_enter Tryz.func261,Tryz.ntmps261
 go_wp2_with (first|((go_at_call 140;(with_reducible refine (kh).mono ?_));rintro e w1 ⟨rfl,jN,hu1⟩;(have g1:=(HM.out.fH hu1 jN (fun y hy=>Α hy) rfl).h1))|fail)
 have hM1:=HM.out.fH hu1 jN (fun y hy=>Α hy) rfl;have kl:=fun W (hW:aa [] w1 W)=>Am (hM1.ae hW).trees ((cZ _ _).1 HT.out.1).1 hxl;have klo:=fun W (hW:aa [] w1 W)=>yj (hM1.ae hW) (fr:=(x,false,r)) (P:=P) (t:=l) HT.out.1 HT.out.2.1 HT.out.2.2.2;have hn0:B.n0∉[B.c,B.ba]:=by
  have a1:=hsep.out;have a2:B.n0≠B.c:=fun e=>a1.2.1 (by rw [e];exact su);simp;omega
 have r1:∀W,aa [B.c,B.ba] w1 W->W.cell? ⟨B.n0,1,none⟩=some (.pointer (some ⟨B.bt,0,none⟩)):=fun W hW=>hW.kept g1 hn0;have JF:(ag ((x,true,.nil)::P) r).nodes.Nodup:=by
  have e:=(aW P (.node x .nil r));refine e.nodup_iff.2 ?_;obtain ⟨⟨a1,a2,a3⟩,a4,a5,a6,a7⟩:=HP.out;simp only [BT.nodes,Ϡ,θ] at a4 ⊢;refine ⟨List.nodup_cons.2 ⟨a2,a4.2.1⟩,a7,fun y hy z hz e=>?_⟩;subst e;rcases ρ.1 hy with e|hy
  ·exact a3 (by rw [←e];exact hz)
  ·exact a6 y hy hz
 have Bw:∀y,y∈(ag ((x,true,.nil)::P) r).nodes->y∈(ag P (.node x l r)).nodes:=fun y hy=>by
  have h':y∈(ag P (.node x .nil r)).nodes:=hy;rw [aJ] at h' ⊢;simp only [BT.nodes,Ϡ,ρ,τ] at h' ⊢;rcases h' with (h'|h')|h'
  ·exact Α (Α h')
  ·exact Α (Β (Β h'))
  ·exact Β h'
 have Ph:∀y,y∈l.nodes->y∉(ag ((x,true,.nil)::P) r).nodes:=fun y hy hm=>by
  obtain ⟨⟨a1,a2,a3⟩,a4,a5,a6,a7⟩:=HP.out;rw [θ] at a4;have h':y∈(ag P (.node x .nil r)).nodes:=hm;rw [aJ] at h';simp only [BT.nodes,Ϡ,ρ] at h';rcases h' with (h'|h')|h'
  ·exact a1 (by rw [←h'];exact hy)
  ·exact a4.2.2 y hy y h' rfl
  ·exact a5 y hy h'
 have H3:=χ (ψ JF (ψ Bw Ph));clear hM1 jN kh h0 JF Bw Ph
 go_region_held3 (aa [B.c,B.ba] w1) (exact ν)
  (first
   | ((go_at_call 248;(with_reducible refine (kl _ η).mono ?_));rintro e w2 ⟨rfl,k2,hw2⟩;(have hq2:aa [] w1 w2:=(by rw [hw2];refine aa.drewN ?_ _;exact η));clear hw2;(have hv2:aa [B.c,B.ba] w1 w2:=hq2.mono σ))
   | ((go_at_call 269;(with_reducible refine (klo _ η).mono ?_));rintro e w3 ⟨rfl,hu3,S3,oP,hl3,hp3,hs3⟩;(have hv3:aa [B.c,B.ba] w1 w3:=aa.trans ν (hu3.mono σ));(have Kt:bT S3 (-1) (ag ((x,true,.nil)::P) r).root (ag ((x,true,.nil)::P) r):=hp3);(have kr:=fun W (hW:aa [] w3 W)=>sQ (oP.ae hW).trees ((cZ P (.node x .nil r)).1 Kt).1 hxl);(have Yr:=fun W (hW:aa [] w3 W)=>yj (oP.ae hW) (fr:=(x,true,.nil)) (P:=P) (t:=r) Kt H3.out.1 (fun y hy=>HT.out.2.2.2 y (H3.out.2.1 y hy))))
   | ((go_at_call 249;(with_reducible refine (kr _ η).mono ?_));rintro e w4 ⟨rfl,k4,hw4⟩;(have hq4:aa [] w3 w4:=(by rw [hw4];refine aa.drewN ?_ _;exact η));clear hw4;(have hv4:aa [B.c,B.ba] w1 w4:=hv3.trans (hq4.mono σ)))
   | ((go_at_call 269;(with_reducible refine (Yr _ η).mono ?_));rintro e w5 ⟨rfl,dJ,S5,Dk,NF,QW,hs5⟩;(have hv5:aa [B.c,B.ba] w1 w5:=aa.trans ν (dJ.mono σ));(have km:=fun W (hW:aa [] w5 W)=>xK (Dk.ae hW) (hl3.frame (fun y hy=>hs5 y (H3.out.2.2 y hy))) NF HP.out.2.1 (fun y hy=>HT.out.2.2.1 y (aJ.2 (Α (by simp only [BT.nodes];exact Λ _ hy)))));rw [HMK.out] at km)
   | ((go_at_call 267;(with_reducible refine (km _ η).mono ?_));rintro e w6 ⟨rfl,gX,S6,sF,Ml,hs6⟩;(have hv6:aa [B.c,B.ba] w1 w6:=aa.trans ν gX)))
 have hp6:bT S6 (-1) (ag P (.node x .nil .nil)).root (ag P (.node x .nil .nil)):=bT.frame (show bT S5 (-1) (ag P (.node x .nil .nil)).root (ag P (.node x .nil .nil)) from QW) (fun y hy=>hs6 y (fun hm=>by
  obtain ⟨⟨a1,a2,a3⟩,a4,a5,a6,a7⟩:=HP.out;rw [aJ] at hy;simp only [BT.nodes,Ϡ,ρ,ς,or_false] at hy;rw [τ] at hm;rcases hy with e|hy
  ·subst e;rcases hm with hm|hm;exact a1 hm;exact a2 hm
  ·rcases hm with hm|hm;exact a5 y hm hy;exact a6 y hm hy))
 have f6:∀y,y∉(ag P (.node x l r)).nodes->S.at S6 y:=fun y hy=>by
  have h1:y∉l.nodes++r.nodes:=fun hm=>hy (aJ.2 (Α (by simp only [BT.nodes];exact Λ _ hm)));exact gP (gP (hs3 y hy) (hs5 y (fun hm=>hy (H3.out.2.1 y hm)))) (hs6 y h1)
 have u6:aa (B.blk F) w w6:=(hu1.mono (fun y hy=>by simp only [SB.blk,ρ];simp [hy])).trans (hv6.mono (fun y hy=>by
   simp only [ρ,ς,or_false] at hy;simp only [SB.blk,ρ];rcases hy with rfl|rfl
   ·simp [su]
   ·simp))
 have ku:=fun W (hW:aa [] w6 W)=>JQ (sF.ae hW).trees hp6 hxl;have Va:=fun W (hW:aa [] w6 W)=>(sF.ae hW).h1;have uZ:=χ sF;have H6:=χ (ψ hp6 (ψ f6 Ml));have hmm:Hid (∀y,y∈m.nodes->y∉cK P/\y≠x):=fun y hy=>by
  obtain ⟨⟨a1,a2,a3⟩,a4,a5,a6,a7⟩:=HP.out;have h1:=UT.out.mem_iff.1 hy;rw [τ] at h1;rcases h1 with h1|h1
  ·exact ⟨a5 y h1,fun e=>a1 (by rw [←e];exact h1)⟩
  ·exact ⟨a6 y h1,fun e=>a2 (by rw [←e];exact h1)⟩
 have hmx:Hid (∀y,y∈m.nodes->y∈(ag P (.node x l r)).nodes):=fun y hy=>aJ.2 (Α (by
  have h1:=UT.out.mem_iff.1 hy
  simp only [BT.nodes,ρ];exact Β h1))
 have CW:Hid m.nodes.Nodup:=UT.out.nodup_iff.2 HP.out.2.1;have H31:=Va w6 (aa.refl _ _);have H32:=(sF.ae ((aa.refl [] w6).drew)).h1;clear sF hp6 f6 Ml hs6 hs5 hs3 QW hp3 Kt hl3 NF Dk oP km klo Yr kr kl r1 hu1 g1 hv6 hv5 hv4 hv3 hv2 hq2 hq4 hu3 dJ gX H31 H32;obtain ⟨wX,hwX,uX⟩:∃wX,wX=w6/\aa [] w6 wX:=⟨w6,rfl,aa.refl _ _⟩;cases P with
 | nil=>
  rw [show BD ([]:List Fr)=-1 from rfl,show tv (-1)=0 from rfl,show tb (-1)=false from rfl] at ku;have g61:=Va w6 (aa.refl _ _);clear Va
  go_wp2_with (first
   | ((go_at_call 250;(with_reducible refine (ku _ η).mono ?_));rintro e w7 ⟨rfl,kk,hw7⟩;(have u7:aa [] w6 w7:=(by rw [hw7];refine aa.drewN ?_ _;exact η));clear hw7;(have kc:=yK (uZ.out.ae u7) g m.root hgq hmr))
   | ((go_at_call 266;(with_reducible refine (kc).mono ?_));rintro e w8 ⟨rfl,zC,hM8⟩;(have g80:=hM8.h0);(have kd:=fU hM8.cells x Ma.out))
   | ((go_at_call 151;(with_reducible refine (kd).mono ?_));rintro e w9 ⟨rfl,hC9,jJ⟩)
   | fail)
  go_ret;obtain ⟨b1,b2,b4⟩:=H6.out;have bx:=((cZ _ _).1 b1).1;refine ⟨rfl,((u6.trans (u7.mono σ)).trans (zC.mono (by simp [SB.blk]))).trans (jJ.mono (fun y hy=>by simp only [SB.blk,ρ];simp [hy])),S6,(hM8.fH jJ hC9 (fun y hy=>Α hy) (dm _ _)).ext (fun y=>?_),b4,b2,⟨bx.2.2.1.root,bx.2.2.2.root,bx.2.1⟩⟩
  by_cases e:y=(g:Int)
  ·rw [Δ (show ([]:List Fr)=[]/\y=(g:Int) from ⟨rfl,e⟩),Δ e];rfl
  ·rw [Γ e,Γ (show ¬ (([]:List Fr)=[]/\y=(g:Int)) from fun h=>e h.2)]
 | cons fr P2=>
  rw [show BD (fr::P2)=(fr.1:Int) from rfl,OB,N8] at ku;have hfl:fr.1<A.cs.length:=HT.out.2.2.2 fr.1 (aJ.2 (Β (by simp [cK])));have LU:(ag (fr::P2) (.node x .nil .nil)).nodes.Nodup:=by
   refine (aW (fr::P2) (.node x .nil .nil)).nodup_iff.2 ?_;obtain ⟨⟨a1,a2,a3⟩,a4,a5,a6,a7⟩:=HP.out;simp only [BT.nodes,Ϡ,List.singleton_append,Ζ];exact ⟨a3,a7⟩
  have Gx:∀y,y∈(ag (fr::P2) (.node x .nil .nil)).nodes->y∈(ag (fr::P2) (.node x l r)).nodes:=fun y hy=>by
   rw [aJ] at hy ⊢;simp only [BT.nodes,Ϡ,ρ,ς,or_false] at hy;rcases hy with hy|hy
   ·exact Α (by simp [BT.nodes,hy])
   ·exact Β hy
  have Xt:=fun W (hW:aa [] w6 W)=>Gu (uZ.out.ae hW).trees H6.out.1 LU hfl;have O6:=fun W (hW:aa [] w6 W)=>qE (uZ.out.ae hW).trees (f:=fr) (P:=P2) (t:=.node x .nil .nil) H6.out.1 LU (fun y hy=>HT.out.2.2.2 y (Gx y hy));rw [show BT.root (.node x .nil .nil)=(x:Int) from rfl] at O6;generalize hcv:cutV fr (.node x .nil .nil)=cv at O6;generalize hcb:tb (x:Int)=cb at O6;have FW:=χ (ψ LU Gx);have g61:=Va w6 (aa.refl _ _);clear LU Gx hcv hcb
  go_wp2_with (first
   | ((go_at_call 250;(with_reducible refine (ku _ η).mono ?_));rintro e w7 ⟨rfl,kk,hw7⟩;(have u7:aa [] w6 w7:=(by rw [hw7];refine aa.drewN ?_ _;exact η));clear hw7;(have g71:=Va w7 u7))
   | fail)
  obtain ⟨r',bb,hbb,kr⟩:=Xt w7 u7;have hmz':(m=.nil/\(m.root != -1)=false)\/(m≠.nil/\(m.root != -1)=true):=by
   by_cases e:m=.nil
   ·exact Α ⟨e,by rw [e];rfl⟩
   ·exact Β ⟨e,by have:=(bH e).2;simp;omega⟩
  have Zm:=χ Va;clear Xt ku Va;rcases hmz' with ⟨hmz,hmb⟩|⟨hmz,hmb⟩
  ·have Vv:=χ hmz;clear hmz;rcases hbb with ⟨rfl,hb2⟩|⟨rfl,hb2⟩
   all_goals
    go_wp2_with (first
     | ((go_at_call 249;(with_reducible refine (kr).mono ?_));rintro e w8 ⟨rfl,k8,hw8⟩;(have u8:aa [] w6 w8:=(by rw [hw8];exact u7.drewN k8));clear hw8;(have g81:=Zm.out w8 u8);(have kc:=O6 w8 u8))
     | ((go_at_call 244;(with_reducible refine (kc).mono ?_));rintro e w9 ⟨rfl,jJ,S9,TJ,Wi,hp9,YQ⟩;(have g90:=((uZ.out.ae u8).il jJ TJ).h0);(have kd:=fU ((uZ.out.ae u8).il jJ TJ).cells x Ma.out))
     | ((go_at_call 151;(with_reducible refine (kd).mono ?_));rintro e Q0 ⟨rfl,FZ,tF⟩)
     | fail)
    go_ret;have hz:=Vv.out;subst hz;refine ⟨rfl,((u6.trans (u8.mono σ)).trans (jJ.mono (by simp [SB.blk]))).trans (tF.mono (fun y hy=>by simp only [SB.blk,ρ];simp [hy])),S9,(((uZ.out.ae u8).il jJ TJ).fH tF FZ (fun y hy=>Α hy) (dm _ _)).ext (fun y=>by rw [Γ σ]),hp9,fun y hy=>gP (H6.out.2.1 y hy) (YQ y (fun hm=>hy (FW.out.2 y hm))),⟨Wi.2.2.1.root,Wi.2.2.2.root,Wi.2.1⟩⟩
  ·have Vv:=χ hmz;have hxm:∀y,y∈m.nodes->y∉(ag (fr::P2) (.node x .nil .nil)).nodes:=fun y hy hm=>by
    have b1:=hmm.out y hy;rw [aJ] at hm;simp only [BT.nodes,Ϡ,ρ,ς,or_false] at hm;rcases hm with hm|hm
    ·exact b1.2 hm
    ·exact b1.1 hm
   have hnd:(m.nodes++cK (fr::P2)).Nodup:=by
    rw [θ];exact ⟨CW.out,HP.out.2.2.2.2,fun a ha b hb e=>(hmm.out a ha).1 (by rw [e];exact hb)⟩
   have hsm:∀y,y∈m.nodes++cK (fr::P2)->y∈(ag (fr::P2) (.node x l r)).nodes:=fun y hy=>by
    rw [τ] at hy;rcases hy with hy|hy
    ·exact hmx.out y hy
    ·exact aJ.2 (Β hy)
   have MX:=χ (ψ hxm (ψ hnd hsm));clear hmz hxm hnd hsm;rcases hbb with ⟨rfl,hb2⟩|⟨rfl,hb2⟩
   all_goals
    go_wp2_with (first
     | ((go_at_call 249;(with_reducible refine (kr).mono ?_));rintro e w8 ⟨rfl,k8,hw8⟩;(have u8:aa [] w6 w8:=(by rw [hw8];exact u7.drewN k8));clear hw8;(have g81:=Zm.out w8 u8);(have kc:=O6 w8 u8))
     | ((go_at_call 244;(with_reducible refine (kc).mono ?_));rintro e w9 ⟨rfl,jJ,S9,TJ,Wi,hp9,YQ⟩;(have g91:=((uZ.out.ae u8).il jJ TJ).h1);(have khg:=Bz TJ hp9 (H6.out.2.2.frame (fun y hy=>YQ y (MX.out.1 y hy))) Vv.out MX.out.2.1 (fun y hy=>HT.out.2.2.2 y (MX.out.2.2 y hy)));(try rw [hb2] at khg))
     | ((go_at_call 251;(with_reducible refine (khg).mono ?_));rintro e w9b ⟨rfl,Tw,S9b,VA,hp9b,YA⟩;(have g90:=(((uZ.out.ae u8).il jJ TJ).il Tw VA).h0);(have kd:=fU (((uZ.out.ae u8).il jJ TJ).il Tw VA).cells x Ma.out))
     | ((go_at_call 151;(with_reducible refine (kd).mono ?_));rintro e Q0 ⟨rfl,FZ,tF⟩)
     | fail)
    go_ret;have tY:x∉m.nodes++cK (fr::P2):=fun hm=>by
     rw [τ] at hm;rcases hm with hm|hm
     ·exact (hmm.out x hm).2 rfl
     ·exact HP.out.1.2.2 hm
    have a3:=YA x tY;refine ⟨rfl,(((u6.trans (u8.mono σ)).trans (jJ.mono (by simp [SB.blk]))).trans (Tw.mono (by simp [SB.blk]))).trans (tF.mono (fun y hy=>by simp only [SB.blk,ρ];simp [hy])),S9b,((((uZ.out.ae u8).il jJ TJ).il Tw VA).fH tF FZ (fun y hy=>Α hy) (dm _ _)).ext (fun y=>by rw [Γ σ]),hp9b,fun y hy=>gP (gP (H6.out.2.1 y hy) (YQ y (fun hm=>hy (FW.out.2 y hm)))) (YA y (fun hm=>hy (MX.out.2.2 y hm))),⟨a3.1.trans Wi.2.2.1.root,a3.2.1.trans Wi.2.2.2.root,a3.2.2.trans Wi.2.1⟩⟩
theorem Ef (h:nD w B F A st tr) (g x:Nat) (hx:x∈(tr g).nodes) :
  Calls Tryz.prog 261 #[.pointer (some ⟨B.n0,0,none⟩),.int .i64 (x:Int)] w fun e w'=>e=.returned (.bool true)/\aa (B.blk F) w w'/\
   nD w' B F (aN A x) (dF st (Fs A (tr g) x).2) (fun q=>if q=g then (Fs A (tr g) x).1 else tr q):=by
 obtain ⟨S,hM,hI⟩:=h;have hm:=(hI.mem g x).1 hx;have hin:bV A (x:Int)=true:=(aj A x).2 ⟨hm.2.1,ω⟩;have e:=vz hx;unfold Fs;generalize (pathOf (tr g) x).1=P at *;generalize (pathOf (tr g) x).2.1=l at *;generalize (pathOf (tr g) x).2.2=r at *;have hq:1<=g/\g<A.hs.length:=by have:=hM.cells.ok.nat x hm.2.1;omega
 have hb65:=hM.cells.ok.h1;have hT:=hI.I7 g;have hn:=hI.nd g;have hH:=hI.heap g;rw [e] at hT hn hH;obtain ⟨d1,d2,d3⟩:=DD yf hn hH;refine (Dh hM hin hm.2.2 ω hT hn (fun y hy=>?_)).mono ?_
 ·rw [←e] at hy;have:=(hI.mem g y).1 hy;exact (aj A y).2 ⟨this.2.1,ω⟩
 ·rintro e' w' ⟨rfl,hu,S',q1,q2,q4,q5⟩;refine ⟨rfl,hu,S',q1.ext (fun y=>?_),(wU.del (og:=yM (aN A x) (fun q=>if q=g then (ag P (aH sM A l r).1) else tr q)) hI hx q2 ?_ d2 (fun y hy=>q4 y (by rw [←e];exact hy)) q5 (fun q hq'=>?_))⟩
  ·rw [←EU (A':=aN A x) (tr:=tr) (t:=ag P (aH sM A l r).1) (by rw [fJ]) hq y]
   by_cases ey:y=(g:Int)
   ·rw [Δ ey]
    by_cases hp:P=[]
    ·rw [Δ ⟨hp,ey⟩]
    ·rw [Γ (fun h=>hp h.1),ey];cases P with
     | nil=>exact absurd rfl hp
     | cons f P2=>
      unfold rR;rw [Δ ω,π,e,ow f P2 (.node x l r) (aH sM A l r).1]
   ·rw [Γ ey,Γ (fun h=>ey h.2)]
  ·rw [e];exact d1
  ·have hq'':q<(aN A (x:Int)).hs.length:=by rw [fJ];exact hq'
   unfold yM;rw [φ,ϔ,List.getElem?_range hq'']
   show (if q=g then ag P (aH sM A l r).1 else tr q).root=_
   by_cases eq:q=g
   ·rw [Δ eq,Δ eq]
   ·rw [Γ eq,Γ eq];rw [φ,ϔ,List.getElem?_range hq'];rfl
theorem Aa (h:nD w B F A st tr) (g:Nat) (hn:0<dG A g) :
  Calls Tryz.prog 262 #[.pointer (some ⟨B.n0,0,none⟩),.int .i64 (g:Int)] w fun e w'=>∃m:Nat,bB A g=some m/\e=.returned (.tuple #[.int .i64 (m:Int),.bool true])/\aa (B.blk F) w w'/\
   nD w' B F (aN A m) (dF st (Fs A (tr g) m).2) (fun q=>if q=g then (Fs A (tr g) m).1 else tr q):=by
 have k:=AZ h g hn;have kd:=fun m hm=>Ef h g m hm;have hroot:∀m:Nat,(tr g).root=m->m∈(tr g).nodes:=fun m hm=>by
  have hne:tr g≠.nil:=fun e=>by rw [e] at hm;have:(-1:Int)=m:=hm;omega
  have:=(bH hne).1;rw [hm] at this;simpa using this
 clear h
 go_enter Tryz.func262,Tryz.ntmps262
 go_wp2_with (first
  | ((go_at_call 265;(with_reducible refine (k).mono ?_));rintro e w1 ⟨m,hm1,hm2,rfl,rfl⟩;(have XF:=kd m (hroot m hm2)))
  | ((go_at_call 261;(with_reducible refine (XF).mono ?_));rintro e w2 ⟨rfl,hu2,hL2⟩)
  | fail)
 go_ret2;exact ⟨m,hm1,rfl,hu2,hL2⟩
end
theorem OQ (n:Nat) (w:World) (h:n<=65536) :
  Calls Tryz.prog 102 #[.int .i64 (n:Int)] w fun e w'=>∃B F,e=.returned (.tuple #[.pointer (some ⟨B.n0,0,none⟩),.int .i64 0])/\nD w' B F (NS.new n) 0 (fun _=>.nil)/\aa [] w w'/\∀x,x∈B.blk F->w.heap.size<=x:=by
 have hmm:=@run_makeMap Tryz.prog
 go_enter Tryz.func102,Tryz.ntmps102
 go_wp2_with (first
  | ((go_at_call 107;(with_reducible refine (lV n _ h).mono ?_));rintro e w1 ⟨c,F,rfl,hC,hu1,hF⟩)
  | ((go_at_call 112;(with_reducible refine (uE n _ h).mono ?_));rintro e w2 ⟨bt,ba,rfl,hT,hu2,hb1,hb2⟩))
 go_ret2;have hcs:(NS.new n).cs.length=n:=by simp [NS.new]
 have l1:=hu1.size;have l2:=hu2.size;have l5:=hT.head.lt;have l6:=hT.row.lt;have l7:=hC.lt;have lc:=l7 c hC.mem;have hm:=eZ.made w2;have e3:((w2.alloc (.map #[] 0)).heap.size)=w2.heap.size+1:=by rw [Κ]
 have hv1:aa [] w2 (w2.alloc (.map #[] 0)):=(aa.refl _ _).alloc _;have hv2:aa [] (w2.alloc (.map #[] 0)) ((w2.alloc (.map #[] 0)).alloc (.cells #[.pointer (some ⟨c,0,none⟩),.pointer (some ⟨bt,0,none⟩),.map (some w2.heap.size)] 234)):=(aa.refl _ _).alloc _;have hv:=hv1.trans hv2;have hh:=dC (w2.alloc (.map #[] 0)) [.pointer (some ⟨c,0,none⟩),.pointer (some ⟨bt,0,none⟩),.map (some w2.heap.size)] 234;rw [e3] at hh;have hnF:∀x,w1.heap.size<=x->x∉F:=fun x hx hm=>by have:=l7 x hm;omega
 refine ⟨⟨w2.heap.size+1,c,bt,ba,w2.heap.size⟩,F,rfl,⟨TS.none,⟨hh,(hC.ae hu2).ae hv,by rw [hcs];exact hT.upd hv σ σ,?_,⟨hnF _ (by simp only;omega),hnF _ (by simp only;omega),hnF _ (by simp only;omega),hnF _ (by simp only;omega)⟩,⟨⟨by simp only;omega,by simp only;omega,by simp only;omega⟩,by simp only;omega,by simp only;omega⟩⟩,(Cv n).Nt⟩,(hu1.trans hu2).trans hv,fun x hx=>?_⟩
 ·refine (hm.upd hv2 σ).ext (fun k=>?_);unfold rR
  split
  ·rfl
  ·rfl
 ·simp only [SB.blk,ρ] at hx;rcases hx with rfl|rfl|rfl|rfl|hx
  ·omega
  ·omega
  ·omega
  ·omega
  ·exact hF x hx
section
variable {w:World} {B:SB} {F:List Nat} {A:NS} {st:Nat} {tr:Nat->BT}
theorem nD.make {w':World} {F':List Nat} (h:nD w B F A st tr) (hl:¬65536<A.hs.length) (hu:aa F w w') (hC:aD w' B.c F' (aC A) st) (hF:∀x,x∈F'->x∈F\/w.heap.size<=x):nD w' B F' (aC A) st tr:=by
 obtain ⟨S,hM,hI⟩:=h;have ok:=hM.cells.ok;have e1:(aC A).cs.length=A.cs.length:=by unfold aC;rw [Γ hl]
 have e2:(aC A).hs.length=A.hs.length+1:=by unfold aC;rw [Γ hl];simp
 have hI2:=hI.make ok (by simp [yM]) hl;have hnil:(tr A.hs.length)=.nil:=by
  cases e:tr A.hs.length with
  | nil=>rfl
  | node y a b=>
   exfalso;have:=(hI.mem A.hs.length y).1 (by rw [e];simp [BT.nodes]);have h3:=jH ok ((aj A y).2 ⟨this.2.1,ω⟩);have:=(aQ _ _).1 h3;rw [π] at this;omega
 refine ⟨S,(hM.fH hu hC hF e1).ext (fun k=>?_),hI2.Nt⟩;unfold rR;rw [e2]
 by_cases h1:1<=k/\k<A.hs.length
 ·rw [Δ h1,Δ (show 1<=k/\k<((A.hs.length+1:Nat):Int) by omega)]
 ·rw [Γ h1]
  by_cases h2:k=A.hs.length
  ·subst h2;rw [π,hnil]
   split
   ·rfl
   ·rfl
  ·rw [Γ (show ¬ (1<=k/\k<((A.hs.length+1:Nat):Int)) by omega)]
end
theorem He (p c:Nat):∀W:World,W.cell? ⟨p,0,none⟩=some (.pointer (some ⟨c,0,none⟩))->(method 429 190 (.pointer (some ⟨p,0,none⟩)) "Has").run Tryz.prog W=.ok (139,.pointer (some ⟨c,0,none⟩)) W:=(by intro W h;unfold method;have hm:∃m,(Array.find? (fun x=>x.name == "Has") Tryz.t190.methods)=some m/\m.path.toList=[⟨234,0,true⟩]/\m.func=some (139,true)/\m.path.isEmpty=false:=⟨(Array.find? (fun x=>x.name == "Has") Tryz.t190.methods).get!,by kernel_rfl,by kernel_rfl,by kernel_rfl,by kernel_rfl⟩;obtain ⟨m,h1,h2,h3,h4⟩:=hm;go_simp;simp only [follow,Place.get];go_simp;(try unfold receiverAt);(try simp only [Place.get]);(try go_simp))
theorem Cm (p c:Nat):∀W:World,W.cell? ⟨p,0,none⟩=some (.pointer (some ⟨c,0,none⟩))->(method 429 190 (.pointer (some ⟨p,0,none⟩)) "Entry").run Tryz.prog W=.ok (137,.pointer (some ⟨c,0,none⟩)) W:=(by intro W h;unfold method;have hm:∃m,(Array.find? (fun x=>x.name == "Entry") Tryz.t190.methods)=some m/\m.path.toList=[⟨234,0,true⟩]/\m.func=some (137,true)/\m.path.isEmpty=false:=⟨(Array.find? (fun x=>x.name == "Entry") Tryz.t190.methods).get!,by kernel_rfl,by kernel_rfl,by kernel_rfl,by kernel_rfl⟩;obtain ⟨m,h1,h2,h3,h4⟩:=hm;go_simp;simp only [follow,Place.get];go_simp;(try unfold receiverAt);(try simp only [Place.get]);(try go_simp))
theorem Fw (p c:Nat):∀W:World,W.cell? ⟨p,0,none⟩=some (.pointer (some ⟨c,0,none⟩))->(method 429 190 (.pointer (some ⟨p,0,none⟩)) "Make").run Tryz.prog W=.ok (156,.pointer (some ⟨c,0,none⟩)) W:=(by intro W h;unfold method;have hm:∃m,(Array.find? (fun x=>x.name == "Make") Tryz.t190.methods)=some m/\m.path.toList=[⟨234,0,true⟩]/\m.func=some (156,true)/\m.path.isEmpty=false:=⟨(Array.find? (fun x=>x.name == "Make") Tryz.t190.methods).get!,by kernel_rfl,by kernel_rfl,by kernel_rfl,by kernel_rfl⟩;obtain ⟨m,h1,h2,h3,h4⟩:=hm;go_simp;simp only [follow,Place.get];go_simp;(try unfold receiverAt);(try simp only [Place.get]);(try go_simp))
theorem Mv (p:Nat):∀W:World,(method 429 190 (.pointer (some ⟨p,0,none⟩)) "Insert").run Tryz.prog W=.ok (263,.pointer (some ⟨p,0,none⟩)) W:=fun _=>by kernel_rfl
theorem UX (p:Nat):∀W:World,(method 429 190 (.pointer (some ⟨p,0,none⟩)) "Min").run Tryz.prog W=.ok (265,.pointer (some ⟨p,0,none⟩)) W:=fun _=>by kernel_rfl
theorem Iu (p:Nat):∀W:World,(method 429 190 (.pointer (some ⟨p,0,none⟩)) "Extract").run Tryz.prog W=.ok (262,.pointer (some ⟨p,0,none⟩)) W:=fun _=>by kernel_rfl
def SkQ (w:World) (p:Nat) (F:List Nat) (A:NS):Prop:=∃B F1 st tr,p=B.n0/\F=B.blk F1/\nD w B F1 A st tr
def wW:dV where
 ty:=190
 at_:=SkQ
 upd:=fun h hu hS=>by
  obtain ⟨B,F1,st,tr,rfl,rfl,hL⟩:=h;exact ⟨B,F1,st,tr,rfl,rfl,hL.upd hu hS⟩
 lt:=fun h=>by
  obtain ⟨B,F1,st,tr,rfl,rfl,S,hM, -⟩:=h;exact hM.lt
 ok:=fun h=>by
  obtain ⟨B,F1,st,tr,rfl,rfl,S,hM, -⟩:=h;exact hM.cells.ok
 make:=fun {w p F A} h=>by
  obtain ⟨B,F1,st,tr,rfl,rfl,hL⟩:=h;have h0:w.cell? ⟨B.n0,0,none⟩=some (.pointer (some ⟨B.c,0,none⟩)):=by obtain ⟨S,hM, -⟩:=hL;exact hM.h0
  refine gN 156 (fun _ _=>by kernel_rfl) h0 (Fw _ _) (fun W hW=>?_);have pg:=hL.ae hW;have hC:aD W B.c F1 A st:=by obtain ⟨S,hM, -⟩:=pg;exact hM.cells
  refine (gQ hC).mono ?_;rintro e w' ⟨rfl,F',hC2,hu,hf⟩;have hu2:aa (B.blk F1) W w':=hu.mono (fun z hz=>by simp only [SB.blk,ρ];simp [hz]);have hf2:∀z,z∈B.blk F'->z∈B.blk F1\/W.heap.size<=z:=fun z hz=>by
   simp only [SB.blk,ρ] at hz ⊢;rcases hz with rfl|rfl|rfl|rfl|hz
   ·simp
   ·simp
   ·simp
   ·simp
   ·rcases hf z hz with h1|h1
    ·simp [h1]
    ·exact Β h1
  refine ⟨rfl,B.blk F',?_,hu2,hf2⟩
  by_cases hl:65536<A.hs.length
  ·have e2:aC A=A:=by unfold aC;rw [Δ hl]
   rw [e2] at hC2 ⊢;obtain ⟨S,hM,hI⟩:=pg;exact ⟨B,F',st,tr,rfl,rfl,S,hM.fH hu hC2 hf rfl,hI⟩
  ·exact ⟨B,F',st,_,rfl,rfl,pg.make hl hu hC2 hf⟩
 insert:=fun {w p F A} g y k s hk hB h=>by
  obtain ⟨B,F1,st,tr,rfl,rfl,hL⟩:=h;refine aX 263 (fun _ _=>by kernel_rfl) (Mv _) (fun W hW=>?_);refine (EP (hL.ae hW) g y k s hk hB).mono ?_;rintro e w' ⟨rfl,hu,hL2⟩;exact ⟨rfl,Goes.stay ⟨B,F1,_,_,rfl,rfl,hL2⟩ hu⟩
 min:=fun {w p F A} y hB h=>by
  obtain ⟨B,F1,st,tr,rfl,rfl,hL⟩:=h;refine aX 265 (fun _ _=>by kernel_rfl) (UX _) (fun W hW=>?_);have pg:=hL.ae hW;have hok:A.Ok:=by obtain ⟨S,hM, -⟩:=hL;exact hM.cells.ok
  by_cases hl:dG A (y:Int)=0
  ·rw [gJ.2 hl];have h4:=(aQ _ _).1 hB;have h5:=hok.h1;refine (Mx pg y ω hl).mono ?_;rintro e w' ⟨rfl,rfl⟩;exact ⟨rfl,Goes.stay ⟨B,F1,st,tr,rfl,rfl,pg⟩ (aa.refl _ _)⟩
  ·refine (AZ pg y ω).mono ?_;rintro e w' ⟨m,hm, -,rfl,rfl⟩;rw [hm];exact ⟨rfl,Goes.stay ⟨B,F1,st,tr,rfl,rfl,pg⟩ (aa.refl _ _)⟩
 extract:=fun {w p F A} y m hm h=>by
  obtain ⟨B,F1,st,tr,rfl,rfl,hL⟩:=h;refine aX 262 (fun _ _=>by kernel_rfl) (Iu _) (fun W hW=>?_);have hl:¬dG A (y:Int)=0:=fun e=>by rw [gJ.2 e] at hm;cases hm
  refine (Aa (hL.ae hW) y ω).mono ?_;rintro e w' ⟨m',hm',rfl,hu,hL2⟩;rw [hm] at hm';cases hm';exact ⟨rfl,Goes.stay ⟨B,F1,_,_,rfl,rfl,hL2⟩ hu⟩
 has:=fun x h=>by
  obtain ⟨B,F1,st,tr,rfl,rfl,S,hM, -⟩:=h;exact gN 139 (fun _ _=>by kernel_rfl) hM.h0 (He _ _) (fun W hW=>iw (hM.ae hW).cells x)
 entry:=fun {w p F A} x h=>by
  obtain ⟨B,F1,st,tr,rfl,rfl,S,hM, -⟩:=h;refine gN 137 (fun _ _=>by kernel_rfl) hM.h0 (Cm _ _) (fun W hW=>?_);cases hin:bV A x with
  | false=>simpa using jR (hM.ae hW).cells x hin
  | true=>
   obtain ⟨y,rfl⟩:=oZ hin;simpa using iY (hM.ae hW).cells y hin
theorem Gl (p:Nat) (w:World):Calls Tryz.prog 101 #[.pointer (some ⟨p,0,none⟩),.int .i64 0] w fun e w'=>e=.returned (.tuple #[.iface 190 (.pointer (some ⟨p,0,none⟩)),.int .i64 0])/\w'=w:=by
 go_enter Tryz.func101,Tryz.ntmps101
 go_wp2;go_ret2;exact ⟨rfl,rfl⟩
theorem NJ (n:Nat) (hn:n<=65536):lG wW 7 0 n:=by
 intro w;have kn:=fun W=>OQ n W hn;have km:=Gl;have hty:wW.ty=190:=rfl;have hat:∀w' B F,nD w' B F (NS.new n) 0 (fun _=>.nil)->wW.at_ w' B.n0 (B.blk F) (NS.new n):=fun w' B F h=>⟨B,F,_,_,rfl,rfl,h⟩
 generalize wW=K at *;rw [hty]
 go_enter Tryz.func81,Tryz.ntmps81
 go_wp2_with (first
  | ((go_at_call 102;(with_reducible refine (kn _).mono ?_));rintro e w1 ⟨B,F,rfl,hS,hu1,hf⟩)
  | ((go_at_call 101;(with_reducible refine (km _ _).mono ?_));rintro e w2 ⟨rfl,rfl⟩)
  | fail)
 go_ret2;exact ⟨B.n0,B.blk F,rfl,hat _ _ _ hS,aa.trans β hu1,fun x hx=>by have:=hf x hx;simp at this;omega⟩
end Go.Proofs.YtklibcncmbofpaaGreat
