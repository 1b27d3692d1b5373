/-
  Lemmas for PathBest: Sk, Sk2, Sk3, Sk4. Conditions: those of each lemma.
-/
import Derived.Test.YtklibcncmbofpaaGreatB32
set_option linter.all false
set_option maxHeartbeats 8000000
set_option maxRecDepth 10000
namespace Go.Proofs.YtklibcncmbofpaaGreat
open Go Go.RowKit
structure SB where
 n0:Nat
 c:Nat
 bt:Nat
 ba:Nat
 mb:Nat
structure oq (w:World) (B:SB) (F:List Nat) (A:NS) (st:Nat) (S:TS) (f:Int->Option Int):Prop where
 head:aO w B.n0 234 3 (fun j=>[Value.pointer (some ⟨B.c,0,none⟩),.pointer (some ⟨B.bt,0,none⟩),.map (some B.mb)].getD j undef)
 cells:aG w B.c F A st
 trees:bA w B.bt B.ba A.cs.length S
 top:gN w B.mb f
 bI:B.n0∉F/\B.bt∉F/\B.ba∉F/\B.mb∉F
 sep:(B.n0≠B.bt/\B.n0≠B.ba/\B.n0≠B.mb)/\(B.bt≠B.mb/\B.ba≠B.mb)
section
variable {w:World} {B:SB} {F:List Nat} {A:NS} {st:Nat} {S:TS} {f:Int->Option Int}
def SB.blk (B:SB) (F:List Nat):List Nat:=B.n0::B.bt::B.ba::B.mb::F
theorem oq.upd {w':World} {G:List Nat} (h:oq w B F A st S f) (hu:aa G w w') (hG:∀x,x∈G->x∉B.blk F):oq w' B F A st S f:=by
 have hb:∀y,y∈B.blk F->y∉G:=fun y hy hm=>hG y hm hy;exact ⟨h.head.upd hu (hb _ (by simp [SB.blk])),h.cells.upd hu (fun x hx hm=>hG x hx (by simp [SB.blk,hm])),h.trees.upd hu (hb _ (by simp [SB.blk])) (hb _ (by simp [SB.blk])),h.top.upd hu (hb _ (by simp [SB.blk])),h.bI,h.sep⟩
theorem oq.aA {w':World} (h:oq w B F A st S f) (hu:aa [] w w'):oq w' B F A st S f:=h.upd hu σ
theorem oq.lt (h:oq w B F A st S f):∀x,x∈B.blk F->x<w.heap.size:=fun x hx=>by
 simp only [SB.blk,ρ] at hx;rcases hx with rfl|rfl|rfl|rfl|hx
 ·exact h.head.lt
 ·exact h.trees.head.lt
 ·exact h.trees.row.lt
 ·exact h.top.lt
 ·exact h.cells.lt x hx
theorem oq.cF (h:oq w B F A st S f):B.c∈F:=h.cells.mem
theorem oq.h0 (h:oq w B F A st S f):w.cell? ⟨B.n0,0,none⟩=some (.pointer (some ⟨B.c,0,none⟩)):=h.head.cellAt 0 ω rfl
theorem oq.h1 (h:oq w B F A st S f):w.cell? ⟨B.n0,1,none⟩=some (.pointer (some ⟨B.bt,0,none⟩)):=h.head.cellAt 1 ω rfl
theorem oq.h2 (h:oq w B F A st S f):w.cell? ⟨B.n0,2,none⟩=some (.map (some B.mb)):=h.head.cellAt 2 ω rfl
theorem oq.iV {w':World} {S':TS} (h:oq w B F A st S f) (hu:aa [B.ba] w w') (hT:bA w' B.bt B.ba A.cs.length S'):oq w' B F A st S' f:=by
 obtain ⟨⟨s1,s2,s3⟩,s4,s5⟩:=h.sep;obtain ⟨f1,f2,f3,f4⟩:=h.bI;exact ⟨h.head.upd hu (by simp;exact s2),h.cells.upd hu (fun x hx hm=>by simp at hx;subst hx;exact f3 hm),hT,h.top.upd hu (by simp;exact Ne.symm s5),h.bI,h.sep⟩
theorem oq.Vu {w':World} {f':Int->Option Int} (h:oq w B F A st S f) (hu:aa [B.mb] w w') (hM:gN w' B.mb f'):oq w' B F A st S f':=by
 obtain ⟨⟨s1,s2,s3⟩,s4,s5⟩:=h.sep;obtain ⟨f1,f2,f3,f4⟩:=h.bI;exact ⟨h.head.upd hu (by simp;exact s3),h.cells.upd hu (fun x hx hm=>by simp at hx;subst hx;exact f4 hm),h.trees.upd hu (by simp;exact s4) (by simp;exact s5),hM,h.bI,h.sep⟩
theorem oq.dB {w':World} {F':List Nat} {A':NS} {st':Nat} (h:oq w B F A st S f) (hu:aa F w w') (hC:aG w' B.c F' A' st') (hF:∀x,x∈F'->x∈F\/w.heap.size<=x) (h1:A'.cs.length=A.cs.length):oq w' B F' A' st' S f:=by
 obtain ⟨f1,f2,f3,f4⟩:=h.bI;have hn:∀y,y<w.heap.size->y∉F->y∉F':=fun y hy hm hm'=>by rcases hF y hm' with h'|h';exact hm h';omega
 have hl:=h.lt;exact ⟨h.head.upd hu f1,hC,by rw [h1];exact h.trees.upd hu f2 f3,h.top.upd hu f4,⟨hn _ (hl _ (by simp [SB.blk])) f1,hn _ (hl _ (by simp [SB.blk])) f2,hn _ (hl _ (by simp [SB.blk])) f3,hn _ (hl _ (by simp [SB.blk])) f4⟩,h.sep⟩
def NQ (o:Option Int):Int:=o.getD (-1)
theorem qF (h:oq w B F A st S f) (q:Int) (hq:-9223372036854775808<=q/\q<=9223372036854775807) :
  Calls Tryz.prog 268 #[.pointer (some ⟨B.n0,0,none⟩),.int .i64 q] w fun e w'=>e=.returned (.int .i64 (NQ (f q)))/\w'=w:=by
 have h2:=h.h2;have ht:=h.top;have k:=ht.look_ok q hq;unfold NQ;cases hf:f q with
 | none=>
  rw [hf] at k;simp only [Option.getD_none,Option.isSome_none] at k ⊢;clear ht h
  go_enter Tryz.func268,Tryz.ntmps268
  go_wp2;go_ret;exact ⟨rfl,rfl⟩
 | some z=>
  rw [hf] at k;simp only [Option.getD_some,Option.isSome_some] at k ⊢;clear ht h
  go_enter Tryz.func268,Tryz.ntmps268
  go_wp2;go_ret;exact ⟨rfl,rfl⟩
theorem vG (h:oq w B F A st S f) (q:Nat) (z:Int) (hq:1<=q/\q<=65536) (hz:-1<=z/\z<=9223372036854775807) :
  Calls Tryz.prog 266 #[.pointer (some ⟨B.n0,0,none⟩),.int .i64 (q:Int),.int .i64 z] w fun e w'=>e=.returned (.tuple #[])/\aa [B.mb] w w'/\oq w' B F A st S (fun y=>if y=(q:Int) then (if z=-1 then none else some z) else f y):=by
 have h2:=h.h2;have ht:=h.top;have H:=χ h
 by_cases he:z=-1
 ·subst he;clear h
  go_enter Tryz.func266,Tryz.ntmps266
  go_wp2_with (refine oQ rfl _ _ rfl B.mb f rfl ht q rfl ω ?_;intro w1 hm1 hu1)
  go_end0;exact ⟨rfl,hu1,H.out.Vu hu1 hm1⟩
 ·have hb:(z == -1)=false:=by simpa using he
  rw [if_neg he];clear h he
  go_enter Tryz.func266,Tryz.ntmps266
  go_wp2_with (refine mK rfl _ _ _ rfl B.mb f rfl ht q z rfl rfl ω ω ?_;intro w1 hm1 hu1)
  go_end0;exact ⟨rfl,hu1,H.out.Vu hu1 hm1⟩
theorem AQ (h:oq w B F A st S f) {fr:Fr} {P:List Fr} {t:BT} (hT:cO S (-1) (aj (fr::P) t).root (aj (fr::P) t)) (hn:(aj (fr::P) t).nodes.Nodup) (hlt:∀y,y∈(aj (fr::P) t).nodes->y<A.cs.length) :
  Calls Tryz.prog 269 #[.pointer (some ⟨B.n0,0,none⟩),.int .i64 (tv t.root),.bool (tb t.root)] w fun e w'=>e=.returned (.int .i64 t.root)/\aa [B.ba] w w'/\
   ∃S',oq w' B F A st S' f/\cO S' (-1) t.root t/\cO S' (-1) (aj (fr::P) .nil).root (aj (fr::P) .nil)/\∀y,y∉(aj (fr::P) t).nodes->S.at S' y:=by
 have h1:=h.h1
 by_cases ht:t=.nil
 ·subst ht;rw [show tv (BT.root .nil)=0 from rfl,show tb (BT.root .nil)=false from rfl,show BT.root .nil=-1 from rfl];have H:=χ (ψ h hT);clear h hT hn hlt
  go_enter Tryz.func269,Tryz.ntmps269
  go_wp2;go_ret;exact ⟨rfl,aa.refl _ _,S,H.out.1,rfl,H.out.2,fun y _=>⟨rfl,rfl,rfl⟩⟩
 ·obtain ⟨r,hr⟩:∃r:Nat,t.root=r:=⟨_,BT.x9 ht⟩;have kc:=nW h.trees hT hn hlt;rw [show tv t.root=(r:Int) by rw [hr];unfold tv;rw [if_neg ω],show tb t.root=true by rw [hr];unfold tb;simp];have H:=χ h;have HR:=χ hr;rw [hr] at kc;generalize tb (r:Int)=bb at kc;generalize cutV fr t=cv at kc;clear h hT hn hlt hr
  go_enter Tryz.func269,Tryz.ntmps269
  go_wp2_with (first
   | ((go_at_call 244;(with_reducible refine (kc).mono ?_));rintro e w1 ⟨rfl,hu1,S1,hT1,ha1,hp1,hs1⟩)
   | fail)
  go_ret;rw [HR.out];exact ⟨rfl,hu1,S1,H.out.iV hu1 hT1,ha1,hp1,hs1⟩
end
def rQ (x:Nat) (l m:BT):BT:=.node x m l
theorem vg:Rs rQ where
 nodes:=fun x l r=>by
  unfold rQ;simp only [BT.nodes];exact List.perm_append_comm.cons x
 heap:=fun A x l r h1 h2 hl hr=>⟨h2,h1,hr,hl⟩
 root:=fun x l r=>rfl
theorem CV {S:TS} {p:Int} {x:Nat} {l r:BT} (h:cO S p x (.node x l r)) (hn:(BT.node x l r).nodes.Nodup):cO (jH S x) p x (.node x r l)/\∀y,y≠x->S.at (jH S x) y:=by
 have hs:∀y,y≠x->S.at (jH S x) y:=fun y hy=>by
  unfold jH TS.aJ TS.at;simp [hy]
 have hl:(jH S x).l x=S.r x:=by unfold jH TS.aJ;simp
 have hr:(jH S x).r x=S.l x:=by unfold jH TS.aJ;simp
 have hu:(jH S x).u x=S.u x:=by unfold jH TS.aJ;simp
 simp only [BT.nodes,List.nodup_cons,τ,not_or] at hn;refine ⟨Sz (hu.trans h.2.1) ?_ ?_,hs⟩
 ·rw [hl];exact h.2.2.2.frame (fun y hy=>hs y (fun e=>hn.1.2 (by rw [←e];exact hy)))
 ·rw [hr];exact h.2.2.1.frame (fun y hy=>hs y (fun e=>hn.1.1 (by rw [←e];exact hy)))
section
variable {w:World} {B:SB} {F:List Nat} {A:NS} {st:Nat} {S:TS} {f:Int->Option Int}
theorem OX (h:oq w B F A st S f) {p:Int} {x:Nat} {l r:BT} (hT:cO S p x (.node x l r)) (hx:x<A.cs.length) (hr:∀y,y∈r.nodes->y<A.cs.length) :
  Calls Tryz.prog 269 #[.pointer (some ⟨B.n0,0,none⟩),.int .i64 (tv r.root),.bool (tb r.root)] w fun e w'=>e=.returned (.int .i64 r.root)/\aa [B.ba] w w'/\oq w' B F A st (zf S x r) f:=by
 have h1:=h.h1;cases r with
 | nil=>
  rw [show tv (BT.root .nil)=0 from rfl,show tb (BT.root .nil)=false from rfl,show BT.root .nil=-1 from rfl];have H:=χ h;clear h hT hr
  go_enter Tryz.func269,Tryz.ntmps269
  go_wp2;go_ret;exact ⟨rfl,aa.refl _ _,H.out⟩
 | node y a b=>
  obtain ⟨_,_,_,hr'⟩:=hT;have e2:S.u y=x:=hr'.2.1;have kc:=Dn B.bt B.ba A.cs.length S x y w h.trees hx (hr y (by simp [BT.nodes])) e2;rw [show tv (BT.root (.node y a b))=(y:Int) by show tv (y:Int)=y;unfold tv;rw [if_neg ω],show tb (BT.root (.node y a b))=true by show tb (y:Int)=true;unfold tb;simp,show BT.root (.node y a b)=(y:Int) from rfl];have H:=χ h;clear h hr hr' e2
  go_enter Tryz.func269,Tryz.ntmps269
  go_wp2_with (first
   | ((go_at_call 244;(with_reducible refine (kc).mono ?_));rintro e w1 ⟨rfl,hT1,hu1⟩)
   | fail)
  go_ret;exact ⟨rfl,hu1,H.out.iV hu1 hT1⟩
theorem Ka (h:oq w B F A st S f) {p:Int} {x:Nat} {l r:BT} (hT:cO S p x (.node x l r)) (hx:x<A.cs.length) :
  Calls Tryz.prog 249 #[.pointer (some ⟨B.bt,0,none⟩),.int .i64 (x:Int)] w fun e w'=>e=.returned (.tuple #[.int .i64 (tv r.root),.bool (tb r.root)])/\aa [] w w':=by
 refine (vJ h.trees hT hx).mono ?_;rintro e w' ⟨rfl,k,rfl⟩;exact ⟨rfl,(aa.refl _ _).drewN k⟩
theorem yH (t:BT):-1<=t.root:=by cases t with
 | nil=>exact Int.le_refl _
 | node x l r=>show (-1:Int)<=(x:Int);omega
theorem vk (h:oq w B F A st S f) {ta tb:BT} (ha:cO S (-1) ta.root ta) (hb:cO S (-1) tb.root tb) (hX:(ta.nodes++tb.nodes).Nodup) (hin:∀y,y∈ta.nodes++tb.nodes->bX A (y:Int)=true) :
  Calls Tryz.prog 267 #[.pointer (some ⟨B.n0,0,none⟩),.int .i64 ta.root,.int .i64 tb.root] w fun e w'=>e=.returned (.int .i64 (aK rQ A ta tb).1.root)/\aa [B.c,B.ba] w w'/\
   ∃S',oq w' B F A (bZ st (aK rQ A ta tb).2) S' f/\cO S' (-1) (aK rQ A ta tb).1.root (aK rQ A ta tb).1/\∀y,y∉ta.nodes++tb.nodes->S.at S' y:=by
 have hblk:=h.lt;have qA:=h.cF;have hbl0:=hblk B.n0 (by simp [SB.blk]);have hbl1:=hblk B.bt (by simp [SB.blk]);have hbl2:=hblk B.ba (by simp [SB.blk]);have hbl4:=hblk B.c (by simp [SB.blk,qA]);have hs:=χ h.sep;have hA:=h.cells.ok.c1;have hlt:Hid (∀y,y∈ta.nodes++tb.nodes->y<A.cs.length):=fun y hy=>((ai A y).1 (hin y hy)).1;have hXl:(ta.nodes++tb.nodes).length<=A.cs.length:=nD hX hlt.out;have YE:=χ h;have HBL:=χ hblk;have D0:=χ (Down.start rQ A ha hb);have Oa:=χ hin;have HX:=χ hX;have hst:=h.cells.pI;clear h ha hb hblk qA hin hX
 go_enter Tryz.func267,Tryz.ntmps267
 go_wp2
 go_loopw [1,2,7] (fun a b way wr=>∃ (S1:TS) (W:List (Nat×BT)) (a1 b1:BT),a=.int .i64 a1.root/\b=.int .i64 b1.root/\wr.ownsRow w.heap.size 3 1 way W.length (KS W)/\oq wr B F A (bZ st W.length) S1 f/\Down rQ A S ta tb S1 W a1 b1/\aa [B.c,B.ba] w wr) (fun _ _ way _=>(ta.nodes++tb.nodes).length-lenOf way)
 case atStart=>
  exact ⟨S,[],ta,tb,rfl,rfl,⟨by simp [KS,aU],Or.inl ⟨rfl,rfl⟩⟩,by rw [List.length_nil,gL hst];exact YE.out.aA β,D0.out,β⟩
 case round=>
  obtain ⟨S1,W,a1,b1,rfl,rfl,ho,hM,hD,hu⟩:=hrel;have HM:=χ hM;have HD:=χ hD;have HO:=χ ho;have hlen:=hD.len;have h0:=hM.h0;have h1:=hM.h1;clear hM hD;obtain ⟨a5,c5,rfl,hc5⟩:=bu ho;have zo:∀g,(Value.slice a5 W.length c5).ownBlock=some g->w.heap.size<=g:=fun g hg=>(ho.lt g hg).1;have Q0:=χ zo;clear ho zo
  by_cases hne:a1=.nil\/b1=.nil
  ·obtain ⟨m0,e0,U0,hcnt,hor⟩:=HD.out.turn hne;have hz:(a1.root=-1/\b1.root=m0.root)\/(a1.root≠-1/\b1.root=-1/\a1.root=m0.root):=by
    by_cases e:a1.root=-1
    ·rw [if_pos e] at e0;exact Or.inl ⟨e,e0.symm⟩
    ·rw [if_neg e] at e0;refine Or.inr ⟨e,?_,e0.symm⟩;rcases hne with rfl|rfl
     ·exact absurd rfl e
     ·rfl
   have HU:=χ (ψ U0 hcnt);have hWl:=U0.len;have HUP:=χ hu;rw [←hcnt] at HM;have hzge:=yH m0;clear hne hor U0 HD hcnt hu hlen h0 e0;generalize a1.root=za at *;generalize b1.root=zb at *;have e9:∃z9,m0.root=z9:=⟨_,rfl⟩;obtain ⟨z9,e9⟩:=e9;rw [e9] at hz hzge;generalize hn0:W.length=n0 at *;have VU:=χ hn0;clear hn0;have hz':(za=-1/\zb=-1/\z9=-1)\/(za=-1/\zb=z9/\z9 > -1)\/(za=z9/\zb=-1/\z9 > -1):=ω;clear hz hzge;rcases hz' with ⟨rfl,rfl,rfl⟩|⟨rfl,rfl,hzg⟩|⟨rfl,rfl,hzg⟩
   all_goals
    try (have hz2:(za != -1)=true:=ζ)
    try (have hz3:¬ ((-1:Int) > za):=ω)
    go_wp2
    go_loopw [8,9] (fun top i w5=>∃ (S2:TS) (W2 U2:List (Nat×BT)) (m:BT),W=W2++U2/\top=.int .i64 m.root/\i=.int .i64 ((W2.length:Int)-1)/\oq w5 B F A (bZ st (aK rQ A ta tb).2) S2 f/\Uu rQ S (ta.nodes++tb.nodes) (aK rQ A ta tb).1 S2 W2 m/\aa [B.ba] wr w5) (fun _ i _=>((intOf i)+1).toNat)
    case atStart=>exact ⟨S1,W,[],m0,σ,by rw [e9],by rw [VU.out],HM.out,HU.out.1,aa.refl _ _⟩
    case round=>
     obtain ⟨S2,W2,U2,m,rfl,rfl,rfl,hM,hU,hu⟩:=hrel;rename World=>w5;rcases List.eq_nil_or_concat W2 with rfl|⟨W3,⟨x,l⟩,rfl⟩
     ·have e0:=hU.res;simp only [uT] at e0;simp only [List.length_nil];go_wp2;go_ret;rw [e0];exact ⟨rfl,HUP.out.trans (hu.mono σ),S2,hM,hU.isM,fun y hy=>hU.far y hy⟩
     ·have hpx:=hU.perm;simp only [List.concat_eq_append] at *;rw [pU,List.append_assoc] at hpx;have Bo:∀q,q∈(x::l.nodes)++m.nodes->q<A.cs.length:=fun q hq=>hlt.out q (hpx.mem_iff.1 (List.mem_append_right _ hq));have hnd:((x::l.nodes)++m.nodes).Nodup:=(θ.1 (hpx.nodup_iff.2 HX.out)).2.1;have hxA:=Bo x σ;obtain ⟨g,cap,ee,hI,hg⟩:=IZ.iY (l:=(W3++[(x,l)]++U2).map fun p=>(p.1:Int)) (by rw [List.length_map,VU.out];exact aF HO.out hu (fun k hk=>by have:=Q0.out k hk;simp;omega)) ζ;rw [List.length_map,VU.out] at ee
      injection ee with ee1 ee2 ee3
      subst ee1 ee3;have dz:=hI.cell W3.length σ;rw [show (((W3++[(x,l)]++U2).map fun p=>(p.1:Int)).getD W3.length 0)=(x:Int) by simp [φ]] at dz;have h1:=hM.h1;have vD:=χ hM;have OW:=χ hU;have IJ:=χ (ψ Bo hnd);have hTx:=hU.way (x,l) σ;have Zo:=χ hTx;have hil:((W3++[(x,l)]).length:Int)-1=W3.length:=σ;rw [hil];have hi0:((W3.length:Int)≥0):=ω;have hWn:W3.length+1+U2.length=n0:=by have:=VU.out;simp at this;omega
      have Gs:(W3.length:Int)<(n0:Int):=ω;have hW3:W3.length<=65536:=ω;clear hM hU Bo hnd hTx hpx hil hI ee2
      by_cases hm:m=.nil
      ·subst hm;simp only [BT.root];have yO:cO S2 (-1) x (.node x l .nil):=Zo.out;obtain ⟨Bg,Pw⟩:=CV yO (by simpa [BT.nodes] using IJ.out.2);have kt:=Au B.bt B.ba A.cs.length S2 x w5 vD.out.trees hxA;have HT3:=χ (ψ Bg Pw);clear yO Bg Pw
       go_wp2_with (first
        | ((go_at_call 259;(with_reducible refine (kt).mono ?_));rintro e w6 ⟨rfl,Pf,iB⟩)
        | fail)
       refine ⟨⟨jH S2 x,W3,(x,l)::U2,rQ x l .nil,σ,rfl,by go_num,vD.out.iV iB Pf,OW.out.turn vg HX.out HT3.out.1 (fun y h1 _ _=>HT3.out.2 y h1),hu.trans iB⟩,by simp [intOf]⟩
      ·obtain ⟨mr,hmr⟩:∃mr:Nat,m.root=mr:=⟨_,BT.x9 hm⟩;have hmm:=(bM hm).1;rw [hmr,π] at hmm;have yO:cO S2 (-1) x (.node x l .nil):=Zo.out;have XN:=OW.out.isM;have hur:S2.u mr=-1:=by
        cases m with
        | nil=>exact absurd rfl hm
        | node q a b=>
         have e:q=mr:=by have e':(q:Int)=mr:=hmr;omega
         subst e;exact XN.2.1
       have hnd:=IJ.out.2;have hxm:x≠mr:=fun e=>by
        rw [θ] at hnd;exact hnd.2.2 x σ mr hmm e
       obtain ⟨Bg,Pw⟩:=CL (m:=m) yO XN hm (by simpa [BT.nodes] using hnd);rw [hmr] at Bg Pw;obtain ⟨Pm,hS4⟩:=CV Bg (by simpa [BT.nodes] using hnd);have HT3:=χ (ψ Bg (ψ hm (ψ Pw (ψ Pm hS4))));have kh:=zV B.bt B.ba A.cs.length S2 x mr true w5 (vD.out.trees) hxA (IJ.out.1 mr (List.mem_append_right _ hmm)) hxm hur yO.2.2.2;have HMR:=χ hmr;rw [hmr];have hz4:((mr:Int) != -1)=true:=σ;clear yO XN hur hnd Bg Pw Pm hS4 hm hmr hmm
       go_wp2_with (first
        | ((go_at_call 251;(with_reducible refine (kh).mono ?_));rintro e w6 ⟨rfl,Pf,iB⟩;(have h16:=(vD.out.iV iB Pf).h1);(have kt:=Au B.bt B.ba A.cs.length _ x w6 Pf hxA))
        | ((go_at_call 259;(with_reducible refine (kt).mono ?_));rintro e w7 ⟨rfl,Ul,kQ⟩)
        | fail)
       refine ⟨⟨_,W3,(x,l)::U2,rQ x l m,σ,rfl,by go_num,(vD.out.iV iB Pf).iV kQ Ul,OW.out.turn vg HX.out HT3.out.2.2.2.1 (fun y h1 _ h3=>?_),(hu.trans iB).trans kQ⟩,by simp [intOf]⟩;have a1:=HT3.out.2.2.1 y h1 h3;have a2:=HT3.out.2.2.2.2 y h1;exact ⟨a2.1.trans a1.1,a2.2.1.trans a1.2.1,a2.2.2.trans a1.2.2⟩
  ·obtain ⟨x,l,r,rfl⟩:∃x l r,a1=.node x l r:=by
    cases a1 with
    | nil=>exact absurd (Or.inl rfl) hne
    | node x l r=>exact ⟨x,l,r,rfl⟩
   obtain ⟨y,l',r',rfl⟩:∃x l r,b1=.node x l r:=by
    cases b1 with
    | nil=>exact absurd (Or.inr rfl) hne
    | node x l r=>exact ⟨x,l,r,rfl⟩
   clear hne;have hmx:∀z,z∈(BT.node x l r).nodes++(BT.node y l' r').nodes->z∈ta.nodes++tb.nodes:=fun z hz=>HD.out.perm.mem_iff.1 (List.mem_append_right _ hz);have hxm:=hmx x (by simp [BT.nodes]);have hym:=hmx y (by simp [BT.nodes]);have hWl:W.length+2<=(ta.nodes++tb.nodes).length:=by simp only [BT.nodes,List.length_cons,υ] at hlen ⊢;omega
   have Uh:=χ hmx;have hxb:((x:Int) != -1)=true:=σ;have hyb:((y:Int) != -1)=true:=σ;clear hmx hlen;have kA:=fF HM.out.cells y x (Oa.out y hym) (Oa.out x hxm);obtain ⟨sw,hsw⟩:∃sw,decide (cZ A y x)=sw:=⟨_,rfl⟩;rw [hsw] at kA;have KEY:∃ (z:Nat) (lz rz o:BT),z=(if sw then y else x)/\Down rQ A S ta tb (zf S1 z rz) (W++[(z,lz)]) rz o/\cO S1 (-1) z (.node z lz rz)/\z<A.cs.length/\(∀q,q∈rz.nodes->q<A.cs.length)/\o.root=(if sw then (x:Int) else (y:Int)):=by
    cases sw with
    | true=>
     exact ⟨y,l',r',.node x l r,rfl,HD.out.takeB HX.out (of_decide_eq_true hsw),HD.out.isB,hlt.out y hym,fun q hq=>hlt.out q (Uh.out q (by simp [BT.nodes,hq])),rfl⟩
    | false=>
     exact ⟨x,l,r,.node y l' r',rfl,HD.out.takeA HX.out (of_decide_eq_false hsw),HD.out.isA,hlt.out x hxm,fun q hq=>hlt.out q (Uh.out q (by simp [BT.nodes,hq])),rfl⟩
   obtain ⟨z,lz,rz,o,ez,hD2,hTz,hz,hrz,eo⟩:=KEY;have HD2:=χ hD2;have HT:=χ hTz;have HQ:=χ hrz;clear hD2 hTz hrz hsw;simp only [BT.root];cases sw
   all_goals
    simp only [if_true,if_false,Bool.false_eq_true] at ez eo;subst ez
    go_wp2_with fail
    refine kA.mono ?_;rintro e w1 ⟨rfl,jD,hu1⟩;have hM1:=χ (HM.out.dB (hu1.mono (by simp [HM.out.cF])) jD (fun x hx=>Or.inl hx) rfl);have hss:bZ (bZ st W.length) 1=bZ st (W.length+1):=jg _ _ _;rw [hss] at hM1;have ho1:=aF HO.out hu1 (fun k hk=>by have:=Q0.out k hk;simp;omega);have h01:=hM1.out.h0;have h11:=hM1.out.h1;clear h0 h1 kA hss;have Wn:=χ (ψ hu hu1);clear hu hu1 jD;have HGB:Hid (∀g,g∈(Value.slice a5 W.length c5).ownBlock.toList->g∉B.blk F):=fun g hg hb=>by
     have h1:=Q0.out g (Option.mem_toList.1 hg);have h2:=HBL.out g hb;omega
    have hsz1:w.heap.size<=w1.heap.size:=(Wn.out.1.trans (Wn.out.2.mono σ)).size
    go_wp2_with (first
     | ((at_builtin;refine aW rfl _ _ 26 rfl w.heap.size 3 (.int .i64 0) 1 8 Tryz.underlying26 fK rfl δ _ _ _ rfl (ho1) [.int .i64 (z:Int)] rfl (by simp [Value.oneCell']) (by first|rfl|(rw [World.size_alloc];rfl)) μ ω (ω) ?_;intro v2 w2 ho2 hu2 mW);(have hM2:=χ (hM1.out.upd hu2 HGB.out));(have k12:=hM2.out.h1);(have kr:=Ka hM2.out HT.out hz))
     | (go_at_call 249;(with_reducible refine (kr).mono ?_);rintro e w3 ⟨rfl,hu3⟩;(have jV:=χ (hM2.out.aA hu3));(have kc:=OX jV.out HT.out hz HQ.out))
     | (go_at_call 269;(with_reducible refine (kc).mono ?_);rintro e w4 ⟨rfl,iC,sG⟩)
     | fail)
    obtain ⟨a6,c6,rfl,hc6⟩:=bu ho2;have YD:∀k,(Value.slice a6 (W.length+1) c6).ownBlock=some k->w.heap.size<=k:=fun k hk=>(ho2.lt k hk).1;refine ⟨⟨_,W++[(z,lz)],rz,o,rfl,congrArg (Value.int .i64) eo.symm,?_,?_,HD2.out,?_⟩,?_⟩
    ·rw [BZ,υ,List.length_singleton];exact aF (aF ho2 hu3 σ) iC (fun k hk=>by have:=YD k hk;simp;omega)
    ·rw [υ,List.length_singleton];exact sG
    ·have v1:aa [B.c,B.ba] w w1:=Wn.out.1.trans (Wn.out.2.mono σ);have v2:aa [B.c,B.ba] w w2:=v1.joined hu2 (fun g hg=>Or.inr (Q0.out g (Option.mem_toList.1 hg)));exact (v2.trans (hu3.mono σ)).trans (iC.mono σ)
    ·show (ta.nodes++tb.nodes).length-(W.length+1)<(ta.nodes++tb.nodes).length-W.length
     omega
end
def qC (A:NS) (tr:Nat->BT) (q:Int):Option Int:=if 1<=q/\q<A.hs.length then (if (tr q.toNat).root=-1 then none else some (tr q.toNat).root) else none
def xe (A:NS) (tr:Nat->BT):List Int:=(List.range A.hs.length).map fun h=>(tr h).root
theorem wR.RG {K:Qo} {A:NS} {S:TS} {ak:List Int} {tr:Nat->BT} (h:wR K A S ak tr):wR K A S (xe A tr) tr:=
 ⟨fun q hq=>by unfold xe;simp [φ,hq],h.Dx,h.mem,h.nd,h.heap,h.free⟩
def mY (w:World) (B:SB) (F:List Nat) (A:NS) (st:Nat) (tr:Nat->BT):Prop:=∃S,oq w B F A st S (qC A tr)/\TrI A S (xe A tr) tr
theorem zJ (A:NS) (tr:Nat->BT) (q:Nat) (h:1<=q/\q<A.hs.length):NQ (qC A tr (q:Int))=(tr q).root:=by
 unfold qC NQ;rw [if_pos ω,π]
 split
 ·rename_i e;rw [e];rfl
 ·rfl
theorem oq.ext {w:World} {B:SB} {F:List Nat} {A:NS} {st:Nat} {S:TS} {f g:Int->Option Int} (h:oq w B F A st S f) (e:∀k,f k=g k):oq w B F A st S g:=⟨h.head,h.cells,h.trees,h.top.ext e,h.bI,h.sep⟩
theorem Aw {A A':NS} {tr:Nat->BT} {q:Nat} {t:BT} (hl:A'.hs.length=A.hs.length) (hq:1<=q/\q<A.hs.length) (k:Int):(if k=(q:Int) then (if t.root=-1 then none else some t.root) else qC A tr k)=qC A' (fun y=>if y=q then t else tr y) k:=by
 by_cases e:k=(q:Int)
 ·subst e;have e1:qC A' (fun y=>if y=q then t else tr y) (q:Int)=(if t.root=-1 then none else some t.root):=by
   unfold qC;rw [hl,if_pos (show 1<=(q:Int)/\(q:Int)<A.hs.length by omega)];have:(fun y=>if y=q then t else tr y) (q:Int).toNat=t:=σ;rw [this]
  rw [e1,if_pos rfl]
 ·have e1:qC A' (fun y=>if y=q then t else tr y) k=qC A tr k:=by
   unfold qC;rw [hl]
   by_cases h:1<=k/\k<A.hs.length
   ·rw [if_pos h,if_pos h];have:(fun y=>if y=q then t else tr y) k.toNat=tr k.toNat:=by
     show (if k.toNat=q then t else tr k.toNat)=_
     rw [if_neg ω]
    rw [this]
   ·rw [if_neg h,if_neg h]
  rw [e1,if_neg e]
theorem V5 {A:NS} {S:TS} {ak:List Int} {tr:Nat->BT} (h:TrI A S ak tr) (hA:A.cs.length<=65536) {t:BT} (ht:∀y,y∈t.nodes->y<A.cs.length):-1<=t.root/\t.root<=9223372036854775807:=by
 refine ⟨yH t,?_⟩
 by_cases e:t=.nil
 ·rw [e];show (-1:Int)<=_;omega
 ·have h1:=bM e;have h2:=ht _ h1.1;omega
section
variable {w:World} {B:SB} {F:List Nat} {A:NS} {st:Nat} {tr:Nat->BT}
theorem mY.upd {w':World} {G:List Nat} (h:mY w B F A st tr) (hu:aa G w w') (hG:∀x,x∈G->x∉B.blk F):mY w' B F A st tr:=by
 obtain ⟨S,hM,hI⟩:=h;exact ⟨S,hM.upd hu hG,hI⟩
theorem mY.aA {w':World} (h:mY w B F A st tr) (hu:aa [] w w'):mY w' B F A st tr:=h.upd hu σ
theorem Ia (h:mY w B F A st tr) (hh x:Nat) (k s:Int) (hk:-9223372036854775808<=k/\k<=9223372036854775807/\0<=s/\s<=18446744073709551615) (hB:oF A hh x=true) :
  Calls Tryz.prog 263 #[.pointer (some ⟨B.n0,0,none⟩),.int .i64 (hh:Int),.int .i64 (x:Int),.agg #[.int .i64 k,.int .u64 s]] w fun e w'=>e=.returned (.bool true)/\aa (B.blk F) w w'/\
   mY w' B F (aN A hh x k s) (bZ st (aK rQ (aN A hh x k s) (tr hh) (single x)).2) (fun q=>if q=hh then (aK rQ (aN A hh x k s) (tr hh) (single x)).1 else tr q):=by
 obtain ⟨S,hM,hI⟩:=h;have hlt:=hM.lt;have ok:=hM.cells.ok;obtain ⟨b1,b2,b3⟩:=(fE _ _ _).1 hB;have b4:=(aT _ _).1 b1;have hx:x<A.cs.length:=by have:=(ic _ _).1 b2;omega
 have Pn:(A.c x).i=0:=by
  have:=(ok.nat x hx).1;have h3:¬ (0<(A.c x).i):=fun h'=>by rw [(ai A x).2 ⟨hx,h'⟩] at b3;cases b3
  omega
 have hcs:(aN A hh x k s).cs.length=A.cs.length:=by unfold aN;rw [if_pos hB,fO]
 have lX:(aN A hh x k s).hs.length=A.hs.length:=by unfold aN;rw [if_pos hB];rfl
 have hcx:∀y,(aN A hh x k s).c y=if y=x then ⟨hh,k,s⟩ else A.c y:=fun y=>by
  unfold aN;rw [if_pos hB,π,kV]
  by_cases e:y=x
  ·rw [if_pos ⟨e,hx⟩,if_pos e]
  ·rw [if_neg (fun h=>e h.1),if_neg e]
 have rO:x∉(tr hh).nodes:=hI.out Pn;have hX:((tr hh).nodes++(single x).nodes).Nodup:=by
  rw [θ];refine ⟨hI.nd hh,by simp [single,BT.nodes],fun a ha b hb e=>?_⟩;simp only [single,BT.nodes,List.append_nil,List.mem_singleton] at hb;exact rO (by rw [←hb,←e];exact ha)
 have hin:∀y,y∈(tr hh).nodes++(single x).nodes->bX (aN A hh x k s) (y:Int)=true:=fun y hy=>by
  rw [ai,hcs,hcx];simp only [single,BT.nodes,List.append_nil,τ,List.mem_singleton] at hy
  by_cases e:y=x
  ·rw [if_pos e,e];exact ⟨hx,by show (0:Int)<(hh:Int);omega⟩
  ·rw [if_neg e];have:=(hI.mem hh y).1 (hy.resolve_right e);exact ⟨this.2.1,ω⟩
 have XB:Heap (aN A hh x k s) (tr hh):=(hI.heap hh).frame (fun y hy=>by rw [hcx,if_neg (fun e=>rO (by rw [←e];exact hy))]);obtain ⟨mp,mh⟩:=mH vg (aN A hh x k s) _ (tr hh) (single x) (Nat.le_refl _);have XP:=mh XB ⟨by simp [BT.nodes],by simp [BT.nodes],trivial,trivial⟩ hX;have hfr:=hI.free x hx Pn;have Xw:=hI.Dx hh;have hq:1<=hh/\hh<A.hs.length:=ω;have hb65:=ok.h1
 have hmr:=V5 hI ok.c1 (t:=(aK rQ (aN A hh x k s) (tr hh) (single x)).1) (fun y hy=>by
  have h1:=mp.mem_iff.1 hy;have:=(ai _ y).1 (hin y h1)
  rw [hcs] at this;exact this.1)
 have hfst:=zJ A tr hh hq
 have FI:Hid (∀ (W:World) (S':TS) (st':Nat),oq W B F (aN A hh x k s) st' S' (fun y=>if y=(hh:Int) then (if (aK rQ (aN A hh x k s) (tr hh) (single x)).1.root=-1 then none else some (aK rQ (aN A hh x k s) (tr hh) (single x)).1.root) else qC A tr y)->cO S' (-1) (aK rQ (aN A hh x k s) (tr hh) (single x)).1.root (aK rQ (aN A hh x k s) (tr hh) (single x)).1->
   (∀y,y∉(tr hh).nodes++(single x).nodes->S.at S' y)->mY W B F (aN A hh x k s) st' (fun q=>if q=hh then (aK rQ (aN A hh x k s) (tr hh) (single x)).1 else tr q)):=fun W S' st' a1 a2 a4=>
  ⟨S',a1.ext (Aw lX hq),(hI.put ok (by simp [xe]) hB a2 mp XP (fun y hy=>a4 y hy)).RG⟩
 have u1:aa [] w (w.alloc (.cells #[.int .i64 k,.int .u64 s] 129)):=(aa.refl _ _).alloc _;have kp:=fun W (hW:aa [] (w.alloc (.cells #[.int .i64 k,.int .u64 s] 129)) W)=>oC (hM.cells.aA (u1.trans hW)) hh x k s hk hB;have h0:=hM.h0;have uQ:B.n0∉F:=hM.bI.1;have hsz:w.heap.size∉F:=fun hm=>by have:=hlt w.heap.size (by simp [SB.blk,hm]);omega
 have r0:∀W,aa F (w.alloc (.cells #[.int .i64 k,.int .u64 s] 129)) W->W.cell? ⟨B.n0,0,none⟩=some (.pointer (some ⟨B.c,0,none⟩)):=fun W hW=>hW.kept (u1.was h0) uQ;have r1:∀W,aa F (w.alloc (.cells #[.int .i64 k,.int .u64 s] 129)) W->W.cell? ⟨w.heap.size,0,none⟩=some (.int .i64 k):=fun W h=>h.kept σ hsz;have r2:∀W,aa F (w.alloc (.cells #[.int .i64 k,.int .u64 s] 129)) W->W.cell? ⟨w.heap.size,1,none⟩=some (.int .u64 s):=fun W h=>h.kept σ hsz;have HM:=χ hM;have HH:=χ (ψ hX (ψ hin (ψ Xw hfr)));have qA:=hM.cF;clear hM hI ok b1 b2 b3 Pn hcx rO hX hin XB mp mh XP hfr h0 hlt Xw
 generalize hA':aN A hh x k s=A' at *;generalize htr:tr hh=th at *
 go_enter Tryz.func263,Tryz.ntmps263
 go_wp2
 go_region_held3 (aa F (w.alloc (.cells #[.int .i64 k,.int .u64 s] 129))) (exact ν)
  ((go_at_call 154;(with_reducible refine (kp _ β).mono ?_);rintro e w1 ⟨rfl,jD,hu1⟩;(have hu2:aa F (w.alloc (.cells #[.int .i64 k,.int .u64 s] 129)) w1:=ν)))
 have uF:aa F w (w.alloc (.cells #[.int .i64 k,.int .u64 s] 129)):=u1.mono σ;have hM1:=HM.out.dB (uF.trans hu2) jD (fun y hy=>Or.inl hy) hcs;have hw1:aa F w w1:=uF.trans hu2;have k1:=qF hM1 (hh:Int) ω;rw [hfst] at k1;have km:=vk hM1 HH.out.2.2.1 (vB HH.out.2.2.2) HH.out.1 HH.out.2.1;rw [show (single x).root=(x:Int) from rfl] at km;clear r0 r1 r2 kp hu1 hu2 jD uF hM1
 go_wp2_with (first
  | (go_at_call 268;(with_reducible refine (k1).mono ?_);rintro e w9 ⟨rfl,aM⟩;rw [aM];clear aM w9)
  | ((go_at_call 267;(with_reducible refine (km).mono ?_));rintro e w2 ⟨rfl,hu2,S2,hM2,yO,hs2⟩;(have kc:=vG hM2 hh _ ω hmr))
  | ((go_at_call 266;(with_reducible refine (kc).mono ?_));rintro e w3 ⟨rfl,hu3,jV⟩)
  | fail)
 go_ret;refine ⟨rfl,((hw1.mono (fun y hy=>by simp only [SB.blk,ρ];simp [hy])).trans (hu2.mono (fun y hy=>?_))).trans (hu3.mono (by simp [SB.blk])),FI.out _ S2 _ jV yO hs2⟩;simp only [ρ,ς,or_false] at hy;simp only [SB.blk,ρ];rcases hy with rfl|rfl
 ·simp [qA]
 ·simp
theorem Mt (h:mY w B F A st tr) (x:Int) (hx:-9223372036854775808<=x/\x<=9223372036854775807) (hn:dZ A x=0) :
  Calls Tryz.prog 265 #[.pointer (some ⟨B.n0,0,none⟩),.int .i64 x] w fun e w'=>e=.returned (.tuple #[.int .i64 0,.bool false])/\w'=w:=by
 obtain ⟨S,hM,hI⟩:=h;have hr:NQ (qC A tr x)=-1:=by
  unfold qC
  split
  ·rename_i hq
   have:(tr x.toNat)=.nil:=by
    cases e:tr x.toNat with
    | nil=>rfl
    | node y a b=>
     have:=(hI.mem x.toNat y).1 (by rw [e];simp [BT.nodes]);have:0<dZ A x:=fM.2 ⟨y,this.2.1,by show (A.c y).i=x;omega,by omega⟩;omega
   rw [this];rfl
  ·rfl
 have k:=qF hM x hx;rw [hr] at k;clear hM hI
 go_enter Tryz.func265,Tryz.ntmps265
 go_wp2_with (first|(go_at_call 268;(with_reducible refine (k).mono ?_);rintro e w9 ⟨rfl,aM⟩;rw [aM];clear aM w9)|fail)
 go_ret2;exact ⟨rfl,rfl⟩
theorem Cf (h:mY w B F A st tr) (g:Nat) (hn:0<dZ A g) :
  Calls Tryz.prog 265 #[.pointer (some ⟨B.n0,0,none⟩),.int .i64 (g:Int)] w fun e w'=>∃m:Nat,dW A g=some m/\(tr g).root=m/\e=.returned (.tuple #[.int .i64 (m:Int),.bool true])/\w'=w:=by
 obtain ⟨S,hM,hI⟩:=h;obtain ⟨m,hm1,hm2⟩:=hI.first hn;have hin:=(lM hm2);have hq:=(aT _ _).1 (jf hM.cells.ok hin.2.2.2);rw [π,hin.2.2.1] at hq;have hb:=hM.cells.ok.h1;have k:=qF hM (g:Int) ω;rw [zJ A tr g ω,hm1] at k;have hb1:((m:Int) == -1)=false:=σ;clear hM hI
 go_enter Tryz.func265,Tryz.ntmps265
 go_wp2_with (first|(go_at_call 268;(with_reducible refine (k).mono ?_);rintro e w9 ⟨rfl,aM⟩;rw [aM];clear aM w9)|fail)
 go_ret2;exact ⟨m,hm2,hm1,rfl,rfl⟩
end
noncomputable def Gt (A:NS) (t:BT) (x:Nat):BT×Nat:=(aj (pathOf t x).1 (aK rQ A (pathOf t x).2.1 (pathOf t x).2.2).1,(aK rQ A (pathOf t x).2.1 (pathOf t x).2.2).2)
section
variable {w:World} {B:SB} {F:List Nat} {A:NS} {st:Nat} {tr:Nat->BT} {S:TS} {f:Int->Option Int}
theorem JR {bt ba n:Nat} (h:bA w bt ba n S) {fr:Fr} {P:List Fr} {x:Nat} {l r:BT} (hT:cO S (-1) (aj (fr::P) (.node x l r)).root (aj (fr::P) (.node x l r))) (hn:(aj (fr::P) (.node x l r)).nodes.Nodup) (hf:fr.1<n) :
  ∃ (r':Int) (b:Bool),((b=true/\(r' == (x:Int))=fr.2.1)\/(b=false/\fr.2.1=false))/\Calls Tryz.prog 249 #[.pointer (some ⟨bt,0,none⟩),.int .i64 (fr.1:Int)] w fun e w'=>e=.returned (.tuple #[.int .i64 r',.bool b])/\∃k,w'=w.drewN k:=by
 obtain ⟨z,hz,k⟩:=Cj h hT hn hf
 by_cases e:z=-1
 ·refine ⟨tv z,tb z,Or.inr ⟨by rw [e];rfl,?_⟩,k⟩;rw [←hz,e];first|(simp;done)|(simp;omega)
 ·exact ⟨tv z,tb z,Or.inl ⟨by unfold tb;simp [e],by unfold tv;rw [if_neg e];exact hz⟩,k⟩
def Wh (w':World) (B:SB) (F:List Nat) (A:NS) (st:Nat) (S:TS) (f:Int->Option Int) (g x:Nat) (P:List Fr) (X:List Nat) (T:BT):Prop:=
 ∃S',oq w' B F (bz A x) st S' (fun y=>if P=[]/\y=(g:Int) then (if T.root=-1 then none else some T.root) else f y)/\cO S' (-1) T.root T/\(∀y,y∉X->S.at S' y)/\(S'.l x=-1/\S'.r x=-1/\S'.u x=-1)
theorem DU (hM:oq w B F A st S f) {g x:Nat} {P:List Fr} {l r:BT} (hin:bX A (x:Int)=true) (hg:(A.c x).i=g) (hgq:1<=g/\g<=65536)
  (hT:cO S (-1) (aj P (.node x l r)).root (aj P (.node x l r))) (hn:(aj P (.node x l r)).nodes.Nodup) (hall:∀y,y∈(aj P (.node x l r)).nodes->bX A (y:Int)=true) :
  Calls Tryz.prog 261 #[.pointer (some ⟨B.n0,0,none⟩),.int .i64 (x:Int)] w fun e w'=>e=.returned (.bool true)/\aa (B.blk F) w w'/\
   Wh w' B F A (bZ st (aK rQ A l r).2) S f g x P (aj P (.node x l r)).nodes (aj P (aK rQ A l r).1):=by
 have hxl:=((ai A x).1 hin).1;have hlt:∀y,y∈(aj P (.node x l r)).nodes->y<A.cs.length:=fun y hy=>((ai A y).1 (hall y hy)).1;have kh:=eB hM.cells x hin;rw [hg] at kh;have h0:=hM.h0;have HM:=χ hM;have R7:=qG hn;have mp:=(mH vg A _ l r (Nat.le_refl _)).1;have hblk:=χ hM.lt;have qA:=hM.cF;have hsep:=χ (ψ hM.sep hM.bI);have HT:=χ (ψ hT (ψ hn (ψ hall hlt)));have HP:=χ R7;have hA:=hM.cells.ok.c1;obtain ⟨m,k,hmk⟩:∃m k,aK rQ A l r=(m,k):=⟨_,_,rfl⟩;rw [hmk] at mp;rw [hmk]
 have ZB:∀y,y∈m.nodes->y<A.cs.length:=fun y hy=>hlt y (aH.2 (Or.inl (by
  have:=mp.mem_iff.1 hy
  simp only [BT.nodes];exact List.mem_cons_of_mem _ this)))
 have hmr:-1<=m.root/\m.root<=9223372036854775807:=by
  refine ⟨yH m,?_⟩
  by_cases e:m=.nil
  ·rw [e];show (-1:Int)<=_;omega
  ·have h1:=bM e;have h2:=ZB _ h1.1;omega
 have VQ:=χ mp;have HMK:=χ hmk;have Oa:=χ hin;have HML:=χ ZB;clear hM hT hn hall hlt R7 mp hmk hin hg ZB
 go_enter Tryz.func261,Tryz.ntmps261
 go_wp2_with (first|((go_at_call 140;(with_reducible refine (kh).mono ?_));rintro e w1 ⟨rfl,jD,hu1⟩;(have g1:=(HM.out.dB hu1 jD (fun y hy=>Or.inl hy) rfl).h1))|fail)
 have hM1:=HM.out.dB hu1 jD (fun y hy=>Or.inl hy) rfl;have kl:=fun W (hW:aa [] w1 W)=>CU (hM1.aA hW).trees ((eU _ _).1 HT.out.1).1 hxl;have klo:=fun W (hW:aa [] w1 W)=>AQ (hM1.aA hW) (fr:=(x,false,r)) (P:=P) (t:=l) HT.out.1 HT.out.2.1 HT.out.2.2.2;have hn0:B.n0∉[B.c,B.ba]:=by
  have a1:=hsep.out;have a2:B.n0≠B.c:=fun e=>a1.2.1 (by rw [e];exact qA);simp;omega
 have r1:∀W,aa [B.c,B.ba] w1 W->W.cell? ⟨B.n0,1,none⟩=some (.pointer (some ⟨B.bt,0,none⟩)):=fun W hW=>hW.kept g1 hn0;have Jm:(aj ((x,true,.nil)::P) r).nodes.Nodup:=by
  have e:=(aP P (.node x .nil r));refine e.nodup_iff.2 ?_;obtain ⟨⟨a1,a2,a3⟩,a4,a5,a6,a7⟩:=HP.out;simp only [BT.nodes,List.nil_append,θ] at a4 ⊢;refine ⟨List.nodup_cons.2 ⟨a2,a4.2.1⟩,a7,fun y hy z hz e=>?_⟩;subst e;rcases ρ.1 hy with e|hy
  ·exact a3 (by rw [←e];exact hz)
  ·exact a6 y hy hz
 have Dc:∀y,y∈(aj ((x,true,.nil)::P) r).nodes->y∈(aj P (.node x l r)).nodes:=fun y hy=>by
  have h':y∈(aj P (.node x .nil r)).nodes:=hy;rw [aH] at h' ⊢;simp only [BT.nodes,List.nil_append,ρ,τ] at h' ⊢;rcases h' with (h'|h')|h'
  ·exact Or.inl (Or.inl h')
  ·exact Or.inl (Or.inr (Or.inr h'))
  ·exact Or.inr h'
 have Qw:∀y,y∈l.nodes->y∉(aj ((x,true,.nil)::P) r).nodes:=fun y hy hm=>by
  obtain ⟨⟨a1,a2,a3⟩,a4,a5,a6,a7⟩:=HP.out;rw [θ] at a4;have h':y∈(aj P (.node x .nil r)).nodes:=hm;rw [aH] at h';simp only [BT.nodes,List.nil_append,ρ] at h';rcases h' with (h'|h')|h'
  ·exact a1 (by rw [←h'];exact hy)
  ·exact a4.2.2 y hy y h' rfl
  ·exact a5 y hy h'
 have H3:=χ (ψ Jm (ψ Dc Qw));clear hM1 jD kh h0 Jm Dc Qw
 go_region_held3 (aa [B.c,B.ba] w1) (exact ν)
  (first
   | ((go_at_call 248;(with_reducible refine (kl _ η).mono ?_));rintro e w2 ⟨rfl,k2,hw2⟩;(have hq2:aa [] w1 w2:=(by rw [hw2];refine aa.drewN ?_ _;exact η));clear hw2;(have hv2:aa [B.c,B.ba] w1 w2:=hq2.mono σ))
   | ((go_at_call 269;(with_reducible refine (klo _ η).mono ?_));rintro e w3 ⟨rfl,hu3,S3,jV,hl3,hp3,hs3⟩;(have hv3:aa [B.c,B.ba] w1 w3:=aa.trans ν (hu3.mono σ));(have OT:cO S3 (-1) (aj ((x,true,.nil)::P) r).root (aj ((x,true,.nil)::P) r):=hp3);(have kr:=fun W (hW:aa [] w3 W)=>vJ (jV.aA hW).trees ((eU P (.node x .nil r)).1 OT).1 hxl);(have klo2:=fun W (hW:aa [] w3 W)=>AQ (jV.aA hW) (fr:=(x,true,.nil)) (P:=P) (t:=r) OT H3.out.1 (fun y hy=>HT.out.2.2.2 y (H3.out.2.1 y hy))))
   | ((go_at_call 249;(with_reducible refine (kr _ η).mono ?_));rintro e w4 ⟨rfl,k4,hw4⟩;(have hq4:aa [] w3 w4:=(by rw [hw4];refine aa.drewN ?_ _;exact η));clear hw4;(have hv4:aa [B.c,B.ba] w1 w4:=hv3.trans (hq4.mono σ)))
   | ((go_at_call 269;(with_reducible refine (klo2 _ η).mono ?_));rintro e w5 ⟨rfl,cu,S5,wZ,Oc,Ut,hs5⟩;(have hv5:aa [B.c,B.ba] w1 w5:=aa.trans ν (cu.mono σ));(have km:=fun W (hW:aa [] w5 W)=>vk (wZ.aA hW) (hl3.frame (fun y hy=>hs5 y (H3.out.2.2 y hy))) Oc HP.out.2.1 (fun y hy=>HT.out.2.2.1 y (aH.2 (Or.inl (by simp only [BT.nodes];exact List.mem_cons_of_mem _ hy)))));rw [HMK.out] at km)
   | ((go_at_call 267;(with_reducible refine (km _ η).mono ?_));rintro e w6 ⟨rfl,iB,S6,uB,Pf,hs6⟩;(have hv6:aa [B.c,B.ba] w1 w6:=aa.trans ν iB)))
 have hp6:cO S6 (-1) (aj P (.node x .nil .nil)).root (aj P (.node x .nil .nil)):=cO.frame (show cO S5 (-1) (aj P (.node x .nil .nil)).root (aj P (.node x .nil .nil)) from Ut) (fun y hy=>hs6 y (fun hm=>by
  obtain ⟨⟨a1,a2,a3⟩,a4,a5,a6,a7⟩:=HP.out;rw [aH] at hy;simp only [BT.nodes,List.nil_append,ρ,ς,or_false] at hy;rw [τ] at hm;rcases hy with e|hy
  ·subst e;rcases hm with hm|hm;exact a1 hm;exact a2 hm
  ·rcases hm with hm|hm;exact a5 y hm hy;exact a6 y hm hy))
 have f6:∀y,y∉(aj P (.node x l r)).nodes->S.at S6 y:=fun y hy=>by
  have h1:y∉l.nodes++r.nodes:=fun hm=>hy (aH.2 (Or.inl (by simp only [BT.nodes];exact List.mem_cons_of_mem _ hm)));exact gQ (gQ (hs3 y hy) (hs5 y (fun hm=>hy (H3.out.2.1 y hm)))) (hs6 y h1)
 have u6:aa (B.blk F) w w6:=(hu1.mono (fun y hy=>by simp only [SB.blk,ρ];simp [hy])).trans (hv6.mono (fun y hy=>by
   simp only [ρ,ς,or_false] at hy;simp only [SB.blk,ρ];rcases hy with rfl|rfl
   ·simp [qA]
   ·simp))
 have ku:=fun W (hW:aa [] w6 W)=>LG (uB.aA hW).trees hp6 hxl;have YN:=fun W (hW:aa [] w6 W)=>(uB.aA hW).h1;have wQ:=χ uB;have H6:=χ (ψ hp6 (ψ f6 Pf));have hmm:Hid (∀y,y∈m.nodes->y∉dU P/\y≠x):=fun y hy=>by
  obtain ⟨⟨a1,a2,a3⟩,a4,a5,a6,a7⟩:=HP.out;have h1:=VQ.out.mem_iff.1 hy;rw [τ] at h1;rcases h1 with h1|h1
  ·exact ⟨a5 y h1,fun e=>a1 (by rw [←e];exact h1)⟩
  ·exact ⟨a6 y h1,fun e=>a2 (by rw [←e];exact h1)⟩
 have hmx:Hid (∀y,y∈m.nodes->y∈(aj P (.node x l r)).nodes):=fun y hy=>aH.2 (Or.inl (by
  have h1:=VQ.out.mem_iff.1 hy
  simp only [BT.nodes,ρ];exact Or.inr h1))
 have OG:Hid m.nodes.Nodup:=VQ.out.nodup_iff.2 HP.out.2.1;have H31:=YN w6 (aa.refl _ _);have H32:=(uB.aA ((aa.refl [] w6).drew)).h1;clear uB hp6 f6 Pf hs6 hs5 hs3 Ut hp3 OT hl3 Oc wZ jV km klo klo2 kr kl r1 hu1 g1 hv6 hv5 hv4 hv3 hv2 hq2 hq4 hu3 cu iB H31 H32;obtain ⟨wX,hwX,uX⟩:∃wX,wX=w6/\aa [] w6 wX:=⟨w6,rfl,aa.refl _ _⟩;cases P with
 | nil=>
  rw [show Ci ([]:List Fr)=-1 from rfl,show tv (-1)=0 from rfl,show tb (-1)=false from rfl] at ku;have g61:=YN w6 (aa.refl _ _);clear YN
  go_wp2_with (first
   | ((go_at_call 250;(with_reducible refine (ku _ η).mono ?_));rintro e w7 ⟨rfl,kk,hw7⟩;(have u7:aa [] w6 w7:=(by rw [hw7];refine aa.drewN ?_ _;exact η));clear hw7;(have kc:=vG (wQ.out.aA u7) g m.root hgq hmr))
   | ((go_at_call 266;(with_reducible refine (kc).mono ?_));rintro e w8 ⟨rfl,Kk,hM8⟩;(have g80:=hM8.h0);(have kd:=iD hM8.cells x Oa.out))
   | ((go_at_call 151;(with_reducible refine (kd).mono ?_));rintro e w9 ⟨rfl,hC9,yw⟩)
   | fail)
  go_ret;obtain ⟨b1,b2,b4⟩:=H6.out;have bx:=((eU _ _).1 b1).1;refine ⟨rfl,((u6.trans (u7.mono σ)).trans (Kk.mono (by simp [SB.blk]))).trans (yw.mono (fun y hy=>by simp only [SB.blk,ρ];simp [hy])),S6,(hM8.dB yw hC9 (fun y hy=>Or.inl hy) (fT _ _)).ext (fun y=>?_),b4,b2,⟨bx.2.2.1.root,bx.2.2.2.root,bx.2.1⟩⟩
  by_cases e:y=(g:Int)
  ·rw [if_pos (show ([]:List Fr)=[]/\y=(g:Int) from ⟨rfl,e⟩),if_pos e];rfl
  ·rw [if_neg e,if_neg (show ¬ (([]:List Fr)=[]/\y=(g:Int)) from fun h=>e h.2)]
 | cons fr P2=>
  rw [show Ci (fr::P2)=(fr.1:Int) from rfl,Qp,DR] at ku;have hfl:fr.1<A.cs.length:=HT.out.2.2.2 fr.1 (aH.2 (Or.inr (by simp [dU])));have Ov:(aj (fr::P2) (.node x .nil .nil)).nodes.Nodup:=by
   refine (aP (fr::P2) (.node x .nil .nil)).nodup_iff.2 ?_;obtain ⟨⟨a1,a2,a3⟩,a4,a5,a6,a7⟩:=HP.out;simp only [BT.nodes,List.nil_append,List.singleton_append,List.nodup_cons];exact ⟨a3,a7⟩
  have Jh:∀y,y∈(aj (fr::P2) (.node x .nil .nil)).nodes->y∈(aj (fr::P2) (.node x l r)).nodes:=fun y hy=>by
   rw [aH] at hy ⊢;simp only [BT.nodes,List.nil_append,ρ,ς,or_false] at hy;rcases hy with hy|hy
   ·exact Or.inl (by simp [BT.nodes,hy])
   ·exact Or.inr hy
  have ksd:=fun W (hW:aa [] w6 W)=>JR (wQ.out.aA hW).trees H6.out.1 Ov hfl;have EZ:=fun W (hW:aa [] w6 W)=>nW (wQ.out.aA hW).trees (f:=fr) (P:=P2) (t:=.node x .nil .nil) H6.out.1 Ov (fun y hy=>HT.out.2.2.2 y (Jh y hy));rw [show BT.root (.node x .nil .nil)=(x:Int) from rfl] at EZ;generalize hcv:cutV fr (.node x .nil .nil)=cv at EZ;generalize hcb:tb (x:Int)=cb at EZ;have IJ:=χ (ψ Ov Jh);have g61:=YN w6 (aa.refl _ _);clear Ov Jh hcv hcb
  go_wp2_with (first
   | ((go_at_call 250;(with_reducible refine (ku _ η).mono ?_));rintro e w7 ⟨rfl,kk,hw7⟩;(have u7:aa [] w6 w7:=(by rw [hw7];refine aa.drewN ?_ _;exact η));clear hw7;(have g71:=YN w7 u7))
   | fail)
  obtain ⟨r',bb,hbb,kr⟩:=ksd w7 u7;have hmz':(m=.nil/\(m.root != -1)=false)\/(m≠.nil/\(m.root != -1)=true):=by
   by_cases e:m=.nil
   ·exact Or.inl ⟨e,by rw [e];rfl⟩
   ·exact Or.inr ⟨e,by have:=(bM e).2;simp;omega⟩
  have HQ61:=χ YN;clear ksd ku YN;rcases hmz' with ⟨hmz,hmb⟩|⟨hmz,hmb⟩
  ·have YG:=χ hmz;clear hmz;rcases hbb with ⟨rfl,hb2⟩|⟨rfl,hb2⟩
   all_goals
    go_wp2_with (first
     | ((go_at_call 249;(with_reducible refine (kr).mono ?_));rintro e w8 ⟨rfl,k8,hw8⟩;(have u8:aa [] w6 w8:=(by rw [hw8];exact u7.drewN k8));clear hw8;(have g81:=HQ61.out w8 u8);(have kc:=EZ w8 u8))
     | ((go_at_call 244;(with_reducible refine (kc).mono ?_));rintro e w9 ⟨rfl,yw,S9,Vf,Zi,hp9,hs9⟩;(have g90:=((wQ.out.aA u8).iV yw Vf).h0);(have kd:=iD ((wQ.out.aA u8).iV yw Vf).cells x Oa.out))
     | ((go_at_call 151;(with_reducible refine (kd).mono ?_));rintro e w10 ⟨rfl,J2,Av⟩)
     | fail)
    go_ret;have hz:=YG.out;subst hz;refine ⟨rfl,((u6.trans (u8.mono σ)).trans (yw.mono (by simp [SB.blk]))).trans (Av.mono (fun y hy=>by simp only [SB.blk,ρ];simp [hy])),S9,(((wQ.out.aA u8).iV yw Vf).dB Av J2 (fun y hy=>Or.inl hy) (fT _ _)).ext (fun y=>by rw [if_neg σ]),hp9,fun y hy=>gQ (H6.out.2.1 y hy) (hs9 y (fun hm=>hy (IJ.out.2 y hm))),⟨Zi.2.2.1.root,Zi.2.2.2.root,Zi.2.1⟩⟩
  ·have YG:=χ hmz;have hxm:∀y,y∈m.nodes->y∉(aj (fr::P2) (.node x .nil .nil)).nodes:=fun y hy hm=>by
    have b1:=hmm.out y hy;rw [aH] at hm;simp only [BT.nodes,List.nil_append,ρ,ς,or_false] at hm;rcases hm with hm|hm
    ·exact b1.2 hm
    ·exact b1.1 hm
   have hnd:(m.nodes++dU (fr::P2)).Nodup:=by
    rw [θ];exact ⟨OG.out,HP.out.2.2.2.2,fun a ha b hb e=>(hmm.out a ha).1 (by rw [e];exact hb)⟩
   have hsm:∀y,y∈m.nodes++dU (fr::P2)->y∈(aj (fr::P2) (.node x l r)).nodes:=fun y hy=>by
    rw [τ] at hy;rcases hy with hy|hy
    ·exact hmx.out y hy
    ·exact aH.2 (Or.inr hy)
   have Po:=χ (ψ hxm (ψ hnd hsm));clear hmz hxm hnd hsm;rcases hbb with ⟨rfl,hb2⟩|⟨rfl,hb2⟩
   all_goals
    go_wp2_with (first
     | ((go_at_call 249;(with_reducible refine (kr).mono ?_));rintro e w8 ⟨rfl,k8,hw8⟩;(have u8:aa [] w6 w8:=(by rw [hw8];exact u7.drewN k8));clear hw8;(have g81:=HQ61.out w8 u8);(have kc:=EZ w8 u8))
     | ((go_at_call 244;(with_reducible refine (kc).mono ?_));rintro e w9 ⟨rfl,yw,S9,Vf,Zi,hp9,hs9⟩;(have g91:=((wQ.out.aA u8).iV yw Vf).h1);(have khg:=CZ Vf hp9 (H6.out.2.2.frame (fun y hy=>hs9 y (Po.out.1 y hy))) YG.out Po.out.2.1 (fun y hy=>HT.out.2.2.2 y (Po.out.2.2 y hy)));(try rw [hb2] at khg))
     | ((go_at_call 251;(with_reducible refine (khg).mono ?_));rintro e w9b ⟨rfl,UJ,S9b,Zb,hp9b,hs9b⟩;(have g90:=(((wQ.out.aA u8).iV yw Vf).iV UJ Zb).h0);(have kd:=iD (((wQ.out.aA u8).iV yw Vf).iV UJ Zb).cells x Oa.out))
     | ((go_at_call 151;(with_reducible refine (kd).mono ?_));rintro e w10 ⟨rfl,J2,Av⟩)
     | fail)
    go_ret;have rO:x∉m.nodes++dU (fr::P2):=fun hm=>by
     rw [τ] at hm;rcases hm with hm|hm
     ·exact (hmm.out x hm).2 rfl
     ·exact HP.out.1.2.2 hm
    have a3:=hs9b x rO;refine ⟨rfl,(((u6.trans (u8.mono σ)).trans (yw.mono (by simp [SB.blk]))).trans (UJ.mono (by simp [SB.blk]))).trans (Av.mono (fun y hy=>by simp only [SB.blk,ρ];simp [hy])),S9b,((((wQ.out.aA u8).iV yw Vf).iV UJ Zb).dB Av J2 (fun y hy=>Or.inl hy) (fT _ _)).ext (fun y=>by rw [if_neg σ]),hp9b,fun y hy=>gQ (gQ (H6.out.2.1 y hy) (hs9 y (fun hm=>hy (IJ.out.2 y hm)))) (hs9b y (fun hm=>hy (Po.out.2.2 y hm))),⟨a3.1.trans Zi.2.2.1.root,a3.2.1.trans Zi.2.2.2.root,a3.2.2.trans Zi.2.1⟩⟩
theorem F4 (h:mY w B F A st tr) (g x:Nat) (hx:x∈(tr g).nodes) :
  Calls Tryz.prog 261 #[.pointer (some ⟨B.n0,0,none⟩),.int .i64 (x:Int)] w fun e w'=>e=.returned (.bool true)/\aa (B.blk F) w w'/\
   mY w' B F (bz A x) (bZ st (Gt A (tr g) x).2) (fun q=>if q=g then (Gt A (tr g) x).1 else tr q):=by
 obtain ⟨S,hM,hI⟩:=h;have hm:=(hI.mem g x).1 hx;have hin:bX A (x:Int)=true:=(ai A x).2 ⟨hm.2.1,ω⟩;have e:=nH hx;unfold Gt;generalize (pathOf (tr g) x).1=P at *;generalize (pathOf (tr g) x).2.1=l at *;generalize (pathOf (tr g) x).2.2=r at *;have hq:1<=g/\g<A.hs.length:=by have:=hM.cells.ok.nat x hm.2.1;omega
 have hb65:=hM.cells.ok.h1;have hT:=hI.Dx g;have hn:=hI.nd g;have hH:=hI.heap g;rw [e] at hT hn hH;obtain ⟨d1,d2,d3⟩:=GI vg hn hH;refine (DU hM hin hm.2.2 ω hT hn (fun y hy=>?_)).mono ?_
 ·rw [←e] at hy;have:=(hI.mem g y).1 hy;exact (ai A y).2 ⟨this.2.1,ω⟩
 ·rintro e' w' ⟨rfl,hu,S',q1,q2,q4,q5⟩;refine ⟨rfl,hu,S',q1.ext (fun y=>?_),(wR.del (jv:=xe (bz A x) (fun q=>if q=g then (aj P (aK rQ A l r).1) else tr q)) hI hx q2 ?_ d2 (fun y hy=>q4 y (by rw [←e];exact hy)) q5 (fun q hq'=>?_))⟩
  ·rw [←Aw (A':=bz A x) (tr:=tr) (t:=aj P (aK rQ A l r).1) (by rw [je]) hq y]
   by_cases ey:y=(g:Int)
   ·rw [if_pos ey]
    by_cases hp:P=[]
    ·rw [if_pos ⟨hp,ey⟩]
    ·rw [if_neg (fun h=>hp h.1),ey];cases P with
     | nil=>exact absurd rfl hp
     | cons f P2=>
      unfold qC;rw [if_pos ω,π,e,kH f P2 (.node x l r) (aK rQ A l r).1]
   ·rw [if_neg ey,if_neg (fun h=>ey h.2)]
  ·rw [e];exact d1
  ·have YY:q<(bz A (x:Int)).hs.length:=by rw [je];exact hq'
   unfold xe;rw [φ,List.getElem?_map,List.getElem?_range YY]
   show (if q=g then aj P (aK rQ A l r).1 else tr q).root=_
   by_cases eq:q=g
   ·rw [if_pos eq,if_pos eq]
   ·rw [if_neg eq,if_neg eq];rw [φ,List.getElem?_map,List.getElem?_range hq'];rfl
theorem Bq (h:mY w B F A st tr) (g:Nat) (hn:0<dZ A g) :
  Calls Tryz.prog 262 #[.pointer (some ⟨B.n0,0,none⟩),.int .i64 (g:Int)] w fun e w'=>∃m:Nat,dW A g=some m/\e=.returned (.tuple #[.int .i64 (m:Int),.bool true])/\aa (B.blk F) w w'/\
   mY w' B F (bz A m) (bZ st (Gt A (tr g) m).2) (fun q=>if q=g then (Gt A (tr g) m).1 else tr q):=by
 have k:=Cf h g hn;have kd:=fun m hm=>F4 h g m hm;have hroot:∀m:Nat,(tr g).root=m->m∈(tr g).nodes:=fun m hm=>by
  have hne:tr g≠.nil:=fun e=>by rw [e] at hm;have:(-1:Int)=m:=hm;omega
  have:=(bM hne).1;rw [hm] at this;simpa using this
 clear h
 go_enter Tryz.func262,Tryz.ntmps262
 go_wp2_with (first
  | ((go_at_call 265;(with_reducible refine (k).mono ?_));rintro e w1 ⟨m,hm1,hm2,rfl,rfl⟩;(have XV:=kd m (hroot m hm2)))
  | ((go_at_call 261;(with_reducible refine (XV).mono ?_));rintro e w2 ⟨rfl,hu2,hL2⟩)
  | fail)
 go_ret2;exact ⟨m,hm1,rfl,hu2,hL2⟩
end
end Go.Proofs.YtklibcncmbofpaaGreat
