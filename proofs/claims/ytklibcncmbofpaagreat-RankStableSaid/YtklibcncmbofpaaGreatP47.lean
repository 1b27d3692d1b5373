/-
  Lemmas for RankSorts: Sk, Sk2, Sk3. Conditions: those of each lemma.
-/
import Derived.Test.YtklibcncmbofpaaGreatP16
set_option maxHeartbeats 8000000
set_option maxRecDepth 10000
set_option linter.unusedVariables false
set_option linter.unusedSimpArgs false
namespace Go.Proofs.YtklibcncmbofpaaGreat
open Go Go.RowKit
structure SB where
 n0:Nat
 c:Nat
 bt:Nat
 ba:Nat
 mb:Nat
structure lM (w:World) (B:SB) (F:List Nat) (A:NS) (st:Nat) (S:TS) (f:Int→Option Int):Prop where
 head:aI w B.n0 234 3 (fun j=>[Value.pointer (some ⟨B.c,0,none⟩),.pointer (some ⟨B.bt,0,none⟩),.map (some B.mb)].getD j undef)
 cells:az w B.c F A st
 trees:aT w B.bt B.ba A.cs.length S
 top:dZ w B.mb f
 aZ:B.n0∉F∧B.bt∉F∧B.ba∉F∧B.mb∉F
 sep:(B.n0≠B.bt∧B.n0≠B.ba∧B.n0≠B.mb)∧(B.bt≠B.mb∧B.ba≠B.mb)
section
variable {w:World} {B:SB} {F:List Nat} {A:NS} {st:Nat} {S:TS} {f:Int→Option Int}
def SB.blk (B:SB) (F:List Nat):List Nat:=B.n0::B.bt::B.ba::B.mb::F
theorem lM.upd {w':World} {G:List Nat} (h:lM w B F A st S f) (hu:aa G w w') (hG:∀x,x∈G→x∉B.blk F):lM w' B F A st S f:=by
 have hb:∀y,y∈B.blk F→y∉G:=fun y hy hm=>hG y hm hy
 exact ⟨h.head.upd hu (hb _ (by simp [SB.blk])),h.cells.upd hu (fun x hx hm=>hG x hx (by simp [SB.blk,hm])),h.trees.upd hu (hb _ (by simp [SB.blk])) (hb _ (by simp [SB.blk])),h.top.upd hu (hb _ (by simp [SB.blk])),h.aZ,h.sep⟩
theorem lM.aj {w':World} (h:lM w B F A st S f) (hu:aa [] w w'):lM w' B F A st S f:=h.upd hu σ
theorem lM.lt (h:lM w B F A st S f):∀x,x∈B.blk F→x<w.heap.size:=fun x hx=>by
 simp only [SB.blk,List.mem_cons] at hx;rcases hx with rfl|rfl|rfl|rfl|hx
 ·exact h.head.lt
 ·exact h.trees.head.lt
 ·exact h.trees.row.lt
 ·exact h.top.lt
 ·exact h.cells.lt x hx
theorem lM.cF (h:lM w B F A st S f):B.c∈F:=h.cells.mem
theorem lM.h0 (h:lM w B F A st S f):w.cell? ⟨B.n0,0,none⟩=some (.pointer (some ⟨B.c,0,none⟩)):=h.head.cellAt 0 ω rfl
theorem lM.h1 (h:lM w B F A st S f):w.cell? ⟨B.n0,1,none⟩=some (.pointer (some ⟨B.bt,0,none⟩)):=h.head.cellAt 1 ω rfl
theorem lM.h2 (h:lM w B F A st S f):w.cell? ⟨B.n0,2,none⟩=some (.map (some B.mb)):=h.head.cellAt 2 ω rfl
theorem lM.fM {w':World} {S':TS} (h:lM w B F A st S f) (hu:aa [B.ba] w w') (hT:aT w' B.bt B.ba A.cs.length S'):lM w' B F A st S' f:=by
 obtain ⟨⟨s1,s2,s3⟩,s4,s5⟩:=h.sep;obtain ⟨f1,f2,f3,f4⟩:=h.aZ;exact ⟨h.head.upd hu (by simp;exact s2),h.cells.upd hu (fun x hx hm=>by simp at hx;subst hx;exact f3 hm),hT,h.top.upd hu (by simp;exact Ne.symm s5),h.aZ,h.sep⟩
theorem lM.Px {w':World} {f':Int→Option Int} (h:lM w B F A st S f) (hu:aa [B.mb] w w') (hM:dZ w' B.mb f'):lM w' B F A st S f':=by
 obtain ⟨⟨s1,s2,s3⟩,s4,s5⟩:=h.sep;obtain ⟨f1,f2,f3,f4⟩:=h.aZ;exact ⟨h.head.upd hu (by simp;exact s3),h.cells.upd hu (fun x hx hm=>by simp at hx;subst hx;exact f4 hm),h.trees.upd hu (by simp;exact s4) (by simp;exact s5),hM,h.aZ,h.sep⟩
theorem lM.bI {w':World} {F':List Nat} {A':NS} {st':Nat} (h:lM w B F A st S f) (hu:aa F w w') (hC:az w' B.c F' A' st') (hF:∀x,x∈F'→x∈F∨w.heap.size≤x) (h1:A'.cs.length=A.cs.length):lM w' B F' A' st' S f:=by
 obtain ⟨f1,f2,f3,f4⟩:=h.aZ;have hn:∀y,y<w.heap.size→y∉F→y∉F':=fun y hy hm hm'=>by rcases hF y hm' with h'|h';exact hm h';omega
 have hl:=h.lt;exact ⟨h.head.upd hu f1,hC,by rw [h1];exact h.trees.upd hu f2 f3,h.top.upd hu f4,⟨hn _ (hl _ (by simp [SB.blk])) f1,hn _ (hl _ (by simp [SB.blk])) f2,hn _ (hl _ (by simp [SB.blk])) f3,hn _ (hl _ (by simp [SB.blk])) f4⟩,h.sep⟩
def Ik (o:Option Int):Int:=o.getD (-1)
theorem oo (h:lM w B F A st S f) (q:Int) (hq:-9223372036854775808≤q∧q≤9223372036854775807) :
  Calls Tryz.prog 268 #[.pointer (some ⟨B.n0,0,none⟩),.int .i64 q] w fun e w'=>e=.returned (.int .i64 (Ik (f q)))∧w'=w:=by
 have h2:=h.h2;have ht:=h.top;have k:=ht.look_ok q hq;unfold Ik;cases hf:f q with
 | none=>
  rw [hf] at k;simp only [Option.getD_none,Option.isSome_none] at k ⊢;clear ht h
  go_enter Tryz.func268,Tryz.ntmps268
  go_wp2;go_ret;exact ⟨rfl,rfl⟩
 | some z=>
  rw [hf] at k;simp only [Option.getD_some,Option.isSome_some] at k ⊢;clear ht h
  go_enter Tryz.func268,Tryz.ntmps268
  go_wp2;go_ret;exact ⟨rfl,rfl⟩
theorem rE (h:lM w B F A st S f) (q:Nat) (z:Int) (hq:1≤q∧q≤65536) (hz:-1≤z∧z≤9223372036854775807) :
  Calls Tryz.prog 266 #[.pointer (some ⟨B.n0,0,none⟩),.int .i64 (q:Int),.int .i64 z] w fun e w'=>e=.returned (.tuple #[])∧aa [B.mb] w w'∧lM w' B F A st S (fun y=>if y=(q:Int) then (if z=-1 then none else some z) else f y):=by
 have h2:=h.h2;have ht:=h.top;have H:=χ h
 by_cases he:z=-1
 ·subst he;clear h
  go_enter Tryz.func266,Tryz.ntmps266
  go_wp2_with (refine ma rfl _ _ rfl B.mb f rfl ht q rfl ω ?_;intro w1 hm1 hu1)
  go_end0;exact ⟨rfl,hu1,H.out.Px hu1 hm1⟩
 ·have hb:(z == -1)=false:=by simpa using he
  rw [if_neg he];clear h he
  go_enter Tryz.func266,Tryz.ntmps266
  go_wp2_with (refine jI rfl _ _ _ rfl B.mb f rfl ht q z rfl rfl ω ω ?_;intro w1 hm1 hu1)
  go_end0;exact ⟨rfl,hu1,H.out.Px hu1 hm1⟩
theorem xC (h:lM w B F A st S f) {fr:Fr} {P:List Fr} {t:BT} (hT:bG S (-1) (ae (fr::P) t).root (ae (fr::P) t)) (hn:(ae (fr::P) t).nodes.Nodup) (hlt:∀y,y∈(ae (fr::P) t).nodes→y<A.cs.length) :
  Calls Tryz.prog 269 #[.pointer (some ⟨B.n0,0,none⟩),.int .i64 (tv t.root),.bool (tb t.root)] w fun e w'=>e=.returned (.int .i64 t.root)∧aa [B.ba] w w'∧
   ∃S',lM w' B F A st S' f∧bG S' (-1) t.root t∧bG S' (-1) (ae (fr::P) .nil).root (ae (fr::P) .nil)∧∀y,y∉(ae (fr::P) t).nodes→S.at S' y:=by
 have h1:=h.h1
 by_cases ht:t=.nil
 ·subst ht;rw [show tv (BT.root .nil)=0 from rfl,show tb (BT.root .nil)=false from rfl,show BT.root .nil=-1 from rfl]
  have H:=χ (ψ h hT);clear h hT hn hlt
  go_enter Tryz.func269,Tryz.ntmps269
  go_wp2;go_ret;exact ⟨rfl,aa.refl _ _,S,H.out.1,rfl,H.out.2,fun y _=>⟨rfl,rfl,rfl⟩⟩
 ·obtain ⟨r,hr⟩:∃r:Nat,t.root=r:=⟨_,BT.uA ht⟩
  have kc:=lG h.trees hT hn hlt;rw [show tv t.root=(r:Int) by rw [hr];unfold tv;rw [if_neg ω],show tb t.root=true by rw [hr];unfold tb;simp]
  have H:=χ h;have HR:=χ hr;rw [hr] at kc;generalize tb (r:Int)=bb at kc;generalize cutV fr t=cv at kc;clear h hT hn hlt hr
  go_enter Tryz.func269,Tryz.ntmps269
  go_wp2_with (first
   | ((go_at_call 244;(with_reducible refine (kc).mono ?_));rintro e w1 ⟨rfl,hu1,S1,hT1,ha1,hp1,hs1⟩)
   | fail)
  go_ret;rw [HR.out];exact ⟨rfl,hu1,S1,H.out.fM hu1 hT1,ha1,hp1,hs1⟩
end
def oG (x:Nat) (l m:BT):BT:=.node x m l
theorem ry:Jj oG where
 nodes:=fun x l r=>by
  unfold oG;simp only [BT.nodes];exact List.perm_append_comm.cons x
 heap:=fun A x l r h1 h2 hl hr=>⟨h2,h1,hr,hl⟩
 root:=fun x l r=>rfl
theorem zk {S:TS} {p:Int} {x:Nat} {l r:BT} (h:bG S p x (.node x l r)) (hn:(BT.node x l r).nodes.Nodup):bG (gX S x) p x (.node x r l)∧∀y,y≠x→S.at (gX S x) y:=by
 have hs:∀y,y≠x→S.at (gX S x) y:=fun y hy=>by
  unfold gX TS.aD TS.at;simp [hy]
 have hl:(gX S x).l x=S.r x:=by unfold gX TS.aD;simp
 have hr:(gX S x).r x=S.l x:=by unfold gX TS.aD;simp
 have hu:(gX S x).u x=S.u x:=by unfold gX TS.aD;simp
 simp only [BT.nodes,List.nodup_cons,List.mem_append,not_or] at hn;refine ⟨Kw (hu.trans h.2.1) ?_ ?_,hs⟩
 ·rw [hl];exact h.2.2.2.frame (fun y hy=>hs y (fun e=>hn.1.2 (by rw [←e];exact hy)))
 ·rw [hr];exact h.2.2.1.frame (fun y hy=>hs y (fun e=>hn.1.1 (by rw [←e];exact hy)))
section
variable {w:World} {B:SB} {F:List Nat} {A:NS} {st:Nat} {S:TS} {f:Int→Option Int}
theorem GJ (h:lM w B F A st S f) {p:Int} {x:Nat} {l r:BT} (hT:bG S p x (.node x l r)) (hx:x<A.cs.length) (hr:∀y,y∈r.nodes→y<A.cs.length) :
  Calls Tryz.prog 269 #[.pointer (some ⟨B.n0,0,none⟩),.int .i64 (tv r.root),.bool (tb r.root)] w fun e w'=>e=.returned (.int .i64 r.root)∧aa [B.ba] w w'∧lM w' B F A st (xx S x r) f:=by
 have h1:=h.h1;cases r with
 | nil=>
  rw [show tv (BT.root .nil)=0 from rfl,show tb (BT.root .nil)=false from rfl,show BT.root .nil=-1 from rfl]
  have H:=χ h;clear h hT hr
  go_enter Tryz.func269,Tryz.ntmps269
  go_wp2;go_ret;exact ⟨rfl,aa.refl _ _,H.out⟩
 | node y a b=>
  obtain ⟨_,_,_,hr'⟩:=hT;have e2:S.u y=x:=hr'.2.1;have kc:=zY B.bt B.ba A.cs.length S x y w h.trees hx (hr y (by simp [BT.nodes])) e2
  rw [show tv (BT.root (.node y a b))=(y:Int) by show tv (y:Int)=y;unfold tv;rw [if_neg ω],show tb (BT.root (.node y a b))=true by show tb (y:Int)=true;unfold tb;simp,show BT.root (.node y a b)=(y:Int) from rfl]
  have H:=χ h;clear h hr hr' e2
  go_enter Tryz.func269,Tryz.ntmps269
  go_wp2_with (first
   | ((go_at_call 244;(with_reducible refine (kc).mono ?_));rintro e w1 ⟨rfl,hT1,hu1⟩)
   | fail)
  go_ret;exact ⟨rfl,hu1,H.out.fM hu1 hT1⟩
theorem DU (h:lM w B F A st S f) {p:Int} {x:Nat} {l r:BT} (hT:bG S p x (.node x l r)) (hx:x<A.cs.length) :
  Calls Tryz.prog 249 #[.pointer (some ⟨B.bt,0,none⟩),.int .i64 (x:Int)] w fun e w'=>e=.returned (.tuple #[.int .i64 (tv r.root),.bool (tb r.root)])∧aa [] w w':=by
 refine (rO h.trees hT hx).mono ?_;rintro e w' ⟨rfl,k,rfl⟩;exact ⟨rfl,(aa.refl _ _).drewN k⟩
theorem vV (t:BT):-1≤t.root:=by cases t with
 | nil=>exact Int.le_refl _
 | node x l r=>show (-1:Int)≤(x:Int);omega
theorem rQ (h:lM w B F A st S f) {ta tb:BT} (ha:bG S (-1) ta.root ta) (hb:bG S (-1) tb.root tb) (hX:(ta.nodes++tb.nodes).Nodup) (hin:∀y,y∈ta.nodes++tb.nodes→bD A (y:Int)=true) :
  Calls Tryz.prog 267 #[.pointer (some ⟨B.n0,0,none⟩),.int .i64 ta.root,.int .i64 tb.root] w fun e w'=>e=.returned (.int .i64 (aF oG A ta tb).1.root)∧aa [B.c,B.ba] w w'∧
   ∃S',lM w' B F A (bC st (aF oG A ta tb).2) S' f∧bG S' (-1) (aF oG A ta tb).1.root (aF oG A ta tb).1∧∀y,y∉ta.nodes++tb.nodes→S.at S' y:=by
 have hblk:=h.lt;have hcF:=h.cF;have hbl0:=hblk B.n0 (by simp [SB.blk])
 have hbl1:=hblk B.bt (by simp [SB.blk])
 have hbl2:=hblk B.ba (by simp [SB.blk])
 have hbl4:=hblk B.c (by simp [SB.blk,hcF])
 have hs:=χ h.sep;have hA:=h.cells.ok.c1;have hlt:Hid (∀y,y∈ta.nodes++tb.nodes→y<A.cs.length):=fun y hy=>((af A y).1 (hin y hy)).1
 have hXl:(ta.nodes++tb.nodes).length≤A.cs.length:=j6 hX hlt.out;have HM0:=χ h;have HBL:=χ hblk;have D0:=χ (Down.start oG A ha hb);have HIN:=χ hin;have HX:=χ hX;have hst:=h.cells.mE;clear h ha hb hblk hcF hin hX
 go_enter Tryz.func267,Tryz.ntmps267
 go_wp2
 go_loopw [1,2,7] (fun a b way wr=>∃ (S1:TS) (W:List (Nat×BT)) (a1 b1:BT),a=.int .i64 a1.root∧b=.int .i64 b1.root∧wr.ownsRow w.heap.size 3 1 way W.length (Dy W)∧lM wr B F A (bC st W.length) S1 f∧Down oG A S ta tb S1 W a1 b1∧aa [B.c,B.ba] w wr) (fun _ _ way _=>(ta.nodes++tb.nodes).length-lenOf way)
 case atStart=>
  exact ⟨S,[],ta,tb,rfl,rfl,⟨by simp [Dy,aH],Or.inl ⟨rfl,rfl⟩⟩,by rw [List.length_nil,dW hst];exact HM0.out.aj β,D0.out,β⟩
 case round=>
  obtain ⟨S1,W,a1,b1,rfl,rfl,ho,hM,hD,hu⟩:=hrel;have HM:=χ hM;have HD:=χ hD;have HO:=χ ho;have hlen:=hD.len;have h0:=hM.h0;have h1:=hM.h1;clear hM hD;obtain ⟨a5,c5,rfl,hc5⟩:=aR ho;have hob:∀g,(Value.slice a5 W.length c5).ownBlock=some g→w.heap.size≤g:=fun g hg=>(ho.lt g hg).1
  have HOB:=χ hob;clear ho hob
  by_cases hne:a1=.nil∨b1=.nil
  ·obtain ⟨m0,e0,U0,hcnt,hor⟩:=HD.out.turn hne;have hz:(a1.root=-1∧b1.root=m0.root)∨(a1.root≠-1∧b1.root=-1∧a1.root=m0.root):=by
    by_cases e:a1.root=-1
    ·rw [if_pos e] at e0;exact Or.inl ⟨e,e0.symm⟩
    ·rw [if_neg e] at e0;refine Or.inr ⟨e,?_,e0.symm⟩;rcases hne with rfl|rfl
     ·exact absurd rfl e
     ·rfl
   have HU:=χ (ψ U0 hcnt);have hWl:=U0.len;have HUP:=χ hu;rw [←hcnt] at HM;have hzge:=vV m0;clear hne hor U0 HD hcnt hu hlen h0 e0;generalize a1.root=za at *
   generalize b1.root=zb at *
   have e9:∃z9,m0.root=z9:=⟨_,rfl⟩
   obtain ⟨z9,e9⟩:=e9;rw [e9] at hz hzge;generalize hn0:W.length=n0 at *
   have HN0:=χ hn0;clear hn0;have hz':(za=-1∧zb=-1∧z9=-1)∨(za=-1∧zb=z9∧z9 > -1)∨(za=z9∧zb=-1∧z9 > -1):=ω;clear hz hzge;rcases hz' with ⟨rfl,rfl,rfl⟩|⟨rfl,rfl,hzg⟩|⟨rfl,rfl,hzg⟩
   all_goals
    try (have hz2:(za != -1)=true:=ζ)
    try (have hz3:¬ ((-1:Int) > za):=ω)
    go_wp2
    go_loopw [8,9] (fun top i w5=>∃ (S2:TS) (W2 U2:List (Nat×BT)) (m:BT),W=W2++U2∧top=.int .i64 m.root∧i=.int .i64 ((W2.length:Int)-1)∧lM w5 B F A (bC st (aF oG A ta tb).2) S2 f∧Nj oG S (ta.nodes++tb.nodes) (aF oG A ta tb).1 S2 W2 m∧aa [B.ba] wr w5) (fun _ i _=>((intOf i)+1).toNat)
    case atStart=>exact ⟨S1,W,[],m0,σ,by rw [e9],by rw [HN0.out],HM.out,HU.out.1,aa.refl _ _⟩
    case round=>
     obtain ⟨S2,W2,U2,m,rfl,rfl,rfl,hM,hU,hu⟩:=hrel;rename World=>w5
     rcases List.eq_nil_or_concat W2 with rfl|⟨W3,⟨x,l⟩,rfl⟩
     ·have e0:=hU.res;simp only [qV] at e0;simp only [List.length_nil];go_wp2;go_ret;rw [e0];exact ⟨rfl,HUP.out.trans (hu.mono σ),S2,hM,hU.PK,fun y hy=>hU.far y hy⟩
     ·have hpx:=hU.perm;simp only [List.concat_eq_append] at *
      rw [mK,List.append_assoc] at hpx;have hin3:∀q,q∈(x::l.nodes)++m.nodes→q<A.cs.length:=fun q hq=>hlt.out q (hpx.mem_iff.1 (List.mem_append_right _ hq))
      have hnd:((x::l.nodes)++m.nodes).Nodup:=(List.nodup_append.1 (hpx.nodup_iff.2 HX.out)).2.1;have hxA:=hin3 x σ;obtain ⟨g,cap,ee,hI,hg⟩:=IZ.gJ (l:=(W3++[(x,l)]++U2).map fun p=>(p.1:Int)) (by rw [List.length_map,HN0.out];exact ay HO.out hu (fun k hk=>by have:=HOB.out k hk;simp;omega)) ζ
      rw [List.length_map,HN0.out] at ee
      injection ee with ee1 ee2 ee3
      subst ee1 ee3;have dz:=hI.cell W3.length σ;rw [show (((W3++[(x,l)]++U2).map fun p=>(p.1:Int)).getD W3.length 0)=(x:Int) by simp [φ]] at dz
      have h1:=hM.h1;have HM5:=χ hM;have HU5:=χ hU;have HN5:=χ (ψ hin3 hnd);have hTx:=hU.way (x,l) σ;have HTX:=χ hTx;have hil:((W3++[(x,l)]).length:Int)-1=W3.length:=σ;rw [hil];have hi0:((W3.length:Int)≥0):=ω;have hWn:W3.length+1+U2.length=n0:=by have:=HN0.out;simp at this;omega
      have hib2:(W3.length:Int)<(n0:Int):=ω;have hW3:W3.length≤65536:=ω;clear hM hU hin3 hnd hTx hpx hil hI ee2
      by_cases hm:m=.nil
      ·subst hm;simp only [BT.root];have hT2:bG S2 (-1) x (.node x l .nil):=HTX.out;obtain ⟨hT3,hS3⟩:=zk hT2 (by simpa [BT.nodes] using HN5.out.2)
       have kt:=wu B.bt B.ba A.cs.length S2 x w5 HM5.out.trees hxA;have HT3:=χ (ψ hT3 hS3);clear hT2 hT3 hS3
       go_wp2_with (first
        | ((go_at_call 259;(with_reducible refine (kt).mono ?_));rintro e w6 ⟨rfl,hT6,hu6⟩)
        | fail)
       refine ⟨⟨gX S2 x,W3,(x,l)::U2,oG x l .nil,σ,rfl,by go_num,HM5.out.fM hu6 hT6,HU5.out.turn ry HX.out HT3.out.1 (fun y h1 _ _=>HT3.out.2 y h1),hu.trans hu6⟩,by simp [intOf]⟩
      ·obtain ⟨mr,hmr⟩:∃mr:Nat,m.root=mr:=⟨_,BT.uA hm⟩
       have hmm:=(bg hm).1;rw [hmr,π] at hmm;have hT2:bG S2 (-1) x (.node x l .nil):=HTX.out;have hTm:=HU5.out.PK;have hur:S2.u mr=-1:=by
        cases m with
        | nil=>exact absurd rfl hm
        | node q a b=>
         have e:q=mr:=by have e':(q:Int)=mr:=hmr;omega
         subst e;exact hTm.2.1
       have hnd:=HN5.out.2;have hxm:x≠mr:=fun e=>by
        rw [List.nodup_append] at hnd;exact hnd.2.2 x σ mr hmm e
       obtain ⟨hT3,hS3⟩:=zn (m:=m) hT2 hTm hm (by simpa [BT.nodes] using hnd)
       rw [hmr] at hT3 hS3;obtain ⟨hT4,hS4⟩:=zk hT3 (by simpa [BT.nodes] using hnd)
       have HT3:=χ (ψ hT3 (ψ hm (ψ hS3 (ψ hT4 hS4))));have kh:=wz B.bt B.ba A.cs.length S2 x mr true w5 (HM5.out.trees) hxA (HN5.out.1 mr (List.mem_append_right _ hmm)) hxm hur hT2.2.2.2;have HMR:=χ hmr;rw [hmr];have hz4:((mr:Int) != -1)=true:=σ;clear hT2 hTm hur hnd hT3 hS3 hT4 hS4 hm hmr hmm
       go_wp2_with (first
        | ((go_at_call 251;(with_reducible refine (kh).mono ?_));rintro e w6 ⟨rfl,hT6,hu6⟩;(have h16:=(HM5.out.fM hu6 hT6).h1);(have kt:=wu B.bt B.ba A.cs.length _ x w6 hT6 hxA))
        | ((go_at_call 259;(with_reducible refine (kt).mono ?_));rintro e w7 ⟨rfl,hT7,hu7⟩)
        | fail)
       refine ⟨⟨_,W3,(x,l)::U2,oG x l m,σ,rfl,by go_num,(HM5.out.fM hu6 hT6).fM hu7 hT7,HU5.out.turn ry HX.out HT3.out.2.2.2.1 (fun y h1 _ h3=>?_),(hu.trans hu6).trans hu7⟩,by simp [intOf]⟩
       have a1:=HT3.out.2.2.1 y h1 h3;have a2:=HT3.out.2.2.2.2 y h1;exact ⟨a2.1.trans a1.1,a2.2.1.trans a1.2.1,a2.2.2.trans a1.2.2⟩
  ·obtain ⟨x,l,r,rfl⟩:∃x l r,a1=.node x l r:=by
    cases a1 with
    | nil=>exact absurd (Or.inl rfl) hne
    | node x l r=>exact ⟨x,l,r,rfl⟩
   obtain ⟨y,l',r',rfl⟩:∃x l r,b1=.node x l r:=by
    cases b1 with
    | nil=>exact absurd (Or.inr rfl) hne
    | node x l r=>exact ⟨x,l,r,rfl⟩
   clear hne;have hmx:∀z,z∈(BT.node x l r).nodes++(BT.node y l' r').nodes→z∈ta.nodes++tb.nodes:=fun z hz=>HD.out.perm.mem_iff.1 (List.mem_append_right _ hz)
   have hxm:=hmx x (by simp [BT.nodes])
   have hym:=hmx y (by simp [BT.nodes])
   have hWl:W.length+2≤(ta.nodes++tb.nodes).length:=by simp only [BT.nodes,List.length_cons,List.length_append] at hlen ⊢;omega
   have HMX:=χ hmx;have hxb:((x:Int) != -1)=true:=σ;have hyb:((y:Int) != -1)=true:=σ;clear hmx hlen;have kA:=dC HM.out.cells y x (HIN.out y hym) (HIN.out x hxm);obtain ⟨sw,hsw⟩:∃sw,decide (bH A y x)=sw:=⟨_,rfl⟩
   rw [hsw] at kA;have KEY:∃ (z:Nat) (lz rz o:BT),z=(if sw then y else x)∧Down oG A S ta tb (xx S1 z rz) (W++[(z,lz)]) rz o∧bG S1 (-1) z (.node z lz rz)∧z<A.cs.length∧(∀q,q∈rz.nodes→q<A.cs.length)∧o.root=(if sw then (x:Int) else (y:Int)):=by
    cases sw with
    | true=>
     exact ⟨y,l',r',.node x l r,rfl,HD.out.takeB HX.out (of_decide_eq_true hsw),HD.out.PG,hlt.out y hym,fun q hq=>hlt.out q (HMX.out q (by simp [BT.nodes,hq])),rfl⟩
    | false=>
     exact ⟨x,l,r,.node y l' r',rfl,HD.out.takeA HX.out (of_decide_eq_false hsw),HD.out.PD,hlt.out x hxm,fun q hq=>hlt.out q (HMX.out q (by simp [BT.nodes,hq])),rfl⟩
   obtain ⟨z,lz,rz,o,ez,hD2,hTz,hz,hrz,eo⟩:=KEY;have HD2:=χ hD2;have HT:=χ hTz;have HQ:=χ hrz;clear hD2 hTz hrz hsw;simp only [BT.root];cases sw
   all_goals
    simp only [if_true,if_false,Bool.false_eq_true] at ez eo;subst ez
    go_wp2_with fail
    refine kA.mono ?_;rintro e w1 ⟨rfl,hC1,hu1⟩;have hM1:=χ (HM.out.bI (hu1.mono (by simp [HM.out.cF])) hC1 (fun x hx=>Or.inl hx) rfl)
    have hss:bC (bC st W.length) 1=bC st (W.length+1):=gz _ _ _;rw [hss] at hM1;have ho1:=ay HO.out hu1 (fun k hk=>by have:=HOB.out k hk;simp;omega)
    have h01:=hM1.out.h0;have h11:=hM1.out.h1;clear h0 h1 kA hss;have HUW:=χ (ψ hu hu1);clear hu hu1 hC1;have HGB:Hid (∀g,g∈(Value.slice a5 W.length c5).ownBlock.toList→g∉B.blk F):=fun g hg hb=>by
     have h1:=HOB.out g (Option.mem_toList.1 hg);have h2:=HBL.out g hb;omega
    have hsz1:w.heap.size≤w1.heap.size:=(HUW.out.1.trans (HUW.out.2.mono σ)).size
    go_wp2_with (first
     | ((at_builtin;refine aC rfl _ _ 26 rfl w.heap.size 3 (.int .i64 0) 1 8 Tryz.underlying26 cK rfl δ _ _ _ rfl (ho1) [.int .i64 (z:Int)] rfl (by simp [Value.oneCell']) (by first|rfl|(rw [World.size_alloc];rfl)) μ ω (ω) ?_;intro v2 w2 ho2 hu2 hsep2);(have hM2:=χ (hM1.out.upd hu2 HGB.out));(have k12:=hM2.out.h1);(have kr:=DU hM2.out HT.out hz))
     | (go_at_call 249;(with_reducible refine (kr).mono ?_);rintro e w3 ⟨rfl,hu3⟩;(have hM3:=χ (hM2.out.aj hu3));(have kc:=GJ hM3.out HT.out hz HQ.out))
     | (go_at_call 269;(with_reducible refine (kc).mono ?_);rintro e w4 ⟨rfl,hu4,hM4⟩)
     | fail)
    obtain ⟨a6,c6,rfl,hc6⟩:=aR ho2;have hob2:∀k,(Value.slice a6 (W.length+1) c6).ownBlock=some k→w.heap.size≤k:=fun k hk=>(ho2.lt k hk).1
    refine ⟨⟨_,W++[(z,lz)],rz,o,rfl,congrArg (Value.int .i64) eo.symm,?_,?_,HD2.out,?_⟩,?_⟩
    ·rw [zg,List.length_append,List.length_singleton];exact ay (ay ho2 hu3 σ) hu4 (fun k hk=>by have:=hob2 k hk;simp;omega)
    ·rw [List.length_append,List.length_singleton];exact hM4
    ·have v1:aa [B.c,B.ba] w w1:=HUW.out.1.trans (HUW.out.2.mono σ);have v2:aa [B.c,B.ba] w w2:=v1.joined hu2 (fun g hg=>Or.inr (HOB.out g (Option.mem_toList.1 hg)))
     exact (v2.trans (hu3.mono σ)).trans (hu4.mono σ)
    ·show (ta.nodes++tb.nodes).length-(W.length+1)<(ta.nodes++tb.nodes).length-W.length
     omega
end
def oh (A:NS) (tr:Nat→BT) (q:Int):Option Int:=if 1≤q∧q<A.hs.length then (if (tr q.toNat).root=-1 then none else some (tr q.toNat).root) else none
def sj (A:NS) (tr:Nat→BT):List Int:=(List.range A.hs.length).map fun h=>(tr h).root
theorem sM.Kr {K:LD} {A:NS} {S:TS} {ah:List Int} {tr:Nat→BT} (h:sM K A S ah tr):sM K A S (sj A tr) tr:=
 ⟨fun q hq=>by unfold sj;simp [φ,hq],h.Aw,h.mem,h.nd,h.heap,h.free⟩
def jU (w:World) (B:SB) (F:List Nat) (A:NS) (st:Nat) (tr:Nat→BT):Prop:=∃S,lM w B F A st S (oh A tr)∧PI A S (sj A tr) tr
theorem xk (A:NS) (tr:Nat→BT) (q:Nat) (h:1≤q∧q<A.hs.length):Ik (oh A tr (q:Int))=(tr q).root:=by
 unfold oh Ik;rw [if_pos ω,π]
 split
 ·rename_i e;rw [e];rfl
 ·rfl
theorem lM.ext {w:World} {B:SB} {F:List Nat} {A:NS} {st:Nat} {S:TS} {f g:Int→Option Int} (h:lM w B F A st S f) (e:∀k,f k=g k):lM w B F A st S g:=⟨h.head,h.cells,h.trees,h.top.ext e,h.aZ,h.sep⟩
theorem xR {A A':NS} {tr:Nat→BT} {q:Nat} {t:BT} (hl:A'.hs.length=A.hs.length) (hq:1≤q∧q<A.hs.length) (k:Int):(if k=(q:Int) then (if t.root=-1 then none else some t.root) else oh A tr k)=oh A' (fun y=>if y=q then t else tr y) k:=by
 by_cases e:k=(q:Int)
 ·subst e;have e1:oh A' (fun y=>if y=q then t else tr y) (q:Int)=(if t.root=-1 then none else some t.root):=by
   unfold oh;rw [hl,if_pos (show 1≤(q:Int)∧(q:Int)<A.hs.length by omega)]
   have:(fun y=>if y=q then t else tr y) (q:Int).toNat=t:=σ
   rw [this]
  rw [e1,if_pos rfl]
 ·have e1:oh A' (fun y=>if y=q then t else tr y) k=oh A tr k:=by
   unfold oh;rw [hl]
   by_cases h:1≤k∧k<A.hs.length
   ·rw [if_pos h,if_pos h];have:(fun y=>if y=q then t else tr y) k.toNat=tr k.toNat:=by
     show (if k.toNat=q then t else tr k.toNat)=_
     rw [if_neg ω]
    rw [this]
   ·rw [if_neg h,if_neg h]
  rw [e1,if_neg e]
theorem Nh {A:NS} {S:TS} {ah:List Int} {tr:Nat→BT} (h:PI A S ah tr) (hA:A.cs.length≤65536) {t:BT} (ht:∀y,y∈t.nodes→y<A.cs.length):-1≤t.root∧t.root≤9223372036854775807:=by
 refine ⟨vV t,?_⟩
 by_cases e:t=.nil
 ·rw [e];show (-1:Int)≤_;omega
 ·have h1:=bg e;have h2:=ht _ h1.1;omega
section
variable {w:World} {B:SB} {F:List Nat} {A:NS} {st:Nat} {tr:Nat→BT}
theorem jU.upd {w':World} {G:List Nat} (h:jU w B F A st tr) (hu:aa G w w') (hG:∀x,x∈G→x∉B.blk F):jU w' B F A st tr:=by
 obtain ⟨S,hM,hI⟩:=h;exact ⟨S,hM.upd hu hG,hI⟩
theorem jU.aj {w':World} (h:jU w B F A st tr) (hu:aa [] w w'):jU w' B F A st tr:=h.upd hu σ
theorem Cz (h:jU w B F A st tr) (hh x:Nat) (k s:Int) (hk:-9223372036854775808≤k∧k≤9223372036854775807∧0≤s∧s≤18446744073709551615) (hB:jy A hh x=true) :
  Calls Tryz.prog 263 #[.pointer (some ⟨B.n0,0,none⟩),.int .i64 (hh:Int),.int .i64 (x:Int),.agg #[.int .i64 k,.int .u64 s]] w fun e w'=>e=.returned (.bool true)∧aa (B.blk F) w w'∧
   jU w' B F (aB A hh x k s) (bC st (aF oG (aB A hh x k s) (tr hh) (single x)).2) (fun q=>if q=hh then (aF oG (aB A hh x k s) (tr hh) (single x)).1 else tr q):=by
 obtain ⟨S,hM,hI⟩:=h;have hlt:=hM.lt;have ok:=hM.cells.ok;obtain ⟨b1,b2,b3⟩:=(cB _ _ _).1 hB;have b4:=(aK _ _).1 b1;have hx:x<A.cs.length:=by have:=(dK _ _).1 b2;omega
 have h0x:(A.c x).i=0:=by
  have:=(ok.nat x hx).1;have h3:¬ (0<(A.c x).i):=fun h'=>by rw [(af A x).2 ⟨hx,h'⟩] at b3;cases b3
  omega
 have hcs:(aB A hh x k s).cs.length=A.cs.length:=by unfold aB;rw [if_pos hB,dI]
 have hhs:(aB A hh x k s).hs.length=A.hs.length:=by unfold aB;rw [if_pos hB];rfl
 have hcx:∀y,(aB A hh x k s).c y=if y=x then ⟨hh,k,s⟩ else A.c y:=fun y=>by
  unfold aB;rw [if_pos hB,π,iD]
  by_cases e:y=x
  ·rw [if_pos ⟨e,hx⟩,if_pos e]
  ·rw [if_neg (fun h=>e h.1),if_neg e]
 have hxn:x∉(tr hh).nodes:=hI.out h0x;have hX:((tr hh).nodes++(single x).nodes).Nodup:=by
  rw [List.nodup_append];refine ⟨hI.nd hh,by simp [single,BT.nodes],fun a ha b hb e=>?_⟩
  simp only [single,BT.nodes,List.append_nil,List.mem_singleton] at hb;exact hxn (by rw [←hb,←e];exact ha)
 have hin:∀y,y∈(tr hh).nodes++(single x).nodes→bD (aB A hh x k s) (y:Int)=true:=fun y hy=>by
  rw [af,hcs,hcx];simp only [single,BT.nodes,List.append_nil,List.mem_append,List.mem_singleton] at hy
  by_cases e:y=x
  ·rw [if_pos e,e];exact ⟨hx,by show (0:Int)<(hh:Int);omega⟩
  ·rw [if_neg e];have:=(hI.mem hh y).1 (hy.resolve_right e);exact ⟨this.2.1,ω⟩
 have hHx:Heap (aB A hh x k s) (tr hh):=(hI.heap hh).frame (fun y hy=>by rw [hcx,if_neg (fun e=>hxn (by rw [←e];exact hy))])
 obtain ⟨mp,mh⟩:=jJ ry (aB A hh x k s) _ (tr hh) (single x) (Nat.le_refl _);have mh':=mh hHx ⟨by simp [BT.nodes],by simp [BT.nodes],trivial,trivial⟩ hX
 have hfr:=hI.free x hx h0x;have hTh:=hI.Aw hh;have hq:1≤hh∧hh<A.hs.length:=ω;have hb65:=ok.h1
 have hmr:=Nh hI ok.c1 (t:=(aF oG (aB A hh x k s) (tr hh) (single x)).1) (fun y hy=>by
  have h1:=mp.mem_iff.1 hy;have:=(af _ y).1 (hin y h1)
  rw [hcs] at this;exact this.1)
 have hfst:=xk A tr hh hq
 have FI:Hid (∀ (W:World) (S':TS) (st':Nat),lM W B F (aB A hh x k s) st' S' (fun y=>if y=(hh:Int) then (if (aF oG (aB A hh x k s) (tr hh) (single x)).1.root=-1 then none else some (aF oG (aB A hh x k s) (tr hh) (single x)).1.root) else oh A tr y)→bG S' (-1) (aF oG (aB A hh x k s) (tr hh) (single x)).1.root (aF oG (aB A hh x k s) (tr hh) (single x)).1→
   (∀y,y∉(tr hh).nodes++(single x).nodes→S.at S' y)→jU W B F (aB A hh x k s) st' (fun q=>if q=hh then (aF oG (aB A hh x k s) (tr hh) (single x)).1 else tr q)):=fun W S' st' a1 a2 a4=>
  ⟨S',a1.ext (xR hhs hq),(hI.put ok (by simp [sj]) hB a2 mp mh' (fun y hy=>a4 y hy)).Kr⟩
 have u1:aa [] w (w.alloc (.cells #[.int .i64 k,.int .u64 s] 129)):=(aa.refl _ _).alloc _;have kp:=fun W (hW:aa [] (w.alloc (.cells #[.int .i64 k,.int .u64 s] 129)) W)=>kV (hM.cells.aj (u1.trans hW)) hh x k s hk hB
 have h0:=hM.h0;have hbF:B.n0∉F:=hM.aZ.1;have hsz:w.heap.size∉F:=fun hm=>by have:=hlt w.heap.size (by simp [SB.blk,hm]);omega
 have r0:∀W,aa F (w.alloc (.cells #[.int .i64 k,.int .u64 s] 129)) W→W.cell? ⟨B.n0,0,none⟩=some (.pointer (some ⟨B.c,0,none⟩)):=fun W hW=>hW.kept (u1.was h0) hbF
 have r1:∀W,aa F (w.alloc (.cells #[.int .i64 k,.int .u64 s] 129)) W→W.cell? ⟨w.heap.size,0,none⟩=some (.int .i64 k):=fun W h=>h.kept σ hsz
 have r2:∀W,aa F (w.alloc (.cells #[.int .i64 k,.int .u64 s] 129)) W→W.cell? ⟨w.heap.size,1,none⟩=some (.int .u64 s):=fun W h=>h.kept σ hsz
 have HM:=χ hM;have HH:=χ (ψ hX (ψ hin (ψ hTh hfr)));have hcF:=hM.cF;clear hM hI ok b1 b2 b3 h0x hcx hxn hX hin hHx mp mh mh' hfr h0 hlt hTh;generalize hA':aB A hh x k s=A' at *
 generalize htr:tr hh=th at *
 go_enter Tryz.func263,Tryz.ntmps263
 go_wp2
 go_region_held3 (aa F (w.alloc (.cells #[.int .i64 k,.int .u64 s] 129))) (repeat (first|assumption|exact aa.refl _ _|refine aa.drew ?_|refine aa.alloc ?_ _|refine aa.setCell ?_ ?_ _|focus (left;simp;done)|focus (right;simp;done)|focus (right;simp;omega)|(apply aa.trans;rotate_left;assumption)))
  ((go_at_call 154;(with_reducible refine (kp _ β).mono ?_);rintro e w1 ⟨rfl,hC1,hu1⟩;(have hu2:aa F (w.alloc (.cells #[.int .i64 k,.int .u64 s] 129)) w1:=by (repeat (first|assumption|exact aa.refl _ _|refine aa.drew ?_|refine aa.alloc ?_ _|refine aa.setCell ?_ ?_ _|focus (left;simp;done)|focus (right;simp;done)|focus (right;simp;omega)|(apply aa.trans;rotate_left;assumption))))))
 have uF:aa F w (w.alloc (.cells #[.int .i64 k,.int .u64 s] 129)):=u1.mono σ;have hM1:=HM.out.bI (uF.trans hu2) hC1 (fun y hy=>Or.inl hy) hcs
 have hw1:aa F w w1:=uF.trans hu2;have k1:=oo hM1 (hh:Int) ω;rw [hfst] at k1;have km:=rQ hM1 HH.out.2.2.1 (rD HH.out.2.2.2) HH.out.1 HH.out.2.1;rw [show (single x).root=(x:Int) from rfl] at km
 clear r0 r1 r2 kp hu1 hu2 hC1 uF hM1
 go_wp2_with (first
  | (go_at_call 268;(with_reducible refine (k1).mono ?_);rintro e w9 ⟨rfl,hw9⟩;rw [hw9];clear hw9 w9)
  | ((go_at_call 267;(with_reducible refine (km).mono ?_));rintro e w2 ⟨rfl,hu2,S2,hM2,hT2,hs2⟩;(have kc:=rE hM2 hh _ ω hmr))
  | ((go_at_call 266;(with_reducible refine (kc).mono ?_));rintro e w3 ⟨rfl,hu3,hM3⟩)
  | fail)
 go_ret;refine ⟨rfl,((hw1.mono (fun y hy=>by simp only [SB.blk,List.mem_cons];simp [hy])).trans (hu2.mono (fun y hy=>?_))).trans (hu3.mono (by simp [SB.blk])),FI.out _ S2 _ hM3 hT2 hs2⟩
 simp only [List.mem_cons,List.not_mem_nil,or_false] at hy;simp only [SB.blk,List.mem_cons];rcases hy with rfl|rfl
 ·simp [hcF]
 ·simp
theorem Gi (h:jU w B F A st tr) (x:Int) (hx:-9223372036854775808≤x∧x≤9223372036854775807) (hn:cu A x=0) :
  Calls Tryz.prog 265 #[.pointer (some ⟨B.n0,0,none⟩),.int .i64 x] w fun e w'=>e=.returned (.tuple #[.int .i64 0,.bool false])∧w'=w:=by
 obtain ⟨S,hM,hI⟩:=h;have hr:Ik (oh A tr x)=-1:=by
  unfold oh
  split
  ·rename_i hq
   have:(tr x.toNat)=.nil:=by
    cases e:tr x.toNat with
    | nil=>rfl
    | node y a b=>
     have:=(hI.mem x.toNat y).1 (by rw [e];simp [BT.nodes])
     have:0<cu A x:=dG.2 ⟨y,this.2.1,by show (A.c y).i=x;omega,by omega⟩
     omega
   rw [this];rfl
  ·rfl
 have k:=oo hM x hx;rw [hr] at k;clear hM hI
 go_enter Tryz.func265,Tryz.ntmps265
 go_wp2_with (first|(go_at_call 268;(with_reducible refine (k).mono ?_);rintro e w9 ⟨rfl,hw9⟩;rw [hw9];clear hw9 w9)|fail)
 go_ret2;exact ⟨rfl,rfl⟩
theorem zD (h:jU w B F A st tr) (g:Nat) (hn:0<cu A g) :
  Calls Tryz.prog 265 #[.pointer (some ⟨B.n0,0,none⟩),.int .i64 (g:Int)] w fun e w'=>∃m:Nat,bL A g=some m∧(tr g).root=m∧e=.returned (.tuple #[.int .i64 (m:Int),.bool true])∧w'=w:=by
 obtain ⟨S,hM,hI⟩:=h;obtain ⟨m,hm1,hm2⟩:=hI.first hn;have hin:=(j3 hm2);have hq:=(aK _ _).1 (gN hM.cells.ok hin.2.2.2);rw [π,hin.2.2.1] at hq;have hb:=hM.cells.ok.h1;have k:=oo hM (g:Int) ω;rw [xk A tr g ω,hm1] at k;have hb1:((m:Int) == -1)=false:=σ;clear hM hI
 go_enter Tryz.func265,Tryz.ntmps265
 go_wp2_with (first|(go_at_call 268;(with_reducible refine (k).mono ?_);rintro e w9 ⟨rfl,hw9⟩;rw [hw9];clear hw9 w9)|fail)
 go_ret2;exact ⟨m,hm2,hm1,rfl,rfl⟩
end
end Go.Proofs.YtklibcncmbofpaaGreat
