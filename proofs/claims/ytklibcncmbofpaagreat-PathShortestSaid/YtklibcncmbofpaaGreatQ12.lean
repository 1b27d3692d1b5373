/-
  Lemmas for PathShortest: Sk, Sk2, Sk3, Sk4. Conditions: those of each lemma.
-/
import Derived.Test.YtklibcncmbofpaaGreatQ11
set_option linter.all false
set_option maxHeartbeats 8000000
set_option maxRecDepth 10000
namespace Go.Proofs.YtklibcncmbofpaaGreat
open Go Go.RowKit
structure SB where
 n0:Nat
 c:Nat
 bt:Nat
 ba:Nat
 mb:Nat
structure nR (w:World) (B:SB) (F:List Nat) (A:NS) (st:Nat) (S:TS) (f:Int->Option Int):Prop where
 head:aP w B.n0 234 3 (fun j=>[Value.pointer (some ⟨B.c,0,none⟩),.pointer (some ⟨B.bt,0,none⟩),.map (some B.mb)].getD j undef)
 cells:aG w B.c F A st
 trees:bC w B.bt B.ba A.cs.length S
 top:gU w B.mb f
 bI:B.n0∉F/\B.bt∉F/\B.ba∉F/\B.mb∉F
 sep:(B.n0≠B.bt/\B.n0≠B.ba/\B.n0≠B.mb)/\(B.bt≠B.mb/\B.ba≠B.mb)
section
variable {w:World} {B:SB} {F:List Nat} {A:NS} {st:Nat} {S:TS} {f:Int->Option Int}
def SB.blk (B:SB) (F:List Nat):List Nat:=B.n0::B.bt::B.ba::B.mb::F
theorem nR.upd {w':World} {G:List Nat} (h:nR w B F A st S f) (hu:aa G w w') (hG:∀x,x∈G->x∉B.blk F):nR w' B F A st S f:=by
 have hb:∀y,y∈B.blk F->y∉G:=fun y hy hm=>hG y hm hy;exact ⟨h.head.upd hu (hb _ (by simp [SB.blk])),h.cells.upd hu (fun x hx hm=>hG x hx (by simp [SB.blk,hm])),h.trees.upd hu (hb _ (by simp [SB.blk])) (hb _ (by simp [SB.blk])),h.top.upd hu (hb _ (by simp [SB.blk])),h.bI,h.sep⟩
theorem nR.aA {w':World} (h:nR w B F A st S f) (hu:aa [] w w'):nR w' B F A st S f:=h.upd hu σ
theorem nR.lt (h:nR w B F A st S f):∀x,x∈B.blk F->x<w.heap.size:=fun x hx=>by
 simp only [SB.blk,ρ] at hx;rcases hx with rfl|rfl|rfl|rfl|hx
 ·exact h.head.lt
 ·exact h.trees.head.lt
 ·exact h.trees.row.lt
 ·exact h.top.lt
 ·exact h.cells.lt x hx
theorem nR.cF (h:nR w B F A st S f):B.c∈F:=h.cells.mem
theorem nR.h0 (h:nR w B F A st S f):w.cell? ⟨B.n0,0,none⟩=some (.pointer (some ⟨B.c,0,none⟩)):=h.head.cellAt 0 ω rfl
theorem nR.h1 (h:nR w B F A st S f):w.cell? ⟨B.n0,1,none⟩=some (.pointer (some ⟨B.bt,0,none⟩)):=h.head.cellAt 1 ω rfl
theorem nR.h2 (h:nR w B F A st S f):w.cell? ⟨B.n0,2,none⟩=some (.map (some B.mb)):=h.head.cellAt 2 ω rfl
theorem nR.jd {w':World} {S':TS} (h:nR w B F A st S f) (hu:aa [B.ba] w w') (hT:bC w' B.bt B.ba A.cs.length S'):nR w' B F A st S' f:=by
 obtain ⟨⟨s1,s2,s3⟩,s4,s5⟩:=h.sep;obtain ⟨f1,f2,f3,f4⟩:=h.bI;exact ⟨h.head.upd hu (by simp;exact s2),h.cells.upd hu (fun x hx hm=>by simp at hx;subst hx;exact f3 hm),hT,h.top.upd hu (by simp;exact Ne.symm s5),h.bI,h.sep⟩
theorem nR.Vv {w':World} {f':Int->Option Int} (h:nR w B F A st S f) (hu:aa [B.mb] w w') (hM:gU w' B.mb f'):nR w' B F A st S f':=by
 obtain ⟨⟨s1,s2,s3⟩,s4,s5⟩:=h.sep;obtain ⟨f1,f2,f3,f4⟩:=h.bI;exact ⟨h.head.upd hu (by simp;exact s3),h.cells.upd hu (fun x hx hm=>by simp at hx;subst hx;exact f4 hm),h.trees.upd hu (by simp;exact s4) (by simp;exact s5),hM,h.bI,h.sep⟩
theorem nR.dw {w':World} {F':List Nat} {A':NS} {st':Nat} (h:nR w B F A st S f) (hu:aa F w w') (hC:aG w' B.c F' A' st') (hF:∀x,x∈F'->x∈F\/w.heap.size<=x) (h1:A'.cs.length=A.cs.length):nR w' B F' A' st' S f:=by
 obtain ⟨f1,f2,f3,f4⟩:=h.bI;have hn:∀y,y<w.heap.size->y∉F->y∉F':=fun y hy hm hm'=>by rcases hF y hm' with h'|h';exact hm h';omega
 have hl:=h.lt;exact ⟨h.head.upd hu f1,hC,by rw [h1];exact h.trees.upd hu f2 f3,h.top.upd hu f4,⟨hn _ (hl _ (by simp [SB.blk])) f1,hn _ (hl _ (by simp [SB.blk])) f2,hn _ (hl _ (by simp [SB.blk])) f3,hn _ (hl _ (by simp [SB.blk])) f4⟩,h.sep⟩
def Mv (o:Option Int):Int:=o.getD (-1)
theorem qM (h:nR w B F A st S f) (q:Int) (hq:-9223372036854775808<=q/\q<=9223372036854775807) :
  Calls Tryz.prog 268 #[.pointer (some ⟨B.n0,0,none⟩),.int .i64 q] w fun e w'=>e=.returned (.int .i64 (Mv (f q)))/\w'=w:=by
 have h2:=h.h2;have ht:=h.top;have k:=ht.look_ok q hq;unfold Mv;cases hf:f q with
 | none=>
  rw [hf] at k;simp only [Option.getD_none,Option.isSome_none] at k ⊢;clear ht h
  go_enter Tryz.func268,Tryz.ntmps268
  go_wp2;go_ret;exact ⟨rfl,rfl⟩
 | some z=>
  rw [hf] at k;simp only [Option.getD_some,Option.isSome_some] at k ⊢;clear ht h
  go_enter Tryz.func268,Tryz.ntmps268
  go_wp2;go_ret;exact ⟨rfl,rfl⟩
theorem vB (h:nR w B F A st S f) (q:Nat) (z:Int) (hq:1<=q/\q<=65536) (hz:-1<=z/\z<=9223372036854775807) :
  Calls Tryz.prog 266 #[.pointer (some ⟨B.n0,0,none⟩),.int .i64 (q:Int),.int .i64 z] w fun e w'=>e=.returned (.tuple #[])/\aa [B.mb] w w'/\nR w' B F A st S (fun y=>if y=(q:Int) then (if z=-1 then none else some z) else f y):=by
 have h2:=h.h2;have ht:=h.top;have H:=χ h
 by_cases he:z=-1
 ·subst he;clear h
  go_enter Tryz.func266,Tryz.ntmps266
  go_wp2_with (refine oO rfl _ _ rfl B.mb f rfl ht q rfl ω ?_;intro w1 hm1 hu1)
  go_end0;exact ⟨rfl,hu1,H.out.Vv hu1 hm1⟩
 ·have hb:(z == -1)=false:=by simpa using he
  rw [if_neg he];clear h he
  go_enter Tryz.func266,Tryz.ntmps266
  go_wp2_with (refine mJ rfl _ _ _ rfl B.mb f rfl ht q z rfl rfl ω ω ?_;intro w1 hm1 hu1)
  go_end0;exact ⟨rfl,hu1,H.out.Vv hu1 hm1⟩
theorem Ak (h:nR w B F A st S f) {fr:Fr} {P:List Fr} {t:BT} (hT:cO S (-1) (aj (fr::P) t).root (aj (fr::P) t)) (hn:(aj (fr::P) t).nodes.Nodup) (hlt:∀y,y∈(aj (fr::P) t).nodes->y<A.cs.length) :
  Calls Tryz.prog 269 #[.pointer (some ⟨B.n0,0,none⟩),.int .i64 (tv t.root),.bool (tb t.root)] w fun e w'=>e=.returned (.int .i64 t.root)/\aa [B.ba] w w'/\
   ∃S',nR w' B F A st S' f/\cO S' (-1) t.root t/\cO S' (-1) (aj (fr::P) .nil).root (aj (fr::P) .nil)/\∀y,y∉(aj (fr::P) t).nodes->S.at S' y:=by
 have h1:=h.h1
 by_cases ht:t=.nil
 ·subst ht;rw [show tv (BT.root .nil)=0 from rfl,show tb (BT.root .nil)=false from rfl,show BT.root .nil=-1 from rfl];have H:=χ (ψ h hT);clear h hT hn hlt
  go_enter Tryz.func269,Tryz.ntmps269
  go_wp2;go_ret;exact ⟨rfl,aa.refl _ _,S,H.out.1,rfl,H.out.2,fun y _=>⟨rfl,rfl,rfl⟩⟩
 ·obtain ⟨r,hr⟩:∃r:Nat,t.root=r:=⟨_,BT.yh ht⟩;have kc:=nY h.trees hT hn hlt;rw [show tv t.root=(r:Int) by rw [hr];unfold tv;rw [if_neg ω],show tb t.root=true by rw [hr];unfold tb;simp];have H:=χ h;have HR:=χ hr;rw [hr] at kc;generalize tb (r:Int)=bb at kc;generalize cutV fr t=cv at kc;clear h hT hn hlt hr
  go_enter Tryz.func269,Tryz.ntmps269
  go_wp2_with (first
   | ((go_at_call 244;(with_reducible refine (kc).mono ?_));rintro e w1 ⟨rfl,hu1,S1,hT1,ha1,hp1,hs1⟩)
   | fail)
  go_ret;rw [HR.out];exact ⟨rfl,hu1,S1,H.out.jd hu1 hT1,ha1,hp1,hs1⟩
end
def rG (x:Nat) (l m:BT):BT:=.node x m l
theorem vH:QE rG where
 nodes:=fun x l r=>by
  unfold rG;simp only [BT.nodes];exact List.perm_append_comm.cons x
 heap:=fun A x l r h1 h2 hl hr=>⟨h2,h1,hr,hl⟩
 root:=fun x l r=>rfl
theorem Ck {S:TS} {p:Int} {x:Nat} {l r:BT} (h:cO S p x (.node x l r)) (hn:(BT.node x l r).nodes.Nodup):cO (jM S x) p x (.node x r l)/\∀y,y≠x->S.at (jM S x) y:=by
 have hs:∀y,y≠x->S.at (jM S x) y:=fun y hy=>by
  unfold jM TS.aJ TS.at;simp [hy]
 have hl:(jM S x).l x=S.r x:=by unfold jM TS.aJ;simp
 have hr:(jM S x).r x=S.l x:=by unfold jM TS.aJ;simp
 have hu:(jM S x).u x=S.u x:=by unfold jM TS.aJ;simp
 simp only [BT.nodes,List.nodup_cons,τ,not_or] at hn;refine ⟨PR (hu.trans h.2.1) ?_ ?_,hs⟩
 ·rw [hl];exact h.2.2.2.frame (fun y hy=>hs y (fun e=>hn.1.2 (by rw [←e];exact hy)))
 ·rw [hr];exact h.2.2.1.frame (fun y hy=>hs y (fun e=>hn.1.1 (by rw [←e];exact hy)))
section
variable {w:World} {B:SB} {F:List Nat} {A:NS} {st:Nat} {S:TS} {f:Int->Option Int}
theorem O9 (h:nR w B F A st S f) {p:Int} {x:Nat} {l r:BT} (hT:cO S p x (.node x l r)) (hx:x<A.cs.length) (hr:∀y,y∈r.nodes->y<A.cs.length) :
  Calls Tryz.prog 269 #[.pointer (some ⟨B.n0,0,none⟩),.int .i64 (tv r.root),.bool (tb r.root)] w fun e w'=>e=.returned (.int .i64 r.root)/\aa [B.ba] w w'/\nR w' B F A st (zm S x r) f:=by
 have h1:=h.h1;cases r with
 | nil=>
  rw [show tv (BT.root .nil)=0 from rfl,show tb (BT.root .nil)=false from rfl,show BT.root .nil=-1 from rfl];have H:=χ h;clear h hT hr
  go_enter Tryz.func269,Tryz.ntmps269
  go_wp2;go_ret;exact ⟨rfl,aa.refl _ _,H.out⟩
 | node y a b=>
  obtain ⟨_,_,_,hr'⟩:=hT;have e2:S.u y=x:=hr'.2.1;have kc:=Ez B.bt B.ba A.cs.length S x y w h.trees hx (hr y (by simp [BT.nodes])) e2;rw [show tv (BT.root (.node y a b))=(y:Int) by show tv (y:Int)=y;unfold tv;rw [if_neg ω],show tb (BT.root (.node y a b))=true by show tb (y:Int)=true;unfold tb;simp,show BT.root (.node y a b)=(y:Int) from rfl];have H:=χ h;clear h hr hr' e2
  go_enter Tryz.func269,Tryz.ntmps269
  go_wp2_with (first
   | ((go_at_call 244;(with_reducible refine (kc).mono ?_));rintro e w1 ⟨rfl,hT1,hu1⟩)
   | fail)
  go_ret;exact ⟨rfl,hu1,H.out.jd hu1 hT1⟩
theorem JV (h:nR w B F A st S f) {p:Int} {x:Nat} {l r:BT} (hT:cO S p x (.node x l r)) (hx:x<A.cs.length) :
  Calls Tryz.prog 249 #[.pointer (some ⟨B.bt,0,none⟩),.int .i64 (x:Int)] w fun e w'=>e=.returned (.tuple #[.int .i64 (tv r.root),.bool (tb r.root)])/\aa [] w w':=by
 refine (vJ h.trees hT hx).mono ?_;rintro e w' ⟨rfl,k,rfl⟩;exact ⟨rfl,(aa.refl _ _).drewN k⟩
theorem yL (t:BT):-1<=t.root:=by cases t with
 | nil=>exact Int.le_refl _
 | node x l r=>show (-1:Int)<=(x:Int);omega
theorem vO (h:nR w B F A st S f) {ta tb:BT} (ha:cO S (-1) ta.root ta) (hb:cO S (-1) tb.root tb) (hX:(ta.nodes++tb.nodes).Nodup) (hin:∀y,y∈ta.nodes++tb.nodes->bX A (y:Int)=true) :
  Calls Tryz.prog 267 #[.pointer (some ⟨B.n0,0,none⟩),.int .i64 ta.root,.int .i64 tb.root] w fun e w'=>e=.returned (.int .i64 (aK rG A ta tb).1.root)/\aa [B.c,B.ba] w w'/\
   ∃S',nR w' B F A (bZ st (aK rG A ta tb).2) S' f/\cO S' (-1) (aK rG A ta tb).1.root (aK rG A ta tb).1/\∀y,y∉ta.nodes++tb.nodes->S.at S' y:=by
 have hblk:=h.lt;have qy:=h.cF;have hbl0:=hblk B.n0 (by simp [SB.blk]);have hbl1:=hblk B.bt (by simp [SB.blk]);have hbl2:=hblk B.ba (by simp [SB.blk]);have hbl4:=hblk B.c (by simp [SB.blk,qy]);have hs:=χ h.sep;have hA:=h.cells.ok.c1;have hlt:Hid (∀y,y∈ta.nodes++tb.nodes->y<A.cs.length):=fun y hy=>((ai A y).1 (hin y hy)).1;have hXl:(ta.nodes++tb.nodes).length<=A.cs.length:=nz hX hlt.out;have XH:=χ h;have HBL:=χ hblk;have D0:=χ (Down.start rG A ha hb);have OE:=χ hin;have HX:=χ hX;have hst:=h.cells.oU;clear h ha hb hblk qy hin hX
 go_enter Tryz.func267,Tryz.ntmps267
 go_wp2
 go_loopw [1,2,7] (fun a b way wr=>∃ (S1:TS) (W:List (Nat×BT)) (a1 b1:BT),a=.int .i64 a1.root/\b=.int .i64 b1.root/\wr.ownsRow w.heap.size 3 1 way W.length (Kq W)/\nR wr B F A (bZ st W.length) S1 f/\Down rG A S ta tb S1 W a1 b1/\aa [B.c,B.ba] w wr) (fun _ _ way _=>(ta.nodes++tb.nodes).length-lenOf way)
 case atStart=>
  exact ⟨S,[],ta,tb,rfl,rfl,⟨by simp [Kq,aV],Or.inl ⟨rfl,rfl⟩⟩,by rw [List.length_nil,gN hst];exact XH.out.aA β,D0.out,β⟩
 case round=>
  obtain ⟨S1,W,a1,b1,rfl,rfl,ho,hM,hD,hu⟩:=hrel;have HM:=χ hM;have HD:=χ hD;have HO:=χ ho;have hlen:=hD.len;have h0:=hM.h0;have h1:=hM.h1;clear hM hD;obtain ⟨a5,c5,rfl,ZA⟩:=bu ho;have BP:∀g,(Value.slice a5 W.length c5).ownBlock=some g->w.heap.size<=g:=fun g hg=>(ho.lt g hg).1;have QX:=χ BP;clear ho BP
  by_cases hne:a1=.nil\/b1=.nil
  ·obtain ⟨m0,e0,U0,hcnt,hor⟩:=HD.out.turn hne;have hz:(a1.root=-1/\b1.root=m0.root)\/(a1.root≠-1/\b1.root=-1/\a1.root=m0.root):=by
    by_cases e:a1.root=-1
    ·rw [if_pos e] at e0;exact Or.inl ⟨e,e0.symm⟩
    ·rw [if_neg e] at e0;refine Or.inr ⟨e,?_,e0.symm⟩;rcases hne with rfl|rfl
     ·exact absurd rfl e
     ·rfl
   have HU:=χ (ψ U0 hcnt);have hWl:=U0.len;have HUP:=χ hu;rw [←hcnt] at HM;have hzge:=yL m0;clear hne hor U0 HD hcnt hu hlen h0 e0;generalize a1.root=za at *;generalize b1.root=zb at *;have e9:∃z9,m0.root=z9:=⟨_,rfl⟩;obtain ⟨z9,e9⟩:=e9;rw [e9] at hz hzge;generalize hn0:W.length=n0 at *;have Uv:=χ hn0;clear hn0;have hz':(za=-1/\zb=-1/\z9=-1)\/(za=-1/\zb=z9/\z9 > -1)\/(za=z9/\zb=-1/\z9 > -1):=ω;clear hz hzge;rcases hz' with ⟨rfl,rfl,rfl⟩|⟨rfl,rfl,hzg⟩|⟨rfl,rfl,hzg⟩
   all_goals
    try (have hz2:(za != -1)=true:=ζ)
    try (have hz3:¬ ((-1:Int) > za):=ω)
    go_wp2
    go_loopw [8,9] (fun top i w5=>∃ (S2:TS) (W2 U2:List (Nat×BT)) (m:BT),W=W2++U2/\top=.int .i64 m.root/\i=.int .i64 ((W2.length:Int)-1)/\nR w5 B F A (bZ st (aK rG A ta tb).2) S2 f/\VL rG S (ta.nodes++tb.nodes) (aK rG A ta tb).1 S2 W2 m/\aa [B.ba] wr w5) (fun _ i _=>((intOf i)+1).toNat)
    case atStart=>exact ⟨S1,W,[],m0,σ,by rw [e9],by rw [Uv.out],HM.out,HU.out.1,aa.refl _ _⟩
    case round=>
     obtain ⟨S2,W2,U2,m,rfl,rfl,rfl,hM,hU,hu⟩:=hrel;rename World=>w5;rcases List.eq_nil_or_concat W2 with rfl|⟨W3,⟨x,l⟩,rfl⟩
     ·have e0:=hU.res;simp only [uU] at e0;simp only [List.length_nil];go_wp2;go_ret;rw [e0];exact ⟨rfl,HUP.out.trans (hu.mono σ),S2,hM,hU.isM,fun y hy=>hU.far y hy⟩
     ·have hpx:=hU.perm;simp only [List.concat_eq_append] at *;rw [qd,List.append_assoc] at hpx;have BC:∀q,q∈(x::l.nodes)++m.nodes->q<A.cs.length:=fun q hq=>hlt.out q (hpx.mem_iff.1 (List.mem_append_right _ hq));have hnd:((x::l.nodes)++m.nodes).Nodup:=(θ.1 (hpx.nodup_iff.2 HX.out)).2.1;have hxA:=BC x σ;obtain ⟨g,cap,ee,hI,hg⟩:=IZ.iO (l:=(W3++[(x,l)]++U2).map fun p=>(p.1:Int)) (by rw [List.length_map,Uv.out];exact aF HO.out hu (fun k hk=>by have:=QX.out k hk;simp;omega)) ζ;rw [List.length_map,Uv.out] at ee
      injection ee with ee1 ee2 ee3
      subst ee1 ee3;have dz:=hI.cell W3.length σ;rw [show (((W3++[(x,l)]++U2).map fun p=>(p.1:Int)).getD W3.length 0)=(x:Int) by simp [φ]] at dz;have h1:=hM.h1;have vw:=χ hM;have MR:=χ hU;have Iy:=χ (ψ BC hnd);have hTx:=hU.way (x,l) σ;have YN:=χ hTx;have hil:((W3++[(x,l)]).length:Int)-1=W3.length:=σ;rw [hil];have hi0:((W3.length:Int)≥0):=ω;have hWn:W3.length+1+U2.length=n0:=by have:=Uv.out;simp at this;omega
      have F7:(W3.length:Int)<(n0:Int):=ω;have hW3:W3.length<=65536:=ω;clear hM hU BC hnd hTx hpx hil hI ee2
      by_cases hm:m=.nil
      ·subst hm;simp only [BT.root];have yN:cO S2 (-1) x (.node x l .nil):=YN.out;obtain ⟨Bg,TM⟩:=Ck yN (by simpa [BT.nodes] using Iy.out.2);have kt:=zO B.bt B.ba A.cs.length S2 x w5 vw.out.trees hxA;have HT3:=χ (ψ Bg TM);clear yN Bg TM
       go_wp2_with (first
        | ((go_at_call 259;(with_reducible refine (kt).mono ?_));rintro e w6 ⟨rfl,OM,iU⟩)
        | fail)
       refine ⟨⟨jM S2 x,W3,(x,l)::U2,rG x l .nil,σ,rfl,by go_num,vw.out.jd iU OM,MR.out.turn vH HX.out HT3.out.1 (fun y h1 _ _=>HT3.out.2 y h1),hu.trans iU⟩,by simp [intOf]⟩
      ·obtain ⟨mr,hmr⟩:∃mr:Nat,m.root=mr:=⟨_,BT.yh hm⟩;have hmm:=(bN hm).1;rw [hmr,π] at hmm;have yN:cO S2 (-1) x (.node x l .nil):=YN.out;have Xu:=MR.out.isM;have hur:S2.u mr=-1:=by
        cases m with
        | nil=>exact absurd rfl hm
        | node q a b=>
         have e:q=mr:=by have e':(q:Int)=mr:=hmr;omega
         subst e;exact Xu.2.1
       have hnd:=Iy.out.2;have hxm:x≠mr:=fun e=>by
        rw [θ] at hnd;exact hnd.2.2 x σ mr hmm e
       obtain ⟨Bg,TM⟩:=Cf (m:=m) yN Xu hm (by simpa [BT.nodes] using hnd);rw [hmr] at Bg TM;obtain ⟨Po,ZF⟩:=Ck Bg (by simpa [BT.nodes] using hnd);have HT3:=χ (ψ Bg (ψ hm (ψ TM (ψ Po ZF))));have kh:=Ab B.bt B.ba A.cs.length S2 x mr true w5 (vw.out.trees) hxA (Iy.out.1 mr (List.mem_append_right _ hmm)) hxm hur yN.2.2.2;have HMR:=χ hmr;rw [hmr];have hz4:((mr:Int) != -1)=true:=σ;clear yN Xu hur hnd Bg TM Po ZF hm hmr hmm
       go_wp2_with (first
        | ((go_at_call 251;(with_reducible refine (kh).mono ?_));rintro e w6 ⟨rfl,OM,iU⟩;(have h16:=(vw.out.jd iU OM).h1);(have kt:=zO B.bt B.ba A.cs.length _ x w6 OM hxA))
        | ((go_at_call 259;(with_reducible refine (kt).mono ?_));rintro e w7 ⟨rfl,T9,kN⟩)
        | fail)
       refine ⟨⟨_,W3,(x,l)::U2,rG x l m,σ,rfl,by go_num,(vw.out.jd iU OM).jd kN T9,MR.out.turn vH HX.out HT3.out.2.2.2.1 (fun y h1 _ h3=>?_),(hu.trans iU).trans kN⟩,by simp [intOf]⟩;have a1:=HT3.out.2.2.1 y h1 h3;have a2:=HT3.out.2.2.2.2 y h1;exact ⟨a2.1.trans a1.1,a2.2.1.trans a1.2.1,a2.2.2.trans a1.2.2⟩
  ·obtain ⟨x,l,r,rfl⟩:∃x l r,a1=.node x l r:=by
    cases a1 with
    | nil=>exact absurd (Or.inl rfl) hne
    | node x l r=>exact ⟨x,l,r,rfl⟩
   obtain ⟨y,l',r',rfl⟩:∃x l r,b1=.node x l r:=by
    cases b1 with
    | nil=>exact absurd (Or.inr rfl) hne
    | node x l r=>exact ⟨x,l,r,rfl⟩
   clear hne;have hmx:∀z,z∈(BT.node x l r).nodes++(BT.node y l' r').nodes->z∈ta.nodes++tb.nodes:=fun z hz=>HD.out.perm.mem_iff.1 (List.mem_append_right _ hz);have hxm:=hmx x (by simp [BT.nodes]);have hym:=hmx y (by simp [BT.nodes]);have hWl:W.length+2<=(ta.nodes++tb.nodes).length:=by simp only [BT.nodes,List.length_cons,υ] at hlen ⊢;omega
   have Uc:=χ hmx;have hxb:((x:Int) != -1)=true:=σ;have hyb:((y:Int) != -1)=true:=σ;clear hmx hlen;have kA:=fF HM.out.cells y x (OE.out y hym) (OE.out x hxm);obtain ⟨sw,hsw⟩:∃sw,decide (cZ A y x)=sw:=⟨_,rfl⟩;rw [hsw] at kA;have KEY:∃ (z:Nat) (lz rz o:BT),z=(if sw then y else x)/\Down rG A S ta tb (zm S1 z rz) (W++[(z,lz)]) rz o/\cO S1 (-1) z (.node z lz rz)/\z<A.cs.length/\(∀q,q∈rz.nodes->q<A.cs.length)/\o.root=(if sw then (x:Int) else (y:Int)):=by
    cases sw with
    | true=>
     exact ⟨y,l',r',.node x l r,rfl,HD.out.takeB HX.out (of_decide_eq_true hsw),HD.out.isB,hlt.out y hym,fun q hq=>hlt.out q (Uc.out q (by simp [BT.nodes,hq])),rfl⟩
    | false=>
     exact ⟨x,l,r,.node y l' r',rfl,HD.out.takeA HX.out (of_decide_eq_false hsw),HD.out.isA,hlt.out x hxm,fun q hq=>hlt.out q (Uc.out q (by simp [BT.nodes,hq])),rfl⟩
   obtain ⟨z,lz,rz,o,ez,hD2,hTz,hz,hrz,eo⟩:=KEY;have HD2:=χ hD2;have HT:=χ hTz;have HQ:=χ hrz;clear hD2 hTz hrz hsw;simp only [BT.root];cases sw
   all_goals
    simp only [if_true,if_false,Bool.false_eq_true] at ez eo;subst ez
    go_wp2_with fail
    refine kA.mono ?_;rintro e w1 ⟨rfl,jF,hu1⟩;have hM1:=χ (HM.out.dw (hu1.mono (by simp [HM.out.cF])) jF (fun x hx=>Or.inl hx) rfl);have hss:bZ (bZ st W.length) 1=bZ st (W.length+1):=jk _ _ _;rw [hss] at hM1;have ho1:=aF HO.out hu1 (fun k hk=>by have:=QX.out k hk;simp;omega);have h01:=hM1.out.h0;have h11:=hM1.out.h1;clear h0 h1 kA hss;have UE:=χ (ψ hu hu1);clear hu hu1 jF;have HGB:Hid (∀g,g∈(Value.slice a5 W.length c5).ownBlock.toList->g∉B.blk F):=fun g hg hb=>by
     have h1:=QX.out g (Option.mem_toList.1 hg);have h2:=HBL.out g hb;omega
    have hsz1:w.heap.size<=w1.heap.size:=(UE.out.1.trans (UE.out.2.mono σ)).size
    go_wp2_with (first
     | ((at_builtin;refine aU rfl _ _ 26 rfl w.heap.size 3 (.int .i64 0) 1 8 Tryz.underlying26 gz rfl δ _ _ _ rfl (ho1) [.int .i64 (z:Int)] rfl (by simp [Value.oneCell']) (by first|rfl|(rw [World.size_alloc];rfl)) μ ω (ω) ?_;intro v2 w2 ho2 hu2 lS);(have hM2:=χ (hM1.out.upd hu2 HGB.out));(have k12:=hM2.out.h1);(have kr:=JV hM2.out HT.out hz))
     | (go_at_call 249;(with_reducible refine (kr).mono ?_);rintro e w3 ⟨rfl,hu3⟩;(have jU:=χ (hM2.out.aA hu3));(have kc:=O9 jU.out HT.out hz HQ.out))
     | (go_at_call 269;(with_reducible refine (kc).mono ?_);rintro e w4 ⟨rfl,iB,sH⟩)
     | fail)
    obtain ⟨a6,c6,rfl,hc6⟩:=bu ho2;have YK:∀k,(Value.slice a6 (W.length+1) c6).ownBlock=some k->w.heap.size<=k:=fun k hk=>(ho2.lt k hk).1;refine ⟨⟨_,W++[(z,lz)],rz,o,rfl,congrArg (Value.int .i64) eo.symm,?_,?_,HD2.out,?_⟩,?_⟩
    ·rw [Cy,υ,List.length_singleton];exact aF (aF ho2 hu3 σ) iB (fun k hk=>by have:=YK k hk;simp;omega)
    ·rw [υ,List.length_singleton];exact sH
    ·have v1:aa [B.c,B.ba] w w1:=UE.out.1.trans (UE.out.2.mono σ);have v2:aa [B.c,B.ba] w w2:=v1.joined hu2 (fun g hg=>Or.inr (QX.out g (Option.mem_toList.1 hg)));exact (v2.trans (hu3.mono σ)).trans (iB.mono σ)
    ·show (ta.nodes++tb.nodes).length-(W.length+1)<(ta.nodes++tb.nodes).length-W.length
     omega
end
def qU (A:NS) (tr:Nat->BT) (q:Int):Option Int:=if 1<=q/\q<A.hs.length then (if (tr q.toNat).root=-1 then none else some (tr q.toNat).root) else none
def wh (A:NS) (tr:Nat->BT):List Int:=(List.range A.hs.length).map fun h=>(tr h).root
theorem xw.RD {K:Qi} {A:NS} {S:TS} {ak:List Int} {tr:Nat->BT} (h:xw K A S ak tr):xw K A S (wh A tr) tr:=
 ⟨fun q hq=>by unfold wh;simp [φ,hq],h.EE,h.mem,h.nd,h.heap,h.free⟩
def nu (w:World) (B:SB) (F:List Nat) (A:NS) (st:Nat) (tr:Nat->BT):Prop:=∃S,nR w B F A st S (qU A tr)/\TrI A S (wh A tr) tr
theorem Ai (A:NS) (tr:Nat->BT) (q:Nat) (h:1<=q/\q<A.hs.length):Mv (qU A tr (q:Int))=(tr q).root:=by
 unfold qU Mv;rw [if_pos ω,π]
 split
 ·rename_i e;rw [e];rfl
 ·rfl
theorem nR.ext {w:World} {B:SB} {F:List Nat} {A:NS} {st:Nat} {S:TS} {f g:Int->Option Int} (h:nR w B F A st S f) (e:∀k,f k=g k):nR w B F A st S g:=⟨h.head,h.cells,h.trees,h.top.ext e,h.bI,h.sep⟩
theorem z8 {A A':NS} {tr:Nat->BT} {q:Nat} {t:BT} (hl:A'.hs.length=A.hs.length) (hq:1<=q/\q<A.hs.length) (k:Int):(if k=(q:Int) then (if t.root=-1 then none else some t.root) else qU A tr k)=qU A' (fun y=>if y=q then t else tr y) k:=by
 by_cases e:k=(q:Int)
 ·subst e;have e1:qU A' (fun y=>if y=q then t else tr y) (q:Int)=(if t.root=-1 then none else some t.root):=by
   unfold qU;rw [hl,if_pos (show 1<=(q:Int)/\(q:Int)<A.hs.length by omega)];have:(fun y=>if y=q then t else tr y) (q:Int).toNat=t:=σ;rw [this]
  rw [e1,if_pos rfl]
 ·have e1:qU A' (fun y=>if y=q then t else tr y) k=qU A tr k:=by
   unfold qU;rw [hl]
   by_cases h:1<=k/\k<A.hs.length
   ·rw [if_pos h,if_pos h];have:(fun y=>if y=q then t else tr y) k.toNat=tr k.toNat:=by
     show (if k.toNat=q then t else tr k.toNat)=_
     rw [if_neg ω]
    rw [this]
   ·rw [if_neg h,if_neg h]
  rw [e1,if_neg e]
theorem Wp {A:NS} {S:TS} {ak:List Int} {tr:Nat->BT} (h:TrI A S ak tr) (hA:A.cs.length<=65536) {t:BT} (ht:∀y,y∈t.nodes->y<A.cs.length):-1<=t.root/\t.root<=9223372036854775807:=by
 refine ⟨yL t,?_⟩
 by_cases e:t=.nil
 ·rw [e];show (-1:Int)<=_;omega
 ·have h1:=bN e;have h2:=ht _ h1.1;omega
section
variable {w:World} {B:SB} {F:List Nat} {A:NS} {st:Nat} {tr:Nat->BT}
theorem nu.upd {w':World} {G:List Nat} (h:nu w B F A st tr) (hu:aa G w w') (hG:∀x,x∈G->x∉B.blk F):nu w' B F A st tr:=by
 obtain ⟨S,hM,hI⟩:=h;exact ⟨S,hM.upd hu hG,hI⟩
theorem nu.aA {w':World} (h:nu w B F A st tr) (hu:aa [] w w'):nu w' B F A st tr:=h.upd hu σ
theorem Gb (h:nu w B F A st tr) (hh x:Nat) (k s:Int) (hk:-9223372036854775808<=k/\k<=9223372036854775807/\0<=s/\s<=18446744073709551615) (hB:oz A hh x=true) :
  Calls Tryz.prog 263 #[.pointer (some ⟨B.n0,0,none⟩),.int .i64 (hh:Int),.int .i64 (x:Int),.agg #[.int .i64 k,.int .u64 s]] w fun e w'=>e=.returned (.bool true)/\aa (B.blk F) w w'/\
   nu w' B F (aO A hh x k s) (bZ st (aK rG (aO A hh x k s) (tr hh) (single x)).2) (fun q=>if q=hh then (aK rG (aO A hh x k s) (tr hh) (single x)).1 else tr q):=by
 obtain ⟨S,hM,hI⟩:=h;have hlt:=hM.lt;have ok:=hM.cells.ok;obtain ⟨b1,b2,b3⟩:=(fG _ _ _).1 hB;have b4:=(aT _ _).1 b1;have hx:x<A.cs.length:=by have:=(gZ _ _).1 b2;omega
 have Ph:(A.c x).i=0:=by
  have:=(ok.nat x hx).1;have h3:¬ (0<(A.c x).i):=fun h'=>by rw [(ai A x).2 ⟨hx,h'⟩] at b3;cases b3
  omega
 have hcs:(aO A hh x k s).cs.length=A.cs.length:=by unfold aO;rw [if_pos hB,fK]
 have lQ:(aO A hh x k s).hs.length=A.hs.length:=by unfold aO;rw [if_pos hB];rfl
 have hcx:∀y,(aO A hh x k s).c y=if y=x then ⟨hh,k,s⟩ else A.c y:=fun y=>by
  unfold aO;rw [if_pos hB,π,kG]
  by_cases e:y=x
  ·rw [if_pos ⟨e,hx⟩,if_pos e]
  ·rw [if_neg (fun h=>e h.1),if_neg e]
 have vv:x∉(tr hh).nodes:=hI.out Ph;have hX:((tr hh).nodes++(single x).nodes).Nodup:=by
  rw [θ];refine ⟨hI.nd hh,by simp [single,BT.nodes],fun a ha b hb e=>?_⟩;simp only [single,BT.nodes,List.append_nil,List.mem_singleton] at hb;exact vv (by rw [←hb,←e];exact ha)
 have hin:∀y,y∈(tr hh).nodes++(single x).nodes->bX (aO A hh x k s) (y:Int)=true:=fun y hy=>by
  rw [ai,hcs,hcx];simp only [single,BT.nodes,List.append_nil,τ,List.mem_singleton] at hy
  by_cases e:y=x
  ·rw [if_pos e,e];exact ⟨hx,by show (0:Int)<(hh:Int);omega⟩
  ·rw [if_neg e];have:=(hI.mem hh y).1 (hy.resolve_right e);exact ⟨this.2.1,ω⟩
 have WG:Heap (aO A hh x k s) (tr hh):=(hI.heap hh).frame (fun y hy=>by rw [hcx,if_neg (fun e=>vv (by rw [←e];exact hy))]);obtain ⟨mp,mh⟩:=mM vH (aO A hh x k s) _ (tr hh) (single x) (Nat.le_refl _);have Yc:=mh WG ⟨by simp [BT.nodes],by simp [BT.nodes],trivial,trivial⟩ hX;have hfr:=hI.free x hx Ph;have Xn:=hI.EE hh;have hq:1<=hh/\hh<A.hs.length:=ω;have hb65:=ok.h1
 have hmr:=Wp hI ok.c1 (t:=(aK rG (aO A hh x k s) (tr hh) (single x)).1) (fun y hy=>by
  have h1:=mp.mem_iff.1 hy;have:=(ai _ y).1 (hin y h1)
  rw [hcs] at this;exact this.1)
 have hfst:=Ai A tr hh hq
 have FI:Hid (∀ (W:World) (S':TS) (st':Nat),nR W B F (aO A hh x k s) st' S' (fun y=>if y=(hh:Int) then (if (aK rG (aO A hh x k s) (tr hh) (single x)).1.root=-1 then none else some (aK rG (aO A hh x k s) (tr hh) (single x)).1.root) else qU A tr y)->cO S' (-1) (aK rG (aO A hh x k s) (tr hh) (single x)).1.root (aK rG (aO A hh x k s) (tr hh) (single x)).1->
   (∀y,y∉(tr hh).nodes++(single x).nodes->S.at S' y)->nu W B F (aO A hh x k s) st' (fun q=>if q=hh then (aK rG (aO A hh x k s) (tr hh) (single x)).1 else tr q)):=fun W S' st' a1 a2 a4=>
  ⟨S',a1.ext (z8 lQ hq),(hI.put ok (by simp [wh]) hB a2 mp Yc (fun y hy=>a4 y hy)).RD⟩
 have u1:aa [] w (w.alloc (.cells #[.int .i64 k,.int .u64 s] 129)):=(aa.refl _ _).alloc _;have kp:=fun W (hW:aa [] (w.alloc (.cells #[.int .i64 k,.int .u64 s] 129)) W)=>oh (hM.cells.aA (u1.trans hW)) hh x k s hk hB;have h0:=hM.h0;have uV:B.n0∉F:=hM.bI.1;have hsz:w.heap.size∉F:=fun hm=>by have:=hlt w.heap.size (by simp [SB.blk,hm]);omega
 have r0:∀W,aa F (w.alloc (.cells #[.int .i64 k,.int .u64 s] 129)) W->W.cell? ⟨B.n0,0,none⟩=some (.pointer (some ⟨B.c,0,none⟩)):=fun W hW=>hW.kept (u1.was h0) uV;have r1:∀W,aa F (w.alloc (.cells #[.int .i64 k,.int .u64 s] 129)) W->W.cell? ⟨w.heap.size,0,none⟩=some (.int .i64 k):=fun W h=>h.kept σ hsz;have r2:∀W,aa F (w.alloc (.cells #[.int .i64 k,.int .u64 s] 129)) W->W.cell? ⟨w.heap.size,1,none⟩=some (.int .u64 s):=fun W h=>h.kept σ hsz;have HM:=χ hM;have HH:=χ (ψ hX (ψ hin (ψ Xn hfr)));have qy:=hM.cF;clear hM hI ok b1 b2 b3 Ph hcx vv hX hin WG mp mh Yc hfr h0 hlt Xn
 generalize hA':aO A hh x k s=A' at *;generalize htr:tr hh=th at *
 go_enter Tryz.func263,Tryz.ntmps263
 go_wp2
 go_region_held3 (aa F (w.alloc (.cells #[.int .i64 k,.int .u64 s] 129))) (exact ν)
  ((go_at_call 154;(with_reducible refine (kp _ β).mono ?_);rintro e w1 ⟨rfl,jF,hu1⟩;(have hu2:aa F (w.alloc (.cells #[.int .i64 k,.int .u64 s] 129)) w1:=ν)))
 have uF:aa F w (w.alloc (.cells #[.int .i64 k,.int .u64 s] 129)):=u1.mono σ;have hM1:=HM.out.dw (uF.trans hu2) jF (fun y hy=>Or.inl hy) hcs;have hw1:aa F w w1:=uF.trans hu2;have k1:=qM hM1 (hh:Int) ω;rw [hfst] at k1;have km:=vO hM1 HH.out.2.2.1 (vI HH.out.2.2.2) HH.out.1 HH.out.2.1;rw [show (single x).root=(x:Int) from rfl] at km;clear r0 r1 r2 kp hu1 hu2 jF uF hM1
 go_wp2_with (first
  | (go_at_call 268;(with_reducible refine (k1).mono ?_);rintro e w9 ⟨rfl,aN⟩;rw [aN];clear aN w9)
  | ((go_at_call 267;(with_reducible refine (km).mono ?_));rintro e w2 ⟨rfl,hu2,S2,hM2,yN,hs2⟩;(have kc:=vB hM2 hh _ ω hmr))
  | ((go_at_call 266;(with_reducible refine (kc).mono ?_));rintro e w3 ⟨rfl,hu3,jU⟩)
  | fail)
 go_ret;refine ⟨rfl,((hw1.mono (fun y hy=>by simp only [SB.blk,ρ];simp [hy])).trans (hu2.mono (fun y hy=>?_))).trans (hu3.mono (by simp [SB.blk])),FI.out _ S2 _ jU yN hs2⟩;simp only [ρ,ς,or_false] at hy;simp only [SB.blk,ρ];rcases hy with rfl|rfl
 ·simp [qy]
 ·simp
theorem OO (h:nu w B F A st tr) (x:Int) (hx:-9223372036854775808<=x/\x<=9223372036854775807) (hn:eB A x=0) :
  Calls Tryz.prog 265 #[.pointer (some ⟨B.n0,0,none⟩),.int .i64 x] w fun e w'=>e=.returned (.tuple #[.int .i64 0,.bool false])/\w'=w:=by
 obtain ⟨S,hM,hI⟩:=h;have hr:Mv (qU A tr x)=-1:=by
  unfold qU
  split
  ·rename_i hq
   have:(tr x.toNat)=.nil:=by
    cases e:tr x.toNat with
    | nil=>rfl
    | node y a b=>
     have:=(hI.mem x.toNat y).1 (by rw [e];simp [BT.nodes]);have:0<eB A x:=fP.2 ⟨y,this.2.1,by show (A.c y).i=x;omega,by omega⟩;omega
   rw [this];rfl
  ·rfl
 have k:=qM hM x hx;rw [hr] at k;clear hM hI
 go_enter Tryz.func265,Tryz.ntmps265
 go_wp2_with (first|(go_at_call 268;(with_reducible refine (k).mono ?_);rintro e w9 ⟨rfl,aN⟩;rw [aN];clear aN w9)|fail)
 go_ret2;exact ⟨rfl,rfl⟩
theorem Cz (h:nu w B F A st tr) (g:Nat) (hn:0<eB A g) :
  Calls Tryz.prog 265 #[.pointer (some ⟨B.n0,0,none⟩),.int .i64 (g:Int)] w fun e w'=>∃m:Nat,dW A g=some m/\(tr g).root=m/\e=.returned (.tuple #[.int .i64 (m:Int),.bool true])/\w'=w:=by
 obtain ⟨S,hM,hI⟩:=h;obtain ⟨m,hm1,hm2⟩:=hI.first hn;have hin:=(lK hm2);have hq:=(aT _ _).1 (jh hM.cells.ok hin.2.2.2);rw [π,hin.2.2.1] at hq;have hb:=hM.cells.ok.h1;have k:=qM hM (g:Int) ω;rw [Ai A tr g ω,hm1] at k;have hb1:((m:Int) == -1)=false:=σ;clear hM hI
 go_enter Tryz.func265,Tryz.ntmps265
 go_wp2_with (first|(go_at_call 268;(with_reducible refine (k).mono ?_);rintro e w9 ⟨rfl,aN⟩;rw [aN];clear aN w9)|fail)
 go_ret2;exact ⟨m,hm2,hm1,rfl,rfl⟩
end
noncomputable def Hw (A:NS) (t:BT) (x:Nat):BT×Nat:=(aj (pathOf t x).1 (aK rG A (pathOf t x).2.1 (pathOf t x).2.2).1,(aK rG A (pathOf t x).2.1 (pathOf t x).2.2).2)
section
variable {w:World} {B:SB} {F:List Nat} {A:NS} {st:Nat} {tr:Nat->BT} {S:TS} {f:Int->Option Int}
theorem Km {bt ba n:Nat} (h:bC w bt ba n S) {fr:Fr} {P:List Fr} {x:Nat} {l r:BT} (hT:cO S (-1) (aj (fr::P) (.node x l r)).root (aj (fr::P) (.node x l r))) (hn:(aj (fr::P) (.node x l r)).nodes.Nodup) (hf:fr.1<n) :
  ∃ (r':Int) (b:Bool),((b=true/\(r' == (x:Int))=fr.2.1)\/(b=false/\fr.2.1=false))/\Calls Tryz.prog 249 #[.pointer (some ⟨bt,0,none⟩),.int .i64 (fr.1:Int)] w fun e w'=>e=.returned (.tuple #[.int .i64 r',.bool b])/\∃k,w'=w.drewN k:=by
 obtain ⟨z,hz,k⟩:=Co h hT hn hf
 by_cases e:z=-1
 ·refine ⟨tv z,tb z,Or.inr ⟨by rw [e];rfl,?_⟩,k⟩;rw [←hz,e];first|(simp;done)|(simp;omega)
 ·exact ⟨tv z,tb z,Or.inl ⟨by unfold tb;simp [e],by unfold tv;rw [if_neg e];exact hz⟩,k⟩
def UL (w':World) (B:SB) (F:List Nat) (A:NS) (st:Nat) (S:TS) (f:Int->Option Int) (g x:Nat) (P:List Fr) (X:List Nat) (T:BT):Prop:=
 ∃S',nR w' B F (bA A x) st S' (fun y=>if P=[]/\y=(g:Int) then (if T.root=-1 then none else some T.root) else f y)/\cO S' (-1) T.root T/\(∀y,y∉X->S.at S' y)/\(S'.l x=-1/\S'.r x=-1/\S'.u x=-1)
theorem Dx (hM:nR w B F A st S f) {g x:Nat} {P:List Fr} {l r:BT} (hin:bX A (x:Int)=true) (hg:(A.c x).i=g) (hgq:1<=g/\g<=65536)
  (hT:cO S (-1) (aj P (.node x l r)).root (aj P (.node x l r))) (hn:(aj P (.node x l r)).nodes.Nodup) (hall:∀y,y∈(aj P (.node x l r)).nodes->bX A (y:Int)=true) :
  Calls Tryz.prog 261 #[.pointer (some ⟨B.n0,0,none⟩),.int .i64 (x:Int)] w fun e w'=>e=.returned (.bool true)/\aa (B.blk F) w w'/\
   UL w' B F A (bZ st (aK rG A l r).2) S f g x P (aj P (.node x l r)).nodes (aj P (aK rG A l r).1):=by
 have hxl:=((ai A x).1 hin).1;have hlt:∀y,y∈(aj P (.node x l r)).nodes->y<A.cs.length:=fun y hy=>((ai A y).1 (hall y hy)).1;have kh:=eH hM.cells x hin;rw [hg] at kh;have h0:=hM.h0;have HM:=χ hM;have QI:=qD hn;have mp:=(mM vH A _ l r (Nat.le_refl _)).1;have hblk:=χ hM.lt;have qy:=hM.cF;have hsep:=χ (ψ hM.sep hM.bI);have HT:=χ (ψ hT (ψ hn (ψ hall hlt)));have HP:=χ QI;have hA:=hM.cells.ok.c1;obtain ⟨m,k,hmk⟩:∃m k,aK rG A l r=(m,k):=⟨_,_,rfl⟩;rw [hmk] at mp;rw [hmk]
 have Y3:∀y,y∈m.nodes->y<A.cs.length:=fun y hy=>hlt y (aH.2 (Or.inl (by
  have:=mp.mem_iff.1 hy
  simp only [BT.nodes];exact List.mem_cons_of_mem _ this)))
 have hmr:-1<=m.root/\m.root<=9223372036854775807:=by
  refine ⟨yL m,?_⟩
  by_cases e:m=.nil
  ·rw [e];show (-1:Int)<=_;omega
  ·have h1:=bN e;have h2:=Y3 _ h1.1;omega
 have Ux:=χ mp;have HMK:=χ hmk;have OE:=χ hin;have HML:=χ Y3;clear hM hT hn hall hlt QI mp hmk hin hg Y3
 go_enter Tryz.func261,Tryz.ntmps261
 go_wp2_with (first|((go_at_call 140;(with_reducible refine (kh).mono ?_));rintro e w1 ⟨rfl,jF,hu1⟩;(have g1:=(HM.out.dw hu1 jF (fun y hy=>Or.inl hy) rfl).h1))|fail)
 have hM1:=HM.out.dw hu1 jF (fun y hy=>Or.inl hy) rfl;have kl:=fun W (hW:aa [] w1 W)=>CW (hM1.aA hW).trees ((fq _ _).1 HT.out.1).1 hxl;have klo:=fun W (hW:aa [] w1 W)=>Ak (hM1.aA hW) (fr:=(x,false,r)) (P:=P) (t:=l) HT.out.1 HT.out.2.1 HT.out.2.2.2;have hn0:B.n0∉[B.c,B.ba]:=by
  have a1:=hsep.out;have a2:B.n0≠B.c:=fun e=>a1.2.1 (by rw [e];exact qy);simp;omega
 have r1:∀W,aa [B.c,B.ba] w1 W->W.cell? ⟨B.n0,1,none⟩=some (.pointer (some ⟨B.bt,0,none⟩)):=fun W hW=>hW.kept g1 hn0;have KC:(aj ((x,true,.nil)::P) r).nodes.Nodup:=by
  have e:=(aR P (.node x .nil r));refine e.nodup_iff.2 ?_;obtain ⟨⟨a1,a2,a3⟩,a4,a5,a6,a7⟩:=HP.out;simp only [BT.nodes,List.nil_append,θ] at a4 ⊢;refine ⟨List.nodup_cons.2 ⟨a2,a4.2.1⟩,a7,fun y hy z hz e=>?_⟩;subst e;rcases ρ.1 hy with e|hy
  ·exact a3 (by rw [←e];exact hz)
  ·exact a6 y hy hz
 have Cw:∀y,y∈(aj ((x,true,.nil)::P) r).nodes->y∈(aj P (.node x l r)).nodes:=fun y hy=>by
  have h':y∈(aj P (.node x .nil r)).nodes:=hy;rw [aH] at h' ⊢;simp only [BT.nodes,List.nil_append,ρ,τ] at h' ⊢;rcases h' with (h'|h')|h'
  ·exact Or.inl (Or.inl h')
  ·exact Or.inl (Or.inr (Or.inr h'))
  ·exact Or.inr h'
 have RU:∀y,y∈l.nodes->y∉(aj ((x,true,.nil)::P) r).nodes:=fun y hy hm=>by
  obtain ⟨⟨a1,a2,a3⟩,a4,a5,a6,a7⟩:=HP.out;rw [θ] at a4;have h':y∈(aj P (.node x .nil r)).nodes:=hm;rw [aH] at h';simp only [BT.nodes,List.nil_append,ρ] at h';rcases h' with (h'|h')|h'
  ·exact a1 (by rw [←h'];exact hy)
  ·exact a4.2.2 y hy y h' rfl
  ·exact a5 y hy h'
 have H3:=χ (ψ KC (ψ Cw RU));clear hM1 jF kh h0 KC Cw RU
 go_region_held3 (aa [B.c,B.ba] w1) (exact ν)
  (first
   | ((go_at_call 248;(with_reducible refine (kl _ η).mono ?_));rintro e w2 ⟨rfl,k2,hw2⟩;(have hq2:aa [] w1 w2:=(by rw [hw2];refine aa.drewN ?_ _;exact η));clear hw2;(have hv2:aa [B.c,B.ba] w1 w2:=hq2.mono σ))
   | ((go_at_call 269;(with_reducible refine (klo _ η).mono ?_));rintro e w3 ⟨rfl,hu3,S3,jU,hl3,hp3,hs3⟩;(have hv3:aa [B.c,B.ba] w1 w3:=aa.trans ν (hu3.mono σ));(have O0:cO S3 (-1) (aj ((x,true,.nil)::P) r).root (aj ((x,true,.nil)::P) r):=hp3);(have kr:=fun W (hW:aa [] w3 W)=>vJ (jU.aA hW).trees ((fq P (.node x .nil r)).1 O0).1 hxl);(have klo2:=fun W (hW:aa [] w3 W)=>Ak (jU.aA hW) (fr:=(x,true,.nil)) (P:=P) (t:=r) O0 H3.out.1 (fun y hy=>HT.out.2.2.2 y (H3.out.2.1 y hy))))
   | ((go_at_call 249;(with_reducible refine (kr _ η).mono ?_));rintro e w4 ⟨rfl,k4,hw4⟩;(have hq4:aa [] w3 w4:=(by rw [hw4];refine aa.drewN ?_ _;exact η));clear hw4;(have hv4:aa [B.c,B.ba] w1 w4:=hv3.trans (hq4.mono σ)))
   | ((go_at_call 269;(with_reducible refine (klo2 _ η).mono ?_));rintro e w5 ⟨rfl,dm,S5,xu,MB,TJ,hs5⟩;(have hv5:aa [B.c,B.ba] w1 w5:=aa.trans ν (dm.mono σ));(have km:=fun W (hW:aa [] w5 W)=>vO (xu.aA hW) (hl3.frame (fun y hy=>hs5 y (H3.out.2.2 y hy))) MB HP.out.2.1 (fun y hy=>HT.out.2.2.1 y (aH.2 (Or.inl (by simp only [BT.nodes];exact List.mem_cons_of_mem _ hy)))));rw [HMK.out] at km)
   | ((go_at_call 267;(with_reducible refine (km _ η).mono ?_));rintro e w6 ⟨rfl,iU,S6,uz,OM,hs6⟩;(have hv6:aa [B.c,B.ba] w1 w6:=aa.trans ν iU)))
 have hp6:cO S6 (-1) (aj P (.node x .nil .nil)).root (aj P (.node x .nil .nil)):=cO.frame (show cO S5 (-1) (aj P (.node x .nil .nil)).root (aj P (.node x .nil .nil)) from TJ) (fun y hy=>hs6 y (fun hm=>by
  obtain ⟨⟨a1,a2,a3⟩,a4,a5,a6,a7⟩:=HP.out;rw [aH] at hy;simp only [BT.nodes,List.nil_append,ρ,ς,or_false] at hy;rw [τ] at hm;rcases hy with e|hy
  ·subst e;rcases hm with hm|hm;exact a1 hm;exact a2 hm
  ·rcases hm with hm|hm;exact a5 y hm hy;exact a6 y hm hy))
 have f6:∀y,y∉(aj P (.node x l r)).nodes->S.at S6 y:=fun y hy=>by
  have h1:y∉l.nodes++r.nodes:=fun hm=>hy (aH.2 (Or.inl (by simp only [BT.nodes];exact List.mem_cons_of_mem _ hm)));exact gT (gT (hs3 y hy) (hs5 y (fun hm=>hy (H3.out.2.1 y hm)))) (hs6 y h1)
 have u6:aa (B.blk F) w w6:=(hu1.mono (fun y hy=>by simp only [SB.blk,ρ];simp [hy])).trans (hv6.mono (fun y hy=>by
   simp only [ρ,ς,or_false] at hy;simp only [SB.blk,ρ];rcases hy with rfl|rfl
   ·simp [qy]
   ·simp))
 have ku:=fun W (hW:aa [] w6 W)=>KG (uz.aA hW).trees hp6 hxl;have XF:=fun W (hW:aa [] w6 W)=>(uz.aA hW).h1;have vU:=χ uz;have H6:=χ (ψ hp6 (ψ f6 OM));have hmm:Hid (∀y,y∈m.nodes->y∉dV P/\y≠x):=fun y hy=>by
  obtain ⟨⟨a1,a2,a3⟩,a4,a5,a6,a7⟩:=HP.out;have h1:=Ux.out.mem_iff.1 hy;rw [τ] at h1;rcases h1 with h1|h1
  ·exact ⟨a5 y h1,fun e=>a1 (by rw [←e];exact h1)⟩
  ·exact ⟨a6 y h1,fun e=>a2 (by rw [←e];exact h1)⟩
 have hmx:Hid (∀y,y∈m.nodes->y∈(aj P (.node x l r)).nodes):=fun y hy=>aH.2 (Or.inl (by
  have h1:=Ux.out.mem_iff.1 hy
  simp only [BT.nodes,ρ];exact Or.inr h1))
 have LH:Hid m.nodes.Nodup:=Ux.out.nodup_iff.2 HP.out.2.1;have H31:=XF w6 (aa.refl _ _);have H32:=(uz.aA ((aa.refl [] w6).drew)).h1;clear uz hp6 f6 OM hs6 hs5 hs3 TJ hp3 O0 hl3 MB xu jU km klo klo2 kr kl r1 hu1 g1 hv6 hv5 hv4 hv3 hv2 hq2 hq4 hu3 dm iU H31 H32;obtain ⟨wX,hwX,uX⟩:∃wX,wX=w6/\aa [] w6 wX:=⟨w6,rfl,aa.refl _ _⟩;cases P with
 | nil=>
  rw [show CY ([]:List Fr)=-1 from rfl,show tv (-1)=0 from rfl,show tb (-1)=false from rfl] at ku;have g61:=XF w6 (aa.refl _ _);clear XF
  go_wp2_with (first
   | ((go_at_call 250;(with_reducible refine (ku _ η).mono ?_));rintro e w7 ⟨rfl,kk,hw7⟩;(have u7:aa [] w6 w7:=(by rw [hw7];refine aa.drewN ?_ _;exact η));clear hw7;(have kc:=vB (vU.out.aA u7) g m.root hgq hmr))
   | ((go_at_call 266;(with_reducible refine (kc).mono ?_));rintro e w8 ⟨rfl,Je,hM8⟩;(have g80:=hM8.h0);(have kd:=iA hM8.cells x OE.out))
   | ((go_at_call 151;(with_reducible refine (kd).mono ?_));rintro e w9 ⟨rfl,hC9,yB⟩)
   | fail)
  go_ret;obtain ⟨b1,b2,b4⟩:=H6.out;have bx:=((fq _ _).1 b1).1;refine ⟨rfl,((u6.trans (u7.mono σ)).trans (Je.mono (by simp [SB.blk]))).trans (yB.mono (fun y hy=>by simp only [SB.blk,ρ];simp [hy])),S6,(hM8.dw yB hC9 (fun y hy=>Or.inl hy) (fQ _ _)).ext (fun y=>?_),b4,b2,⟨bx.2.2.1.root,bx.2.2.2.root,bx.2.1⟩⟩
  by_cases e:y=(g:Int)
  ·rw [if_pos (show ([]:List Fr)=[]/\y=(g:Int) from ⟨rfl,e⟩),if_pos e];rfl
  ·rw [if_neg e,if_neg (show ¬ (([]:List Fr)=[]/\y=(g:Int)) from fun h=>e h.2)]
 | cons fr P2=>
  rw [show CY (fr::P2)=(fr.1:Int) from rfl,SS,Dm] at ku;have hfl:fr.1<A.cs.length:=HT.out.2.2.2 fr.1 (aH.2 (Or.inr (by simp [dV])));have NZ:(aj (fr::P2) (.node x .nil .nil)).nodes.Nodup:=by
   refine (aR (fr::P2) (.node x .nil .nil)).nodup_iff.2 ?_;obtain ⟨⟨a1,a2,a3⟩,a4,a5,a6,a7⟩:=HP.out;simp only [BT.nodes,List.nil_append,List.singleton_append,List.nodup_cons];exact ⟨a3,a7⟩
  have JI:∀y,y∈(aj (fr::P2) (.node x .nil .nil)).nodes->y∈(aj (fr::P2) (.node x l r)).nodes:=fun y hy=>by
   rw [aH] at hy ⊢;simp only [BT.nodes,List.nil_append,ρ,ς,or_false] at hy;rcases hy with hy|hy
   ·exact Or.inl (by simp [BT.nodes,hy])
   ·exact Or.inr hy
  have ksd:=fun W (hW:aa [] w6 W)=>Km (vU.out.aA hW).trees H6.out.1 NZ hfl;have ET:=fun W (hW:aa [] w6 W)=>nY (vU.out.aA hW).trees (f:=fr) (P:=P2) (t:=.node x .nil .nil) H6.out.1 NZ (fun y hy=>HT.out.2.2.2 y (JI y hy));rw [show BT.root (.node x .nil .nil)=(x:Int) from rfl] at ET;generalize hcv:cutV fr (.node x .nil .nil)=cv at ET;generalize hcb:tb (x:Int)=cb at ET;have Iy:=χ (ψ NZ JI);have g61:=XF w6 (aa.refl _ _);clear NZ JI hcv hcb
  go_wp2_with (first
   | ((go_at_call 250;(with_reducible refine (ku _ η).mono ?_));rintro e w7 ⟨rfl,kk,hw7⟩;(have u7:aa [] w6 w7:=(by rw [hw7];refine aa.drewN ?_ _;exact η));clear hw7;(have g71:=XF w7 u7))
   | fail)
  obtain ⟨r',bb,hbb,kr⟩:=ksd w7 u7;have hmz':(m=.nil/\(m.root != -1)=false)\/(m≠.nil/\(m.root != -1)=true):=by
   by_cases e:m=.nil
   ·exact Or.inl ⟨e,by rw [e];rfl⟩
   ·exact Or.inr ⟨e,by have:=(bN e).2;simp;omega⟩
  have HQ61:=χ XF;clear ksd ku XF;rcases hmz' with ⟨hmz,hmb⟩|⟨hmz,hmb⟩
  ·have YL:=χ hmz;clear hmz;rcases hbb with ⟨rfl,hb2⟩|⟨rfl,hb2⟩
   all_goals
    go_wp2_with (first
     | ((go_at_call 249;(with_reducible refine (kr).mono ?_));rintro e w8 ⟨rfl,k8,hw8⟩;(have u8:aa [] w6 w8:=(by rw [hw8];exact u7.drewN k8));clear hw8;(have g81:=HQ61.out w8 u8);(have kc:=ET w8 u8))
     | ((go_at_call 244;(with_reducible refine (kc).mono ?_));rintro e w9 ⟨rfl,yB,S9,UK,Zl,hp9,hs9⟩;(have g90:=((vU.out.aA u8).jd yB UK).h0);(have kd:=iA ((vU.out.aA u8).jd yB UK).cells x OE.out))
     | ((go_at_call 151;(with_reducible refine (kd).mono ?_));rintro e w10 ⟨rfl,Jr,zh⟩)
     | fail)
    go_ret;have hz:=YL.out;subst hz;refine ⟨rfl,((u6.trans (u8.mono σ)).trans (yB.mono (by simp [SB.blk]))).trans (zh.mono (fun y hy=>by simp only [SB.blk,ρ];simp [hy])),S9,(((vU.out.aA u8).jd yB UK).dw zh Jr (fun y hy=>Or.inl hy) (fQ _ _)).ext (fun y=>by rw [if_neg σ]),hp9,fun y hy=>gT (H6.out.2.1 y hy) (hs9 y (fun hm=>hy (Iy.out.2 y hm))),⟨Zl.2.2.1.root,Zl.2.2.2.root,Zl.2.1⟩⟩
  ·have YL:=χ hmz;have hxm:∀y,y∈m.nodes->y∉(aj (fr::P2) (.node x .nil .nil)).nodes:=fun y hy hm=>by
    have b1:=hmm.out y hy;rw [aH] at hm;simp only [BT.nodes,List.nil_append,ρ,ς,or_false] at hm;rcases hm with hm|hm
    ·exact b1.2 hm
    ·exact b1.1 hm
   have hnd:(m.nodes++dV (fr::P2)).Nodup:=by
    rw [θ];exact ⟨LH.out,HP.out.2.2.2.2,fun a ha b hb e=>(hmm.out a ha).1 (by rw [e];exact hb)⟩
   have hsm:∀y,y∈m.nodes++dV (fr::P2)->y∈(aj (fr::P2) (.node x l r)).nodes:=fun y hy=>by
    rw [τ] at hy;rcases hy with hy|hy
    ·exact hmx.out y hy
    ·exact aH.2 (Or.inr hy)
   have Pg:=χ (ψ hxm (ψ hnd hsm));clear hmz hxm hnd hsm;rcases hbb with ⟨rfl,hb2⟩|⟨rfl,hb2⟩
   all_goals
    go_wp2_with (first
     | ((go_at_call 249;(with_reducible refine (kr).mono ?_));rintro e w8 ⟨rfl,k8,hw8⟩;(have u8:aa [] w6 w8:=(by rw [hw8];exact u7.drewN k8));clear hw8;(have g81:=HQ61.out w8 u8);(have kc:=ET w8 u8))
     | ((go_at_call 244;(with_reducible refine (kc).mono ?_));rintro e w9 ⟨rfl,yB,S9,UK,Zl,hp9,hs9⟩;(have g91:=((vU.out.aA u8).jd yB UK).h1);(have khg:=Db UK hp9 (H6.out.2.2.frame (fun y hy=>hs9 y (Pg.out.1 y hy))) YL.out Pg.out.2.1 (fun y hy=>HT.out.2.2.2 y (Pg.out.2.2 y hy)));(try rw [hb2] at khg))
     | ((go_at_call 251;(with_reducible refine (khg).mono ?_));rintro e w9b ⟨rfl,UG,S9b,Y0,hp9b,hs9b⟩;(have g90:=(((vU.out.aA u8).jd yB UK).jd UG Y0).h0);(have kd:=iA (((vU.out.aA u8).jd yB UK).jd UG Y0).cells x OE.out))
     | ((go_at_call 151;(with_reducible refine (kd).mono ?_));rintro e w10 ⟨rfl,Jr,zh⟩)
     | fail)
    go_ret;have vv:x∉m.nodes++dV (fr::P2):=fun hm=>by
     rw [τ] at hm;rcases hm with hm|hm
     ·exact (hmm.out x hm).2 rfl
     ·exact HP.out.1.2.2 hm
    have a3:=hs9b x vv;refine ⟨rfl,(((u6.trans (u8.mono σ)).trans (yB.mono (by simp [SB.blk]))).trans (UG.mono (by simp [SB.blk]))).trans (zh.mono (fun y hy=>by simp only [SB.blk,ρ];simp [hy])),S9b,((((vU.out.aA u8).jd yB UK).jd UG Y0).dw zh Jr (fun y hy=>Or.inl hy) (fQ _ _)).ext (fun y=>by rw [if_neg σ]),hp9b,fun y hy=>gT (gT (H6.out.2.1 y hy) (hs9 y (fun hm=>hy (Iy.out.2 y hm)))) (hs9b y (fun hm=>hy (Pg.out.2.2 y hm))),⟨a3.1.trans Zl.2.2.1.root,a3.2.1.trans Zl.2.2.2.root,a3.2.2.trans Zl.2.1⟩⟩
theorem EX (h:nu w B F A st tr) (g x:Nat) (hx:x∈(tr g).nodes) :
  Calls Tryz.prog 261 #[.pointer (some ⟨B.n0,0,none⟩),.int .i64 (x:Int)] w fun e w'=>e=.returned (.bool true)/\aa (B.blk F) w w'/\
   nu w' B F (bA A x) (bZ st (Hw A (tr g) x).2) (fun q=>if q=g then (Hw A (tr g) x).1 else tr q):=by
 obtain ⟨S,hM,hI⟩:=h;have hm:=(hI.mem g x).1 hx;have hin:bX A (x:Int)=true:=(ai A x).2 ⟨hm.2.1,ω⟩;have e:=nG hx;unfold Hw;generalize (pathOf (tr g) x).1=P at *;generalize (pathOf (tr g) x).2.1=l at *;generalize (pathOf (tr g) x).2.2=r at *;have hq:1<=g/\g<A.hs.length:=by have:=hM.cells.ok.nat x hm.2.1;omega
 have hb65:=hM.cells.ok.h1;have hT:=hI.EE g;have hn:=hI.nd g;have hH:=hI.heap g;rw [e] at hT hn hH;obtain ⟨d1,d2,d3⟩:=GY vH hn hH;refine (Dx hM hin hm.2.2 ω hT hn (fun y hy=>?_)).mono ?_
 ·rw [←e] at hy;have:=(hI.mem g y).1 hy;exact (ai A y).2 ⟨this.2.1,ω⟩
 ·rintro e' w' ⟨rfl,hu,S',q1,q2,q4,q5⟩;refine ⟨rfl,hu,S',q1.ext (fun y=>?_),(xw.del (jC:=wh (bA A x) (fun q=>if q=g then (aj P (aK rG A l r).1) else tr q)) hI hx q2 ?_ d2 (fun y hy=>q4 y (by rw [←e];exact hy)) q5 (fun q hq'=>?_))⟩
  ·rw [←z8 (A':=bA A x) (tr:=tr) (t:=aj P (aK rG A l r).1) (by rw [ji]) hq y]
   by_cases ey:y=(g:Int)
   ·rw [if_pos ey]
    by_cases hp:P=[]
    ·rw [if_pos ⟨hp,ey⟩]
    ·rw [if_neg (fun h=>hp h.1),ey];cases P with
     | nil=>exact absurd rfl hp
     | cons f P2=>
      unfold qU;rw [if_pos ω,π,e,kg f P2 (.node x l r) (aK rG A l r).1]
   ·rw [if_neg ey,if_neg (fun h=>ey h.2)]
  ·rw [e];exact d1
  ·have Yx:q<(bA A (x:Int)).hs.length:=by rw [ji];exact hq'
   unfold wh;rw [φ,List.getElem?_map,List.getElem?_range Yx]
   show (if q=g then aj P (aK rG A l r).1 else tr q).root=_
   by_cases eq:q=g
   ·rw [if_pos eq,if_pos eq]
   ·rw [if_neg eq,if_neg eq];rw [φ,List.getElem?_map,List.getElem?_range hq'];rfl
theorem Bu (h:nu w B F A st tr) (g:Nat) (hn:0<eB A g) :
  Calls Tryz.prog 262 #[.pointer (some ⟨B.n0,0,none⟩),.int .i64 (g:Int)] w fun e w'=>∃m:Nat,dW A g=some m/\e=.returned (.tuple #[.int .i64 (m:Int),.bool true])/\aa (B.blk F) w w'/\
   nu w' B F (bA A m) (bZ st (Hw A (tr g) m).2) (fun q=>if q=g then (Hw A (tr g) m).1 else tr q):=by
 have k:=Cz h g hn;have kd:=fun m hm=>EX h g m hm;have hroot:∀m:Nat,(tr g).root=m->m∈(tr g).nodes:=fun m hm=>by
  have hne:tr g≠.nil:=fun e=>by rw [e] at hm;have:(-1:Int)=m:=hm;omega
  have:=(bN hne).1;rw [hm] at this;simpa using this
 clear h
 go_enter Tryz.func262,Tryz.ntmps262
 go_wp2_with (first
  | ((go_at_call 265;(with_reducible refine (k).mono ?_));rintro e w1 ⟨m,hm1,hm2,rfl,rfl⟩;(have XX:=kd m (hroot m hm2)))
  | ((go_at_call 261;(with_reducible refine (XX).mono ?_));rintro e w2 ⟨rfl,hu2,hL2⟩)
  | fail)
 go_ret2;exact ⟨m,hm1,rfl,hu2,hL2⟩
end
end Go.Proofs.YtklibcncmbofpaaGreat
