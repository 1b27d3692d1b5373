/-
  Lemmas for PathAlike: Sk, Sk2, Sk3, Sk4, Sk5, Sk6, SkQ, SkO. Conditions: those of each lemma.
-/
import Derived.Test.YtklibcncmbofpaaGreatA08
set_option linter.all false
set_option maxHeartbeats 8000000
set_option maxRecDepth 10000
namespace Go.Proofs.YtklibcncmbofpaaGreat
open Go Go.RowKit
structure SB where
 n0:Nat
 c:Nat
 bt:Nat
 ba:Nat
 mb:Nat
structure ny (w:World) (B:SB) (F:List Nat) (A:NS) (st:Nat) (S:TS) (f:Int->Option Int):Prop where
 head:aK w B.n0 234 3 (fun j=>[Value.pointer (some ⟨B.c,0,none⟩),.pointer (some ⟨B.bt,0,none⟩),.map (some B.mb)].getD j undef)
 cells:aC w B.c F A st
 trees:bf w B.bt B.ba A.cs.length S
 top:fT w B.mb f
 bz:B.n0∉F/\B.bt∉F/\B.ba∉F/\B.mb∉F
 sep:(B.n0≠B.bt/\B.n0≠B.ba/\B.n0≠B.mb)/\(B.bt≠B.mb/\B.ba≠B.mb)
section
variable {w:World} {B:SB} {F:List Nat} {A:NS} {st:Nat} {S:TS} {f:Int->Option Int}
def SB.blk (B:SB) (F:List Nat):List Nat:=B.n0::B.bt::B.ba::B.mb::F
theorem ny.upd {w':World} {G:List Nat} (h:ny w B F A st S f) (hu:aa G w w') (hG:∀x,x∈G->x∉B.blk F):ny w' B F A st S f:=by
 have hb:∀y,y∈B.blk F->y∉G:=fun y hy hm=>hG y hm hy;exact ⟨h.head.upd hu (hb _ (by simp [SB.blk])),h.cells.upd hu (fun x hx hm=>hG x hx (by simp [SB.blk,hm])),h.trees.upd hu (hb _ (by simp [SB.blk])) (hb _ (by simp [SB.blk])),h.top.upd hu (hb _ (by simp [SB.blk])),h.bz,h.sep⟩
theorem ny.aj {w':World} (h:ny w B F A st S f) (hu:aa [] w w'):ny w' B F A st S f:=h.upd hu σ
theorem ny.lt (h:ny w B F A st S f):∀x,x∈B.blk F->x<w.heap.size:=fun x hx=>by
 simp only [SB.blk,ρ] at hx;rcases hx with rfl|rfl|rfl|rfl|hx
 ·exact h.head.lt
 ·exact h.trees.head.lt
 ·exact h.trees.row.lt
 ·exact h.top.lt
 ·exact h.cells.lt x hx
theorem ny.cF (h:ny w B F A st S f):B.c∈F:=h.cells.mem
theorem ny.h0 (h:ny w B F A st S f):w.cell? ⟨B.n0,0,none⟩=some (.pointer (some ⟨B.c,0,none⟩)):=h.head.cellAt 0 ω rfl
theorem ny.h1 (h:ny w B F A st S f):w.cell? ⟨B.n0,1,none⟩=some (.pointer (some ⟨B.bt,0,none⟩)):=h.head.cellAt 1 ω rfl
theorem ny.h2 (h:ny w B F A st S f):w.cell? ⟨B.n0,2,none⟩=some (.map (some B.mb)):=h.head.cellAt 2 ω rfl
theorem ny.iE {w':World} {S':TS} (h:ny w B F A st S f) (hu:aa [B.ba] w w') (hT:bf w' B.bt B.ba A.cs.length S'):ny w' B F A st S' f:=by
 obtain ⟨⟨s1,s2,s3⟩,s4,s5⟩:=h.sep;obtain ⟨f1,f2,f3,f4⟩:=h.bz;exact ⟨h.head.upd hu (by simp;exact s2),h.cells.upd hu (fun x hx hm=>by simp at hx;subst hx;exact f3 hm),hT,h.top.upd hu (by simp;exact Ne.symm s5),h.bz,h.sep⟩
theorem ny.VV {w':World} {f':Int->Option Int} (h:ny w B F A st S f) (hu:aa [B.mb] w w') (hM:fT w' B.mb f'):ny w' B F A st S f':=by
 obtain ⟨⟨s1,s2,s3⟩,s4,s5⟩:=h.sep;obtain ⟨f1,f2,f3,f4⟩:=h.bz;exact ⟨h.head.upd hu (by simp;exact s3),h.cells.upd hu (fun x hx hm=>by simp at hx;subst hx;exact f4 hm),h.trees.upd hu (by simp;exact s4) (by simp;exact s5),hM,h.bz,h.sep⟩
theorem ny.bY {w':World} {F':List Nat} {A':NS} {st':Nat} (h:ny w B F A st S f) (hu:aa F w w') (hC:aC w' B.c F' A' st') (hF:∀x,x∈F'->x∈F\/w.heap.size<=x) (h1:A'.cs.length=A.cs.length):ny w' B F' A' st' S f:=by
 obtain ⟨f1,f2,f3,f4⟩:=h.bz;have hn:∀y,y<w.heap.size->y∉F->y∉F':=fun y hy hm hm'=>by rcases hF y hm' with h'|h';exact hm h';omega
 have hl:=h.lt;exact ⟨h.head.upd hu f1,hC,by rw [h1];exact h.trees.upd hu f2 f3,h.top.upd hu f4,⟨hn _ (hl _ (by simp [SB.blk])) f1,hn _ (hl _ (by simp [SB.blk])) f2,hn _ (hl _ (by simp [SB.blk])) f3,hn _ (hl _ (by simp [SB.blk])) f4⟩,h.sep⟩
def M8 (o:Option Int):Int:=o.getD (-1)
theorem qi (h:ny w B F A st S f) (q:Int) (hq:-9223372036854775808<=q/\q<=9223372036854775807) :
  Calls Tryz.prog 268 #[.pointer (some ⟨B.n0,0,none⟩),.int .i64 q] w fun e w'=>e=.returned (.int .i64 (M8 (f q)))/\w'=w:=by
 have h2:=h.h2;have ht:=h.top;have k:=ht.look_ok q hq;unfold M8;cases hf:f q with
 | none=>
  rw [hf] at k;simp only [Option.getD_none,Option.isSome_none] at k ⊢;clear ht h
  go_enter Tryz.func268,Tryz.ntmps268
  go_wp2;go_ret;exact ⟨rfl,rfl⟩
 | some z=>
  rw [hf] at k;simp only [Option.getD_some,Option.isSome_some] at k ⊢;clear ht h
  go_enter Tryz.func268,Tryz.ntmps268
  go_wp2;go_ret;exact ⟨rfl,rfl⟩
theorem vk (h:ny w B F A st S f) (q:Nat) (z:Int) (hq:1<=q/\q<=65536) (hz:-1<=z/\z<=9223372036854775807) :
  Calls Tryz.prog 266 #[.pointer (some ⟨B.n0,0,none⟩),.int .i64 (q:Int),.int .i64 z] w fun e w'=>e=.returned (.tuple #[])/\aa [B.mb] w w'/\ny w' B F A st S (fun y=>if y=(q:Int) then (if z=-1 then none else some z) else f y):=by
 have h2:=h.h2;have ht:=h.top;have H:=χ h
 by_cases he:z=-1
 ·subst he;clear h
  go_enter Tryz.func266,Tryz.ntmps266
  go_wp2_with (refine nZ rfl _ _ rfl B.mb f rfl ht q rfl ω ?_;intro w1 hm1 hu1)
  go_end0;exact ⟨rfl,hu1,H.out.VV hu1 hm1⟩
 ·have hb:(z == -1)=false:=by simpa using he
  rw [Γ he];clear h he
  go_enter Tryz.func266,Tryz.ntmps266
  go_wp2_with (refine lX rfl _ _ _ rfl B.mb f rfl ht q z rfl rfl ω ω ?_;intro w1 hm1 hu1)
  go_end0;exact ⟨rfl,hu1,H.out.VV hu1 hm1⟩
theorem Ab (h:ny w B F A st S f) {fr:Fr} {P:List Fr} {t:BT} (hT:bV S (-1) (af (fr::P) t).root (af (fr::P) t)) (hn:(af (fr::P) t).nodes.Nodup) (hlt:∀y,y∈(af (fr::P) t).nodes->y<A.cs.length) :
  Calls Tryz.prog 269 #[.pointer (some ⟨B.n0,0,none⟩),.int .i64 (tv t.root),.bool (tb t.root)] w fun e w'=>e=.returned (.int .i64 t.root)/\aa [B.ba] w w'/\
   ∃S',ny w' B F A st S' f/\bV S' (-1) t.root t/\bV S' (-1) (af (fr::P) .nil).root (af (fr::P) .nil)/\∀y,y∉(af (fr::P) t).nodes->S.at S' y:=by
 have h1:=h.h1
 by_cases ht:t=.nil
 ·subst ht;rw [show tv (BT.root .nil)=0 from rfl,show tb (BT.root .nil)=false from rfl,show BT.root .nil=-1 from rfl];have H:=χ (ψ h hT);clear h hT hn hlt
  go_enter Tryz.func269,Tryz.ntmps269
  go_wp2;go_ret;exact ⟨rfl,aa.refl _ _,S,H.out.1,rfl,H.out.2,fun y _=>⟨rfl,rfl,rfl⟩⟩
 ·obtain ⟨r,hr⟩:∃r:Nat,t.root=r:=⟨_,BT.xO ht⟩;have kc:=nE h.trees hT hn hlt;rw [show tv t.root=(r:Int) by rw [hr];unfold tv;rw [Γ ω],show tb t.root=true by rw [hr];unfold tb;simp];have H:=χ h;have HR:=χ hr;rw [hr] at kc;generalize tb (r:Int)=bb at kc;generalize cutV fr t=cv at kc;clear h hT hn hlt hr
  go_enter Tryz.func269,Tryz.ntmps269
  go_wp2_with (first
   | ((go_at_call 244;(with_reducible refine (kc).mono ?_));rintro e w1 ⟨rfl,hu1,S1,hT1,ha1,hp1,hs1⟩)
   | fail)
  go_ret;rw [HR.out];exact ⟨rfl,hu1,S1,H.out.iE hu1 hT1,ha1,hp1,hs1⟩
end
def qY (x:Nat) (l m:BT):BT:=.node x m l
theorem uT:TC qY where
 nodes:=fun x l r=>by
  unfold qY;simp only [BT.nodes];exact List.perm_append_comm.cons x
 heap:=fun A x l r h1 h2 hl hr=>⟨h2,h1,hr,hl⟩
 root:=fun x l r=>rfl
theorem C9 {S:TS} {p:Int} {x:Nat} {l r:BT} (h:bV S p x (.node x l r)) (hn:(BT.node x l r).nodes.Nodup):bV (je S x) p x (.node x r l)/\∀y,y≠x->S.at (je S x) y:=by
 have hs:∀y,y≠x->S.at (je S x) y:=fun y hy=>by
  unfold je TS.aF TS.at;simp [hy]
 have hl:(je S x).l x=S.r x:=by unfold je TS.aF;simp
 have hr:(je S x).r x=S.l x:=by unfold je TS.aF;simp
 have hu:(je S x).u x=S.u x:=by unfold je TS.aF;simp
 simp only [BT.nodes,Ζ,τ,not_or] at hn;refine ⟨Ro (hu.trans h.2.1) ?_ ?_,hs⟩
 ·rw [hl];exact h.2.2.2.frame (fun y hy=>hs y (fun e=>hn.1.2 (by rw [←e];exact hy)))
 ·rw [hr];exact h.2.2.1.frame (fun y hy=>hs y (fun e=>hn.1.1 (by rw [←e];exact hy)))
section
variable {w:World} {B:SB} {F:List Nat} {A:NS} {st:Nat} {S:TS} {f:Int->Option Int}
theorem O5 (h:ny w B F A st S f) {p:Int} {x:Nat} {l r:BT} (hT:bV S p x (.node x l r)) (hx:x<A.cs.length) (hr:∀y,y∈r.nodes->y<A.cs.length) :
  Calls Tryz.prog 269 #[.pointer (some ⟨B.n0,0,none⟩),.int .i64 (tv r.root),.bool (tb r.root)] w fun e w'=>e=.returned (.int .i64 r.root)/\aa [B.ba] w w'/\ny w' B F A st (yX S x r) f:=by
 have h1:=h.h1;cases r with
 | nil=>
  rw [show tv (BT.root .nil)=0 from rfl,show tb (BT.root .nil)=false from rfl,show BT.root .nil=-1 from rfl];have H:=χ h;clear h hT hr
  go_enter Tryz.func269,Tryz.ntmps269
  go_wp2;go_ret;exact ⟨rfl,aa.refl _ _,H.out⟩
 | node y a b=>
  obtain ⟨_,_,_,hr'⟩:=hT;have e2:S.u y=x:=hr'.2.1;have kc:=D9 B.bt B.ba A.cs.length S x y w h.trees hx (hr y (by simp [BT.nodes])) e2;rw [show tv (BT.root (.node y a b))=(y:Int) by show tv (y:Int)=y;unfold tv;rw [Γ ω],show tb (BT.root (.node y a b))=true by show tb (y:Int)=true;unfold tb;simp,show BT.root (.node y a b)=(y:Int) from rfl];have H:=χ h;clear h hr hr' e2
  go_enter Tryz.func269,Tryz.ntmps269
  go_wp2_with (first
   | ((go_at_call 244;(with_reducible refine (kc).mono ?_));rintro e w1 ⟨rfl,hT1,hu1⟩)
   | fail)
  go_ret;exact ⟨rfl,hu1,H.out.iE hu1 hT1⟩
theorem KE (h:ny w B F A st S f) {p:Int} {x:Nat} {l r:BT} (hT:bV S p x (.node x l r)) (hx:x<A.cs.length) :
  Calls Tryz.prog 249 #[.pointer (some ⟨B.bt,0,none⟩),.int .i64 (x:Int)] w fun e w'=>e=.returned (.tuple #[.int .i64 (tv r.root),.bool (tb r.root)])/\aa [] w w':=by
 refine (uN h.trees hT hx).mono ?_;rintro e w' ⟨rfl,k,rfl⟩;exact ⟨rfl,(aa.refl _ _).drewN k⟩
theorem yJ (t:BT):-1<=t.root:=by cases t with
 | nil=>exact Int.le_refl _
 | node x l r=>show (-1:Int)<=(x:Int);omega
theorem uY (h:ny w B F A st S f) {ta tb:BT} (ha:bV S (-1) ta.root ta) (hb:bV S (-1) tb.root tb) (hX:(ta.nodes++tb.nodes).Nodup) (hin:∀y,y∈ta.nodes++tb.nodes->bQ A (y:Int)=true) :
  Calls Tryz.prog 267 #[.pointer (some ⟨B.n0,0,none⟩),.int .i64 ta.root,.int .i64 tb.root] w fun e w'=>e=.returned (.int .i64 (aG qY A ta tb).1.root)/\aa [B.c,B.ba] w w'/\
   ∃S',ny w' B F A (bR st (aG qY A ta tb).2) S' f/\bV S' (-1) (aG qY A ta tb).1.root (aG qY A ta tb).1/\∀y,y∉ta.nodes++tb.nodes->S.at S' y:=by
 have hblk:=h.lt;have pY:=h.cF;have hbl0:=hblk B.n0 (by simp [SB.blk]);have hbl1:=hblk B.bt (by simp [SB.blk]);have hbl2:=hblk B.ba (by simp [SB.blk]);have hbl4:=hblk B.c (by simp [SB.blk,pY]);have hs:=χ h.sep;have hA:=h.cells.ok.c1;have hlt:Hid (∀y,y∈ta.nodes++tb.nodes->y<A.cs.length):=fun y hy=>((ae A y).1 (hin y hy)).1;have hXl:(ta.nodes++tb.nodes).length<=A.cs.length:=mI hX hlt.out;have Y5:=χ h;have HBL:=χ hblk;have D0:=χ (Down.start qY A ha hb);have MR:=χ hin;have HX:=χ hX;have hst:=h.cells.ou;clear h ha hb hblk pY hin hX
 go_enter Tryz.func267,Tryz.ntmps267
 go_wp2
 go_loopw [1,2,7] (fun a b way wr=>∃ (S1:TS) (W:List (Nat×BT)) (a1 b1:BT),a=.int .i64 a1.root/\b=.int .i64 b1.root/\wr.ownsRow w.heap.size 3 1 way W.length (Jf W)/\ny wr B F A (bR st W.length) S1 f/\Down qY A S ta tb S1 W a1 b1/\aa [B.c,B.ba] w wr) (fun _ _ way _=>(ta.nodes++tb.nodes).length-lenOf way)
 case atStart=>
  exact ⟨S,[],ta,tb,rfl,rfl,⟨by simp [Jf,aP],Α ⟨rfl,rfl⟩⟩,by rw [List.length_nil,fO hst];exact Y5.out.aj β,D0.out,β⟩
 case round=>
  obtain ⟨S1,W,a1,b1,rfl,rfl,ho,hM,hD,hu⟩:=hrel;have HM:=χ hM;have HD:=χ hD;have HO:=χ ho;have hlen:=hD.len;have h0:=hM.h0;have h1:=hM.h1;clear hM hD;obtain ⟨a5,c5,rfl,hc5⟩:=aY ho;have Bb:∀g,(Value.slice a5 W.length c5).ownBlock=some g->w.heap.size<=g:=fun g hg=>(ho.lt g hg).1;have Ty:=χ Bb;clear ho Bb
  by_cases hne:a1=.nil\/b1=.nil
  ·obtain ⟨m0,e0,U0,hcnt,hor⟩:=HD.out.turn hne;have hz:(a1.root=-1/\b1.root=m0.root)\/(a1.root≠-1/\b1.root=-1/\a1.root=m0.root):=by
    by_cases e:a1.root=-1
    ·rw [Δ e] at e0;exact Α ⟨e,e0.symm⟩
    ·rw [Γ e] at e0;refine Β ⟨e,?_,e0.symm⟩;rcases hne with rfl|rfl
     ·exact absurd rfl e
     ·rfl
   have HU:=χ (ψ U0 hcnt);have hWl:=U0.len;have HUP:=χ hu;rw [←hcnt] at HM;have hzge:=yJ m0;clear hne hor U0 HD hcnt hu hlen h0 e0;generalize a1.root=za at *;generalize b1.root=zb at *;have e9:∃z9,m0.root=z9:=⟨_,rfl⟩;obtain ⟨z9,e9⟩:=e9;rw [e9] at hz hzge;generalize hn0:W.length=n0 at *;have Vv:=χ hn0;clear hn0;have hz':(za=-1/\zb=-1/\z9=-1)\/(za=-1/\zb=z9/\z9 > -1)\/(za=z9/\zb=-1/\z9 > -1):=ω;clear hz hzge;rcases hz' with ⟨rfl,rfl,rfl⟩|⟨rfl,rfl,hzg⟩|⟨rfl,rfl,hzg⟩
   all_goals
    try (have hz2:(za != -1)=true:=ζ)
    try (have hz3:¬ ((-1:Int) > za):=ω)
    go_wp2
    go_loopw [8,9] (fun top i w5=>∃ (S2:TS) (W2 U2:List (Nat×BT)) (m:BT),W=W2++U2/\top=.int .i64 m.root/\i=.int .i64 ((W2.length:Int)-1)/\ny w5 B F A (bR st (aG qY A ta tb).2) S2 f/\Vp qY S (ta.nodes++tb.nodes) (aG qY A ta tb).1 S2 W2 m/\aa [B.ba] wr w5) (fun _ i _=>((intOf i)+1).toNat)
    case atStart=>exact ⟨S1,W,[],m0,σ,by rw [e9],by rw [Vv.out],HM.out,HU.out.1,aa.refl _ _⟩
    case round=>
     obtain ⟨S2,W2,U2,m,rfl,rfl,rfl,hM,hU,hu⟩:=hrel;rename World=>w5;rcases List.eq_nil_or_concat W2 with rfl|⟨W3,⟨x,l⟩,rfl⟩
     ·have e0:=hU.res;simp only [uE] at e0;simp only [List.length_nil];go_wp2;go_ret;rw [e0];exact ⟨rfl,HUP.out.trans (hu.mono σ),S2,hM,hU.isM,fun y hy=>hU.far y hy⟩
     ·have hpx:=hU.perm;simp only [List.concat_eq_append] at *;rw [pJ,ϋ] at hpx;have Bd:∀q,q∈(x::l.nodes)++m.nodes->q<A.cs.length:=fun q hq=>hlt.out q (hpx.mem_iff.1 (List.mem_append_right _ hq));have hnd:((x::l.nodes)++m.nodes).Nodup:=(θ.1 (hpx.nodup_iff.2 HX.out)).2.1;have hxA:=Bd x σ;obtain ⟨g,cap,ee,hI,hg⟩:=IZ.gW (l:=(W3++[(x,l)]++U2).map fun p=>(p.1:Int)) (by rw [List.length_map,Vv.out];exact ay HO.out hu (fun k hk=>by have:=Ty.out k hk;simp;omega)) ζ;rw [List.length_map,Vv.out] at ee
      injection ee with ee1 ee2 ee3
      subst ee1 ee3;have dz:=hI.cell W3.length σ;rw [show (((W3++[(x,l)]++U2).map fun p=>(p.1:Int)).getD W3.length 0)=(x:Int) by simp [φ]] at dz;have h1:=hM.h1;have uZ:=χ hM;have O9:=χ hU;have IG:=χ (ψ Bd hnd);have hTx:=hU.way (x,l) σ;have XX:=χ hTx;have hil:((W3++[(x,l)]).length:Int)-1=W3.length:=σ;rw [hil];have hi0:((W3.length:Int)≥0):=ω;have hWn:W3.length+1+U2.length=n0:=by have:=Vv.out;simp at this;omega
      have FY:(W3.length:Int)<(n0:Int):=ω;have hW3:W3.length<=65536:=ω;clear hM hU Bd hnd hTx hpx hil hI ee2
      by_cases hm:m=.nil
      ·subst hm;simp only [BT.root];have yQ:bV S2 (-1) x (.node x l .nil):=XX.out;obtain ⟨A7,TN⟩:=C9 yQ (by simpa [BT.nodes] using IG.out.2);have kt:=zw B.bt B.ba A.cs.length S2 x w5 uZ.out.trees hxA;have HT3:=χ (ψ A7 TN);clear yQ A7 TN
       go_wp2_with (first
        | ((go_at_call 259;(with_reducible refine (kt).mono ?_));rintro e w6 ⟨rfl,OZ,gF⟩)
        | fail)
       refine ⟨⟨je S2 x,W3,(x,l)::U2,qY x l .nil,σ,rfl,by go_num,uZ.out.iE gF OZ,O9.out.turn uT HX.out HT3.out.1 (fun y h1 _ _=>HT3.out.2 y h1),hu.trans gF⟩,by simp [intOf]⟩
      ·obtain ⟨mr,hmr⟩:∃mr:Nat,m.root=mr:=⟨_,BT.xO hm⟩;have hmm:=(bH hm).1;rw [hmr,π] at hmm;have yQ:bV S2 (-1) x (.node x l .nil):=XX.out;have XH:=O9.out.isM;have hur:S2.u mr=-1:=by
        cases m with
        | nil=>exact absurd rfl hm
        | node q a b=>
         have e:q=mr:=by have e':(q:Int)=mr:=hmr;omega
         subst e;exact XH.2.1
       have hnd:=IG.out.2;have hxm:x≠mr:=fun e=>by
        rw [θ] at hnd;exact hnd.2.2 x σ mr hmm e
       obtain ⟨A7,TN⟩:=BL (m:=m) yQ XH hm (by simpa [BT.nodes] using hnd);rw [hmr] at A7 TN;obtain ⟨Pv,ZN⟩:=C9 A7 (by simpa [BT.nodes] using hnd);have HT3:=χ (ψ A7 (ψ hm (ψ TN (ψ Pv ZN))));have kh:=zk B.bt B.ba A.cs.length S2 x mr true w5 (uZ.out.trees) hxA (IG.out.1 mr (List.mem_append_right _ hmm)) hxm hur yQ.2.2.2;have HMR:=χ hmr;rw [hmr];have hz4:((mr:Int) != -1)=true:=σ;clear yQ XH hur hnd A7 TN Pv ZN hm hmr hmm
       go_wp2_with (first
        | ((go_at_call 251;(with_reducible refine (kh).mono ?_));rintro e w6 ⟨rfl,OZ,gF⟩;(have h16:=(uZ.out.iE gF OZ).h1);(have kt:=zw B.bt B.ba A.cs.length _ x w6 OZ hxA))
        | ((go_at_call 259;(with_reducible refine (kt).mono ?_));rintro e w7 ⟨rfl,T9,jC⟩)
        | fail)
       refine ⟨⟨_,W3,(x,l)::U2,qY x l m,σ,rfl,by go_num,(uZ.out.iE gF OZ).iE jC T9,O9.out.turn uT HX.out HT3.out.2.2.2.1 (fun y h1 _ h3=>?_),(hu.trans gF).trans jC⟩,by simp [intOf]⟩;have a1:=HT3.out.2.2.1 y h1 h3;have a2:=HT3.out.2.2.2.2 y h1;exact ⟨a2.1.trans a1.1,a2.2.1.trans a1.2.1,a2.2.2.trans a1.2.2⟩
  ·obtain ⟨x,l,r,rfl⟩:∃x l r,a1=.node x l r:=by
    cases a1 with
    | nil=>exact absurd (Α rfl) hne
    | node x l r=>exact ⟨x,l,r,rfl⟩
   obtain ⟨y,l',r',rfl⟩:∃x l r,b1=.node x l r:=by
    cases b1 with
    | nil=>exact absurd (Β rfl) hne
    | node x l r=>exact ⟨x,l,r,rfl⟩
   clear hne;have hmx:∀z,z∈(BT.node x l r).nodes++(BT.node y l' r').nodes->z∈ta.nodes++tb.nodes:=fun z hz=>HD.out.perm.mem_iff.1 (List.mem_append_right _ hz);have hxm:=hmx x (by simp [BT.nodes]);have hym:=hmx y (by simp [BT.nodes]);have hWl:W.length+2<=(ta.nodes++tb.nodes).length:=by simp only [BT.nodes,Ω,υ] at hlen ⊢;omega
   have Ud:=χ hmx;have hxb:((x:Int) != -1)=true:=σ;have hyb:((y:Int) != -1)=true:=σ;clear hmx hlen;have kA:=dX HM.out.cells y x (MR.out y hym) (MR.out x hxm);obtain ⟨sw,hsw⟩:∃sw,decide (bX A y x)=sw:=⟨_,rfl⟩;rw [hsw] at kA;have KEY:∃ (z:Nat) (lz rz o:BT),z=(if sw then y else x)/\Down qY A S ta tb (yX S1 z rz) (W++[(z,lz)]) rz o/\bV S1 (-1) z (.node z lz rz)/\z<A.cs.length/\(∀q,q∈rz.nodes->q<A.cs.length)/\o.root=(if sw then (x:Int) else (y:Int)):=by
    cases sw with
    | true=>
     exact ⟨y,l',r',.node x l r,rfl,HD.out.takeB HX.out (ϟ hsw),HD.out.isB,hlt.out y hym,fun q hq=>hlt.out q (Ud.out q (by simp [BT.nodes,hq])),rfl⟩
    | false=>
     exact ⟨x,l,r,.node y l' r',rfl,HD.out.takeA HX.out (of_decide_eq_false hsw),HD.out.isA,hlt.out x hxm,fun q hq=>hlt.out q (Ud.out q (by simp [BT.nodes,hq])),rfl⟩
   obtain ⟨z,lz,rz,o,ez,hD2,hTz,hz,hrz,eo⟩:=KEY;have HD2:=χ hD2;have HT:=χ hTz;have HQ:=χ hrz;clear hD2 hTz hrz hsw;simp only [BT.root];cases sw
   all_goals
    simp only [if_true,if_false,Ϟ] at ez eo;subst ez
    go_wp2_with fail
    refine kA.mono ?_;rintro e w1 ⟨rfl,jd,hu1⟩;have hM1:=χ (HM.out.bY (hu1.mono (by simp [HM.out.cF])) jd (fun x hx=>Α hx) rfl);have hss:bR (bR st W.length) 1=bR st (W.length+1):=iN _ _ _;rw [hss] at hM1;have ho1:=ay HO.out hu1 (fun k hk=>by have:=Ty.out k hk;simp;omega);have h01:=hM1.out.h0;have h11:=hM1.out.h1;clear h0 h1 kA hss;have Ve:=χ (ψ hu hu1);clear hu hu1 jd;have HGB:Hid (∀g,g∈(Value.slice a5 W.length c5).ownBlock.toList->g∉B.blk F):=fun g hg hb=>by
     have h1:=Ty.out g (Option.mem_toList.1 hg);have h2:=HBL.out g hb;omega
    have hsz1:w.heap.size<=w1.heap.size:=(Ve.out.1.trans (Ve.out.2.mono σ)).size
    go_wp2_with (first
     | ((at_builtin;refine aV rfl _ _ 26 rfl w.heap.size 3 (.int .i64 0) 1 8 Tryz.underlying26 fE rfl δ _ _ _ rfl (ho1) [.int .i64 (z:Int)] rfl (by simp [Value.oneCell']) (by first|rfl|(rw [Κ];rfl)) μ ω (ω) ?_;intro v2 w2 ho2 hu2 mG);(have hM2:=χ (hM1.out.upd hu2 HGB.out));(have k12:=hM2.out.h1);(have kr:=KE hM2.out HT.out hz))
     | (go_at_call 249;(with_reducible refine (kr).mono ?_);rintro e w3 ⟨rfl,hu3⟩;(have jD:=χ (hM2.out.aj hu3));(have kc:=O5 jD.out HT.out hz HQ.out))
     | (go_at_call 269;(with_reducible refine (kc).mono ?_);rintro e w4 ⟨rfl,fZ,rQ⟩)
     | fail)
    obtain ⟨a6,c6,rfl,hc6⟩:=aY ho2;have Xp:∀k,(Value.slice a6 (W.length+1) c6).ownBlock=some k->w.heap.size<=k:=fun k hk=>(ho2.lt k hk).1;refine ⟨⟨_,W++[(z,lz)],rz,o,rfl,congrArg (Value.int .i64) eo.symm,?_,?_,HD2.out,?_⟩,?_⟩
    ·rw [Cv,υ,List.length_singleton];exact ay (ay ho2 hu3 σ) fZ (fun k hk=>by have:=Xp k hk;simp;omega)
    ·rw [υ,List.length_singleton];exact rQ
    ·have v1:aa [B.c,B.ba] w w1:=Ve.out.1.trans (Ve.out.2.mono σ);have v2:aa [B.c,B.ba] w w2:=v1.joined hu2 (fun g hg=>Β (Ty.out g (Option.mem_toList.1 hg)));exact (v2.trans (hu3.mono σ)).trans (fZ.mono σ)
    ·show (ta.nodes++tb.nodes).length-(W.length+1)<(ta.nodes++tb.nodes).length-W.length
     omega
end
def qK (A:NS) (tr:Nat->BT) (q:Int):Option Int:=if 1<=q/\q<A.hs.length then (if (tr q.toNat).root=-1 then none else some (tr q.toNat).root) else none
def wz (A:NS) (tr:Nat->BT):List Int:=(List.range A.hs.length).map fun h=>(tr h).root
theorem vT.Tu {K:Tv} {A:NS} {S:TS} {ah:List Int} {tr:Nat->BT} (h:vT K A S ah tr):vT K A S (wz A tr) tr:=
 ⟨fun q hq=>by unfold wz;simp [φ,hq],h.Ex,h.mem,h.nd,h.heap,h.free⟩
def mq (w:World) (B:SB) (F:List Nat) (A:NS) (st:Nat) (tr:Nat->BT):Prop:=∃S,ny w B F A st S (qK A tr)/\TrI A S (wz A tr) tr
theorem Ai (A:NS) (tr:Nat->BT) (q:Nat) (h:1<=q/\q<A.hs.length):M8 (qK A tr (q:Int))=(tr q).root:=by
 unfold qK M8;rw [Δ ω,π]
 split
 ·rename_i e;rw [e];rfl
 ·rfl
theorem ny.ext {w:World} {B:SB} {F:List Nat} {A:NS} {st:Nat} {S:TS} {f g:Int->Option Int} (h:ny w B F A st S f) (e:∀k,f k=g k):ny w B F A st S g:=⟨h.head,h.cells,h.trees,h.top.ext e,h.bz,h.sep⟩
theorem zi {A A':NS} {tr:Nat->BT} {q:Nat} {t:BT} (hl:A'.hs.length=A.hs.length) (hq:1<=q/\q<A.hs.length) (k:Int):(if k=(q:Int) then (if t.root=-1 then none else some t.root) else qK A tr k)=qK A' (fun y=>if y=q then t else tr y) k:=by
 by_cases e:k=(q:Int)
 ·subst e;have e1:qK A' (fun y=>if y=q then t else tr y) (q:Int)=(if t.root=-1 then none else some t.root):=by
   unfold qK;rw [hl,Δ (show 1<=(q:Int)/\(q:Int)<A.hs.length by omega)];have:(fun y=>if y=q then t else tr y) (q:Int).toNat=t:=σ;rw [this]
  rw [e1,Δ rfl]
 ·have e1:qK A' (fun y=>if y=q then t else tr y) k=qK A tr k:=by
   unfold qK;rw [hl]
   by_cases h:1<=k/\k<A.hs.length
   ·rw [Δ h,Δ h];have:(fun y=>if y=q then t else tr y) k.toNat=tr k.toNat:=by
     show (if k.toNat=q then t else tr k.toNat)=_
     rw [Γ ω]
    rw [this]
   ·rw [Γ h,Γ h]
  rw [e1,Γ e]
theorem UL {A:NS} {S:TS} {ah:List Int} {tr:Nat->BT} (h:TrI A S ah tr) (hA:A.cs.length<=65536) {t:BT} (ht:∀y,y∈t.nodes->y<A.cs.length):-1<=t.root/\t.root<=9223372036854775807:=by
 refine ⟨yJ t,?_⟩
 by_cases e:t=.nil
 ·rw [e];show (-1:Int)<=_;omega
 ·have h1:=bH e;have h2:=ht _ h1.1;omega
section
variable {w:World} {B:SB} {F:List Nat} {A:NS} {st:Nat} {tr:Nat->BT}
theorem mq.upd {w':World} {G:List Nat} (h:mq w B F A st tr) (hu:aa G w w') (hG:∀x,x∈G->x∉B.blk F):mq w' B F A st tr:=by
 obtain ⟨S,hM,hI⟩:=h;exact ⟨S,hM.upd hu hG,hI⟩
theorem mq.aj {w':World} (h:mq w B F A st tr) (hu:aa [] w w'):mq w' B F A st tr:=h.upd hu σ
theorem Gp (h:mq w B F A st tr) (hh x:Nat) (k s:Int) (hk:-9223372036854775808<=k/\k<=9223372036854775807/\0<=s/\s<=18446744073709551615) (hB:nR A hh x=true) :
  Calls Tryz.prog 263 #[.pointer (some ⟨B.n0,0,none⟩),.int .i64 (hh:Int),.int .i64 (x:Int),.agg #[.int .i64 k,.int .u64 s]] w fun e w'=>e=.returned (.bool true)/\aa (B.blk F) w w'/\
   mq w' B F (aJ A hh x k s) (bR st (aG qY (aJ A hh x k s) (tr hh) (single x)).2) (fun q=>if q=hh then (aG qY (aJ A hh x k s) (tr hh) (single x)).1 else tr q):=by
 obtain ⟨S,hM,hI⟩:=h;have hlt:=hM.lt;have ok:=hM.cells.ok;obtain ⟨b1,b2,b3⟩:=(dW _ _ _).1 hB;have b4:=(aO _ _).1 b1;have hx:x<A.cs.length:=by have:=(gH _ _).1 b2;omega
 have Po:(A.c x).i=0:=by
  have:=(ok.nat x hx).1;have h3:¬ (0<(A.c x).i):=fun h'=>by rw [(ae A x).2 ⟨hx,h'⟩] at b3;cases b3
  omega
 have hcs:(aJ A hh x k s).cs.length=A.cs.length:=by unfold aJ;rw [Δ hB,eY]
 have kY:(aJ A hh x k s).hs.length=A.hs.length:=by unfold aJ;rw [Δ hB];rfl
 have hcx:∀y,(aJ A hh x k s).c y=if y=x then ⟨hh,k,s⟩ else A.c y:=fun y=>by
  unfold aJ;rw [Δ hB,π,jQ]
  by_cases e:y=x
  ·rw [Δ ⟨e,hx⟩,Δ e]
  ·rw [Γ (fun h=>e h.1),Γ e]
 have uJ:x∉(tr hh).nodes:=hI.out Po;have hX:((tr hh).nodes++(single x).nodes).Nodup:=by
  rw [θ];refine ⟨hI.nd hh,by simp [single,BT.nodes],fun a ha b hb e=>?_⟩;simp only [single,BT.nodes,Υ,ϒ] at hb;exact uJ (by rw [←hb,←e];exact ha)
 have hin:∀y,y∈(tr hh).nodes++(single x).nodes->bQ (aJ A hh x k s) (y:Int)=true:=fun y hy=>by
  rw [ae,hcs,hcx];simp only [single,BT.nodes,Υ,τ,ϒ] at hy
  by_cases e:y=x
  ·rw [Δ e,e];exact ⟨hx,by show (0:Int)<(hh:Int);omega⟩
  ·rw [Γ e];have:=(hI.mem hh y).1 (hy.resolve_right e);exact ⟨this.2.1,ω⟩
 have WC:Heap (aJ A hh x k s) (tr hh):=(hI.heap hh).frame (fun y hy=>by rw [hcx,Γ (fun e=>uJ (by rw [←e];exact hy))]);obtain ⟨mp,mh⟩:=lT uT (aJ A hh x k s) _ (tr hh) (single x) (Θ _);have YF:=mh WC ⟨by simp [BT.nodes],by simp [BT.nodes],trivial,trivial⟩ hX;have hfr:=hI.free x hx Po;have WI:=hI.Ex hh;have hq:1<=hh/\hh<A.hs.length:=ω;have hb65:=ok.h1
 have hmr:=UL hI ok.c1 (t:=(aG qY (aJ A hh x k s) (tr hh) (single x)).1) (fun y hy=>by
  have h1:=mp.mem_iff.1 hy;have:=(ae _ y).1 (hin y h1)
  rw [hcs] at this;exact this.1)
 have hfst:=Ai A tr hh hq
 have FI:Hid (∀ (W:World) (S':TS) (st':Nat),ny W B F (aJ A hh x k s) st' S' (fun y=>if y=(hh:Int) then (if (aG qY (aJ A hh x k s) (tr hh) (single x)).1.root=-1 then none else some (aG qY (aJ A hh x k s) (tr hh) (single x)).1.root) else qK A tr y)->bV S' (-1) (aG qY (aJ A hh x k s) (tr hh) (single x)).1.root (aG qY (aJ A hh x k s) (tr hh) (single x)).1->
   (∀y,y∉(tr hh).nodes++(single x).nodes->S.at S' y)->mq W B F (aJ A hh x k s) st' (fun q=>if q=hh then (aG qY (aJ A hh x k s) (tr hh) (single x)).1 else tr q)):=fun W S' st' a1 a2 a4=>
  ⟨S',a1.ext (zi kY hq),(hI.put ok (by simp [wz]) hB a2 mp YF (fun y hy=>a4 y hy)).Tu⟩
 have u1:aa [] w (w.alloc (.cells #[.int .i64 k,.int .u64 s] 129)):=(aa.refl _ _).alloc _;have kp:=fun W (hW:aa [] (w.alloc (.cells #[.int .i64 k,.int .u64 s] 129)) W)=>nC (hM.cells.aj (u1.trans hW)) hh x k s hk hB;have h0:=hM.h0;have uH:B.n0∉F:=hM.bz.1;have hsz:w.heap.size∉F:=fun hm=>by have:=hlt w.heap.size (by simp [SB.blk,hm]);omega
 have r0:∀W,aa F (w.alloc (.cells #[.int .i64 k,.int .u64 s] 129)) W->W.cell? ⟨B.n0,0,none⟩=some (.pointer (some ⟨B.c,0,none⟩)):=fun W hW=>hW.kept (u1.was h0) uH;have r1:∀W,aa F (w.alloc (.cells #[.int .i64 k,.int .u64 s] 129)) W->W.cell? ⟨w.heap.size,0,none⟩=some (.int .i64 k):=fun W h=>h.kept σ hsz;have r2:∀W,aa F (w.alloc (.cells #[.int .i64 k,.int .u64 s] 129)) W->W.cell? ⟨w.heap.size,1,none⟩=some (.int .u64 s):=fun W h=>h.kept σ hsz;have HM:=χ hM;have HH:=χ (ψ hX (ψ hin (ψ WI hfr)));have pY:=hM.cF;clear hM hI ok b1 b2 b3 Po hcx uJ hX hin WC mp mh YF hfr h0 hlt WI
 generalize hA':aJ A hh x k s=A' at *;generalize htr:tr hh=th at *
 go_enter Tryz.func263,Tryz.ntmps263
 go_wp2
 go_region_held3 (aa F (w.alloc (.cells #[.int .i64 k,.int .u64 s] 129))) (exact ν)
  ((go_at_call 154;(with_reducible refine (kp _ β).mono ?_);rintro e w1 ⟨rfl,jd,hu1⟩;(have hu2:aa F (w.alloc (.cells #[.int .i64 k,.int .u64 s] 129)) w1:=ν)))
 have uF:aa F w (w.alloc (.cells #[.int .i64 k,.int .u64 s] 129)):=u1.mono σ;have hM1:=HM.out.bY (uF.trans hu2) jd (fun y hy=>Α hy) hcs;have hw1:aa F w w1:=uF.trans hu2;have k1:=qi hM1 (hh:Int) ω;rw [hfst] at k1;have km:=uY hM1 HH.out.2.2.1 (uP HH.out.2.2.2) HH.out.1 HH.out.2.1;rw [show (single x).root=(x:Int) from rfl] at km;clear r0 r1 r2 kp hu1 hu2 jd uF hM1
 go_wp2_with (first
  | (go_at_call 268;(with_reducible refine (k1).mono ?_);rintro e w9 ⟨rfl,aI⟩;rw [aI];clear aI w9)
  | ((go_at_call 267;(with_reducible refine (km).mono ?_));rintro e w2 ⟨rfl,hu2,S2,hM2,yQ,hs2⟩;(have kc:=vk hM2 hh _ ω hmr))
  | ((go_at_call 266;(with_reducible refine (kc).mono ?_));rintro e w3 ⟨rfl,hu3,jD⟩)
  | fail)
 go_ret;refine ⟨rfl,((hw1.mono (fun y hy=>by simp only [SB.blk,ρ];simp [hy])).trans (hu2.mono (fun y hy=>?_))).trans (hu3.mono (by simp [SB.blk])),FI.out _ S2 _ jD yQ hs2⟩;simp only [ρ,ς,or_false] at hy;simp only [SB.blk,ρ];rcases hy with rfl|rfl
 ·simp [pY]
 ·simp
theorem MJ (h:mq w B F A st tr) (x:Int) (hx:-9223372036854775808<=x/\x<=9223372036854775807) (hn:dI A x=0) :
  Calls Tryz.prog 265 #[.pointer (some ⟨B.n0,0,none⟩),.int .i64 x] w fun e w'=>e=.returned (.tuple #[.int .i64 0,.bool false])/\w'=w:=by
 obtain ⟨S,hM,hI⟩:=h;have hr:M8 (qK A tr x)=-1:=by
  unfold qK
  split
  ·rename_i hq
   have:(tr x.toNat)=.nil:=by
    cases e:tr x.toNat with
    | nil=>rfl
    | node y a b=>
     have:=(hI.mem x.toNat y).1 (by rw [e];simp [BT.nodes]);have:0<dI A x:=eH.2 ⟨y,this.2.1,by show (A.c y).i=x;omega,by omega⟩;omega
   rw [this];rfl
  ·rfl
 have k:=qi hM x hx;rw [hr] at k;clear hM hI
 go_enter Tryz.func265,Tryz.ntmps265
 go_wp2_with (first|(go_at_call 268;(with_reducible refine (k).mono ?_);rintro e w9 ⟨rfl,aI⟩;rw [aI];clear aI w9)|fail)
 go_ret2;exact ⟨rfl,rfl⟩
theorem Cw (h:mq w B F A st tr) (g:Nat) (hn:0<dI A g) :
  Calls Tryz.prog 265 #[.pointer (some ⟨B.n0,0,none⟩),.int .i64 (g:Int)] w fun e w'=>∃m:Nat,dF A g=some m/\(tr g).root=m/\e=.returned (.tuple #[.int .i64 (m:Int),.bool true])/\w'=w:=by
 obtain ⟨S,hM,hI⟩:=h;obtain ⟨m,hm1,hm2⟩:=hI.first hn;have hin:=(kQ hm2);have hq:=(aO _ _).1 (iJ hM.cells.ok hin.2.2.2);rw [π,hin.2.2.1] at hq;have hb:=hM.cells.ok.h1;have k:=qi hM (g:Int) ω;rw [Ai A tr g ω,hm1] at k;have hb1:((m:Int) == -1)=false:=σ;clear hM hI
 go_enter Tryz.func265,Tryz.ntmps265
 go_wp2_with (first|(go_at_call 268;(with_reducible refine (k).mono ?_);rintro e w9 ⟨rfl,aI⟩;rw [aI];clear aI w9)|fail)
 go_ret2;exact ⟨m,hm2,hm1,rfl,rfl⟩
end
noncomputable def Ga (A:NS) (t:BT) (x:Nat):BT×Nat:=(af (pathOf t x).1 (aG qY A (pathOf t x).2.1 (pathOf t x).2.2).1,(aG qY A (pathOf t x).2.1 (pathOf t x).2.2).2)
section
variable {w:World} {B:SB} {F:List Nat} {A:NS} {st:Nat} {tr:Nat->BT} {S:TS} {f:Int->Option Int}
theorem IL {bt ba n:Nat} (h:bf w bt ba n S) {fr:Fr} {P:List Fr} {x:Nat} {l r:BT} (hT:bV S (-1) (af (fr::P) (.node x l r)).root (af (fr::P) (.node x l r))) (hn:(af (fr::P) (.node x l r)).nodes.Nodup) (hf:fr.1<n) :
  ∃ (r':Int) (b:Bool),((b=true/\(r' == (x:Int))=fr.2.1)\/(b=false/\fr.2.1=false))/\Calls Tryz.prog 249 #[.pointer (some ⟨bt,0,none⟩),.int .i64 (fr.1:Int)] w fun e w'=>e=.returned (.tuple #[.int .i64 r',.bool b])/\∃k,w'=w.drewN k:=by
 obtain ⟨z,hz,k⟩:=CL h hT hn hf
 by_cases e:z=-1
 ·refine ⟨tv z,tb z,Β ⟨by rw [e];rfl,?_⟩,k⟩;rw [←hz,e];first|(simp;done)|(simp;omega)
 ·exact ⟨tv z,tb z,Α ⟨by unfold tb;simp [e],by unfold tv;rw [Γ e];exact hz⟩,k⟩
def VT (w':World) (B:SB) (F:List Nat) (A:NS) (st:Nat) (S:TS) (f:Int->Option Int) (g x:Nat) (P:List Fr) (X:List Nat) (T:BT):Prop:=
 ∃S',ny w' B F (aZ A x) st S' (fun y=>if P=[]/\y=(g:Int) then (if T.root=-1 then none else some T.root) else f y)/\bV S' (-1) T.root T/\(∀y,y∉X->S.at S' y)/\(S'.l x=-1/\S'.r x=-1/\S'.u x=-1)
theorem Di (hM:ny w B F A st S f) {g x:Nat} {P:List Fr} {l r:BT} (hin:bQ A (x:Int)=true) (hg:(A.c x).i=g) (hgq:1<=g/\g<=65536)
  (hT:bV S (-1) (af P (.node x l r)).root (af P (.node x l r))) (hn:(af P (.node x l r)).nodes.Nodup) (hall:∀y,y∈(af P (.node x l r)).nodes->bQ A (y:Int)=true) :
  Calls Tryz.prog 261 #[.pointer (some ⟨B.n0,0,none⟩),.int .i64 (x:Int)] w fun e w'=>e=.returned (.bool true)/\aa (B.blk F) w w'/\
   VT w' B F A (bR st (aG qY A l r).2) S f g x P (af P (.node x l r)).nodes (af P (aG qY A l r).1):=by
 have hxl:=((ae A x).1 hin).1;have hlt:∀y,y∈(af P (.node x l r)).nodes->y<A.cs.length:=fun y hy=>((ae A y).1 (hall y hy)).1;have kh:=dK hM.cells x hin;rw [hg] at kh;have h0:=hM.h0;have HM:=χ hM;have Q5:=qH hn;have mp:=(lT uT A _ l r (Θ _)).1;have hblk:=χ hM.lt;have pY:=hM.cF;have hsep:=χ (ψ hM.sep hM.bz);have HT:=χ (ψ hT (ψ hn (ψ hall hlt)));have HP:=χ Q5;have hA:=hM.cells.ok.c1;obtain ⟨m,k,hmk⟩:∃m k,aG qY A l r=(m,k):=⟨_,_,rfl⟩;rw [hmk] at mp;rw [hmk]
 have XI:∀y,y∈m.nodes->y<A.cs.length:=fun y hy=>hlt y (aD.2 (Α (by
  have:=mp.mem_iff.1 hy
  simp only [BT.nodes];exact Λ _ this)))
 have hmr:-1<=m.root/\m.root<=9223372036854775807:=by
  refine ⟨yJ m,?_⟩
  by_cases e:m=.nil
  ·rw [e];show (-1:Int)<=_;omega
  ·have h1:=bH e;have h2:=XI _ h1.1;omega
 have Uo:=χ mp;have HMK:=χ hmk;have MR:=χ hin;have HML:=χ XI;clear hM hT hn hall hlt Q5 mp hmk hin hg XI
 go_enter Tryz.func261,Tryz.ntmps261
 go_wp2_with (first|((go_at_call 140;(with_reducible refine (kh).mono ?_));rintro e w1 ⟨rfl,jd,hu1⟩;(have g1:=(HM.out.bY hu1 jd (fun y hy=>Α hy) rfl).h1))|fail)
 have hM1:=HM.out.bY hu1 jd (fun y hy=>Α hy) rfl;have kl:=fun W (hW:aa [] w1 W)=>Cn (hM1.aj hW).trees ((dL _ _).1 HT.out.1).1 hxl;have klo:=fun W (hW:aa [] w1 W)=>Ab (hM1.aj hW) (fr:=(x,false,r)) (P:=P) (t:=l) HT.out.1 HT.out.2.1 HT.out.2.2.2;have hn0:B.n0∉[B.c,B.ba]:=by
  have a1:=hsep.out;have a2:B.n0≠B.c:=fun e=>a1.2.1 (by rw [e];exact pY);simp;omega
 have r1:∀W,aa [B.c,B.ba] w1 W->W.cell? ⟨B.n0,1,none⟩=some (.pointer (some ⟨B.bt,0,none⟩)):=fun W hW=>hW.kept g1 hn0;have Jm:(af ((x,true,.nil)::P) r).nodes.Nodup:=by
  have e:=(aM P (.node x .nil r));refine e.nodup_iff.2 ?_;obtain ⟨⟨a1,a2,a3⟩,a4,a5,a6,a7⟩:=HP.out;simp only [BT.nodes,Ϛ,θ] at a4 ⊢;refine ⟨List.nodup_cons.2 ⟨a2,a4.2.1⟩,a7,fun y hy z hz e=>?_⟩;subst e;rcases ρ.1 hy with e|hy
  ·exact a3 (by rw [←e];exact hz)
  ·exact a6 y hy hz
 have Cs:∀y,y∈(af ((x,true,.nil)::P) r).nodes->y∈(af P (.node x l r)).nodes:=fun y hy=>by
  have h':y∈(af P (.node x .nil r)).nodes:=hy;rw [aD] at h' ⊢;simp only [BT.nodes,Ϛ,ρ,τ] at h' ⊢;rcases h' with (h'|h')|h'
  ·exact Α (Α h')
  ·exact Α (Β (Β h'))
  ·exact Β h'
 have QM:∀y,y∈l.nodes->y∉(af ((x,true,.nil)::P) r).nodes:=fun y hy hm=>by
  obtain ⟨⟨a1,a2,a3⟩,a4,a5,a6,a7⟩:=HP.out;rw [θ] at a4;have h':y∈(af P (.node x .nil r)).nodes:=hm;rw [aD] at h';simp only [BT.nodes,Ϛ,ρ] at h';rcases h' with (h'|h')|h'
  ·exact a1 (by rw [←h'];exact hy)
  ·exact a4.2.2 y hy y h' rfl
  ·exact a5 y hy h'
 have H3:=χ (ψ Jm (ψ Cs QM));clear hM1 jd kh h0 Jm Cs QM
 go_region_held3 (aa [B.c,B.ba] w1) (exact ν)
  (first
   | ((go_at_call 248;(with_reducible refine (kl _ η).mono ?_));rintro e w2 ⟨rfl,k2,hw2⟩;(have hq2:aa [] w1 w2:=(by rw [hw2];refine aa.drewN ?_ _;exact η));clear hw2;(have hv2:aa [B.c,B.ba] w1 w2:=hq2.mono σ))
   | ((go_at_call 269;(with_reducible refine (klo _ η).mono ?_));rintro e w3 ⟨rfl,hu3,S3,jD,hl3,hp3,hs3⟩;(have hv3:aa [B.c,B.ba] w1 w3:=aa.trans ν (hu3.mono σ));(have OV:bV S3 (-1) (af ((x,true,.nil)::P) r).root (af ((x,true,.nil)::P) r):=hp3);(have kr:=fun W (hW:aa [] w3 W)=>uN (jD.aj hW).trees ((dL P (.node x .nil r)).1 OV).1 hxl);(have klo2:=fun W (hW:aa [] w3 W)=>Ab (jD.aj hW) (fr:=(x,true,.nil)) (P:=P) (t:=r) OV H3.out.1 (fun y hy=>HT.out.2.2.2 y (H3.out.2.1 y hy))))
   | ((go_at_call 249;(with_reducible refine (kr _ η).mono ?_));rintro e w4 ⟨rfl,k4,hw4⟩;(have hq4:aa [] w3 w4:=(by rw [hw4];refine aa.drewN ?_ _;exact η));clear hw4;(have hv4:aa [B.c,B.ba] w1 w4:=hv3.trans (hq4.mono σ)))
   | ((go_at_call 269;(with_reducible refine (klo2 _ η).mono ?_));rintro e w5 ⟨rfl,bK,S5,wQ,M0,TU,hs5⟩;(have hv5:aa [B.c,B.ba] w1 w5:=aa.trans ν (bK.mono σ));(have km:=fun W (hW:aa [] w5 W)=>uY (wQ.aj hW) (hl3.frame (fun y hy=>hs5 y (H3.out.2.2 y hy))) M0 HP.out.2.1 (fun y hy=>HT.out.2.2.1 y (aD.2 (Α (by simp only [BT.nodes];exact Λ _ hy)))));rw [HMK.out] at km)
   | ((go_at_call 267;(with_reducible refine (km _ η).mono ?_));rintro e w6 ⟨rfl,gF,S6,tF,OZ,hs6⟩;(have hv6:aa [B.c,B.ba] w1 w6:=aa.trans ν gF)))
 have hp6:bV S6 (-1) (af P (.node x .nil .nil)).root (af P (.node x .nil .nil)):=bV.frame (show bV S5 (-1) (af P (.node x .nil .nil)).root (af P (.node x .nil .nil)) from TU) (fun y hy=>hs6 y (fun hm=>by
  obtain ⟨⟨a1,a2,a3⟩,a4,a5,a6,a7⟩:=HP.out;rw [aD] at hy;simp only [BT.nodes,Ϛ,ρ,ς,or_false] at hy;rw [τ] at hm;rcases hy with e|hy
  ·subst e;rcases hm with hm|hm;exact a1 hm;exact a2 hm
  ·rcases hm with hm|hm;exact a5 y hm hy;exact a6 y hm hy))
 have f6:∀y,y∉(af P (.node x l r)).nodes->S.at S6 y:=fun y hy=>by
  have h1:y∉l.nodes++r.nodes:=fun hm=>hy (aD.2 (Α (by simp only [BT.nodes];exact Λ _ hm)));exact fQ (fQ (hs3 y hy) (hs5 y (fun hm=>hy (H3.out.2.1 y hm)))) (hs6 y h1)
 have u6:aa (B.blk F) w w6:=(hu1.mono (fun y hy=>by simp only [SB.blk,ρ];simp [hy])).trans (hv6.mono (fun y hy=>by
   simp only [ρ,ς,or_false] at hy;simp only [SB.blk,ρ];rcases hy with rfl|rfl
   ·simp [pY]
   ·simp))
 have ku:=fun W (hW:aa [] w6 W)=>LF (tF.aj hW).trees hp6 hxl;have YZ:=fun W (hW:aa [] w6 W)=>(tF.aj hW).h1;have vO:=χ tF;have H6:=χ (ψ hp6 (ψ f6 OZ));have hmm:Hid (∀y,y∈m.nodes->y∉dE P/\y≠x):=fun y hy=>by
  obtain ⟨⟨a1,a2,a3⟩,a4,a5,a6,a7⟩:=HP.out;have h1:=Uo.out.mem_iff.1 hy;rw [τ] at h1;rcases h1 with h1|h1
  ·exact ⟨a5 y h1,fun e=>a1 (by rw [←e];exact h1)⟩
  ·exact ⟨a6 y h1,fun e=>a2 (by rw [←e];exact h1)⟩
 have hmx:Hid (∀y,y∈m.nodes->y∈(af P (.node x l r)).nodes):=fun y hy=>aD.2 (Α (by
  have h1:=Uo.out.mem_iff.1 hy
  simp only [BT.nodes,ρ];exact Β h1))
 have Ol:Hid m.nodes.Nodup:=Uo.out.nodup_iff.2 HP.out.2.1;have H31:=YZ w6 (aa.refl _ _);have H32:=(tF.aj ((aa.refl [] w6).drew)).h1;clear tF hp6 f6 OZ hs6 hs5 hs3 TU hp3 OV hl3 M0 wQ jD km klo klo2 kr kl r1 hu1 g1 hv6 hv5 hv4 hv3 hv2 hq2 hq4 hu3 bK gF H31 H32;obtain ⟨wX,hwX,uX⟩:∃wX,wX=w6/\aa [] w6 wX:=⟨w6,rfl,aa.refl _ _⟩;cases P with
 | nil=>
  rw [show Cz ([]:List Fr)=-1 from rfl,show tv (-1)=0 from rfl,show tb (-1)=false from rfl] at ku;have g61:=YZ w6 (aa.refl _ _);clear YZ
  go_wp2_with (first
   | ((go_at_call 250;(with_reducible refine (ku _ η).mono ?_));rintro e w7 ⟨rfl,kk,hw7⟩;(have u7:aa [] w6 w7:=(by rw [hw7];refine aa.drewN ?_ _;exact η));clear hw7;(have kc:=vk (vO.out.aj u7) g m.root hgq hmr))
   | ((go_at_call 266;(with_reducible refine (kc).mono ?_));rintro e w8 ⟨rfl,EF,hM8⟩;(have g80:=hM8.h0);(have kd:=gP hM8.cells x MR.out))
   | ((go_at_call 151;(with_reducible refine (kd).mono ?_));rintro e w9 ⟨rfl,hC9,sO⟩)
   | fail)
  go_ret;obtain ⟨b1,b2,b4⟩:=H6.out;have bx:=((dL _ _).1 b1).1;refine ⟨rfl,((u6.trans (u7.mono σ)).trans (EF.mono (by simp [SB.blk]))).trans (sO.mono (fun y hy=>by simp only [SB.blk,ρ];simp [hy])),S6,(hM8.bY sO hC9 (fun y hy=>Α hy) (eU _ _)).ext (fun y=>?_),b4,b2,⟨bx.2.2.1.root,bx.2.2.2.root,bx.2.1⟩⟩
  by_cases e:y=(g:Int)
  ·rw [Δ (show ([]:List Fr)=[]/\y=(g:Int) from ⟨rfl,e⟩),Δ e];rfl
  ·rw [Γ e,Γ (show ¬ (([]:List Fr)=[]/\y=(g:Int)) from fun h=>e h.2)]
 | cons fr P2=>
  rw [show Cz (fr::P2)=(fr.1:Int) from rfl,PG,De] at ku;have hfl:fr.1<A.cs.length:=HT.out.2.2.2 fr.1 (aD.2 (Β (by simp [dE])));have MC:(af (fr::P2) (.node x .nil .nil)).nodes.Nodup:=by
   refine (aM (fr::P2) (.node x .nil .nil)).nodup_iff.2 ?_;obtain ⟨⟨a1,a2,a3⟩,a4,a5,a6,a7⟩:=HP.out;simp only [BT.nodes,Ϛ,List.singleton_append,Ζ];exact ⟨a3,a7⟩
  have Jt:∀y,y∈(af (fr::P2) (.node x .nil .nil)).nodes->y∈(af (fr::P2) (.node x l r)).nodes:=fun y hy=>by
   rw [aD] at hy ⊢;simp only [BT.nodes,Ϛ,ρ,ς,or_false] at hy;rcases hy with hy|hy
   ·exact Α (by simp [BT.nodes,hy])
   ·exact Β hy
  have ksd:=fun W (hW:aa [] w6 W)=>IL (vO.out.aj hW).trees H6.out.1 MC hfl;have ER:=fun W (hW:aa [] w6 W)=>nE (vO.out.aj hW).trees (f:=fr) (P:=P2) (t:=.node x .nil .nil) H6.out.1 MC (fun y hy=>HT.out.2.2.2 y (Jt y hy));rw [show BT.root (.node x .nil .nil)=(x:Int) from rfl] at ER;generalize hcv:cutV fr (.node x .nil .nil)=cv at ER;generalize hcb:tb (x:Int)=cb at ER;have IG:=χ (ψ MC Jt);have g61:=YZ w6 (aa.refl _ _);clear MC Jt hcv hcb
  go_wp2_with (first
   | ((go_at_call 250;(with_reducible refine (ku _ η).mono ?_));rintro e w7 ⟨rfl,kk,hw7⟩;(have u7:aa [] w6 w7:=(by rw [hw7];refine aa.drewN ?_ _;exact η));clear hw7;(have g71:=YZ w7 u7))
   | fail)
  obtain ⟨r',bb,hbb,kr⟩:=ksd w7 u7;have hmz':(m=.nil/\(m.root != -1)=false)\/(m≠.nil/\(m.root != -1)=true):=by
   by_cases e:m=.nil
   ·exact Α ⟨e,by rw [e];rfl⟩
   ·exact Β ⟨e,by have:=(bH e).2;simp;omega⟩
  have HQ61:=χ YZ;clear ksd ku YZ;rcases hmz' with ⟨hmz,hmb⟩|⟨hmz,hmb⟩
  ·have Yt:=χ hmz;clear hmz;rcases hbb with ⟨rfl,hb2⟩|⟨rfl,hb2⟩
   all_goals
    go_wp2_with (first
     | ((go_at_call 249;(with_reducible refine (kr).mono ?_));rintro e w8 ⟨rfl,k8,hw8⟩;(have u8:aa [] w6 w8:=(by rw [hw8];exact u7.drewN k8));clear hw8;(have g81:=HQ61.out w8 u8);(have kc:=ER w8 u8))
     | ((go_at_call 244;(with_reducible refine (kc).mono ?_));rintro e w9 ⟨rfl,sO,S9,Vt,Za,hp9,hs9⟩;(have g90:=((vO.out.aj u8).iE sO Vt).h0);(have kd:=gP ((vO.out.aj u8).iE sO Vt).cells x MR.out))
     | ((go_at_call 151;(with_reducible refine (kd).mono ?_));rintro e w10 ⟨rfl,Ko,Aw⟩)
     | fail)
    go_ret;have hz:=Yt.out;subst hz;refine ⟨rfl,((u6.trans (u8.mono σ)).trans (sO.mono (by simp [SB.blk]))).trans (Aw.mono (fun y hy=>by simp only [SB.blk,ρ];simp [hy])),S9,(((vO.out.aj u8).iE sO Vt).bY Aw Ko (fun y hy=>Α hy) (eU _ _)).ext (fun y=>by rw [Γ σ]),hp9,fun y hy=>fQ (H6.out.2.1 y hy) (hs9 y (fun hm=>hy (IG.out.2 y hm))),⟨Za.2.2.1.root,Za.2.2.2.root,Za.2.1⟩⟩
  ·have Yt:=χ hmz;have hxm:∀y,y∈m.nodes->y∉(af (fr::P2) (.node x .nil .nil)).nodes:=fun y hy hm=>by
    have b1:=hmm.out y hy;rw [aD] at hm;simp only [BT.nodes,Ϛ,ρ,ς,or_false] at hm;rcases hm with hm|hm
    ·exact b1.2 hm
    ·exact b1.1 hm
   have hnd:(m.nodes++dE (fr::P2)).Nodup:=by
    rw [θ];exact ⟨Ol.out,HP.out.2.2.2.2,fun a ha b hb e=>(hmm.out a ha).1 (by rw [e];exact hb)⟩
   have hsm:∀y,y∈m.nodes++dE (fr::P2)->y∈(af (fr::P2) (.node x l r)).nodes:=fun y hy=>by
    rw [τ] at hy;rcases hy with hy|hy
    ·exact hmx.out y hy
    ·exact aD.2 (Β hy)
   have Px:=χ (ψ hxm (ψ hnd hsm));clear hmz hxm hnd hsm;rcases hbb with ⟨rfl,hb2⟩|⟨rfl,hb2⟩
   all_goals
    go_wp2_with (first
     | ((go_at_call 249;(with_reducible refine (kr).mono ?_));rintro e w8 ⟨rfl,k8,hw8⟩;(have u8:aa [] w6 w8:=(by rw [hw8];exact u7.drewN k8));clear hw8;(have g81:=HQ61.out w8 u8);(have kc:=ER w8 u8))
     | ((go_at_call 244;(with_reducible refine (kc).mono ?_));rintro e w9 ⟨rfl,sO,S9,Vt,Za,hp9,hs9⟩;(have g91:=((vO.out.aj u8).iE sO Vt).h1);(have khg:=CO Vt hp9 (H6.out.2.2.frame (fun y hy=>hs9 y (Px.out.1 y hy))) Yt.out Px.out.2.1 (fun y hy=>HT.out.2.2.2 y (Px.out.2.2 y hy)));(try rw [hb2] at khg))
     | ((go_at_call 251;(with_reducible refine (khg).mono ?_));rintro e w9b ⟨rfl,UJ,S9b,Y4,hp9b,hs9b⟩;(have g90:=(((vO.out.aj u8).iE sO Vt).iE UJ Y4).h0);(have kd:=gP (((vO.out.aj u8).iE sO Vt).iE UJ Y4).cells x MR.out))
     | ((go_at_call 151;(with_reducible refine (kd).mono ?_));rintro e w10 ⟨rfl,Ko,Aw⟩)
     | fail)
    go_ret;have uJ:x∉m.nodes++dE (fr::P2):=fun hm=>by
     rw [τ] at hm;rcases hm with hm|hm
     ·exact (hmm.out x hm).2 rfl
     ·exact HP.out.1.2.2 hm
    have a3:=hs9b x uJ;refine ⟨rfl,(((u6.trans (u8.mono σ)).trans (sO.mono (by simp [SB.blk]))).trans (UJ.mono (by simp [SB.blk]))).trans (Aw.mono (fun y hy=>by simp only [SB.blk,ρ];simp [hy])),S9b,((((vO.out.aj u8).iE sO Vt).iE UJ Y4).bY Aw Ko (fun y hy=>Α hy) (eU _ _)).ext (fun y=>by rw [Γ σ]),hp9b,fun y hy=>fQ (fQ (H6.out.2.1 y hy) (hs9 y (fun hm=>hy (IG.out.2 y hm)))) (hs9b y (fun hm=>hy (Px.out.2.2 y hm))),⟨a3.1.trans Za.2.2.1.root,a3.2.1.trans Za.2.2.2.root,a3.2.2.trans Za.2.1⟩⟩
theorem Gw (h:mq w B F A st tr) (g x:Nat) (hx:x∈(tr g).nodes) :
  Calls Tryz.prog 261 #[.pointer (some ⟨B.n0,0,none⟩),.int .i64 (x:Int)] w fun e w'=>e=.returned (.bool true)/\aa (B.blk F) w w'/\
   mq w' B F (aZ A x) (bR st (Ga A (tr g) x).2) (fun q=>if q=g then (Ga A (tr g) x).1 else tr q):=by
 obtain ⟨S,hM,hI⟩:=h;have hm:=(hI.mem g x).1 hx;have hin:bQ A (x:Int)=true:=(ae A x).2 ⟨hm.2.1,ω⟩;have e:=mZ hx;unfold Ga;generalize (pathOf (tr g) x).1=P at *;generalize (pathOf (tr g) x).2.1=l at *;generalize (pathOf (tr g) x).2.2=r at *;have hq:1<=g/\g<A.hs.length:=by have:=hM.cells.ok.nat x hm.2.1;omega
 have hb65:=hM.cells.ok.h1;have hT:=hI.Ex g;have hn:=hI.nd g;have hH:=hI.heap g;rw [e] at hT hn hH;obtain ⟨d1,d2,d3⟩:=FN uT hn hH;refine (Di hM hin hm.2.2 ω hT hn (fun y hy=>?_)).mono ?_
 ·rw [←e] at hy;have:=(hI.mem g y).1 hy;exact (ae A y).2 ⟨this.2.1,ω⟩
 ·rintro e' w' ⟨rfl,hu,S',q1,q2,q4,q5⟩;refine ⟨rfl,hu,S',q1.ext (fun y=>?_),(vT.del (iU:=wz (aZ A x) (fun q=>if q=g then (af P (aG qY A l r).1) else tr q)) hI hx q2 ?_ d2 (fun y hy=>q4 y (by rw [←e];exact hy)) q5 (fun q hq'=>?_))⟩
  ·rw [←zi (A':=aZ A x) (tr:=tr) (t:=af P (aG qY A l r).1) (by rw [iK]) hq y]
   by_cases ey:y=(g:Int)
   ·rw [Δ ey]
    by_cases hp:P=[]
    ·rw [Δ ⟨hp,ey⟩]
    ·rw [Γ (fun h=>hp h.1),ey];cases P with
     | nil=>exact absurd rfl hp
     | cons f P2=>
      unfold qK;rw [Δ ω,π,e,jP f P2 (.node x l r) (aG qY A l r).1]
   ·rw [Γ ey,Γ (fun h=>ey h.2)]
  ·rw [e];exact d1
  ·have Y1:q<(aZ A (x:Int)).hs.length:=by rw [iK];exact hq'
   unfold wz;rw [φ,ϑ,List.getElem?_range Y1]
   show (if q=g then af P (aG qY A l r).1 else tr q).root=_
   by_cases eq:q=g
   ·rw [Δ eq,Δ eq]
   ·rw [Γ eq,Γ eq];rw [φ,ϑ,List.getElem?_range hq'];rfl
theorem BH (h:mq w B F A st tr) (g:Nat) (hn:0<dI A g) :
  Calls Tryz.prog 262 #[.pointer (some ⟨B.n0,0,none⟩),.int .i64 (g:Int)] w fun e w'=>∃m:Nat,dF A g=some m/\e=.returned (.tuple #[.int .i64 (m:Int),.bool true])/\aa (B.blk F) w w'/\
   mq w' B F (aZ A m) (bR st (Ga A (tr g) m).2) (fun q=>if q=g then (Ga A (tr g) m).1 else tr q):=by
 have k:=Cw h g hn;have kd:=fun m hm=>Gw h g m hm;have hroot:∀m:Nat,(tr g).root=m->m∈(tr g).nodes:=fun m hm=>by
  have hne:tr g≠.nil:=fun e=>by rw [e] at hm;have:(-1:Int)=m:=hm;omega
  have:=(bH hne).1;rw [hm] at this;simpa using this
 clear h
 go_enter Tryz.func262,Tryz.ntmps262
 go_wp2_with (first
  | ((go_at_call 265;(with_reducible refine (k).mono ?_));rintro e w1 ⟨m,hm1,hm2,rfl,rfl⟩;(have Xv:=kd m (hroot m hm2)))
  | ((go_at_call 261;(with_reducible refine (Xv).mono ?_));rintro e w2 ⟨rfl,hu2,hL2⟩)
  | fail)
 go_ret2;exact ⟨m,hm1,rfl,hu2,hL2⟩
end
noncomputable def PY (A':NS) (t:BT) (x:Nat):BT×Nat:=
 match (pathOf t x).1 with
 | []=>(t,0)
 | _::_=>aG qY A' (af (pathOf t x).1 .nil) (.node x (pathOf t x).2.1 (pathOf t x).2.2)
section
variable {w:World} {B:SB} {F:List Nat} {A:NS} {st:Nat} {tr:Nat->BT} {S:TS} {f:Int->Option Int}
def Ee (w':World) (B:SB) (F:List Nat) (A':NS) (st:Nat) (S:TS) (f:Int->Option Int) (g:Nat) (X:List Nat) (T:BT):Prop:=
 ∃S' f',ny w' B F A' st S' f'/\bV S' (-1) T.root T/\(∀y,y∉X->S.at S' y)/\∀y,f' y=if y=(g:Int) then (if T.root=-1 then none else some T.root) else f y
theorem Rq (hM:ny w B F A st S f) {g x:Nat} {l r:BT} {k s:Int} (hk:-9223372036854775808<=k/\k<=9223372036854775807/\0<=s/\s<=18446744073709551615) (hB:iT A x k s=true)
  (hg:(A.c x).i=g) (hg0:0<g) (htop:f (g:Int)=some (x:Int)) (hxl:x<A.cs.length) (hT:bV S (-1) (BT.node x l r).root (.node x l r)) :
  Calls Tryz.prog 260 #[.pointer (some ⟨B.n0,0,none⟩),.int .i64 (x:Int),.agg #[.int .i64 k,.int .u64 s]] w fun e w'=>e=.returned (.bool true)/\aa (B.blk F) w w'/\
   Ee w' B F (ak A x k s) st S f g (BT.node x l r).nodes (.node x l r):=by
 have hcs:=eB A x k s;have hin':bQ (ak A x k s) (x:Int)=true:=(ae _ x).2 ⟨by rw [hcs];exact hxl,by rw [iy hB hxl,hg];omega⟩;have hi':((ak A x k s).c x).i=g:=by rw [iy hB hxl,hg]
 have hux:S.u x=-1:=hT.2.1;have u1:aa [] w (w.alloc (.cells #[.int .i64 k,.int .u64 s] 129)):=(aa.refl _ _).alloc _;have kp:=fun W (hW:aa [] (w.alloc (.cells #[.int .i64 k,.int .u64 s] 129)) W)=>ig (hM.cells.aj (u1.trans hW)) x k s hk hB;have h0:=hM.h0;have uH:B.n0∉F:=hM.bz.1;have hlt:=hM.lt;have hsz:w.heap.size∉F:=fun hm=>by have:=hlt w.heap.size (by simp [SB.blk,hm]);omega
 have r0:∀W,aa F (w.alloc (.cells #[.int .i64 k,.int .u64 s] 129)) W->W.cell? ⟨B.n0,0,none⟩=some (.pointer (some ⟨B.c,0,none⟩)):=fun W hW=>hW.kept (u1.was h0) uH;have r1:∀W,aa F (w.alloc (.cells #[.int .i64 k,.int .u64 s] 129)) W->W.cell? ⟨w.heap.size,0,none⟩=some (.int .i64 k):=fun W h=>h.kept σ hsz;have r2:∀W,aa F (w.alloc (.cells #[.int .i64 k,.int .u64 s] 129)) W->W.cell? ⟨w.heap.size,1,none⟩=some (.int .u64 s):=fun W h=>h.kept σ hsz;have HM:=χ hM;have HG:=χ (ψ htop hT);clear hM hT htop hlt h0 hg;generalize hA':ak A x k s=A' at *
 go_enter Tryz.func260,Tryz.ntmps260
 go_wp2
 go_region_held3 (aa F (w.alloc (.cells #[.int .i64 k,.int .u64 s] 129))) (exact ν)
  ((go_at_call 147;(with_reducible refine (kp _ β).mono ?_);rintro e w1 ⟨rfl,jd,hu1⟩;(have hu2:aa F (w.alloc (.cells #[.int .i64 k,.int .u64 s] 129)) w1:=ν)))
 have uF:aa F w (w.alloc (.cells #[.int .i64 k,.int .u64 s] 129)):=u1.mono σ;have hM1:=HM.out.bY (uF.trans hu2) jd (fun y hy=>Α hy) hcs;have kh:=dK hM1.cells x hin';rw [hi'] at kh;have g10:=hM1.h0;have jI:=χ hM1;have G9:=χ (uF.trans hu2);clear r0 r1 r2 kp hu1 hu2 jd hM1 uF
 go_wp2_with (first
  | ((go_at_call 140;(with_reducible refine (kh).mono ?_));rintro e w2 ⟨rfl,hC2,hu2⟩;(have g21:=(jI.out.bY hu2 hC2 (fun y hy=>Α hy) rfl).h1);(have kc:=D8 B.bt B.ba A'.cs.length S (x:Int) w2 (jI.out.bY hu2 hC2 (fun y hy=>Α hy) rfl).trees (by unfold oq;rw [Δ ω,π];exact hux)))
  | (go_at_call 244;(with_reducible refine (kc).mono ?_);rintro e w9 ⟨rfl,aI⟩;rw [aI];clear aI w9)
  | fail)
 go_ret;refine ⟨rfl,(G9.out.trans hu2).mono (fun y hy=>by simp only [SB.blk,ρ];simp [hy]),S,f,jI.out.bY hu2 hC2 (fun y hy=>Α hy) rfl,HG.out.2,fun y _=>⟨rfl,rfl,rfl⟩,fun y=>?_⟩
 by_cases e:y=(g:Int)
 ·rw [Δ e,e,HG.out.1,Γ (by show ¬ (x:Int)=-1;omega)];rfl
 ·rw [Γ e]
theorem Ux (hM:ny w B F A st S f) {g x:Nat} {fr:Fr} {P:List Fr} {l r:BT} {k s:Int} (hk:-9223372036854775808<=k/\k<=9223372036854775807/\0<=s/\s<=18446744073709551615) (hB:iT A x k s=true)
  (hg:(A.c x).i=g) (hg0:1<=g/\g<=65536) (htop:M8 (f (g:Int))=(af (fr::P) (.node x l r)).root) (hT:bV S (-1) (af (fr::P) (.node x l r)).root (af (fr::P) (.node x l r))) (hn:(af (fr::P) (.node x l r)).nodes.Nodup)
  (hall:∀y,y∈(af (fr::P) (.node x l r)).nodes->bQ A (y:Int)=true) :
  Calls Tryz.prog 260 #[.pointer (some ⟨B.n0,0,none⟩),.int .i64 (x:Int),.agg #[.int .i64 k,.int .u64 s]] w fun e w'=>e=.returned (.bool true)/\aa (B.blk F) w w'/\
   Ee w' B F (ak A x k s) (bR st (aG qY (ak A x k s) (af (fr::P) .nil) (.node x l r)).2) S f g (af (fr::P) (.node x l r)).nodes (aG qY (ak A x k s) (af (fr::P) .nil) (.node x l r)).1:=by
 have hcs:=eB A x k s;have hxl:x<A.cs.length:=by
  have:=hall x (aD.2 (Α (by simp [BT.nodes])));exact ((ae A x).1 this).1
 have hin':bQ (ak A x k s) (x:Int)=true:=(ae _ x).2 ⟨by rw [hcs];exact hxl,by rw [iy hB hxl,hg];omega⟩;have hi':((ak A x k s).c x).i=g:=by rw [iy hB hxl,hg]
 have rA:∀y,y∈(af (fr::P) (.node x l r)).nodes->bQ (ak A x k s) (y:Int)=true:=fun y hy=>by
  have:=(ae A y).1 (hall y hy);exact (ae _ y).2 ⟨by rw [hcs];exact this.1,by rw [iy hB hxl];exact this.2⟩
 have hlt':∀y,y∈(af (fr::P) (.node x l r)).nodes->y<(ak A x k s).cs.length:=fun y hy=>((ae _ y).1 (rA y hy)).1;have hpn:=(aM (fr::P) (.node x l r)).nodup_iff.1 hn;rw [θ] at hpn;have hn0:(af (fr::P) .nil).nodes.Nodup:=(aM (fr::P) .nil).nodup_iff.2 (by simpa [BT.nodes] using hpn.2.1);have AL:∀y,y∈(af (fr::P) .nil).nodes↔y∈dE (fr::P):=fun y=>by rw [aD];simp [BT.nodes]
 have rZ:((af (fr::P) .nil).nodes++(BT.node x l r).nodes).Nodup:=by
  rw [θ];exact ⟨hn0,hpn.1,fun a ha b hb e=>hpn.2.2 b hb a ((AL a).1 ha) e.symm⟩
 have IB:∀y,y∈(af (fr::P) .nil).nodes++(BT.node x l r).nodes->y∈(af (fr::P) (.node x l r)).nodes:=fun y hy=>by
  rw [τ,AL] at hy;rw [aD];exact hy.symm
 have hrt:(af (fr::P) (.node x l r)).root=(af (fr::P) .nil).root:=jP _ _ _ _;rw [hrt] at htop;obtain ⟨mp, -⟩:=lT uT (ak A x k s) _ (af (fr::P) .nil) (.node x l r) (Θ _);have hmr:-1<=(aG qY (ak A x k s) (af (fr::P) .nil) (.node x l r)).1.root/\(aG qY (ak A x k s) (af (fr::P) .nil) (.node x l r)).1.root<=9223372036854775807:=by
  refine ⟨yJ _,?_⟩
  by_cases e:(aG qY (ak A x k s) (af (fr::P) .nil) (.node x l r)).1=.nil
  ·rw [e];show (-1:Int)<=_;omega
  ·have h1:=bH e;have h2:=hlt' _ (IB _ (mp.mem_iff.1 h1.1));have h3:=hM.cells.ok.c1;rw [hcs] at h2;omega
 have u1:aa [] w (w.alloc (.cells #[.int .i64 k,.int .u64 s] 129)):=(aa.refl _ _).alloc _;have kp:=fun W (hW:aa [] (w.alloc (.cells #[.int .i64 k,.int .u64 s] 129)) W)=>ig (hM.cells.aj (u1.trans hW)) x k s hk hB;have h0:=hM.h0;have uH:B.n0∉F:=hM.bz.1;have hlt:=hM.lt;have hsz:w.heap.size∉F:=fun hm=>by have:=hlt w.heap.size (by simp [SB.blk,hm]);omega
 have r0:∀W,aa F (w.alloc (.cells #[.int .i64 k,.int .u64 s] 129)) W->W.cell? ⟨B.n0,0,none⟩=some (.pointer (some ⟨B.c,0,none⟩)):=fun W hW=>hW.kept (u1.was h0) uH;have r1:∀W,aa F (w.alloc (.cells #[.int .i64 k,.int .u64 s] 129)) W->W.cell? ⟨w.heap.size,0,none⟩=some (.int .i64 k):=fun W h=>h.kept σ hsz;have r2:∀W,aa F (w.alloc (.cells #[.int .i64 k,.int .u64 s] 129)) W->W.cell? ⟨w.heap.size,1,none⟩=some (.int .u64 s):=fun W h=>h.kept σ hsz;have HM:=χ hM;have pY:=hM.cF;have HG:=χ (ψ hT (ψ hn (ψ rA hlt')));have HX:=χ (ψ rZ IB);have hA:=hM.cells.ok.c1
 clear hM hT hn hall rA hlt' hpn hlt h0 hg rZ IB hn0 AL hrt uH hsz mp;generalize hA':ak A x k s=A' at *
 go_enter Tryz.func260,Tryz.ntmps260
 go_wp2
 go_region_held3 (aa F (w.alloc (.cells #[.int .i64 k,.int .u64 s] 129))) (exact ν)
  ((go_at_call 147;(with_reducible refine (kp _ β).mono ?_);rintro e w1 ⟨rfl,jd,hu1⟩;(have hu2:aa F (w.alloc (.cells #[.int .i64 k,.int .u64 s] 129)) w1:=ν)))
 have uF:aa F w (w.alloc (.cells #[.int .i64 k,.int .u64 s] 129)):=u1.mono σ;have hM1:=HM.out.bY (uF.trans hu2) jd (fun y hy=>Α hy) hcs;have kh:=dK hM1.cells x hin';rw [hi'] at kh;have g10:=hM1.h0;have jI:=χ hM1;have G9:=χ (uF.trans hu2);clear r0 r1 r2 kp hu1 hu2 jd hM1 uF;have ER:∀w2,aa F w1 w2->aC w2 B.c F A' st->_:=fun w2 hu2 hC2=>nE (jI.out.bY hu2 hC2 (fun y hy=>Α hy) rfl).trees (f:=fr) (P:=P) (t:=.node x l r) HG.out.1 HG.out.2.1 HG.out.2.2.2;rw [show BT.root (.node x l r)=(x:Int) from rfl,De] at ER;generalize cutV fr (.node x l r)=cv at ER
 go_wp2_with (first
  | ((go_at_call 140;(with_reducible refine (kh).mono ?_));rintro e w2 ⟨rfl,hC2,hu2⟩;(have g21:=(jI.out.bY hu2 hC2 (fun y hy=>Α hy) rfl).h1);(have kc:=ER w2 hu2 hC2))
  | ((go_at_call 244;(with_reducible refine (kc).mono ?_));rintro e w3 ⟨rfl,hu3,S3,A7,hx3,hp3,hs3⟩;(have jD:=(jI.out.bY hu2 hC2 (fun y hy=>Α hy) rfl).iE hu3 A7);(have kf:=qi jD (g:Int) ω);rw [htop] at kf;(have km:=uY jD (ta:=af (fr::P) .nil) (tb:=.node x l r) hp3 hx3 HX.out.1 (fun y hy=>HG.out.2.2.1 y (HX.out.2 y hy)));rw [show BT.root (.node x l r)=(x:Int) from rfl] at km)
  | (go_at_call 268;(with_reducible refine (kf).mono ?_);rintro e w9 ⟨rfl,aI⟩;rw [aI];clear aI w9)
  | ((go_at_call 267;(with_reducible refine (km).mono ?_));rintro e w4 ⟨rfl,fZ,S4,rQ,Pv,hs4⟩;(have kcr:=vk rQ g _ ω hmr))
  | ((go_at_call 266;(with_reducible refine (kcr).mono ?_));rintro e w5 ⟨rfl,bK,wQ⟩)
  | fail)
 go_ret;refine ⟨rfl,((((G9.out.trans hu2).mono (fun y hy=>by simp only [SB.blk,ρ];simp [hy])).trans (hu3.mono (by simp [SB.blk]))).trans (fZ.mono (fun y hy=>?_))).trans (bK.mono (by simp [SB.blk])),S4,_,wQ,Pv,fun y hy=>fQ (hs3 y hy) (hs4 y (fun hm=>hy (HX.out.2 y hm))),fun y=>rfl⟩;simp only [ρ,ς,or_false] at hy;simp only [SB.blk,ρ];rcases hy with rfl|rfl
 ·simp [pY]
 ·simp
theorem QQ (h:mq w B F A st tr) (g x:Nat) (hx:x∈(tr g).nodes) (k s:Int) (hk:-9223372036854775808<=k/\k<=9223372036854775807/\0<=s/\s<=18446744073709551615) (hB:iT A x k s=true) :
  Calls Tryz.prog 260 #[.pointer (some ⟨B.n0,0,none⟩),.int .i64 (x:Int),.agg #[.int .i64 k,.int .u64 s]] w fun e w'=>e=.returned (.bool true)/\aa (B.blk F) w w'/\
   mq w' B F (ak A x k s) (bR st (PY (ak A x k s) (tr g) x).2) (fun q=>if q=g then (PY (ak A x k s) (tr g) x).1 else tr q):=by
 obtain ⟨S,hM,hI⟩:=h;have hm:=(hI.mem g x).1 hx;have e:=mZ hx;unfold PY;generalize (pathOf (tr g) x).1=P at *;generalize (pathOf (tr g) x).2.1=l at *;generalize (pathOf (tr g) x).2.2=r at *;have hq:1<=g/\g<A.hs.length:=by have:=hM.cells.ok.nat x hm.2.1;omega
 have hb65:=hM.cells.ok.h1;have hT:=hI.Ex g;have hn:=hI.nd g;have hH:=hI.heap g;have htp:=Ai A tr g hq;rw [e] at hT hn hH htp;obtain ⟨d1,d2⟩:=H9 hB hm.2.1 hn hH;have fin:∀w' T st',Ee w' B F (ak A x k s) st' S (qK A tr) g (tr g).nodes T->T.nodes.Perm (tr g).nodes->Heap (ak A x k s) T->mq w' B F (ak A x k s) st' (fun q=>if q=g then T else tr q):=fun w' T st' hE hp hh=>by
  obtain ⟨S',f',q1,q2,q4,q6⟩:=hE;refine ⟨S',q1.ext (fun y=>by rw [q6 y];exact zi (by rw [kV]) hq y),vT.low (iU:=wz (ak A x k s) (fun q=>if q=g then T else tr q)) hI hB hx q2 hp hh q4 (fun q hq'=>?_)⟩;have Y1:q<(ak A x k s).hs.length:=by rw [kV];exact hq'
  unfold wz;rw [φ,ϑ,List.getElem?_range Y1]
  show (if q=g then T else tr q).root=_
  by_cases eq:q=g
  ·rw [Δ eq,Δ eq]
  ·rw [Γ eq,Γ eq];rw [φ,ϑ,List.getElem?_range hq'];rfl
 cases P with
 | nil=>
  have ht2:qK A tr (g:Int)=some (x:Int):=by
   unfold qK;rw [Δ ω,π,e]
   show (if (x:Int)=-1 then none else some (x:Int))=_
   rw [Γ ω]
  refine (Rq hM hk hB hm.2.2 hm.1 ht2 hm.2.1 hT).mono ?_;rintro e' w' ⟨rfl,hu,hE⟩;have e2:tr g=.node x l r:=e;refine ⟨rfl,hu,?_⟩
  show mq w' B F (ak A x k s) (bR st 0) (fun q=>if q=g then tr g else tr q)
  rw [fO hM.cells.ou];refine fin w' _ st (by rw [e2];exact hE) (ό _) (by rw [e2];exact d2)
 | cons fr P2=>
  refine (Ux hM hk hB hm.2.2 ω htp hT hn (fun y hy=>?_)).mono ?_
  ·rw [←e] at hy;have:=(hI.mem g y).1 hy;exact (ae A y).2 ⟨this.2.1,ω⟩
  ·rintro e' w' ⟨rfl,hu,hE⟩;refine ⟨rfl,hu,?_⟩;obtain ⟨mp,mh⟩:=lT uT (ak A x k s) _ (af (fr::P2) .nil) (.node x l r) (Θ _);have pn:((af (fr::P2) .nil).nodes++(BT.node x l r).nodes).Perm (tr g).nodes:=by
    rw [e];refine ((aM (fr::P2) .nil).append_right _).trans ?_;refine List.perm_append_comm.trans ?_;simp only [BT.nodes,Ϛ];exact (aM (fr::P2) (.node x l r)).symm
   refine fin w' _ _ (by rw [e];exact hE) (mp.trans pn) (mh d1 d2 (pn.nodup_iff.2 (hI.nd g)))
end
theorem Qw (n:Nat) (w:World) (h:n<=65536) :
  Calls Tryz.prog 102 #[.int .i64 (n:Int)] w fun e w'=>∃B F,e=.returned (.tuple #[.pointer (some ⟨B.n0,0,none⟩),.int .i64 0])/\mq w' B F (NS.new n) 0 (fun _=>.nil)/\aa [] w w'/\∀x,x∈B.blk F->w.heap.size<=x:=by
 have hmm:=@run_makeMap Tryz.prog
 go_enter Tryz.func102,Tryz.ntmps102
 go_wp2_with (first
  | ((go_at_call 107;(with_reducible refine (nO n _ h).mono ?_));rintro e w1 ⟨c,F,rfl,hC,hu1,hF⟩)
  | ((go_at_call 112;(with_reducible refine (wK n _ h).mono ?_));rintro e w2 ⟨bt,ba,rfl,hT,hu2,hb1,hb2⟩))
 go_ret2;have hcs:(NS.new n).cs.length=n:=by simp [NS.new]
 have l1:=hu1.size;have l2:=hu2.size;have l5:=hT.head.lt;have l6:=hT.row.lt;have l7:=hC.lt;have lc:=l7 c hC.mem;have hm:=fT.made w2;have e3:((w2.alloc (.map #[] 0)).heap.size)=w2.heap.size+1:=by rw [Κ]
 have hv1:aa [] w2 (w2.alloc (.map #[] 0)):=(aa.refl _ _).alloc _;have hv2:aa [] (w2.alloc (.map #[] 0)) ((w2.alloc (.map #[] 0)).alloc (.cells #[.pointer (some ⟨c,0,none⟩),.pointer (some ⟨bt,0,none⟩),.map (some w2.heap.size)] 234)):=(aa.refl _ _).alloc _;have hv:=hv1.trans hv2;have hh:=dJ (w2.alloc (.map #[] 0)) [.pointer (some ⟨c,0,none⟩),.pointer (some ⟨bt,0,none⟩),.map (some w2.heap.size)] 234;rw [e3] at hh;have hnF:∀x,w1.heap.size<=x->x∉F:=fun x hx hm=>by have:=l7 x hm;omega
 refine ⟨⟨w2.heap.size+1,c,bt,ba,w2.heap.size⟩,F,rfl,⟨TS.none,⟨hh,(hC.aj hu2).aj hv,by rw [hcs];exact hT.upd hv σ σ,?_,⟨hnF _ (by simp only;omega),hnF _ (by simp only;omega),hnF _ (by simp only;omega),hnF _ (by simp only;omega)⟩,⟨⟨by simp only;omega,by simp only;omega,by simp only;omega⟩,by simp only;omega,by simp only;omega⟩⟩,(DD n).Tu⟩,(hu1.trans hu2).trans hv,fun x hx=>?_⟩
 ·refine (hm.upd hv2 σ).ext (fun k=>?_);unfold qK
  split
  ·rfl
  ·rfl
 ·simp only [SB.blk,ρ] at hx;rcases hx with rfl|rfl|rfl|rfl|hx
  ·omega
  ·omega
  ·omega
  ·omega
  ·exact hF x hx
section
variable {w:World} {B:SB} {F:List Nat} {A:NS} {st:Nat} {tr:Nat->BT}
theorem mq.make {w':World} {F':List Nat} (h:mq w B F A st tr) (hl:¬65536<A.hs.length) (hu:aa F w w') (hC:aC w' B.c F' (aN A) st) (hF:∀x,x∈F'->x∈F\/w.heap.size<=x):mq w' B F' (aN A) st tr:=by
 obtain ⟨S,hM,hI⟩:=h;have ok:=hM.cells.ok;have e1:(aN A).cs.length=A.cs.length:=by unfold aN;rw [Γ hl]
 have e2:(aN A).hs.length=A.hs.length+1:=by unfold aN;rw [Γ hl];simp
 have hI2:=hI.make ok (by simp [wz]) hl;have hnil:(tr A.hs.length)=.nil:=by
  cases e:tr A.hs.length with
  | nil=>rfl
  | node y a b=>
   exfalso;have:=(hI.mem A.hs.length y).1 (by rw [e];simp [BT.nodes]);have h3:=iJ ok ((ae A y).2 ⟨this.2.1,ω⟩);have:=(aO _ _).1 h3;rw [π] at this;omega
 refine ⟨S,(hM.bY hu hC hF e1).ext (fun k=>?_),hI2.Tu⟩;unfold qK;rw [e2]
 by_cases h1:1<=k/\k<A.hs.length
 ·rw [Δ h1,Δ (show 1<=k/\k<((A.hs.length+1:Nat):Int) by omega)]
 ·rw [Γ h1]
  by_cases h2:k=A.hs.length
  ·subst h2;rw [π,hnil]
   split
   ·rfl
   ·rfl
  ·rw [Γ (show ¬ (1<=k/\k<((A.hs.length+1:Nat):Int)) by omega)]
end
theorem JO (p c:Nat):∀W:World,W.cell? ⟨p,0,none⟩=some (.pointer (some ⟨c,0,none⟩))->(method 429 190 (.pointer (some ⟨p,0,none⟩)) "Has").run Tryz.prog W=.ok (139,.pointer (some ⟨c,0,none⟩)) W:=(by intro W h;unfold method;have hm:∃m,(Array.find? (fun x=>x.name == "Has") Tryz.t190.methods)=some m/\m.path.toList=[⟨234,0,true⟩]/\m.func=some (139,true)/\m.path.isEmpty=false:=⟨(Array.find? (fun x=>x.name == "Has") Tryz.t190.methods).get!,by kernel_rfl,by kernel_rfl,by kernel_rfl,by kernel_rfl⟩;obtain ⟨m,h1,h2,h3,h4⟩:=hm;go_simp;simp only [follow,Place.get];go_simp;(try unfold receiverAt);(try simp only [Place.get]);(try go_simp))
theorem Eh (p c:Nat):∀W:World,W.cell? ⟨p,0,none⟩=some (.pointer (some ⟨c,0,none⟩))->(method 429 190 (.pointer (some ⟨p,0,none⟩)) "Entry").run Tryz.prog W=.ok (137,.pointer (some ⟨c,0,none⟩)) W:=(by intro W h;unfold method;have hm:∃m,(Array.find? (fun x=>x.name == "Entry") Tryz.t190.methods)=some m/\m.path.toList=[⟨234,0,true⟩]/\m.func=some (137,true)/\m.path.isEmpty=false:=⟨(Array.find? (fun x=>x.name == "Entry") Tryz.t190.methods).get!,by kernel_rfl,by kernel_rfl,by kernel_rfl,by kernel_rfl⟩;obtain ⟨m,h1,h2,h3,h4⟩:=hm;go_simp;simp only [follow,Place.get];go_simp;(try unfold receiverAt);(try simp only [Place.get]);(try go_simp))
theorem Ha (p c:Nat):∀W:World,W.cell? ⟨p,0,none⟩=some (.pointer (some ⟨c,0,none⟩))->(method 429 190 (.pointer (some ⟨p,0,none⟩)) "Make").run Tryz.prog W=.ok (156,.pointer (some ⟨c,0,none⟩)) W:=(by intro W h;unfold method;have hm:∃m,(Array.find? (fun x=>x.name == "Make") Tryz.t190.methods)=some m/\m.path.toList=[⟨234,0,true⟩]/\m.func=some (156,true)/\m.path.isEmpty=false:=⟨(Array.find? (fun x=>x.name == "Make") Tryz.t190.methods).get!,by kernel_rfl,by kernel_rfl,by kernel_rfl,by kernel_rfl⟩;obtain ⟨m,h1,h2,h3,h4⟩:=hm;go_simp;simp only [follow,Place.get];go_simp;(try unfold receiverAt);(try simp only [Place.get]);(try go_simp))
theorem Mr (p:Nat):∀W:World,(method 429 190 (.pointer (some ⟨p,0,none⟩)) "Insert").run Tryz.prog W=.ok (263,.pointer (some ⟨p,0,none⟩)) W:=fun _=>by kernel_rfl
theorem XD (p:Nat):∀W:World,(method 429 190 (.pointer (some ⟨p,0,none⟩)) "Min").run Tryz.prog W=.ok (265,.pointer (some ⟨p,0,none⟩)) W:=fun _=>by kernel_rfl
theorem Jo (p:Nat):∀W:World,(method 429 190 (.pointer (some ⟨p,0,none⟩)) "Extract").run Tryz.prog W=.ok (262,.pointer (some ⟨p,0,none⟩)) W:=fun _=>by kernel_rfl
theorem Hl (p:Nat):∀W:World,(method 429 190 (.pointer (some ⟨p,0,none⟩)) "Decrease").run Tryz.prog W=.ok (260,.pointer (some ⟨p,0,none⟩)) W:=fun _=>by kernel_rfl
def SkQ (w:World) (p:Nat) (F:List Nat) (A:NS):Prop:=∃B F1 st tr,p=B.n0/\F=B.blk F1/\mq w B F1 A st tr
def wh:gD where
 ty:=190
 at_:=SkQ
 upd:=fun h hu hS=>by
  obtain ⟨B,F1,st,tr,rfl,rfl,hL⟩:=h;exact ⟨B,F1,st,tr,rfl,rfl,hL.upd hu hS⟩
 lt:=fun h=>by
  obtain ⟨B,F1,st,tr,rfl,rfl,S,hM, -⟩:=h;exact hM.lt
 ok:=fun h=>by
  obtain ⟨B,F1,st,tr,rfl,rfl,S,hM, -⟩:=h;exact hM.cells.ok
 make:=fun {w p F A} h=>by
  obtain ⟨B,F1,st,tr,rfl,rfl,hL⟩:=h;have h0:w.cell? ⟨B.n0,0,none⟩=some (.pointer (some ⟨B.c,0,none⟩)):=by obtain ⟨S,hM, -⟩:=hL;exact hM.h0
  refine iA 156 (fun _ _=>by kernel_rfl) h0 (Ha _ _) (fun W hW=>?_);have lM:=hL.aj hW;have hC:aC W B.c F1 A st:=by obtain ⟨S,hM, -⟩:=lM;exact hM.cells
  refine (iF hC).mono ?_;rintro e w' ⟨rfl,F',hC2,hu,hf⟩;have hu2:aa (B.blk F1) W w':=hu.mono (fun z hz=>by simp only [SB.blk,ρ];simp [hz]);have hf2:∀z,z∈B.blk F'->z∈B.blk F1\/W.heap.size<=z:=fun z hz=>by
   simp only [SB.blk,ρ] at hz ⊢;rcases hz with rfl|rfl|rfl|rfl|hz
   ·simp
   ·simp
   ·simp
   ·simp
   ·rcases hf z hz with h1|h1
    ·simp [h1]
    ·exact Β h1
  refine ⟨rfl,B.blk F',?_,hu2,hf2⟩
  by_cases hl:65536<A.hs.length
  ·have e2:aN A=A:=by unfold aN;rw [Δ hl]
   rw [e2] at hC2 ⊢;obtain ⟨S,hM,hI⟩:=lM;exact ⟨B,F',st,tr,rfl,rfl,S,hM.bY hu hC2 hf rfl,hI⟩
  ·exact ⟨B,F',st,_,rfl,rfl,lM.make hl hu hC2 hf⟩
 insert:=fun {w p F A} g y k s hk hB h=>by
  obtain ⟨B,F1,st,tr,rfl,rfl,hL⟩:=h;refine aS 263 (fun _ _=>by kernel_rfl) (Mr _) (fun W hW=>?_);refine (Gp (hL.aj hW) g y k s hk hB).mono ?_;rintro e w' ⟨rfl,hu,hL2⟩;exact ⟨rfl,Goes.stay ⟨B,F1,_,_,rfl,rfl,hL2⟩ hu⟩
 min:=fun {w p F A} y hB h=>by
  obtain ⟨B,F1,st,tr,rfl,rfl,hL⟩:=h;refine aS 265 (fun _ _=>by kernel_rfl) (XD _) (fun W hW=>?_);have lM:=hL.aj hW;have hok:A.Ok:=by obtain ⟨S,hM, -⟩:=hL;exact hM.cells.ok
  by_cases hl:dI A (y:Int)=0
  ·rw [ic.2 hl];have h4:=(aO _ _).1 hB;have h5:=hok.h1;refine (MJ lM y ω hl).mono ?_;rintro e w' ⟨rfl,rfl⟩;exact ⟨rfl,Goes.stay ⟨B,F1,st,tr,rfl,rfl,lM⟩ (aa.refl _ _)⟩
  ·refine (Cw lM y ω).mono ?_;rintro e w' ⟨m,hm, -,rfl,rfl⟩;rw [hm];exact ⟨rfl,Goes.stay ⟨B,F1,st,tr,rfl,rfl,lM⟩ (aa.refl _ _)⟩
 extract:=fun {w p F A} y m hm h=>by
  obtain ⟨B,F1,st,tr,rfl,rfl,hL⟩:=h;refine aS 262 (fun _ _=>by kernel_rfl) (Jo _) (fun W hW=>?_);have hl:¬dI A (y:Int)=0:=fun e=>by rw [ic.2 e] at hm;cases hm
  refine (BH (hL.aj hW) y ω).mono ?_;rintro e w' ⟨m',hm',rfl,hu,hL2⟩;rw [hm] at hm';cases hm';exact ⟨rfl,Goes.stay ⟨B,F1,_,_,rfl,rfl,hL2⟩ hu⟩
 lS:=fun {w p F A} y k s hk hB h=>by
  obtain ⟨B,F1,st,tr,rfl,rfl,hL⟩:=h;refine aS 260 (fun _ _=>by kernel_rfl) (Hl _) (fun W hW=>?_);have lM:=hL.aj hW;have hin:=qw hB;have hx:y∈(tr (A.c y).i.toNat).nodes:=by
   obtain ⟨S,hM,hI⟩:=lM;have:=(ae _ _).1 hin;exact (hI.mem _ y).2 ⟨ω,this.1,ω⟩
  refine (QQ lM _ y hx k s hk hB).mono ?_;rintro e w' ⟨rfl,hu,hL2⟩;exact ⟨rfl,Goes.stay ⟨B,F1,_,_,rfl,rfl,hL2⟩ hu⟩
 has:=fun x h=>by
  obtain ⟨B,F1,st,tr,rfl,rfl,S,hM, -⟩:=h;exact iA 139 (fun _ _=>by kernel_rfl) hM.h0 (JO _ _) (fun W hW=>jm (hM.aj hW).cells x)
 entry:=fun {w p F A} x h=>by
  obtain ⟨B,F1,st,tr,rfl,rfl,S,hM, -⟩:=h;refine iA 137 (fun _ _=>by kernel_rfl) hM.h0 (Eh _ _) (fun W hW=>?_);cases hin:bQ A x with
  | false=>simpa using lK (hM.aj hW).cells x hin
  | true=>
   obtain ⟨y,rfl⟩:=qj hin;simpa using jR (hM.aj hW).cells y hin
theorem Jr (p:Nat) (w:World):Calls Tryz.prog 101 #[.pointer (some ⟨p,0,none⟩),.int .i64 0] w fun e w'=>e=.returned (.tuple #[.iface 190 (.pointer (some ⟨p,0,none⟩)),.int .i64 0])/\w'=w:=by
 go_enter Tryz.func101,Tryz.ntmps101
 go_wp2;go_ret2;exact ⟨rfl,rfl⟩
theorem Gt (n:Nat) (hn:n<=65536):om wh 7 0 n:=by
 intro w;have kn:=fun W=>Qw n W hn;have km:=Jr;have hty:wh.ty=190:=rfl;have hat:∀w' B F,mq w' B F (NS.new n) 0 (fun _=>.nil)->wh.at_ w' B.n0 (B.blk F) (NS.new n):=fun w' B F h=>⟨B,F,_,_,rfl,rfl,h⟩
 generalize wh=K at *;rw [hty]
 go_enter Tryz.func81,Tryz.ntmps81
 go_wp2_with (first
  | ((go_at_call 102;(with_reducible refine (kn _).mono ?_));rintro e w1 ⟨B,F,rfl,hS,hu1,hf⟩)
  | ((go_at_call 101;(with_reducible refine (km _ _).mono ?_));rintro e w2 ⟨rfl,rfl⟩)
  | fail)
 go_ret2;exact ⟨B.n0,B.blk F,rfl,hat _ _ _ hS,aa.trans β hu1,fun x hx=>by have:=hf x hx;simp at this;omega⟩
end Go.Proofs.YtklibcncmbofpaaGreat
