/-
  Lemmas for RankMerges: Sk, Sk2, Sk3, Sk4, Sk6, SkQ, SkO. Conditions: those of each lemma.
-/
import Derived.Test.YtklibcncmbofpaaGreatB06
set_option linter.all false
set_option maxHeartbeats 8000000
set_option maxRecDepth 10000
namespace Go.Proofs.YtklibcncmbofpaaGreat
open Go Go.RowKit
structure SB where
 n0:Nat
 c:Nat
 bt:Nat
 ba:Nat
 mb:Nat
structure mX (w:World) (B:SB) (F:List Nat) (A:NS) (st:Nat) (S:TS) (f:Int->Option Int):Prop where
 head:aF w B.n0 234 3 (fun j=>[Value.pointer (some ⟨B.c,0,none⟩),.pointer (some ⟨B.bt,0,none⟩),.map (some B.mb)].getD j undef)
 cells:aB w B.c F A st
 trees:aY w B.bt B.ba A.cs.length S
 top:eO w B.mb f
 bA:B.n0∉F/\B.bt∉F/\B.ba∉F/\B.mb∉F
 sep:(B.n0≠B.bt/\B.n0≠B.ba/\B.n0≠B.mb)/\(B.bt≠B.mb/\B.ba≠B.mb)
section
variable {w:World} {B:SB} {F:List Nat} {A:NS} {st:Nat} {S:TS} {f:Int->Option Int}
def SB.blk (B:SB) (F:List Nat):List Nat:=B.n0::B.bt::B.ba::B.mb::F
theorem mX.upd {w':World} {G:List Nat} (h:mX w B F A st S f) (hu:aa G w w') (hG:∀x,x∈G->x∉B.blk F):mX w' B F A st S f:=by
 have hb:∀y,y∈B.blk F->y∉G:=fun y hy hm=>hG y hm hy;exact ⟨h.head.upd hu (hb _ (by simp [SB.blk])),h.cells.upd hu (fun x hx hm=>hG x hx (by simp [SB.blk,hm])),h.trees.upd hu (hb _ (by simp [SB.blk])) (hb _ (by simp [SB.blk])),h.top.upd hu (hb _ (by simp [SB.blk])),h.bA,h.sep⟩
theorem mX.ae {w':World} (h:mX w B F A st S f) (hu:aa [] w w'):mX w' B F A st S f:=h.upd hu σ
theorem mX.lt (h:mX w B F A st S f):∀x,x∈B.blk F->x<w.heap.size:=fun x hx=>by
 simp only [SB.blk,ρ] at hx;rcases hx with rfl|rfl|rfl|rfl|hx
 ·exact h.head.lt
 ·exact h.trees.head.lt
 ·exact h.trees.row.lt
 ·exact h.top.lt
 ·exact h.cells.lt x hx
theorem mX.cF (h:mX w B F A st S f):B.c∈F:=h.cells.mem
theorem mX.h0 (h:mX w B F A st S f):w.cell? ⟨B.n0,0,none⟩=some (.pointer (some ⟨B.c,0,none⟩)):=h.head.cellAt 0 ω rfl
theorem mX.h1 (h:mX w B F A st S f):w.cell? ⟨B.n0,1,none⟩=some (.pointer (some ⟨B.bt,0,none⟩)):=h.head.cellAt 1 ω rfl
theorem mX.h2 (h:mX w B F A st S f):w.cell? ⟨B.n0,2,none⟩=some (.map (some B.mb)):=h.head.cellAt 2 ω rfl
theorem mX.gY {w':World} {S':TS} (h:mX w B F A st S f) (hu:aa [B.ba] w w') (hT:aY w' B.bt B.ba A.cs.length S'):mX w' B F A st S' f:=by
 obtain ⟨⟨s1,s2,s3⟩,s4,s5⟩:=h.sep;obtain ⟨f1,f2,f3,f4⟩:=h.bA;exact ⟨h.head.upd hu (by simp;exact s2),h.cells.upd hu (fun x hx hm=>by simp at hx;subst hx;exact f3 hm),hT,h.top.upd hu (by simp;exact Ne.symm s5),h.bA,h.sep⟩
theorem mX.YF {w':World} {f':Int->Option Int} (h:mX w B F A st S f) (hu:aa [B.mb] w w') (hM:eO w' B.mb f'):mX w' B F A st S f':=by
 obtain ⟨⟨s1,s2,s3⟩,s4,s5⟩:=h.sep;obtain ⟨f1,f2,f3,f4⟩:=h.bA;exact ⟨h.head.upd hu (by simp;exact s3),h.cells.upd hu (fun x hx hm=>by simp at hx;subst hx;exact f4 hm),h.trees.upd hu (by simp;exact s4) (by simp;exact s5),hM,h.bA,h.sep⟩
theorem mX.fe {w':World} {F':List Nat} {A':NS} {st':Nat} (h:mX w B F A st S f) (hu:aa F w w') (hC:aB w' B.c F' A' st') (hF:∀x,x∈F'->x∈F\/w.heap.size<=x) (h1:A'.cs.length=A.cs.length):mX w' B F' A' st' S f:=by
 obtain ⟨f1,f2,f3,f4⟩:=h.bA;have hn:∀y,y<w.heap.size->y∉F->y∉F':=fun y hy hm hm'=>by rcases hF y hm' with h'|h';exact hm h';omega
 have hl:=h.lt;exact ⟨h.head.upd hu f1,hC,by rw [h1];exact h.trees.upd hu f2 f3,h.top.upd hu f4,⟨hn _ (hl _ (by simp [SB.blk])) f1,hn _ (hl _ (by simp [SB.blk])) f2,hn _ (hl _ (by simp [SB.blk])) f3,hn _ (hl _ (by simp [SB.blk])) f4⟩,h.sep⟩
def Nf (o:Option Int):Int:=o.getD (-1)
theorem sI (h:mX w B F A st S f) (q:Int) (hq:-9223372036854775808<=q/\q<=9223372036854775807) :
  Calls Tryz.prog 268 #[.pointer (some ⟨B.n0,0,none⟩),.int .i64 q] w fun e w'=>e=.returned (.int .i64 (Nf (f q)))/\w'=w:=by
 have h2:=h.h2;have ht:=h.top;have k:=ht.look_ok q hq;unfold Nf;cases hf:f q with
 | none=>
  rw [hf] at k;simp only [Option.getD_none,Option.isSome_none] at k ⊢;clear ht h
  go_enter Tryz.func268,Tryz.ntmps268
  go_wp2;go_ret;exact ⟨rfl,rfl⟩
 | some z=>
  rw [hf] at k;simp only [Option.getD_some,Option.isSome_some] at k ⊢;clear ht h
  go_enter Tryz.func268,Tryz.ntmps268
  go_wp2;go_ret;exact ⟨rfl,rfl⟩
theorem yR (h:mX w B F A st S f) (q:Nat) (z:Int) (hq:1<=q/\q<=65536) (hz:-1<=z/\z<=9223372036854775807) :
  Calls Tryz.prog 266 #[.pointer (some ⟨B.n0,0,none⟩),.int .i64 (q:Int),.int .i64 z] w fun e w'=>e=.returned (.tuple #[])/\aa [B.mb] w w'/\mX w' B F A st S (fun y=>if y=(q:Int) then (if z=-1 then none else some z) else f y):=by
 have h2:=h.h2;have ht:=h.top;have H:=χ h
 by_cases he:z=-1
 ·subst he;clear h
  go_enter Tryz.func266,Tryz.ntmps266
  go_wp2_with (refine mO rfl _ _ rfl B.mb f rfl ht q rfl ω ?_;intro w1 hm1 hu1)
  go_end0;exact ⟨rfl,hu1,H.out.YF hu1 hm1⟩
 ·have hb:(z == -1)=false:=by simpa using he
  rw [Γ he];clear h he
  go_enter Tryz.func266,Tryz.ntmps266
  go_wp2_with (refine kG rfl _ _ _ rfl B.mb f rfl ht q z rfl rfl ω ω ?_;intro w1 hm1 hu1)
  go_end0;exact ⟨rfl,hu1,H.out.YF hu1 hm1⟩
theorem yc (h:mX w B F A st S f) {fr:Fr} {P:List Fr} {t:BT} (hT:bS S (-1) (ah (fr::P) t).root (ah (fr::P) t)) (hn:(ah (fr::P) t).nodes.Nodup) (hlt:∀y,y∈(ah (fr::P) t).nodes->y<A.cs.length) :
  Calls Tryz.prog 269 #[.pointer (some ⟨B.n0,0,none⟩),.int .i64 (tv t.root),.bool (tb t.root)] w fun e w'=>e=.returned (.int .i64 t.root)/\aa [B.ba] w w'/\
   ∃S',mX w' B F A st S' f/\bS S' (-1) t.root t/\bS S' (-1) (ah (fr::P) .nil).root (ah (fr::P) .nil)/\∀y,y∉(ah (fr::P) t).nodes->S.at S' y:=by
 have h1:=h.h1
 by_cases ht:t=.nil
 ·subst ht;rw [show tv (BT.root .nil)=0 from rfl,show tb (BT.root .nil)=false from rfl,show BT.root .nil=-1 from rfl];have H:=χ (ψ h hT);clear h hT hn hlt
  go_enter Tryz.func269,Tryz.ntmps269
  go_wp2;go_ret;exact ⟨rfl,aa.refl _ _,S,H.out.1,rfl,H.out.2,fun y _=>⟨rfl,rfl,rfl⟩⟩
 ·obtain ⟨r,hr⟩:∃r:Nat,t.root=r:=⟨_,BT.vz ht⟩;have kc:=qp h.trees hT hn hlt;rw [show tv t.root=(r:Int) by rw [hr];unfold tv;rw [Γ ω],show tb t.root=true by rw [hr];unfold tb;simp];have H:=χ h;have HR:=χ hr;rw [hr] at kc;generalize tb (r:Int)=bb at kc;generalize cutV fr t=cv at kc;clear h hT hn hlt hr
  go_enter Tryz.func269,Tryz.ntmps269
  go_wp2_with (first
   | ((go_at_call 244;(with_reducible refine (kc).mono ?_));rintro e w1 ⟨rfl,hu1,S1,hT1,ha1,hp1,hs1⟩)
   | fail)
  go_ret;rw [HR.out];exact ⟨rfl,hu1,S1,H.out.gY hu1 hT1,ha1,hp1,hs1⟩
end
def sQ (x:Nat) (l m:BT):BT:=.node x m l
theorem yN:OG sQ where
 nodes:=fun x l r=>by
  unfold sQ;simp only [BT.nodes];exact List.perm_append_comm.cons x
 heap:=fun A x l r h1 h2 hl hr=>⟨h2,h1,hr,hl⟩
 root:=fun x l r=>rfl
theorem zV {S:TS} {p:Int} {x:Nat} {l r:BT} (h:bS S p x (.node x l r)) (hn:(BT.node x l r).nodes.Nodup):bS (iB S x) p x (.node x r l)/\∀y,y≠x->S.at (iB S x) y:=by
 have hs:∀y,y≠x->S.at (iB S x) y:=fun y hy=>by
  unfold iB TS.aC TS.at;simp [hy]
 have hl:(iB S x).l x=S.r x:=by unfold iB TS.aC;simp
 have hr:(iB S x).r x=S.l x:=by unfold iB TS.aC;simp
 have hu:(iB S x).u x=S.u x:=by unfold iB TS.aC;simp
 simp only [BT.nodes,Ζ,τ,not_or] at hn;refine ⟨M8 (hu.trans h.2.1) ?_ ?_,hs⟩
 ·rw [hl];exact h.2.2.2.frame (fun y hy=>hs y (fun e=>hn.1.2 (by rw [←e];exact hy)))
 ·rw [hr];exact h.2.2.1.frame (fun y hy=>hs y (fun e=>hn.1.1 (by rw [←e];exact hy)))
section
variable {w:World} {B:SB} {F:List Nat} {A:NS} {st:Nat} {S:TS} {f:Int->Option Int}
theorem Lu (h:mX w B F A st S f) {p:Int} {x:Nat} {l r:BT} (hT:bS S p x (.node x l r)) (hx:x<A.cs.length) (hr:∀y,y∈r.nodes->y<A.cs.length) :
  Calls Tryz.prog 269 #[.pointer (some ⟨B.n0,0,none⟩),.int .i64 (tv r.root),.bool (tb r.root)] w fun e w'=>e=.returned (.int .i64 r.root)/\aa [B.ba] w w'/\mX w' B F A st (xD S x r) f:=by
 have h1:=h.h1;cases r with
 | nil=>
  rw [show tv (BT.root .nil)=0 from rfl,show tb (BT.root .nil)=false from rfl,show BT.root .nil=-1 from rfl];have H:=χ h;clear h hT hr
  go_enter Tryz.func269,Tryz.ntmps269
  go_wp2;go_ret;exact ⟨rfl,aa.refl _ _,H.out⟩
 | node y a b=>
  obtain ⟨_,_,_,hr'⟩:=hT;have e2:S.u y=x:=hr'.2.1;have kc:=Bh B.bt B.ba A.cs.length S x y w h.trees hx (hr y (by simp [BT.nodes])) e2;rw [show tv (BT.root (.node y a b))=(y:Int) by show tv (y:Int)=y;unfold tv;rw [Γ ω],show tb (BT.root (.node y a b))=true by show tb (y:Int)=true;unfold tb;simp,show BT.root (.node y a b)=(y:Int) from rfl];have H:=χ h;clear h hr hr' e2
  go_enter Tryz.func269,Tryz.ntmps269
  go_wp2_with (first
   | ((go_at_call 244;(with_reducible refine (kc).mono ?_));rintro e w1 ⟨rfl,hT1,hu1⟩)
   | fail)
  go_ret;exact ⟨rfl,hu1,H.out.gY hu1 hT1⟩
theorem Gg (h:mX w B F A st S f) {p:Int} {x:Nat} {l r:BT} (hT:bS S p x (.node x l r)) (hx:x<A.cs.length) :
  Calls Tryz.prog 249 #[.pointer (some ⟨B.bt,0,none⟩),.int .i64 (x:Int)] w fun e w'=>e=.returned (.tuple #[.int .i64 (tv r.root),.bool (tb r.root)])/\aa [] w w':=by
 refine (sS h.trees hT hx).mono ?_;rintro e w' ⟨rfl,k,rfl⟩;exact ⟨rfl,(aa.refl _ _).drewN k⟩
theorem Co (t:BT):-1<=t.root:=by cases t with
 | nil=>exact Int.le_refl _
 | node x l r=>show (-1:Int)<=(x:Int);omega
theorem xR (h:mX w B F A st S f) {ta tb:BT} (ha:bS S (-1) ta.root ta) (hb:bS S (-1) tb.root tb) (hX:(ta.nodes++tb.nodes).Nodup) (hin:∀y,y∈ta.nodes++tb.nodes->bP A (y:Int)=true) :
  Calls Tryz.prog 267 #[.pointer (some ⟨B.n0,0,none⟩),.int .i64 ta.root,.int .i64 tb.root] w fun e w'=>e=.returned (.int .i64 (aH sQ A ta tb).1.root)/\aa [B.c,B.ba] w w'/\
   ∃S',mX w' B F A (dG st (aH sQ A ta tb).2) S' f/\bS S' (-1) (aH sQ A ta tb).1.root (aH sQ A ta tb).1/\∀y,y∉ta.nodes++tb.nodes->S.at S' y:=by
 have hblk:=h.lt;have r9:=h.cF;have hbl0:=hblk B.n0 (by simp [SB.blk]);have hbl1:=hblk B.bt (by simp [SB.blk]);have hbl2:=hblk B.ba (by simp [SB.blk]);have hbl4:=hblk B.c (by simp [SB.blk,r9]);have hs:=χ h.sep;have hA:=h.cells.ok.c1;have hlt:Hid (∀y,y∈ta.nodes++tb.nodes->y<A.cs.length):=fun y hy=>((aj A y).1 (hin y hy)).1;have hXl:(ta.nodes++tb.nodes).length<=A.cs.length:=lD hX hlt.out;have VX:=χ h;have HBL:=χ hblk;have D0:=χ (Down.start sQ A ha hb);have Lx:=χ hin;have HX:=χ hX;have hst:=h.cells.qd;clear h ha hb hblk r9 hin hX
 go_enter Tryz.func267,Tryz.ntmps267
 go_wp2
 go_loopw [1,2,7] (fun a b way wr=>∃ (S1:TS) (W:List (Nat×BT)) (a1 b1:BT),a=.int .i64 a1.root/\b=.int .i64 b1.root/\wr.ownsRow w.heap.size 3 1 way W.length (Hg W)/\mX wr B F A (dG st W.length) S1 f/\Down sQ A S ta tb S1 W a1 b1/\aa [B.c,B.ba] w wr) (fun _ _ way _=>(ta.nodes++tb.nodes).length-lenOf way)
 case atStart=>
  exact ⟨S,[],ta,tb,rfl,rfl,⟨by simp [Hg,aM],Α ⟨rfl,rfl⟩⟩,by rw [List.length_nil,gV hst];exact VX.out.ae β,D0.out,β⟩
 case round=>
  obtain ⟨S1,W,a1,b1,rfl,rfl,ho,hM,hD,hu⟩:=hrel;have HM:=χ hM;have HD:=χ hD;have HO:=χ ho;have hlen:=hD.len;have h0:=hM.h0;have h1:=hM.h1;clear hM hD;obtain ⟨a5,c5,rfl,ZT⟩:=aR ho;have E8:∀g,(Value.slice a5 W.length c5).ownBlock=some g->w.heap.size<=g:=fun g hg=>(ho.lt g hg).1;have Sw:=χ E8;clear ho E8
  by_cases hne:a1=.nil\/b1=.nil
  ·obtain ⟨m0,e0,U0,hcnt,hor⟩:=HD.out.turn hne;have hz:(a1.root=-1/\b1.root=m0.root)\/(a1.root≠-1/\b1.root=-1/\a1.root=m0.root):=by
    by_cases e:a1.root=-1
    ·rw [Δ e] at e0;exact Α ⟨e,e0.symm⟩
    ·rw [Γ e] at e0;refine Β ⟨e,?_,e0.symm⟩;rcases hne with rfl|rfl
     ·exact absurd rfl e
     ·rfl
   have HU:=χ (ψ U0 hcnt);have hWl:=U0.len;have HUP:=χ hu;rw [←hcnt] at HM;have WW:=Co m0;clear hne hor U0 HD hcnt hu hlen h0 e0;generalize a1.root=za at *;generalize b1.root=zb at *;have e9:∃z9,m0.root=z9:=⟨_,rfl⟩;obtain ⟨z9,e9⟩:=e9;rw [e9] at hz WW;generalize hn0:W.length=n0 at *;have QZ:=χ hn0;clear hn0;have hz':(za=-1/\zb=-1/\z9=-1)\/(za=-1/\zb=z9/\z9 > -1)\/(za=z9/\zb=-1/\z9 > -1):=ω;clear hz WW;rcases hz' with ⟨rfl,rfl,rfl⟩|⟨rfl,rfl,hzg⟩|⟨rfl,rfl,hzg⟩
   all_goals
    try (have hz2:(za != -1)=true:=ζ)
    try (have hz3:¬ ((-1:Int) > za):=ω)
    go_wp2
    go_loopw [8,9] (fun top i w5=>∃ (S2:TS) (W2 U2:List (Nat×BT)) (m:BT),W=W2++U2/\top=.int .i64 m.root/\i=.int .i64 ((W2.length:Int)-1)/\mX w5 B F A (dG st (aH sQ A ta tb).2) S2 f/\Rj sQ S (ta.nodes++tb.nodes) (aH sQ A ta tb).1 S2 W2 m/\aa [B.ba] wr w5) (fun _ i _=>((intOf i)+1).toNat)
    case atStart=>exact ⟨S1,W,[],m0,σ,by rw [e9],by rw [QZ.out],HM.out,HU.out.1,aa.refl _ _⟩
    case round=>
     obtain ⟨S2,W2,U2,m,rfl,rfl,rfl,hM,hU,hu⟩:=hrel;rename World=>w5;rcases List.eq_nil_or_concat W2 with rfl|⟨W3,⟨x,l⟩,rfl⟩
     ·have e0:=hU.res;simp only [sj] at e0;simp only [List.length_nil];go_wp2;go_ret;rw [e0];exact ⟨rfl,HUP.out.trans (hu.mono σ),S2,hM,hU.isM,fun y hy=>hU.far y hy⟩
     ·have hpx:=hU.perm;simp only [List.concat_eq_append] at *;rw [nY,ϋ] at hpx;have zF:∀q,q∈(x::l.nodes)++m.nodes->q<A.cs.length:=fun q hq=>hlt.out q (hpx.mem_iff.1 (List.mem_append_right _ hq));have hnd:((x::l.nodes)++m.nodes).Nodup:=(θ.1 (hpx.nodup_iff.2 HX.out)).2.1;have XI:=zF x σ;obtain ⟨g,cap,ee,hI,hg⟩:=IZ.fE (l:=(W3++[(x,l)]++U2).map fun p=>(p.1:Int)) (by rw [ϒ,QZ.out];exact aA HO.out hu (fun k hk=>by have:=Sw.out k hk;simp;omega)) ζ;rw [ϒ,QZ.out] at ee
      injection ee with ee1 ee2 ee3
      subst ee1 ee3;have dz:=hI.cell W3.length σ;rw [show (((W3++[(x,l)]++U2).map fun p=>(p.1:Int)).getD W3.length 0)=(x:Int) by simp [φ]] at dz;have h1:=hM.h1;have tK:=χ hM;have La:=χ hU;have FK:=χ (ψ zF hnd);have hTx:=hU.way (x,l) σ;have Vj:=χ hTx;have hil:((W3++[(x,l)]).length:Int)-1=W3.length:=σ;rw [hil];have hi0:((W3.length:Int)≥0):=ω;have hWn:W3.length+1+U2.length=n0:=by have:=QZ.out;simp at this;omega
      have JQ:(W3.length:Int)<(n0:Int):=ω;have hW3:W3.length<=65536:=ω;clear hM hU zF hnd hTx hpx hil hI ee2
      by_cases hm:m=.nil
      ·subst hm;simp only [BT.root];have rE:bS S2 (-1) x (.node x l .nil):=Vj.out;obtain ⟨Ba,CZ⟩:=zV rE (by simpa [BT.nodes] using FK.out.2);have kt:=yt B.bt B.ba A.cs.length S2 x w5 tK.out.trees XI;have HT3:=χ (ψ Ba CZ);clear rE Ba CZ
       go_wp2_with (first
        | ((go_at_call 259;(with_reducible refine (kt).mono ?_));rintro e w6 ⟨rfl,J8,fq⟩)
        | fail)
       refine ⟨⟨iB S2 x,W3,(x,l)::U2,sQ x l .nil,σ,rfl,by go_num,tK.out.gY fq J8,La.out.turn yN HX.out HT3.out.1 (fun y h1 _ _=>HT3.out.2 y h1),hu.trans fq⟩,by simp [intOf]⟩
      ·obtain ⟨mr,hmr⟩:∃mr:Nat,m.root=mr:=⟨_,BT.vz hm⟩;have hmm:=(bD hm).1;rw [hmr,π] at hmm;have rE:bS S2 (-1) x (.node x l .nil):=Vj.out;have Vn:=La.out.isM;have hur:S2.u mr=-1:=by
        cases m with
        | nil=>exact absurd rfl hm
        | node q a b=>
         have e:q=mr:=by have e':(q:Int)=mr:=hmr;omega
         subst e;exact Vn.2.1
       have hnd:=FK.out.2;have hxm:x≠mr:=fun e=>by
        rw [θ] at hnd;exact hnd.2.2 x σ mr hmm e
       obtain ⟨Ba,CZ⟩:=Bf (m:=m) rE Vn hm (by simpa [BT.nodes] using hnd);rw [hmr] at Ba CZ;obtain ⟨QD,Wx⟩:=zV Ba (by simpa [BT.nodes] using hnd);have HT3:=χ (ψ Ba (ψ hm (ψ CZ (ψ QD Wx))));have kh:=xE B.bt B.ba A.cs.length S2 x mr true w5 (tK.out.trees) XI (FK.out.1 mr (List.mem_append_right _ hmm)) hxm hur rE.2.2.2;have HMR:=χ hmr;rw [hmr];have hz4:((mr:Int) != -1)=true:=σ;clear rE Vn hur hnd Ba CZ QD Wx hm hmr hmm
       go_wp2_with (first
        | ((go_at_call 251;(with_reducible refine (kh).mono ?_));rintro e w6 ⟨rfl,J8,fq⟩;(have h16:=(tK.out.gY fq J8).h1);(have kt:=yt B.bt B.ba A.cs.length _ x w6 J8 XI))
        | ((go_at_call 259;(with_reducible refine (kt).mono ?_));rintro e w7 ⟨rfl,QC,qN⟩)
        | fail)
       refine ⟨⟨_,W3,(x,l)::U2,sQ x l m,σ,rfl,by go_num,(tK.out.gY fq J8).gY qN QC,La.out.turn yN HX.out HT3.out.2.2.2.1 (fun y h1 _ h3=>?_),(hu.trans fq).trans qN⟩,by simp [intOf]⟩;have a1:=HT3.out.2.2.1 y h1 h3;have a2:=HT3.out.2.2.2.2 y h1;exact ⟨a2.1.trans a1.1,a2.2.1.trans a1.2.1,a2.2.2.trans a1.2.2⟩
  ·obtain ⟨x,l,r,rfl⟩:∃x l r,a1=.node x l r:=by
    cases a1 with
    | nil=>exact absurd (Α rfl) hne
    | node x l r=>exact ⟨x,l,r,rfl⟩
   obtain ⟨y,l',r',rfl⟩:∃x l r,b1=.node x l r:=by
    cases b1 with
    | nil=>exact absurd (Β rfl) hne
    | node x l r=>exact ⟨x,l,r,rfl⟩
   clear hne;have hmx:∀z,z∈(BT.node x l r).nodes++(BT.node y l' r').nodes->z∈ta.nodes++tb.nodes:=fun z hz=>HD.out.perm.mem_iff.1 (List.mem_append_right _ hz);have hxm:=hmx x (by simp [BT.nodes]);have hym:=hmx y (by simp [BT.nodes]);have hWl:W.length+2<=(ta.nodes++tb.nodes).length:=by simp only [BT.nodes,Ω,υ] at hlen ⊢;omega
   have Ya:=χ hmx;have hxb:((x:Int) != -1)=true:=σ;have hyb:((y:Int) != -1)=true:=σ;clear hmx hlen;have kA:=gP HM.out.cells y x (Lx.out y hym) (Lx.out x hxm);obtain ⟨sw,hsw⟩:∃sw,decide (eB A y x)=sw:=⟨_,rfl⟩;rw [hsw] at kA;have KEY:∃ (z:Nat) (lz rz o:BT),z=(if sw then y else x)/\Down sQ A S ta tb (xD S1 z rz) (W++[(z,lz)]) rz o/\bS S1 (-1) z (.node z lz rz)/\z<A.cs.length/\(∀q,q∈rz.nodes->q<A.cs.length)/\o.root=(if sw then (x:Int) else (y:Int)):=by
    cases sw with
    | true=>
     exact ⟨y,l',r',.node x l r,rfl,HD.out.takeB HX.out (ϥ hsw),HD.out.Zk,hlt.out y hym,fun q hq=>hlt.out q (Ya.out q (by simp [BT.nodes,hq])),rfl⟩
    | false=>
     exact ⟨x,l,r,.node y l' r',rfl,HD.out.takeA HX.out (Ϧ hsw),HD.out.XK,hlt.out x hxm,fun q hq=>hlt.out q (Ya.out q (by simp [BT.nodes,hq])),rfl⟩
   obtain ⟨z,lz,rz,o,ez,hD2,YN,hz,hrz,eo⟩:=KEY;have HD2:=χ hD2;have HT:=χ YN;have HQ:=χ hrz;clear hD2 YN hrz hsw;simp only [BT.root];cases sw
   all_goals
    simp only [if_true,if_false,Ϥ] at ez eo;subst ez
    go_wp2_with fail
    refine kA.mono ?_;rintro e w1 ⟨rfl,jH,hu1⟩;have hM1:=χ (HM.out.fe (hu1.mono (by simp [HM.out.cF])) jH (fun x hx=>Α hx) rfl);have hss:dG (dG st W.length) 1=dG st (W.length+1):=kg _ _ _;rw [hss] at hM1;have ho1:=aA HO.out hu1 (fun k hk=>by have:=Sw.out k hk;simp;omega);have h01:=hM1.out.h0;have h11:=hM1.out.h1;clear h0 h1 kA hss;have SH:=χ (ψ hu hu1);clear hu hu1 jH;have HGB:Hid (∀g,g∈(Value.slice a5 W.length c5).ownBlock.toList->g∉B.blk F):=fun g hg hb=>by
     have h1:=Sw.out g (Option.mem_toList.1 hg);have h2:=HBL.out g hb;omega
    have hsz1:w.heap.size<=w1.heap.size:=(SH.out.1.trans (SH.out.2.mono σ)).size
    go_wp2_with (first
     | ((at_builtin;refine ak rfl _ _ 26 rfl w.heap.size 3 (.int .i64 0) 1 8 Tryz.underlying26 cO rfl δ _ _ _ rfl (ho1) [.int .i64 (z:Int)] rfl (by simp [Value.oneCell']) (by first|rfl|(rw [Κ];rfl)) μ ω (ω) ?_;intro v2 w2 ho2 hu2 lq);(have hM2:=χ (hM1.out.upd hu2 HGB.out));(have k12:=hM2.out.h1);(have kr:=Gg hM2.out HT.out hz))
     | (go_at_call 249;(with_reducible refine (kr).mono ?_);rintro e w3 ⟨rfl,hu3⟩;(have mE:=χ (hM2.out.ae hu3));(have kc:=Lu mE.out HT.out hz HQ.out))
     | (go_at_call 269;(with_reducible refine (kc).mono ?_);rintro e w4 ⟨rfl,jN,xu⟩)
     | fail)
    obtain ⟨a6,c6,rfl,hc6⟩:=aR ho2;have V7:∀k,(Value.slice a6 (W.length+1) c6).ownBlock=some k->w.heap.size<=k:=fun k hk=>(ho2.lt k hk).1;refine ⟨⟨_,W++[(z,lz)],rz,o,rfl,congrArg (Value.int .i64) eo.symm,?_,?_,HD2.out,?_⟩,?_⟩
    ·rw [AB,υ,List.length_singleton];exact aA (aA ho2 hu3 σ) jN (fun k hk=>by have:=V7 k hk;simp;omega)
    ·rw [υ,List.length_singleton];exact xu
    ·have v1:aa [B.c,B.ba] w w1:=SH.out.1.trans (SH.out.2.mono σ);have v2:aa [B.c,B.ba] w w2:=v1.joined hu2 (fun g hg=>Β (Sw.out g (Option.mem_toList.1 hg)));exact (v2.trans (hu3.mono σ)).trans (jN.mono σ)
    ·show (ta.nodes++tb.nodes).length-(W.length+1)<(ta.nodes++tb.nodes).length-W.length
     omega
end
def rR (A:NS) (tr:Nat->BT) (q:Int):Option Int:=if 1<=q/\q<A.hs.length then (if (tr q.toNat).root=-1 then none else some (tr q.toNat).root) else none
def xW (A:NS) (tr:Nat->BT):List Int:=(List.range A.hs.length).map fun h=>(tr h).root
theorem wK.Ng {K:QF} {A:NS} {S:TS} {af:List Int} {tr:Nat->BT} (h:wK K A S af tr):wK K A S (xW A tr) tr:=
 ⟨fun q hq=>by unfold xW;simp [φ,hq],h.IE,h.mem,h.nd,h.heap,h.free⟩
def ny (w:World) (B:SB) (F:List Nat) (A:NS) (st:Nat) (tr:Nat->BT):Prop:=∃S,mX w B F A st S (rR A tr)/\ZC A S (xW A tr) tr
theorem Dx (A:NS) (tr:Nat->BT) (q:Nat) (h:1<=q/\q<A.hs.length):Nf (rR A tr (q:Int))=(tr q).root:=by
 unfold rR Nf;rw [Δ ω,π]
 split
 ·rename_i e;rw [e];rfl
 ·rfl
theorem mX.ext {w:World} {B:SB} {F:List Nat} {A:NS} {st:Nat} {S:TS} {f g:Int->Option Int} (h:mX w B F A st S f) (e:∀k,f k=g k):mX w B F A st S g:=⟨h.head,h.cells,h.trees,h.top.ext e,h.bA,h.sep⟩
theorem Em {A A':NS} {tr:Nat->BT} {q:Nat} {t:BT} (hl:A'.hs.length=A.hs.length) (hq:1<=q/\q<A.hs.length) (k:Int):(if k=(q:Int) then (if t.root=-1 then none else some t.root) else rR A tr k)=rR A' (fun y=>if y=q then t else tr y) k:=by
 by_cases e:k=(q:Int)
 ·subst e;have e1:rR A' (fun y=>if y=q then t else tr y) (q:Int)=(if t.root=-1 then none else some t.root):=by
   unfold rR;rw [hl,Δ (show 1<=(q:Int)/\(q:Int)<A.hs.length by omega)];have:(fun y=>if y=q then t else tr y) (q:Int).toNat=t:=σ;rw [this]
  rw [e1,Δ rfl]
 ·have e1:rR A' (fun y=>if y=q then t else tr y) k=rR A tr k:=by
   unfold rR;rw [hl]
   by_cases h:1<=k/\k<A.hs.length
   ·rw [Δ h,Δ h];have:(fun y=>if y=q then t else tr y) k.toNat=tr k.toNat:=by
     show (if k.toNat=q then t else tr k.toNat)=_
     rw [Γ ω]
    rw [this]
   ·rw [Γ h,Γ h]
  rw [e1,Γ e]
theorem Rm {A:NS} {S:TS} {af:List Int} {tr:Nat->BT} (h:ZC A S af tr) (hA:A.cs.length<=65536) {t:BT} (ht:∀y,y∈t.nodes->y<A.cs.length):-1<=t.root/\t.root<=9223372036854775807:=by
 refine ⟨Co t,?_⟩
 by_cases e:t=.nil
 ·rw [e];show (-1:Int)<=_;omega
 ·have h1:=bD e;have h2:=ht _ h1.1;omega
section
variable {w:World} {B:SB} {F:List Nat} {A:NS} {st:Nat} {tr:Nat->BT}
theorem ny.upd {w':World} {G:List Nat} (h:ny w B F A st tr) (hu:aa G w w') (hG:∀x,x∈G->x∉B.blk F):ny w' B F A st tr:=by
 obtain ⟨S,hM,hI⟩:=h;exact ⟨S,hM.upd hu hG,hI⟩
theorem ny.ae {w':World} (h:ny w B F A st tr) (hu:aa [] w w'):ny w' B F A st tr:=h.upd hu σ
theorem Fj (h:ny w B F A st tr) (hh x:Nat) (k s:Int) (hk:-9223372036854775808<=k/\k<=9223372036854775807/\0<=s/\s<=18446744073709551615) (hB:iX A hh x=true) :
  Calls Tryz.prog 263 #[.pointer (some ⟨B.n0,0,none⟩),.int .i64 (hh:Int),.int .i64 (x:Int),.agg #[.int .i64 k,.int .u64 s]] w fun e w'=>e=.returned (.bool true)/\aa (B.blk F) w w'/\
   ny w' B F (au A hh x k s) (dG st (aH sQ (au A hh x k s) (tr hh) (single x)).2) (fun q=>if q=hh then (aH sQ (au A hh x k s) (tr hh) (single x)).1 else tr q):=by
 obtain ⟨S,hM,hI⟩:=h;have hlt:=hM.lt;have ok:=hM.cells.ok;obtain ⟨b1,b2,b3⟩:=(bV _ _ _).1 hB;have b4:=(aK _ _).1 b1;have hx:x<A.cs.length:=by have:=(dB _ _).1 b2;omega
 have MN:(A.c x).i=0:=by
  have:=(ok.nat x hx).1;have h3:¬ (0<(A.c x).i):=fun h'=>by rw [(aj A x).2 ⟨hx,h'⟩] at b3;cases b3
  omega
 have hcs:(au A hh x k s).cs.length=A.cs.length:=by unfold au;rw [Δ hB,dK]
 have nC:(au A hh x k s).hs.length=A.hs.length:=by unfold au;rw [Δ hB];rfl
 have hcx:∀y,(au A hh x k s).c y=if y=x then ⟨hh,k,s⟩ else A.c y:=fun y=>by
  unfold au;rw [Δ hB,π,iy]
  by_cases e:y=x
  ·rw [Δ ⟨e,hx⟩,Δ e]
  ·rw [Γ (fun h=>e h.1),Γ e]
 have su:x∉(tr hh).nodes:=hI.out MN;have hX:((tr hh).nodes++(single x).nodes).Nodup:=by
  rw [θ];refine ⟨hI.nd hh,by simp [single,BT.nodes],fun a ha b hb e=>?_⟩;simp only [single,BT.nodes,Υ,ϔ] at hb;exact su (by rw [←hb,←e];exact ha)
 have hin:∀y,y∈(tr hh).nodes++(single x).nodes->bP (au A hh x k s) (y:Int)=true:=fun y hy=>by
  rw [aj,hcs,hcx];simp only [single,BT.nodes,Υ,τ,ϔ] at hy
  by_cases e:y=x
  ·rw [Δ e,e];exact ⟨hx,by show (0:Int)<(hh:Int);omega⟩
  ·rw [Γ e];have:=(hI.mem hh y).1 (hy.resolve_right e);exact ⟨this.2.1,ω⟩
 have Ug:Heap (au A hh x k s) (tr hh):=(hI.heap hh).frame (fun y hy=>by rw [hcx,Γ (fun e=>su (by rw [←e];exact hy))]);obtain ⟨mp,mh⟩:=pW yN (au A hh x k s) _ (tr hh) (single x) (Θ _);have Vo:=mh Ug ⟨by simp [BT.nodes],by simp [BT.nodes],trivial,trivial⟩ hX;have hfr:=hI.free x hx MN;have Tw:=hI.IE hh;have hq:1<=hh/\hh<A.hs.length:=ω;have hb65:=ok.h1
 have hmr:=Rm hI ok.c1 (t:=(aH sQ (au A hh x k s) (tr hh) (single x)).1) (fun y hy=>by
  have h1:=mp.mem_iff.1 hy;have:=(aj _ y).1 (hin y h1)
  rw [hcs] at this;exact this.1)
 have hfst:=Dx A tr hh hq
 have FI:Hid (∀ (W:World) (S':TS) (st':Nat),mX W B F (au A hh x k s) st' S' (fun y=>if y=(hh:Int) then (if (aH sQ (au A hh x k s) (tr hh) (single x)).1.root=-1 then none else some (aH sQ (au A hh x k s) (tr hh) (single x)).1.root) else rR A tr y)->bS S' (-1) (aH sQ (au A hh x k s) (tr hh) (single x)).1.root (aH sQ (au A hh x k s) (tr hh) (single x)).1->
   (∀y,y∉(tr hh).nodes++(single x).nodes->S.at S' y)->ny W B F (au A hh x k s) st' (fun q=>if q=hh then (aH sQ (au A hh x k s) (tr hh) (single x)).1 else tr q)):=fun W S' st' a1 a2 a4=>
  ⟨S',a1.ext (Em nC hq),(hI.put ok (by simp [xW]) hB a2 mp Vo (fun y hy=>a4 y hy)).Ng⟩
 have u1:aa [] w (w.alloc (.cells #[.int .i64 k,.int .u64 s] 129)):=(aa.refl _ _).alloc _;have kp:=fun W (hW:aa [] (w.alloc (.cells #[.int .i64 k,.int .u64 s] 129)) W)=>lX (hM.cells.ae (u1.trans hW)) hh x k s hk hB;have h0:=hM.h0;have vY:B.n0∉F:=hM.bA.1;have hsz:w.heap.size∉F:=fun hm=>by have:=hlt w.heap.size (by simp [SB.blk,hm]);omega
 have r0:∀W,aa F (w.alloc (.cells #[.int .i64 k,.int .u64 s] 129)) W->W.cell? ⟨B.n0,0,none⟩=some (.pointer (some ⟨B.c,0,none⟩)):=fun W hW=>hW.kept (u1.was h0) vY;have r1:∀W,aa F (w.alloc (.cells #[.int .i64 k,.int .u64 s] 129)) W->W.cell? ⟨w.heap.size,0,none⟩=some (.int .i64 k):=fun W h=>h.kept σ hsz;have r2:∀W,aa F (w.alloc (.cells #[.int .i64 k,.int .u64 s] 129)) W->W.cell? ⟨w.heap.size,1,none⟩=some (.int .u64 s):=fun W h=>h.kept σ hsz;have HM:=χ hM;have HH:=χ (ψ hX (ψ hin (ψ Tw hfr)));have r9:=hM.cF;clear hM hI ok b1 b2 b3 MN hcx su hX hin Ug mp mh Vo hfr h0 hlt Tw
 generalize hA':au A hh x k s=A' at *;generalize htr:tr hh=th at *
 go_enter Tryz.func263,Tryz.ntmps263
 go_wp2
 go_region_held3 (aa F (w.alloc (.cells #[.int .i64 k,.int .u64 s] 129))) (exact ν)
  ((go_at_call 154;(with_reducible refine (kp _ β).mono ?_);rintro e w1 ⟨rfl,jH,hu1⟩;(have hu2:aa F (w.alloc (.cells #[.int .i64 k,.int .u64 s] 129)) w1:=ν)))
 have uF:aa F w (w.alloc (.cells #[.int .i64 k,.int .u64 s] 129)):=u1.mono σ;have hM1:=HM.out.fe (uF.trans hu2) jH (fun y hy=>Α hy) hcs;have hw1:aa F w w1:=uF.trans hu2;have k1:=sI hM1 (hh:Int) ω;rw [hfst] at k1;have km:=xR hM1 HH.out.2.2.1 (tC HH.out.2.2.2) HH.out.1 HH.out.2.1;rw [show (single x).root=(x:Int) from rfl] at km;clear r0 r1 r2 kp hu1 hu2 jH uF hM1
 go_wp2_with (first
  | (go_at_call 268;(with_reducible refine (k1).mono ?_);rintro e w9 ⟨rfl,aO⟩;rw [aO];clear aO w9)
  | ((go_at_call 267;(with_reducible refine (km).mono ?_));rintro e w2 ⟨rfl,hu2,S2,hM2,rE,hs2⟩;(have kc:=yR hM2 hh _ ω hmr))
  | ((go_at_call 266;(with_reducible refine (kc).mono ?_));rintro e w3 ⟨rfl,hu3,mE⟩)
  | fail)
 go_ret;refine ⟨rfl,((hw1.mono (fun y hy=>by simp only [SB.blk,ρ];simp [hy])).trans (hu2.mono (fun y hy=>?_))).trans (hu3.mono (by simp [SB.blk])),FI.out _ S2 _ mE rE hs2⟩;simp only [ρ,ς,or_false] at hy;simp only [SB.blk,ρ];rcases hy with rfl|rfl
 ·simp [r9]
 ·simp
theorem JZ (h:ny w B F A st tr) (x:Int) (hx:-9223372036854775808<=x/\x<=9223372036854775807) (hn:dA A x=0) :
  Calls Tryz.prog 265 #[.pointer (some ⟨B.n0,0,none⟩),.int .i64 x] w fun e w'=>e=.returned (.tuple #[.int .i64 0,.bool false])/\w'=w:=by
 obtain ⟨S,hM,hI⟩:=h;have hr:Nf (rR A tr x)=-1:=by
  unfold rR
  split
  ·rename_i hq
   have:(tr x.toNat)=.nil:=by
    cases e:tr x.toNat with
    | nil=>rfl
    | node y a b=>
     have:=(hI.mem x.toNat y).1 (by rw [e];simp [BT.nodes]);have:0<dA A x:=dL.2 ⟨y,this.2.1,by show (A.c y).i=x;omega,by omega⟩;omega
   rw [this];rfl
  ·rfl
 have k:=sI hM x hx;rw [hr] at k;clear hM hI
 go_enter Tryz.func265,Tryz.ntmps265
 go_wp2_with (first|(go_at_call 268;(with_reducible refine (k).mono ?_);rintro e w9 ⟨rfl,aO⟩;rw [aO];clear aO w9)|fail)
 go_ret2;exact ⟨rfl,rfl⟩
theorem A7 (h:ny w B F A st tr) (g:Nat) (hn:0<dA A g) :
  Calls Tryz.prog 265 #[.pointer (some ⟨B.n0,0,none⟩),.int .i64 (g:Int)] w fun e w'=>∃m:Nat,bu A g=some m/\(tr g).root=m/\e=.returned (.tuple #[.int .i64 (m:Int),.bool true])/\w'=w:=by
 obtain ⟨S,hM,hI⟩:=h;obtain ⟨m,hm1,hm2⟩:=hI.first hn;have hin:=(jW hm2);have hq:=(aK _ _).1 (iH hM.cells.ok hin.2.2.2);rw [π,hin.2.2.1] at hq;have hb:=hM.cells.ok.h1;have k:=sI hM (g:Int) ω;rw [Dx A tr g ω,hm1] at k;have hb1:((m:Int) == -1)=false:=σ;clear hM hI
 go_enter Tryz.func265,Tryz.ntmps265
 go_wp2_with (first|(go_at_call 268;(with_reducible refine (k).mono ?_);rintro e w9 ⟨rfl,aO⟩;rw [aO];clear aO w9)|fail)
 go_ret2;exact ⟨m,hm2,hm1,rfl,rfl⟩
end
noncomputable def EU (A:NS) (t:BT) (x:Nat):BT×Nat:=(ah (pathOf t x).1 (aH sQ A (pathOf t x).2.1 (pathOf t x).2.2).1,(aH sQ A (pathOf t x).2.1 (pathOf t x).2.2).2)
section
variable {w:World} {B:SB} {F:List Nat} {A:NS} {st:Nat} {tr:Nat->BT} {S:TS} {f:Int->Option Int}
theorem Ik {bt ba n:Nat} (h:aY w bt ba n S) {fr:Fr} {P:List Fr} {x:Nat} {l r:BT} (hT:bS S (-1) (ah (fr::P) (.node x l r)).root (ah (fr::P) (.node x l r))) (hn:(ah (fr::P) (.node x l r)).nodes.Nodup) (hf:fr.1<n) :
  ∃ (r':Int) (b:Bool),((b=true/\(r' == (x:Int))=fr.2.1)\/(b=false/\fr.2.1=false))/\Calls Tryz.prog 249 #[.pointer (some ⟨bt,0,none⟩),.int .i64 (fr.1:Int)] w fun e w'=>e=.returned (.tuple #[.int .i64 r',.bool b])/\∃k,w'=w.drewN k:=by
 obtain ⟨z,hz,k⟩:=Az h hT hn hf
 by_cases e:z=-1
 ·refine ⟨tv z,tb z,Β ⟨by rw [e];rfl,?_⟩,k⟩;rw [←hz,e];first|(simp;done)|(simp;omega)
 ·exact ⟨tv z,tb z,Α ⟨by unfold tb;simp [e],by unfold tv;rw [Γ e];exact hz⟩,k⟩
def QL (w':World) (B:SB) (F:List Nat) (A:NS) (st:Nat) (S:TS) (f:Int->Option Int) (g x:Nat) (P:List Fr) (X:List Nat) (T:BT):Prop:=
 ∃S',mX w' B F (aL A x) st S' (fun y=>if P=[]/\y=(g:Int) then (if T.root=-1 then none else some T.root) else f y)/\bS S' (-1) T.root T/\(∀y,y∉X->S.at S' y)/\(S'.l x=-1/\S'.r x=-1/\S'.u x=-1)
theorem Cr (hM:mX w B F A st S f) {g x:Nat} {P:List Fr} {l r:BT} (hin:bP A (x:Int)=true) (hg:(A.c x).i=g) (hgq:1<=g/\g<=65536)
  (hT:bS S (-1) (ah P (.node x l r)).root (ah P (.node x l r))) (hn:(ah P (.node x l r)).nodes.Nodup) (hall:∀y,y∈(ah P (.node x l r)).nodes->bP A (y:Int)=true) :
  Calls Tryz.prog 261 #[.pointer (some ⟨B.n0,0,none⟩),.int .i64 (x:Int)] w fun e w'=>e=.returned (.bool true)/\aa (B.blk F) w w'/\
   QL w' B F A (dG st (aH sQ A l r).2) S f g x P (ah P (.node x l r)).nodes (ah P (aH sQ A l r).1):=by
 have hxl:=((aj A x).1 hin).1;have hlt:∀y,y∈(ah P (.node x l r)).nodes->y<A.cs.length:=fun y hy=>((aj A y).1 (hall y hy)).1;have kh:=iK hM.cells x hin;rw [hg] at kh;have h0:=hM.h0;have HM:=χ hM;have Wv:=sF hn;have mp:=(pW yN A _ l r (Θ _)).1;have hblk:=χ hM.lt;have r9:=hM.cF;have hsep:=χ (ψ hM.sep hM.bA);have HT:=χ (ψ hT (ψ hn (ψ hall hlt)));have HP:=χ Wv;have hA:=hM.cells.ok.c1;obtain ⟨m,k,hmk⟩:∃m k,aH sQ A l r=(m,k):=⟨_,_,rfl⟩;rw [hmk] at mp;rw [hmk]
 have Vp:∀y,y∈m.nodes->y<A.cs.length:=fun y hy=>hlt y (aI.2 (Α (by
  have:=mp.mem_iff.1 hy
  simp only [BT.nodes];exact Λ _ this)))
 have hmr:-1<=m.root/\m.root<=9223372036854775807:=by
  refine ⟨Co m,?_⟩
  by_cases e:m=.nil
  ·rw [e];show (-1:Int)<=_;omega
  ·have h1:=bD e;have h2:=Vp _ h1.1;omega
 have Uq:=χ mp;have HMK:=χ hmk;have Lx:=χ hin;have HML:=χ Vp;clear hM hT hn hall hlt Wv mp hmk hin hg Vp
 go_enter Tryz.func261,Tryz.ntmps261
 go_wp2_with (first|((go_at_call 140;(with_reducible refine (kh).mono ?_));rintro e w1 ⟨rfl,jH,hu1⟩;(have g1:=(HM.out.fe hu1 jH (fun y hy=>Α hy) rfl).h1))|fail)
 have hM1:=HM.out.fe hu1 jH (fun y hy=>Α hy) rfl;have kl:=fun W (hW:aa [] w1 W)=>AP (hM1.ae hW).trees ((cB _ _).1 HT.out.1).1 hxl;have klo:=fun W (hW:aa [] w1 W)=>yc (hM1.ae hW) (fr:=(x,false,r)) (P:=P) (t:=l) HT.out.1 HT.out.2.1 HT.out.2.2.2;have hn0:B.n0∉[B.c,B.ba]:=by
  have a1:=hsep.out;have a2:B.n0≠B.c:=fun e=>a1.2.1 (by rw [e];exact r9);simp;omega
 have r1:∀W,aa [B.c,B.ba] w1 W->W.cell? ⟨B.n0,1,none⟩=some (.pointer (some ⟨B.bt,0,none⟩)):=fun W hW=>hW.kept g1 hn0;have Jh:(ah ((x,true,.nil)::P) r).nodes.Nodup:=by
  have e:=(aW P (.node x .nil r));refine e.nodup_iff.2 ?_;obtain ⟨⟨a1,a2,a3⟩,a4,a5,a6,a7⟩:=HP.out;simp only [BT.nodes,ϟ,θ] at a4 ⊢;refine ⟨List.nodup_cons.2 ⟨a2,a4.2.1⟩,a7,fun y hy z hz e=>?_⟩;subst e;rcases ρ.1 hy with e|hy
  ·exact a3 (by rw [←e];exact hz)
  ·exact a6 y hy hz
 have Aa:∀y,y∈(ah ((x,true,.nil)::P) r).nodes->y∈(ah P (.node x l r)).nodes:=fun y hy=>by
  have h':y∈(ah P (.node x .nil r)).nodes:=hy;rw [aI] at h' ⊢;simp only [BT.nodes,ϟ,ρ,τ] at h' ⊢;rcases h' with (h'|h')|h'
  ·exact Α (Α h')
  ·exact Α (Β (Β h'))
  ·exact Β h'
 have Qf:∀y,y∈l.nodes->y∉(ah ((x,true,.nil)::P) r).nodes:=fun y hy hm=>by
  obtain ⟨⟨a1,a2,a3⟩,a4,a5,a6,a7⟩:=HP.out;rw [θ] at a4;have h':y∈(ah P (.node x .nil r)).nodes:=hm;rw [aI] at h';simp only [BT.nodes,ϟ,ρ] at h';rcases h' with (h'|h')|h'
  ·exact a1 (by rw [←h'];exact hy)
  ·exact a4.2.2 y hy y h' rfl
  ·exact a5 y hy h'
 have H3:=χ (ψ Jh (ψ Aa Qf));clear hM1 jH kh h0 Jh Aa Qf
 go_region_held3 (aa [B.c,B.ba] w1) (exact ν)
  (first
   | ((go_at_call 248;(with_reducible refine (kl _ η).mono ?_));rintro e w2 ⟨rfl,k2,hw2⟩;(have hq2:aa [] w1 w2:=(by rw [hw2];refine aa.drewN ?_ _;exact η));clear hw2;(have hv2:aa [B.c,B.ba] w1 w2:=hq2.mono σ))
   | ((go_at_call 269;(with_reducible refine (klo _ η).mono ?_));rintro e w3 ⟨rfl,hu3,S3,mE,hl3,hp3,hs3⟩;(have hv3:aa [B.c,B.ba] w1 w3:=aa.trans ν (hu3.mono σ));(have Kk:bS S3 (-1) (ah ((x,true,.nil)::P) r).root (ah ((x,true,.nil)::P) r):=hp3);(have kr:=fun W (hW:aa [] w3 W)=>sS (mE.ae hW).trees ((cB P (.node x .nil r)).1 Kk).1 hxl);(have YT:=fun W (hW:aa [] w3 W)=>yc (mE.ae hW) (fr:=(x,true,.nil)) (P:=P) (t:=r) Kk H3.out.1 (fun y hy=>HT.out.2.2.2 y (H3.out.2.1 y hy))))
   | ((go_at_call 249;(with_reducible refine (kr _ η).mono ?_));rintro e w4 ⟨rfl,k4,hw4⟩;(have hq4:aa [] w3 w4:=(by rw [hw4];refine aa.drewN ?_ _;exact η));clear hw4;(have hv4:aa [B.c,B.ba] w1 w4:=hv3.trans (hq4.mono σ)))
   | ((go_at_call 269;(with_reducible refine (YT _ η).mono ?_));rintro e w5 ⟨rfl,dF,S5,Bj,Om,Qy,hs5⟩;(have hv5:aa [B.c,B.ba] w1 w5:=aa.trans ν (dF.mono σ));(have km:=fun W (hW:aa [] w5 W)=>xR (Bj.ae hW) (hl3.frame (fun y hy=>hs5 y (H3.out.2.2 y hy))) Om HP.out.2.1 (fun y hy=>HT.out.2.2.1 y (aI.2 (Α (by simp only [BT.nodes];exact Λ _ hy)))));rw [HMK.out] at km)
   | ((go_at_call 267;(with_reducible refine (km _ η).mono ?_));rintro e w6 ⟨rfl,fq,S6,rW,J8,hs6⟩;(have hv6:aa [B.c,B.ba] w1 w6:=aa.trans ν fq)))
 have Z9:bS S6 (-1) (ah P (.node x .nil .nil)).root (ah P (.node x .nil .nil)):=bS.frame (show bS S5 (-1) (ah P (.node x .nil .nil)).root (ah P (.node x .nil .nil)) from Qy) (fun y hy=>hs6 y (fun hm=>by
  obtain ⟨⟨a1,a2,a3⟩,a4,a5,a6,a7⟩:=HP.out;rw [aI] at hy;simp only [BT.nodes,ϟ,ρ,ς,or_false] at hy;rw [τ] at hm;rcases hy with e|hy
  ·subst e;rcases hm with hm|hm;exact a1 hm;exact a2 hm
  ·rcases hm with hm|hm;exact a5 y hm hy;exact a6 y hm hy))
 have f6:∀y,y∉(ah P (.node x l r)).nodes->S.at S6 y:=fun y hy=>by
  have h1:y∉l.nodes++r.nodes:=fun hm=>hy (aI.2 (Α (by simp only [BT.nodes];exact Λ _ hm)));exact gN (gN (hs3 y hy) (hs5 y (fun hm=>hy (H3.out.2.1 y hm)))) (hs6 y h1)
 have u6:aa (B.blk F) w w6:=(hu1.mono (fun y hy=>by simp only [SB.blk,ρ];simp [hy])).trans (hv6.mono (fun y hy=>by
   simp only [ρ,ς,or_false] at hy;simp only [SB.blk,ρ];rcases hy with rfl|rfl
   ·simp [r9]
   ·simp))
 have ku:=fun W (hW:aa [] w6 W)=>Jo (rW.ae hW).trees Z9 hxl;have Wh:=fun W (hW:aa [] w6 W)=>(rW.ae hW).h1;have uu:=χ rW;have H6:=χ (ψ Z9 (ψ f6 J8));have hmm:Hid (∀y,y∈m.nodes->y∉bZ P/\y≠x):=fun y hy=>by
  obtain ⟨⟨a1,a2,a3⟩,a4,a5,a6,a7⟩:=HP.out;have h1:=Uq.out.mem_iff.1 hy;rw [τ] at h1;rcases h1 with h1|h1
  ·exact ⟨a5 y h1,fun e=>a1 (by rw [←e];exact h1)⟩
  ·exact ⟨a6 y h1,fun e=>a2 (by rw [←e];exact h1)⟩
 have hmx:Hid (∀y,y∈m.nodes->y∈(ah P (.node x l r)).nodes):=fun y hy=>aI.2 (Α (by
  have h1:=Uq.out.mem_iff.1 hy
  simp only [BT.nodes,ρ];exact Β h1))
 have Cu:Hid m.nodes.Nodup:=Uq.out.nodup_iff.2 HP.out.2.1;have H31:=Wh w6 (aa.refl _ _);have H32:=(rW.ae ((aa.refl [] w6).drew)).h1;clear rW Z9 f6 J8 hs6 hs5 hs3 Qy hp3 Kk hl3 Om Bj mE km klo YT kr kl r1 hu1 g1 hv6 hv5 hv4 hv3 hv2 hq2 hq4 hu3 dF fq H31 H32;obtain ⟨wX,hwX,uX⟩:∃wX,wX=w6/\aa [] w6 wX:=⟨w6,rfl,aa.refl _ _⟩;cases P with
 | nil=>
  rw [show zT ([]:List Fr)=-1 from rfl,show tv (-1)=0 from rfl,show tb (-1)=false from rfl] at ku;have g61:=Wh w6 (aa.refl _ _);clear Wh
  go_wp2_with (first
   | ((go_at_call 250;(with_reducible refine (ku _ η).mono ?_));rintro e w7 ⟨rfl,kk,hw7⟩;(have u7:aa [] w6 w7:=(by rw [hw7];refine aa.drewN ?_ _;exact η));clear hw7;(have kc:=yR (uu.out.ae u7) g m.root hgq hmr))
   | ((go_at_call 266;(with_reducible refine (kc).mono ?_));rintro e w8 ⟨rfl,vV,hM8⟩;(have g80:=hM8.h0);(have kd:=fQ hM8.cells x Lx.out))
   | ((go_at_call 151;(with_reducible refine (kd).mono ?_));rintro e w9 ⟨rfl,hC9,jR⟩)
   | fail)
  go_ret;obtain ⟨b1,b2,b4⟩:=H6.out;have bx:=((cB _ _).1 b1).1;refine ⟨rfl,((u6.trans (u7.mono σ)).trans (vV.mono (by simp [SB.blk]))).trans (jR.mono (fun y hy=>by simp only [SB.blk,ρ];simp [hy])),S6,(hM8.fe jR hC9 (fun y hy=>Α hy) (cK _ _)).ext (fun y=>?_),b4,b2,⟨bx.2.2.1.root,bx.2.2.2.root,bx.2.1⟩⟩
  by_cases e:y=(g:Int)
  ·rw [Δ (show ([]:List Fr)=[]/\y=(g:Int) from ⟨rfl,e⟩),Δ e];rfl
  ·rw [Γ e,Γ (show ¬ (([]:List Fr)=[]/\y=(g:Int)) from fun h=>e h.2)]
 | cons fr P2=>
  rw [show zT (fr::P2)=(fr.1:Int) from rfl,Ob,Nb] at ku;have hfl:fr.1<A.cs.length:=HT.out.2.2.2 fr.1 (aI.2 (Β (by simp [bZ])));have Mq:(ah (fr::P2) (.node x .nil .nil)).nodes.Nodup:=by
   refine (aW (fr::P2) (.node x .nil .nil)).nodup_iff.2 ?_;obtain ⟨⟨a1,a2,a3⟩,a4,a5,a6,a7⟩:=HP.out;simp only [BT.nodes,ϟ,List.singleton_append,Ζ];exact ⟨a3,a7⟩
  have Gt:∀y,y∈(ah (fr::P2) (.node x .nil .nil)).nodes->y∈(ah (fr::P2) (.node x l r)).nodes:=fun y hy=>by
   rw [aI] at hy ⊢;simp only [BT.nodes,ϟ,ρ,ς,or_false] at hy;rcases hy with hy|hy
   ·exact Α (by simp [BT.nodes,hy])
   ·exact Β hy
  have Y6:=fun W (hW:aa [] w6 W)=>Ik (uu.out.ae hW).trees H6.out.1 Mq hfl;have NA:=fun W (hW:aa [] w6 W)=>qp (uu.out.ae hW).trees (f:=fr) (P:=P2) (t:=.node x .nil .nil) H6.out.1 Mq (fun y hy=>HT.out.2.2.2 y (Gt y hy));rw [show BT.root (.node x .nil .nil)=(x:Int) from rfl] at NA;generalize hcv:cutV fr (.node x .nil .nil)=cv at NA;generalize hcb:tb (x:Int)=cb at NA;have FK:=χ (ψ Mq Gt);have g61:=Wh w6 (aa.refl _ _);clear Mq Gt hcv hcb
  go_wp2_with (first
   | ((go_at_call 250;(with_reducible refine (ku _ η).mono ?_));rintro e w7 ⟨rfl,kk,hw7⟩;(have u7:aa [] w6 w7:=(by rw [hw7];refine aa.drewN ?_ _;exact η));clear hw7;(have g71:=Wh w7 u7))
   | fail)
  obtain ⟨r',bb,hbb,kr⟩:=Y6 w7 u7;have hmz':(m=.nil/\(m.root != -1)=false)\/(m≠.nil/\(m.root != -1)=true):=by
   by_cases e:m=.nil
   ·exact Α ⟨e,by rw [e];rfl⟩
   ·exact Β ⟨e,by have:=(bD e).2;simp;omega⟩
  have Xn:=χ Wh;clear Y6 ku Wh;rcases hmz' with ⟨hmz,hmb⟩|⟨hmz,hmb⟩
  ·have Vs:=χ hmz;clear hmz;rcases hbb with ⟨rfl,hb2⟩|⟨rfl,hb2⟩
   all_goals
    go_wp2_with (first
     | ((go_at_call 249;(with_reducible refine (kr).mono ?_));rintro e w8 ⟨rfl,k8,hw8⟩;(have u8:aa [] w6 w8:=(by rw [hw8];exact u7.drewN k8));clear hw8;(have g81:=Xn.out w8 u8);(have kc:=NA w8 u8))
     | ((go_at_call 244;(with_reducible refine (kc).mono ?_));rintro e w9 ⟨rfl,jR,S9,SN,U6,hp9,Vl⟩;(have g90:=((uu.out.ae u8).gY jR SN).h0);(have kd:=fQ ((uu.out.ae u8).gY jR SN).cells x Lx.out))
     | ((go_at_call 151;(with_reducible refine (kd).mono ?_));rintro e Qx ⟨rfl,Ht,sH⟩)
     | fail)
    go_ret;have hz:=Vs.out;subst hz;refine ⟨rfl,((u6.trans (u8.mono σ)).trans (jR.mono (by simp [SB.blk]))).trans (sH.mono (fun y hy=>by simp only [SB.blk,ρ];simp [hy])),S9,(((uu.out.ae u8).gY jR SN).fe sH Ht (fun y hy=>Α hy) (cK _ _)).ext (fun y=>by rw [Γ σ]),hp9,fun y hy=>gN (H6.out.2.1 y hy) (Vl y (fun hm=>hy (FK.out.2 y hm))),⟨U6.2.2.1.root,U6.2.2.2.root,U6.2.1⟩⟩
  ·have Vs:=χ hmz;have hxm:∀y,y∈m.nodes->y∉(ah (fr::P2) (.node x .nil .nil)).nodes:=fun y hy hm=>by
    have b1:=hmm.out y hy;rw [aI] at hm;simp only [BT.nodes,ϟ,ρ,ς,or_false] at hm;rcases hm with hm|hm
    ·exact b1.2 hm
    ·exact b1.1 hm
   have hnd:(m.nodes++bZ (fr::P2)).Nodup:=by
    rw [θ];exact ⟨Cu.out,HP.out.2.2.2.2,fun a ha b hb e=>(hmm.out a ha).1 (by rw [e];exact hb)⟩
   have hsm:∀y,y∈m.nodes++bZ (fr::P2)->y∈(ah (fr::P2) (.node x l r)).nodes:=fun y hy=>by
    rw [τ] at hy;rcases hy with hy|hy
    ·exact hmx.out y hy
    ·exact aI.2 (Β hy)
   have MK:=χ (ψ hxm (ψ hnd hsm));clear hmz hxm hnd hsm;rcases hbb with ⟨rfl,hb2⟩|⟨rfl,hb2⟩
   all_goals
    go_wp2_with (first
     | ((go_at_call 249;(with_reducible refine (kr).mono ?_));rintro e w8 ⟨rfl,k8,hw8⟩;(have u8:aa [] w6 w8:=(by rw [hw8];exact u7.drewN k8));clear hw8;(have g81:=Xn.out w8 u8);(have kc:=NA w8 u8))
     | ((go_at_call 244;(with_reducible refine (kc).mono ?_));rintro e w9 ⟨rfl,jR,S9,SN,U6,hp9,Vl⟩;(have g91:=((uu.out.ae u8).gY jR SN).h1);(have khg:=Ah SN hp9 (H6.out.2.2.frame (fun y hy=>Vl y (MK.out.1 y hy))) Vs.out MK.out.2.1 (fun y hy=>HT.out.2.2.2 y (MK.out.2.2 y hy)));(try rw [hb2] at khg))
     | ((go_at_call 251;(with_reducible refine (khg).mono ?_));rintro e w9b ⟨rfl,R6,S9b,Ut,hp9b,YJ⟩;(have g90:=(((uu.out.ae u8).gY jR SN).gY R6 Ut).h0);(have kd:=fQ (((uu.out.ae u8).gY jR SN).gY R6 Ut).cells x Lx.out))
     | ((go_at_call 151;(with_reducible refine (kd).mono ?_));rintro e Qx ⟨rfl,Ht,sH⟩)
     | fail)
    go_ret;have su:x∉m.nodes++bZ (fr::P2):=fun hm=>by
     rw [τ] at hm;rcases hm with hm|hm
     ·exact (hmm.out x hm).2 rfl
     ·exact HP.out.1.2.2 hm
    have a3:=YJ x su;refine ⟨rfl,(((u6.trans (u8.mono σ)).trans (jR.mono (by simp [SB.blk]))).trans (R6.mono (by simp [SB.blk]))).trans (sH.mono (fun y hy=>by simp only [SB.blk,ρ];simp [hy])),S9b,((((uu.out.ae u8).gY jR SN).gY R6 Ut).fe sH Ht (fun y hy=>Α hy) (cK _ _)).ext (fun y=>by rw [Γ σ]),hp9b,fun y hy=>gN (gN (H6.out.2.1 y hy) (Vl y (fun hm=>hy (FK.out.2 y hm)))) (YJ y (fun hm=>hy (MK.out.2.2 y hm))),⟨a3.1.trans U6.2.2.1.root,a3.2.1.trans U6.2.2.2.root,a3.2.2.trans U6.2.1⟩⟩
theorem DZ (h:ny w B F A st tr) (g x:Nat) (hx:x∈(tr g).nodes) :
  Calls Tryz.prog 261 #[.pointer (some ⟨B.n0,0,none⟩),.int .i64 (x:Int)] w fun e w'=>e=.returned (.bool true)/\aa (B.blk F) w w'/\
   ny w' B F (aL A x) (dG st (EU A (tr g) x).2) (fun q=>if q=g then (EU A (tr g) x).1 else tr q):=by
 obtain ⟨S,hM,hI⟩:=h;have hm:=(hI.mem g x).1 hx;have hin:bP A (x:Int)=true:=(aj A x).2 ⟨hm.2.1,ω⟩;have e:=vT hx;unfold EU;generalize (pathOf (tr g) x).1=P at *;generalize (pathOf (tr g) x).2.1=l at *;generalize (pathOf (tr g) x).2.2=r at *;have hq:1<=g/\g<A.hs.length:=by have:=hM.cells.ok.nat x hm.2.1;omega
 have hb65:=hM.cells.ok.h1;have hT:=hI.IE g;have hn:=hI.nd g;have hH:=hI.heap g;rw [e] at hT hn hH;obtain ⟨d1,d2,d3⟩:=DW yN hn hH;refine (Cr hM hin hm.2.2 ω hT hn (fun y hy=>?_)).mono ?_
 ·rw [←e] at hy;have:=(hI.mem g y).1 hy;exact (aj A y).2 ⟨this.2.1,ω⟩
 ·rintro e' w' ⟨rfl,hu,S',q1,q2,q4,q5⟩;refine ⟨rfl,hu,S',q1.ext (fun y=>?_),(wK.del (nU:=xW (aL A x) (fun q=>if q=g then (ah P (aH sQ A l r).1) else tr q)) hI hx q2 ?_ d2 (fun y hy=>q4 y (by rw [←e];exact hy)) q5 (fun q hq'=>?_))⟩
  ·rw [←Em (A':=aL A x) (tr:=tr) (t:=ah P (aH sQ A l r).1) (by rw [fJ]) hq y]
   by_cases ey:y=(g:Int)
   ·rw [Δ ey]
    by_cases hp:P=[]
    ·rw [Δ ⟨hp,ey⟩]
    ·rw [Γ (fun h=>hp h.1),ey];cases P with
     | nil=>exact absurd rfl hp
     | cons f P2=>
      unfold rR;rw [Δ ω,π,e,oz f P2 (.node x l r) (aH sQ A l r).1]
   ·rw [Γ ey,Γ (fun h=>ey h.2)]
  ·rw [e];exact d1
  ·have hq'':q<(aL A (x:Int)).hs.length:=by rw [fJ];exact hq'
   unfold xW;rw [φ,ϓ,List.getElem?_range hq'']
   show (if q=g then ah P (aH sQ A l r).1 else tr q).root=_
   by_cases eq:q=g
   ·rw [Δ eq,Δ eq]
   ·rw [Γ eq,Γ eq];rw [φ,ϓ,List.getElem?_range hq'];rfl
theorem zM (h:ny w B F A st tr) (g:Nat) (hn:0<dA A g) :
  Calls Tryz.prog 262 #[.pointer (some ⟨B.n0,0,none⟩),.int .i64 (g:Int)] w fun e w'=>∃m:Nat,bu A g=some m/\e=.returned (.tuple #[.int .i64 (m:Int),.bool true])/\aa (B.blk F) w w'/\
   ny w' B F (aL A m) (dG st (EU A (tr g) m).2) (fun q=>if q=g then (EU A (tr g) m).1 else tr q):=by
 have k:=A7 h g hn;have kd:=fun m hm=>DZ h g m hm;have hroot:∀m:Nat,(tr g).root=m->m∈(tr g).nodes:=fun m hm=>by
  have hne:tr g≠.nil:=fun e=>by rw [e] at hm;have:(-1:Int)=m:=hm;omega
  have:=(bD hne).1;rw [hm] at this;simpa using this
 clear h
 go_enter Tryz.func262,Tryz.ntmps262
 go_wp2_with (first
  | ((go_at_call 265;(with_reducible refine (k).mono ?_));rintro e w1 ⟨m,hm1,hm2,rfl,rfl⟩;(have Xw:=kd m (hroot m hm2)))
  | ((go_at_call 261;(with_reducible refine (Xw).mono ?_));rintro e w2 ⟨rfl,hu2,hL2⟩)
  | fail)
 go_ret2;exact ⟨m,hm1,rfl,hu2,hL2⟩
end
theorem Qg (n:Nat) (w:World) (h:n<=65536) :
  Calls Tryz.prog 102 #[.int .i64 (n:Int)] w fun e w'=>∃B F,e=.returned (.tuple #[.pointer (some ⟨B.n0,0,none⟩),.int .i64 0])/\ny w' B F (NS.new n) 0 (fun _=>.nil)/\aa [] w w'/\∀x,x∈B.blk F->w.heap.size<=x:=by
 have hmm:=@run_makeMap Tryz.prog
 go_enter Tryz.func102,Tryz.ntmps102
 go_wp2_with (first
  | ((go_at_call 107;(with_reducible refine (mi n _ h).mono ?_));rintro e w1 ⟨c,F,rfl,hC,hu1,hF⟩)
  | ((go_at_call 112;(with_reducible refine (uE n _ h).mono ?_));rintro e w2 ⟨bt,ba,rfl,hT,hu2,hb1,hb2⟩))
 go_ret2;have hcs:(NS.new n).cs.length=n:=by simp [NS.new]
 have l1:=hu1.size;have l2:=hu2.size;have l5:=hT.head.lt;have l6:=hT.row.lt;have l7:=hC.lt;have lc:=l7 c hC.mem;have hm:=eO.made w2;have e3:((w2.alloc (.map #[] 0)).heap.size)=w2.heap.size+1:=by rw [Κ]
 have hv1:aa [] w2 (w2.alloc (.map #[] 0)):=(aa.refl _ _).alloc _;have hv2:aa [] (w2.alloc (.map #[] 0)) ((w2.alloc (.map #[] 0)).alloc (.cells #[.pointer (some ⟨c,0,none⟩),.pointer (some ⟨bt,0,none⟩),.map (some w2.heap.size)] 234)):=(aa.refl _ _).alloc _;have hv:=hv1.trans hv2;have hh:=dC (w2.alloc (.map #[] 0)) [.pointer (some ⟨c,0,none⟩),.pointer (some ⟨bt,0,none⟩),.map (some w2.heap.size)] 234;rw [e3] at hh;have hnF:∀x,w1.heap.size<=x->x∉F:=fun x hx hm=>by have:=l7 x hm;omega
 refine ⟨⟨w2.heap.size+1,c,bt,ba,w2.heap.size⟩,F,rfl,⟨TS.none,⟨hh,(hC.ae hu2).ae hv,by rw [hcs];exact hT.upd hv σ σ,?_,⟨hnF _ (by simp only;omega),hnF _ (by simp only;omega),hnF _ (by simp only;omega),hnF _ (by simp only;omega)⟩,⟨⟨by simp only;omega,by simp only;omega,by simp only;omega⟩,by simp only;omega,by simp only;omega⟩⟩,(CB n).Ng⟩,(hu1.trans hu2).trans hv,fun x hx=>?_⟩
 ·refine (hm.upd hv2 σ).ext (fun k=>?_);unfold rR
  split
  ·rfl
  ·rfl
 ·simp only [SB.blk,ρ] at hx;rcases hx with rfl|rfl|rfl|rfl|hx
  ·omega
  ·omega
  ·omega
  ·omega
  ·exact hF x hx
section
variable {w:World} {B:SB} {F:List Nat} {A:NS} {st:Nat} {tr:Nat->BT}
theorem ny.make {w':World} {F':List Nat} (h:ny w B F A st tr) (hl:¬65536<A.hs.length) (hu:aa F w w') (hC:aB w' B.c F' (aD A) st) (hF:∀x,x∈F'->x∈F\/w.heap.size<=x):ny w' B F' (aD A) st tr:=by
 obtain ⟨S,hM,hI⟩:=h;have ok:=hM.cells.ok;have e1:(aD A).cs.length=A.cs.length:=by unfold aD;rw [Γ hl]
 have e2:(aD A).hs.length=A.hs.length+1:=by unfold aD;rw [Γ hl];simp
 have hI2:=hI.make ok (by simp [xW]) hl;have hnil:(tr A.hs.length)=.nil:=by
  cases e:tr A.hs.length with
  | nil=>rfl
  | node y a b=>
   exfalso;have:=(hI.mem A.hs.length y).1 (by rw [e];simp [BT.nodes]);have h3:=iH ok ((aj A y).2 ⟨this.2.1,ω⟩);have:=(aK _ _).1 h3;rw [π] at this;omega
 refine ⟨S,(hM.fe hu hC hF e1).ext (fun k=>?_),hI2.Ng⟩;unfold rR;rw [e2]
 by_cases h1:1<=k/\k<A.hs.length
 ·rw [Δ h1,Δ (show 1<=k/\k<((A.hs.length+1:Nat):Int) by omega)]
 ·rw [Γ h1]
  by_cases h2:k=A.hs.length
  ·subst h2;rw [π,hnil]
   split
   ·rfl
   ·rfl
  ·rw [Γ (show ¬ (1<=k/\k<((A.hs.length+1:Nat):Int)) by omega)]
end
theorem GY (p c:Nat):∀W:World,W.cell? ⟨p,0,none⟩=some (.pointer (some ⟨c,0,none⟩))->(method 429 190 (.pointer (some ⟨p,0,none⟩)) "Has").run Tryz.prog W=.ok (139,.pointer (some ⟨c,0,none⟩)) W:=(by intro W h;unfold method;have hm:∃m,(Array.find? (fun x=>x.name == "Has") Tryz.t190.methods)=some m/\m.path.toList=[⟨234,0,true⟩]/\m.func=some (139,true)/\m.path.isEmpty=false:=⟨(Array.find? (fun x=>x.name == "Has") Tryz.t190.methods).get!,by kernel_rfl,by kernel_rfl,by kernel_rfl,by kernel_rfl⟩;obtain ⟨m,h1,h2,h3,h4⟩:=hm;go_simp;simp only [follow,Place.get];go_simp;(try unfold receiverAt);(try simp only [Place.get]);(try go_simp))
theorem Bv (p c:Nat):∀W:World,W.cell? ⟨p,0,none⟩=some (.pointer (some ⟨c,0,none⟩))->(method 429 190 (.pointer (some ⟨p,0,none⟩)) "Entry").run Tryz.prog W=.ok (137,.pointer (some ⟨c,0,none⟩)) W:=(by intro W h;unfold method;have hm:∃m,(Array.find? (fun x=>x.name == "Entry") Tryz.t190.methods)=some m/\m.path.toList=[⟨234,0,true⟩]/\m.func=some (137,true)/\m.path.isEmpty=false:=⟨(Array.find? (fun x=>x.name == "Entry") Tryz.t190.methods).get!,by kernel_rfl,by kernel_rfl,by kernel_rfl,by kernel_rfl⟩;obtain ⟨m,h1,h2,h3,h4⟩:=hm;go_simp;simp only [follow,Place.get];go_simp;(try unfold receiverAt);(try simp only [Place.get]);(try go_simp))
theorem Eb (p c:Nat):∀W:World,W.cell? ⟨p,0,none⟩=some (.pointer (some ⟨c,0,none⟩))->(method 429 190 (.pointer (some ⟨p,0,none⟩)) "Make").run Tryz.prog W=.ok (156,.pointer (some ⟨c,0,none⟩)) W:=(by intro W h;unfold method;have hm:∃m,(Array.find? (fun x=>x.name == "Make") Tryz.t190.methods)=some m/\m.path.toList=[⟨234,0,true⟩]/\m.func=some (156,true)/\m.path.isEmpty=false:=⟨(Array.find? (fun x=>x.name == "Make") Tryz.t190.methods).get!,by kernel_rfl,by kernel_rfl,by kernel_rfl,by kernel_rfl⟩;obtain ⟨m,h1,h2,h3,h4⟩:=hm;go_simp;simp only [follow,Place.get];go_simp;(try unfold receiverAt);(try simp only [Place.get]);(try go_simp))
theorem JX (p:Nat):∀W:World,(method 429 190 (.pointer (some ⟨p,0,none⟩)) "Insert").run Tryz.prog W=.ok (263,.pointer (some ⟨p,0,none⟩)) W:=fun _=>by kernel_rfl
theorem V4 (p:Nat):∀W:World,(method 429 190 (.pointer (some ⟨p,0,none⟩)) "Min").run Tryz.prog W=.ok (265,.pointer (some ⟨p,0,none⟩)) W:=fun _=>by kernel_rfl
theorem GM (p:Nat):∀W:World,(method 429 190 (.pointer (some ⟨p,0,none⟩)) "Extract").run Tryz.prog W=.ok (262,.pointer (some ⟨p,0,none⟩)) W:=fun _=>by kernel_rfl
def SkQ (w:World) (p:Nat) (F:List Nat) (A:NS):Prop:=∃B F1 st tr,p=B.n0/\F=B.blk F1/\ny w B F1 A st tr
def wQ:dI where
 ty:=190
 at_:=SkQ
 upd:=fun h hu hS=>by
  obtain ⟨B,F1,st,tr,rfl,rfl,hL⟩:=h;exact ⟨B,F1,st,tr,rfl,rfl,hL.upd hu hS⟩
 lt:=fun h=>by
  obtain ⟨B,F1,st,tr,rfl,rfl,S,hM, -⟩:=h;exact hM.lt
 ok:=fun h=>by
  obtain ⟨B,F1,st,tr,rfl,rfl,S,hM, -⟩:=h;exact hM.cells.ok
 make:=fun {w p F A} h=>by
  obtain ⟨B,F1,st,tr,rfl,rfl,hL⟩:=h;have h0:w.cell? ⟨B.n0,0,none⟩=some (.pointer (some ⟨B.c,0,none⟩)):=by obtain ⟨S,hM, -⟩:=hL;exact hM.h0
  refine gJ 156 (fun _ _=>by kernel_rfl) h0 (Eb _ _) (fun W hW=>?_);have oD:=hL.ae hW;have hC:aB W B.c F1 A st:=by obtain ⟨S,hM, -⟩:=oD;exact hM.cells
  refine (gL hC).mono ?_;rintro e w' ⟨rfl,F',hC2,hu,hf⟩;have hu2:aa (B.blk F1) W w':=hu.mono (fun z hz=>by simp only [SB.blk,ρ];simp [hz]);have hf2:∀z,z∈B.blk F'->z∈B.blk F1\/W.heap.size<=z:=fun z hz=>by
   simp only [SB.blk,ρ] at hz ⊢;rcases hz with rfl|rfl|rfl|rfl|hz
   ·simp
   ·simp
   ·simp
   ·simp
   ·rcases hf z hz with h1|h1
    ·simp [h1]
    ·exact Β h1
  refine ⟨rfl,B.blk F',?_,hu2,hf2⟩
  by_cases hl:65536<A.hs.length
  ·have e2:aD A=A:=by unfold aD;rw [Δ hl]
   rw [e2] at hC2 ⊢;obtain ⟨S,hM,hI⟩:=oD;exact ⟨B,F',st,tr,rfl,rfl,S,hM.fe hu hC2 hf rfl,hI⟩
  ·exact ⟨B,F',st,_,rfl,rfl,oD.make hl hu hC2 hf⟩
 insert:=fun {w p F A} g y k s hk hB h=>by
  obtain ⟨B,F1,st,tr,rfl,rfl,hL⟩:=h;refine aV 263 (fun _ _=>by kernel_rfl) (JX _) (fun W hW=>?_);refine (Fj (hL.ae hW) g y k s hk hB).mono ?_;rintro e w' ⟨rfl,hu,hL2⟩;exact ⟨rfl,Goes.stay ⟨B,F1,_,_,rfl,rfl,hL2⟩ hu⟩
 min:=fun {w p F A} y hB h=>by
  obtain ⟨B,F1,st,tr,rfl,rfl,hL⟩:=h;refine aV 265 (fun _ _=>by kernel_rfl) (V4 _) (fun W hW=>?_);have oD:=hL.ae hW;have hok:A.Ok:=by obtain ⟨S,hM, -⟩:=hL;exact hM.cells.ok
  by_cases hl:dA A (y:Int)=0
  ·rw [gD.2 hl];have h4:=(aK _ _).1 hB;have h5:=hok.h1;refine (JZ oD y ω hl).mono ?_;rintro e w' ⟨rfl,rfl⟩;exact ⟨rfl,Goes.stay ⟨B,F1,st,tr,rfl,rfl,oD⟩ (aa.refl _ _)⟩
  ·refine (A7 oD y ω).mono ?_;rintro e w' ⟨m,hm, -,rfl,rfl⟩;rw [hm];exact ⟨rfl,Goes.stay ⟨B,F1,st,tr,rfl,rfl,oD⟩ (aa.refl _ _)⟩
 extract:=fun {w p F A} y m hm h=>by
  obtain ⟨B,F1,st,tr,rfl,rfl,hL⟩:=h;refine aV 262 (fun _ _=>by kernel_rfl) (GM _) (fun W hW=>?_);have hl:¬dA A (y:Int)=0:=fun e=>by rw [gD.2 e] at hm;cases hm
  refine (zM (hL.ae hW) y ω).mono ?_;rintro e w' ⟨m',hm',rfl,hu,hL2⟩;rw [hm] at hm';cases hm';exact ⟨rfl,Goes.stay ⟨B,F1,_,_,rfl,rfl,hL2⟩ hu⟩
 has:=fun x h=>by
  obtain ⟨B,F1,st,tr,rfl,rfl,S,hM, -⟩:=h;exact gJ 139 (fun _ _=>by kernel_rfl) hM.h0 (GY _ _) (fun W hW=>iE (hM.ae hW).cells x)
 entry:=fun {w p F A} x h=>by
  obtain ⟨B,F1,st,tr,rfl,rfl,S,hM, -⟩:=h;refine gJ 137 (fun _ _=>by kernel_rfl) hM.h0 (Bv _ _) (fun W hW=>?_);cases hin:bP A x with
  | false=>simpa using jK (hM.ae hW).cells x hin
  | true=>
   obtain ⟨y,rfl⟩:=oF hin;simpa using iV (hM.ae hW).cells y hin
theorem Gf (p:Nat) (w:World):Calls Tryz.prog 101 #[.pointer (some ⟨p,0,none⟩),.int .i64 0] w fun e w'=>e=.returned (.tuple #[.iface 190 (.pointer (some ⟨p,0,none⟩)),.int .i64 0])/\w'=w:=by
 go_enter Tryz.func101,Tryz.ntmps101
 go_wp2;go_ret2;exact ⟨rfl,rfl⟩
theorem Qr (n:Nat) (hn:n<=65536):j4 wQ 7 0 n:=by
 intro w;have kn:=fun W=>Qg n W hn;have km:=Gf;have hty:wQ.ty=190:=rfl;have hat:∀w' B F,ny w' B F (NS.new n) 0 (fun _=>.nil)->wQ.at_ w' B.n0 (B.blk F) (NS.new n):=fun w' B F h=>⟨B,F,_,_,rfl,rfl,h⟩
 generalize wQ=K at *;rw [hty]
 go_enter Tryz.func81,Tryz.ntmps81
 go_wp2_with (first
  | ((go_at_call 102;(with_reducible refine (kn _).mono ?_));rintro e w1 ⟨B,F,rfl,hS,hu1,hf⟩)
  | ((go_at_call 101;(with_reducible refine (km _ _).mono ?_));rintro e w2 ⟨rfl,rfl⟩)
  | fail)
 go_ret2;exact ⟨B.n0,B.blk F,rfl,hat _ _ _ hS,aa.trans β hu1,fun x hx=>by have:=hf x hx;simp at this;omega⟩
end Go.Proofs.YtklibcncmbofpaaGreat
