/-
  Lemmas for ProofOne: Pst, Pbg, Pst2, Lev, FrI, Frm, PrQ, PrY, PrG, PrZ. Conditions: those of each lemma.
-/
import Derived.Test.YtklibcncmbofpaaGreatO17
set_option linter.all false
set_option maxHeartbeats 8000000
set_option maxRecDepth 10000
namespace Go.Proofs.YtklibcncmbofpaaGreat
open Go Go.RowKit
def uI (n:Nat) (b:Nat->Int):List Int:=(List.range n).map b
theorem FP (n:Nat) (b:Nat->Int):(uI n b).length=n:=by unfold uI;simp
theorem Im {n:Nat} {b:Nat->Int} {v:Nat} (hv:v<n):(uI n b).getD v 0=b v:=by unfold uI;simp [φ,hv]
theorem zZ {n:Nat} {b:Nat->Int} {x:Nat} {y:Int}:(uI n b).set x y=uI n (fun u=>if u=x then y else b u):=by
 apply List.ext_getElem?;intro j;unfold uI;rw [ύ]
 by_cases h:x=j
 ·subst h
  by_cases hx:x<n
  ·simp [hx]
  ·simp [hx]
 ·simp [h]
  by_cases hj:j<n
  ·simp [hj];intro e;exact absurd e.symm h
  ·simp [hj]
def St (K:gB) (X:rO) (kd dd:Int) (E:List Ed) (s N m:Nat) (w:World) (F:List Nat) (d:Nat->Nat) (bt:Nat->Int) (S:List Nat) (W Rl:Nat->Prop):Prop:=
 ∃R A q c hc f sl,qd K w X F kd dd N (mg N d) (uI N bt) hc c f R A q/\DJ (eN E) s N m d bt S W Rl/\DS N d W R A q c hc f sl
theorem SN (E:List Ed) (i:Nat) (hi:i<E.length):jd (eN E) i=toN (E.getD i default):=by
 unfold jd eN;simp [φ,hi]
section
variable {K:gB} {X:rO} {kd dd:Int} {E:List Ed} {s N m:Nat} {w:World} {F:List Nat} {d:Nat->Nat} {bt:Nat->Int} {S:List Nat} {W Rl:Nat->Prop}
theorem K9 (g:IW (eN E) s N m) (hN:N<=65536) (hE:E.length<=65536) {v:Nat} (h:St K X kd dd E s N m w F d bt (v::S) W Rl) {i t x:Nat} (hi:i<E.length) (he:jd (eN E) i=⟨v,t,x⟩) :
  Calls Tryz.prog 54 #[.pointer (some ⟨X.b,0,none⟩),.int .i64 (t:Int),.int .i64 ((d v:Int)+(x:Int)),.int .i64 (i:Int)] w fun e w'=>e=.returned (.tuple #[])/\∃F' d' bt' W',St K X kd dd E s N m w' F' d' bt' (v::S) W' (fun j=>Rl j\/j=i)/\d' v=d v/\aa (X.own++F) w w'/\∀z,z∈F'->z∈F\/w.heap.size<=z:=by
 obtain ⟨R,A,q,c,hc,f,sl,hM,hJ,hS⟩:=h;have hi':i<(eN E).length:=by rw [Av];exact hi
 have hmem:=EI hi';have hge:=g.e _ hmem;rw [he] at hge;obtain ⟨nG,UN,hxm⟩:=hge;have hvd:d v≠inf:=(hJ.rc v nG).2 (Α σ);have hsum:=hJ.rx.sum g.nm (e:=⟨v,t,x⟩) nG hxm hvd;have hlet:=hJ.rx.le t;have Zq:(mg N d).getD t 0=((d t:Nat):Int):=AY UN;have hef:(jd (eN E) i).f=v:=by rw [he]
 have het:(jd (eN E) i).t=t:=by rw [he]
 have hew:(jd (eN E) i).w=x:=by rw [he]
 have hmx:(inf:Nat)=9223372036854775807:=rfl;have hcast:((d v:Int)+(x:Int))=((d v+x:Nat):Int):=ω;dsimp only at hsum
 by_cases hlt:d v+x<d t
 ·have hdj:=Yf g hJ hi' hef (by rw [hew,het];exact hlt);rw [het,hew] at hdj;have htS:t∉v::S:=fun hm=>by have:=hJ.top t v S rfl hm;omega
  have hdv:bA d t (d v+x) v=d v:=by unfold bA;rw [Γ (fun e=>htS (by rw [←e];simp))]
  by_cases hti:d t=inf
  ·obtain ⟨R',hT,hg0,hS'⟩:=hS.new UN hti (x':=d v+x) ω ω;have hq:=hS.qn;have hq2:=hS.next;have hq3:=DV d N;have hcn:=hS.cn;have key:=Cv hM t UN ((d v:Int)+(x:Int)) (i:Int) (by rw [Zq,hti];rfl) ω ω hS.has ω hN ω hT;refine key.mono fun e w' ⟨h1,F',h2,h3,h4⟩=>⟨h1,F',bA d t (d v+x),(fun u=>if u=t then (i:Int) else bt u),(fun u=>W u\/u=t),?_,hdv,h3,h4⟩
   rw [hcast,wE,zZ] at h2;exact ⟨_,_,_,_,_,_,_,h2,hdj,hS'⟩
  ·have hWt:W t:=by
    rcases (hJ.rc t UN).1 hti with e|e
    ·exact absurd e htS
    ·exact e
   obtain ⟨a1,a2,a3,a4,a5⟩:=hS.wt t hWt;obtain ⟨b1,b2,b3,b4,b5⟩:=hS.VF t UN hti;have hS':=hS.low hWt (x':=d v+x) ω hlet ω;have key:=MR hM t (sl t) UN ((d v:Int)+(x:Int)) (i:Int) (by rw [Zq];omega) (by rw [Zq];omega) ω b3 (by rw [b4,b5];rfl) a3 (by rw [Zq];exact a5);refine key.mono fun e w' ⟨h1,F',h2,h3,h4⟩=>⟨h1,F',bA d t (d v+x),(fun u=>if u=t then (i:Int) else bt u),(fun u=>W u\/u=t),?_,hdv,h3,h4⟩
   rw [hcast,wE,zZ] at h2;exact ⟨_,_,_,_,_,_,_,h2,hdj,hS'⟩
 ·have hdj:=Vn hJ hef (by rw [hew,het];exact hlt);have key:=Qh hM t UN ((d v:Int)+(x:Int)) (i:Int) (by rw [Zq];omega);refine key.mono fun e w' ⟨h1,h2⟩=>⟨h1,F,d,bt,W,⟨R,A,q,c,hc,f,sl,hM.aj h2,hdj,hS⟩,rfl,h2.mono σ,fun z hz=>Α hz⟩
end
end Go.Proofs.YtklibcncmbofpaaGreat
namespace Go.Proofs.YtklibcncmbofpaaGreat
open Go Go.RowKit Go.Maps
theorem Vx:(Tryz.prog.info? 85).map (fun i=>(i.zero,i.size,i.bytes))=some (some (.agg #[.int .i64 0,.int .u32 0]),2,16):=by kernel_rfl
def srV (vd vb:Value) (p gh mb N:Nat) (j:Nat):Value:=[vd,vb,Value.pointer (some ⟨p,0,none⟩),.slice (some ⟨gh,0,none⟩) N N,.map (some mb)].getD j undef
structure V3 (w:World) (b p gh mb N k k2:Nat) (vd vb:Value):Prop where
 head:aI w b 109 5 (srV vd vb p gh mb N)
 od:w.ownsRow (b+1) 2 1 vd k (aF (List.replicate k 9223372036854775807))
 ob:w.ownsRow (b+1) 3 1 vb k2 (aF (List.replicate k2 (-1)))
 ne:∀g,vd.ownBlock=some g->vb.ownBlock≠some g
theorem V3.putD {w w4:World} {b p gh mb N k k2:Nat} {vd vb v4:Value} (h:V3 w b p gh mb N k k2 vd vb) (ho:w4.ownsRow (b+1) 2 1 v4 (k+1) (aF (List.replicate (k+1) 9223372036854775807))) (hu:aa vd.ownBlock.toList w w4)
  (hv:v4.ownBlock=vd.ownBlock\/∀g,v4.ownBlock=some g->w.heap.size<g):V3 (w4.setCell ⟨b,0,none⟩ v4) b p gh mb N (k+1) k2 v4 vb:=by
 have hb:b∉vd.ownBlock.toList:=fun e=>by have:=(h.od.lt b (by simpa using e)).1;omega
 have hU:aa [b] w4 (w4.setCell ⟨b,0,none⟩ v4):=(aa.refl _ _).setCell (Α σ) _;refine ⟨((h.head.upd hu hb).set 0 v4).ext (fun j hj=>?_),ay ho hU (fun g hg e=>by simp at e;subst e;have:=(ho.lt _ hg).1;omega),ay (ay h.ob hu (fun g hg e=>h.ne g (by simpa using e) hg)) hU (fun g hg e=>by simp at e;subst e;have:=(h.ob.lt _ hg).1;omega),fun g hg hg2=>?_⟩
 ·rcases (ω:j=0\/j=1\/j=2\/j=3\/j=4) with rfl|rfl|rfl|rfl|rfl<;>simp [srV]
 ·rcases hv with e|e
  ·exact h.ne g (by rw [←e];exact hg) hg2
  ·have h1:=e g hg;have h2:=(h.ob.lt g hg2).2;omega
theorem V3.nY {w w4:World} {b p gh mb N k k2:Nat} {vd vb v4:Value} (h:V3 w b p gh mb N k k2 vd vb) (ho:w4.ownsRow (b+1) 3 1 v4 (k2+1) (aF (List.replicate (k2+1) (-1)))) (hu:aa vb.ownBlock.toList w w4)
  (hv:v4.ownBlock=vb.ownBlock\/∀g,v4.ownBlock=some g->w.heap.size<g):V3 (w4.setCell ⟨b,1,none⟩ v4) b p gh mb N k (k2+1) vd v4:=by
 have hb:b∉vb.ownBlock.toList:=fun e=>by have:=(h.ob.lt b (by simpa using e)).1;omega
 have hU:aa [b] w4 (w4.setCell ⟨b,1,none⟩ v4):=(aa.refl _ _).setCell (Α σ) _;refine ⟨((h.head.upd hu hb).set 1 v4).ext (fun j hj=>?_),ay (ay h.od hu (fun g hg e=>h.ne g hg (by simpa using e))) hU (fun g hg e=>by simp at e;subst e;have:=(h.od.lt _ hg).1;omega),ay ho hU (fun g hg e=>by simp at e;subst e;have:=(ho.lt _ hg).1;omega),fun g hg hg2=>?_⟩
 ·rcases (ω:j=0\/j=1\/j=2\/j=3\/j=4) with rfl|rfl|rfl|rfl|rfl<;>simp [srV]
 ·rcases hv with e|e
  ·exact h.ne g hg (by rw [←e];exact hg2)
  ·have h1:=e g hg2;have h2:=(h.od.lt g hg).2;omega
theorem reps (k:Nat) (x:Int):aF (List.replicate (k+1) x)=aF (List.replicate k x)++[.int .i64 x]:=by
 rw [List.replicate_succ',bG];rfl
theorem NL {K:gB} {kd dd:Int} (N:Nat) (w:World) (hN:1<=N) (R5:N<=4096) (hc:yV kd dd=0) (ko:om K kd dd N) :
  Calls Tryz.prog 52 #[.agg #[.int .i64 kd,.int .i64 dd],.int .i64 (N:Int)] w fun e w'=>∃X F hv,e=.returned (.tuple #[.pointer (some ⟨X.b,0,none⟩),.int .i64 0])/\qd K w' X F kd dd N (List.replicate N 9223372036854775807) (List.replicate N (-1)) hv 0 (fun _ _=>none) (AR.new N 1) (aL (NS.new N)) 0/\aa [] w w'/\(∀x,x∈X.own->w.heap.size<=x)/\∀x,x∈F->w.heap.size<=x:=by
 have kp:=fun W=>Pg (K:=K) N 1 W ω ω hc ko;simp only [show ((1:Nat):Int)=1 from rfl] at kp;have hmm:=@run_makeMap Tryz.prog;have hmv:bW (NS.new N)=1:=by unfold bW NS.new;simp
 go_enter Tryz.func52,Tryz.ntmps52
 go_upto_region 7 with (first
  | ((go_at_call 64;(with_reducible refine (kp _).mono ?_));rintro e w1 ⟨p,F,rfl,hP,hu1,hf1⟩;(have kh:=Ee hP);(rw [hmv,Γ ω] at kh))
  | ((go_at_call 65;(with_reducible refine (kh).mono ?_));rintro e w2 ⟨rfl,F2,hP2,hu2,hf2⟩)
  | (at_make;refine wpList_make_row rfl _ 107 rfl 85 (.agg #[.int .i64 0,.int .u32 0]) 2 16 Tryz.underlying107 Vx N rfl ω μ ?_;intro w3 hr3 hu3)
  | fail)
 have hh:=dH (w3.alloc (.map #[] 0)) [.slice none 0 0,.slice none 0 0,.pointer (some ⟨p,0,none⟩),.slice (some ⟨w2.heap.size,0,none⟩) N N,.map (some w3.heap.size)] 109;rw [Κ] at hh;refine iO (fun W=>V3 W (w3.heap.size+1) p w2.heap.size w3.heap.size N 0 0 (.slice none 0 0) (.slice none 0 0)/\nZ W w3.heap.size 0 (fun _ _=>none)/\aa [] w3 W/\W.heap.size=w3.heap.size+1+1)
  ⟨⟨hh.ext (fun j hj=>rfl),World.ownsRow_nil _ _ _ _,World.ownsRow_nil _ _ _ _,fun g hg=>by cases hg⟩,(nZ.made w3).upd (S:=[]) ((aa.refl _ _).alloc _) σ,β,σ⟩ ?_
 rintro W0 ⟨hG0,hM0,hU0,hb0⟩;clear hh hmm kp kh;generalize hbb:w3.heap.size+1=b at *;have HBB:=χ hbb;clear hbb
 go_loopw [27] (fun i wr=>∃ (k:Nat) (vd vb:Value),k<=N/\i=.int .i64 (k:Int)/\V3 wr b p w2.heap.size w3.heap.size N k k vd vb/\aa [b] W0 wr) (fun i _=>N-(intOf i).toNat)
 case atStart=>exact ⟨0,_,_,ω,rfl,hG0,aa.refl _ _⟩
 case round=>
  clear hG0;obtain ⟨k,vd,vb,hk,rfl,hG,hu⟩:=hrel;rename World=>wr
  by_cases hkN:k<N
  ·have hwr:IntKind.i64.wrap ((k:Int)+1)=(k:Int)+1:=Μ _ ω;obtain ⟨ad,cd,rfl,hcd⟩:=aV hG.od;have z0:wr.cell? ⟨b,0,none⟩=some (.slice ad k cd):=hG.head.cellAt 0 ω rfl;have f0:=hG.head.free 0;have hod:=hG.od;have hbl:=hG.head.lt;have HG:=χ (ψ hG hu);clear hG hu
   go_upto_region 9 with (first
    | ((at_builtin;refine aQ rfl _ _ 24 rfl (b+1) 2 (.int .i64 0) 1 8 Tryz.underlying24 LP rfl δ _ _ _ rfl (hod) [.int .i64 (9223372036854775807:Int)] rfl (by simp [Value.oneCell']) (by first|rfl|(rw [Κ];rfl)) μ ω (ω) ?_;intro v4 w4 Ql fP Xt);(have hb4:b∉(Value.slice ad k cd).ownBlock.toList:=fun e=>by have:=(hod.lt b (by simpa using e)).1;omega);(have z4:=fP.kept z0 hb4);(have f4:=fP.aK z0 hb4 f0);(obtain ⟨a4,c4,rfl,hc4⟩:=aV Ql))
    | fail)
   have hG1:=HG.out.1.putD (by rw [reps];exact Ql) fP Xt;have V8:aa [b] W0 (w4.setCell ⟨b,0,none⟩ (.slice a4 (k+1) c4)):=(HG.out.2.joined fP (fun g hg=>Β (by have:=(hod.lt g (Option.mem_toList.1 hg)).1;omega))).setCell (Α σ) _;refine iO (fun W=>V3 W b p w2.heap.size w3.heap.size N (k+1) k (.slice a4 (k+1) c4) vb/\aa [b] W0 W) ⟨hG1,V8⟩ ?_;clear hG1 V8 z4 f4 hb4 Ql fP Xt HG hod z0 f0 hbl;rintro W1 ⟨hG,hu⟩;obtain ⟨ab,cb,rfl,hcb⟩:=aV hG.ob;have z1:W1.cell? ⟨b,1,none⟩=some (.slice ab k cb):=hG.head.cellAt 1 ω rfl;have f1:=hG.head.free 1;have BJ:=hG.ob;have hbl:=hG.head.lt;have HG:=χ (ψ hG hu)
   clear hG hu
   go_wp2_with (first
    | ((at_builtin;refine aQ rfl _ _ 26 rfl (b+1) 3 (.int .i64 0) 1 8 Tryz.underlying26 dQ rfl δ _ _ _ rfl (BJ) [.int .i64 (-1:Int)] rfl (by simp [Value.oneCell']) (by first|rfl|(rw [Κ];rfl)) μ ω (ω) ?_;intro v5 w5 YQ bP abp);(have hb5:b∉(Value.slice ab k cb).ownBlock.toList:=fun e=>by have:=(BJ.lt b (by simpa using e)).1;omega);(have z5:=bP.kept z1 hb5);(have f5:=bP.aK z1 hb5 f1);(obtain ⟨a5,c5,rfl,hc5⟩:=aV YQ))
    | fail)
   have hG2:=HG.out.1.nY (by rw [reps];exact YQ) bP abp;have DY:aa [b] W0 (w5.setCell ⟨b,1,none⟩ (.slice a5 (k+1) c5)):=(HG.out.2.joined bP (fun g hg=>Β (by have:=(BJ.lt g (Option.mem_toList.1 hg)).1;omega))).setCell (Α σ) _;exact ⟨⟨k+1,_,_,ω,by go_num,hG2,DY⟩,by simp [intOf];omega⟩
  ·obtain rfl:k=N:=ω;obtain ⟨gd,cd,rfl,hID,hgd,hld⟩:=IE.iJ hG.od hN;obtain ⟨gb,cb,rfl,hIB,hgb,hlb⟩:=IE.iJ hG.ob hN;have HG:=χ (ψ hG (ψ hID hIB));have HU:=χ hu;clear hG hu hID hIB;go_wp2;go_ret2;obtain ⟨hG,hID,hIB⟩:=HG.out;have hu:=HU.out;have l1:=hr3.lt;have hF2:=hP2.lt;have s3:=hu3.size;have s2:=hu2.size;have s1:=hu1.size;rw [Κ] at s1;have hb':=HBB.out;have hneq:gd≠gb:=fun e=>hG.ne gd rfl (by rw [e];rfl);have uM:b∉F2:=fun e=>by have:=hF2 _ e;omega
   have hw1:aa [] w _:=aa.trans β hu1;have hw2:aa [] w w2:=hw1.joined hu2 (fun x hx=>Β (by have:=hf1 x hx;simp at this;omega));have hw3:aa [] w W0:=(hw2.trans hu3).trans hU0;have hPr:=((hP2.aj hu3).aj hU0).upd hu (fun x hx=>by simp at hx;subst hx;exact uM);refine ⟨⟨b,p,gd,cd,gb,cb,w2.heap.size,w3.heap.size⟩,F2,_,rfl,⟨hG.head.ext (fun j hj=>rfl),hID,hIB,(hr3.upd hU0 σ).upd hu ζ,hM0.upd hu ζ,hPr,σ,σ,?_,fun x hx hm=>?_⟩,hw3.joined hu (fun x hx=>Β (by simp at hx;subst hx;omega)),fun x hx=>?_,fun x hx=>?_⟩
   ·simp only [rO.own,Ζ,ρ,ς,or_false,not_or,Ϣ,and_true,not_false_eq_true];refine ⟨⟨?_,?_,?_,?_⟩,⟨hneq,?_,?_⟩,⟨?_,?_⟩,?_⟩<;>omega
   ·have:=hF2 x hm;simp only [rO.own,ρ,ς,or_false] at hx;omega
   ·simp only [rO.own,ρ,ς,or_false] at hx;omega
   ·rcases hf2 x hx with e|e
    ·have:=hf1 x e;simp at this;omega
    ·omega
end Go.Proofs.YtklibcncmbofpaaGreat
namespace Go.Proofs.YtklibcncmbofpaaGreat
open Go Go.RowKit
theorem fw.off {w:World} {T:List Nat} {g n c:Nat} {xs:List Int} (h:fw w [] (.slice (some ⟨g,0,none⟩) n c) xs) (hg:g∉T):fw w T (.slice (some ⟨g,0,none⟩) n c) xs:=by
 obtain ⟨a,cap,he,h1,h2,h3⟩:=h;refine ⟨a,cap,he,h1,h2,fun j u hj=>?_⟩;obtain ⟨g',off,rfl,a1,a2,a3⟩:=h3 j u hj;cases he;exact ⟨_,_,rfl,a1,hg,a3⟩
theorem NW (n:Nat):cntF (fun _=>inf) n=0:=by
 induction n with
 | zero=>rfl
 | succ n ih=>rw [lQ,ih];simp
theorem Td (n:Nat):mg n (fun _=>inf)=List.replicate n 9223372036854775807:=by
 apply List.ext_getElem?;intro j;unfold mg
 by_cases hj:j<n
 ·simp [hj,inf]
 ·simp [hj]
theorem VE (n:Nat):uI n (fun _=>-1)=List.replicate n (-1):=by
 apply List.ext_getElem?;intro j;unfold uI
 by_cases hj:j<n
 ·simp [hj]
 ·simp [hj]
section
variable {K:gB} {X:rO} {kd dd:Int} {E:List Ed} {s N m:Nat} {w:World} {F:List Nat}
theorem VX (hN:N<=65536) (hc:Nat->Value):DS N (fun _=>inf) (fun _=>False) (AR.new N 1) (aL (NS.new N)) 0 0 hc (fun _ _=>none) (fun _=>0):=by
 refine ⟨AR.zS hN ω,Ir (NS.zS N hN),by rw [Ct];simp [NS.new],by simp [AR.new],fun x=>by rw [GM,Rs,SS],?_,rfl,rfl,by rw [NW];rfl,rfl,rfl,fun v hv hd=>absurd rfl hd,fun v hv=>hv.elim,fun x hx=>by rw [Rs] at hx;cases hx⟩;unfold aL NS.new bB;simp
theorem Aa (g:IW (eN E) s N m) (hN:N<=65536) {hv:Nat->Value} (h:qd K w X F kd dd N (List.replicate N 9223372036854775807) (List.replicate N (-1)) hv 0 (fun _ _=>none) (AR.new N 1) (aL (NS.new N)) 0) :
  Calls Tryz.prog 54 #[.pointer (some ⟨X.b,0,none⟩),.int .i64 (s:Int),.int .i64 0,.int .i64 (-1)] w fun e w'=>e=.returned (.tuple #[])/\∃F',St K X kd dd E s N m w' F' (d0 s) (fun _=>-1) [] (fun v=>v=s) (fun _=>True)/\aa (X.own++F) w w'/\∀z,z∈F'->z∈F\/w.heap.size<=z:=by
 have hsN:=g.src;have hS:=VX hN hv;obtain ⟨R',hT,hg0,hS'⟩:=hS.new hsN rfl (x':=0) δ δ;have hd0:bA (fun _=>inf) s 0=d0 s:=rfl;have hW:(fun u=>False\/u=s)=(fun u=>u=s):=funext fun u=>propext ⟨fun e=>e.elim (fun e=>e.elim) id,Β⟩;have Zq:(List.replicate N (9223372036854775807:Int)).getD s 0=9223372036854775807:=by simp [φ,hsN]
 have key:=Cv h s hsN 0 (-1) Zq ω ω hS.has ω hN ω hT;refine key.mono fun e w' ⟨h1,F',h2,h3,h4⟩=>⟨h1,F',?_,h3,h4⟩
 rw [←Td,←VE,show (0:Int)=((0:Nat):Int) from rfl,wE,zZ,hd0] at h2;rw [hd0,hW] at hS';have hb:(fun u=>if u=s then (-1:Int) else (fun _=>(-1:Int)) u)=fun _=>-1:=funext fun u=>by dsimp only;split<;>rfl
 rw [hb] at h2;exact ⟨_,_,_,_,_,_,_,h2,VT hsN,hS'⟩
variable {d:Nat->Nat} {bt:Nat->Int} {S:List Nat} {W R:Nat->Prop}
theorem Dj (h:St K X kd dd E s N m w F d bt S W (fun _=>True)) (hN:N<=65536) :
  Calls Tryz.prog 41 #[.pointer (some ⟨X.p,0,none⟩),.int .i64 1] w fun e w'=>
   (e=.returned (.tuple #[.agg #[.int .i64 0,.int .u32 0],.int .i64 0,.int .i64 172])/\(∀v,¬W v)/\∃F',St K X kd dd E s N m w' F' d bt S W (fun _=>True)/\aa F w w'/\∀z,z∈F'->z∈F\/w.heap.size<=z)\/
   ∃v x:Nat,e=.returned (.tuple #[hV (x:Int) 1,.int .i64 (d v:Int),.int .i64 0])/\v<N/\v∉S/\x<65536/\W v/\∃F' c f,St K X kd dd E s N m w' F' d bt (v::S) (fun u=>W u/\u≠v) (fun i=>(jd (eN E) i).f≠v)/\nZ w' X.mb c f/\f (x:Int) 1=some (v:Int)/\aa F w w'/\∀z,z∈F'->z∈F\/w.heap.size<=z:=by
 obtain ⟨R,A,q,c,hc,f,sl,hM,hJ,hS⟩:=h;cases hm:dD A 1 with
 | none=>
  have hno:=hS.none hm;refine (QW hM.pq 1 ω hm).mono fun e w' ⟨h1,h2⟩=>Α ⟨?_,hno,?_⟩
  ·rw [h1];unfold sD;rw [hS.has,hm];rfl
  ·obtain ⟨F',a1,a2,a3⟩:=hM.store h2;exact ⟨F',⟨R,A,q,c,hc,f,sl,a1,hJ,hS⟩,a2,a3⟩
 | some x=>
  obtain ⟨v,hW,hx,hk,hmin,hf,hg,hv⟩:=hS.min hm;have nG:=hJ.wN v hW;have hxl:=AR.M8 hv;have uQ:=hS.ok.n;refine (O8 hM.pq 1 hm).mono fun e w' ⟨h1,h2⟩=>Β ⟨v,x,?_,nG.1,nG.2,ω,hW,?_⟩
  ·rw [h1,hg,hk];rfl
  ·obtain ⟨F',a1,a2,a3⟩:=hM.store h2;have hS2:=hS.take hW;rw [hx] at hS2;exact ⟨F',c,f,⟨_,_,q,c,hc,f,sl,a1,WV hJ hW hmin,hS2⟩,a1.map,hf,a2,a3⟩
theorem WM (h:St K X kd dd E s N m w F d bt S W (fun _=>True)) (hN:N<=65536) (hno:∀v,¬W v) :
  Calls Tryz.prog 41 #[.pointer (some ⟨X.p,0,none⟩),.int .i64 1] w fun e w'=>e=.returned (.tuple #[.agg #[.int .i64 0,.int .u32 0],.int .i64 0,.int .i64 172])/\∃F',St K X kd dd E s N m w' F' d bt S W (fun _=>True)/\aa F w w'/\∀z,z∈F'->z∈F\/w.heap.size<=z:=
 (Dj h hN).mono fun e w' hh=>by
  rcases hh with ⟨h1,_,h2⟩|⟨v,x,_,_,_,_,hW,_⟩
  ·exact ⟨h1,h2⟩
  ·exact (hno v hW).elim
theorem QU (h:St K X kd dd E s N m w F d bt S W (fun _=>True)) (hN:N<=65536) (hex:∃v,W v) :
  Calls Tryz.prog 41 #[.pointer (some ⟨X.p,0,none⟩),.int .i64 1] w fun e w'=>∃v x:Nat,e=.returned (.tuple #[.agg #[.int .i64 (x:Int),.int .u32 1],.int .i64 (d v:Int),.int .i64 0])/\v<N/\v∉S/\x<65536/\∃F' c f,St K X kd dd E s N m w' F' d bt (v::S) (fun u=>W u/\u≠v) (fun i=>(jd (eN E) i).f≠v)/\nZ w' X.mb c f/\f (x:Int) 1=some (v:Int)/\aa F w w'/\∀z,z∈F'->z∈F\/w.heap.size<=z:=
 (Dj h hN).mono fun e w' hh=>by
  rcases hh with ⟨_,hno,_⟩|⟨v,x,h1,h2,h3,h4,_,h5⟩
  ·obtain ⟨v,hv⟩:=hex;exact (hno v hv).elim
  ·exact ⟨v,x,h1,h2,h3,h4,h5⟩
theorem St.cells (h:St K X kd dd E s N m w F d bt S W R):w.cell? ⟨X.b,0,none⟩=some (.slice (some ⟨X.gd,0,none⟩) N X.cd)/\w.cell? ⟨X.b,1,none⟩=some (.slice (some ⟨X.gb,0,none⟩) N X.cb)/\w.cell? ⟨X.b,2,none⟩=some (.pointer (some ⟨X.p,0,none⟩))/\w.cell? ⟨X.b,4,none⟩=some (.map (some X.mb)):=by
 obtain ⟨_,_,_,_,_,_,_,hM,_⟩:=h;exact ⟨hM.c0,hM.c1,hM.c2,hM.c4⟩
theorem St.aj {w':World} (h:St K X kd dd E s N m w F d bt S W R) (hu:aa [] w w'):St K X kd dd E s N m w' F d bt S W R:=by
 obtain ⟨R',A,q,c,hc,f,sl,hM,hJ,hS⟩:=h;exact ⟨R',A,q,c,hc,f,sl,hM.aj hu,hJ,hS⟩
theorem St.tree (h:St K X kd dd E s N m w F d bt S W (fun _=>True)) (g:IW (eN E) s N m) (hno:∀v,¬W v) {T:List Nat} (hT1:X.gd∉T) (vF:X.gb∉T):fw w T (.slice (some ⟨X.gd,0,none⟩) N X.cd) (mg N d)/\fw w T (.slice (some ⟨X.gb,0,none⟩) N X.cb) (uI N bt)/\mE (eN E) N s (passes (eN E) s N) (mg N d) (uI N bt):=by
 obtain ⟨R',A,q,c,hc,f,sl,hM,hJ,hS⟩:=h;have hP:=X8 g.src g hJ hno;have hT:=(CE g (fun v _=>hJ.rx.le v)).1 hP;have o1:=hM.vS.own;have o2:=hM.by'.own;rw [lX] at o1;rw [FP] at o2;refine ⟨(fw.rH o1 σ).off hT1,(fw.rH o2 σ).off vF,lX _ _,FP _ _,fun v hv=>?_⟩;obtain ⟨a1,a2,a3⟩:=hT v hv;refine ⟨by rw [AY hv,a1],fun h=>by rw [Im hv];exact a2 h,fun h=>?_⟩;have key:∀k x,x<N->bf (eN E) bt (passes (eN E) s N) s k x=true->bf (eN E) (fun x=>(uI N bt).getD x 0) (passes (eN E) s N) s k x=true:=by
  intro k
  induction k with
  | zero=>intro x _ h;exact h
  | succ k ih=>
   intro x hx h
   by_cases e:x=s
   ·rw [e];exact OH _
   ·rw [zV e] at h ⊢;simp only [Τ] at h ⊢;have e1:(uI N bt).getD x 0=bt x:=Im hx;have e2:lH (eN E) (fun x=>(uI N bt).getD x 0) x=lH (eN E) bt x:=by unfold lH;simp only [e1]
    have e3:jk (eN E) (fun x=>(uI N bt).getD x 0) (passes (eN E) s N) x=jk (eN E) bt (passes (eN E) s N) x:=by unfold jk;simp only [e2,e1]
    rw [e2,e3];exact ⟨h.1,ih _ (pQ g h.1) h.2⟩
 exact key N v hv (a3 h)
end
def xC (E:List Ed) (k v:Nat):List Nat:=(List.range k).filter (fun i=>decide ((E.getD i default).f=(v:Int)))
theorem SV (E:List Ed) (k v:Nat):xC E (k+1) v=if (E.getD k default).f=(v:Int) then xC E k v++[k] else xC E k v:=by
 unfold xC;rw [List.range_succ,List.filter_append]
 by_cases h:(E.getD k default).f=(v:Int)
 ·rw [Δ h,List.filter_cons_of_pos (by simpa only [Ο] using h)];rfl
 ·rw [Γ h,List.filter_cons_of_neg (by simpa only [Ο] using h)];simp
theorem WT (E:List Ed) (k v:Nat):(xC E k v).length<=k:=by
 unfold xC;exact Χ (List.length_filter_le _ _) σ
theorem Mr {E:List Ed} {k v i:Nat}:i∈xC E k v↔i<k/\(E.getD i default).f=(v:Int):=by
 unfold xC;simp
structure UC (w:World) (lo g N:Nat) (vs:Nat->Value) (L:Nat->List Nat):Prop where
 row:aI w g 26 N vs
 own:∀v,v<N->w.ownsRow lo 3 1 (vs v) (L v).length (aF (bz (L v)))
 ng:∀v,v<N->(vs v).ownBlock≠some g
 sep:∀u v b,u<N->v<N->u≠v->(vs u).ownBlock=some b->(vs v).ownBlock≠some b
theorem UC.upd {w w':World} {lo g N:Nat} {vs:Nat->Value} {L:Nat->List Nat} {S:List Nat} (h:UC w lo g N vs L) (hu:aa S w w') (hg:g∉S) (hS:∀v,v<N->∀b,(vs v).ownBlock=some b->b∉S):UC w' lo g N vs L:=
 ⟨h.row.upd hu hg,fun v hv=>ay (h.own v hv) hu (fun b hb=>hS v hv b hb),h.ng,h.sep⟩
theorem UC.put {w w2:World} {lo g N f x:Nat} {vs:Nat->Value} {L:Nat->List Nat} (h:UC w lo g N vs L) (hf:f<N) {v2:Value} (hu:aa (vs f).ownBlock.toList w w2) (ho:w2.ownsRow lo 3 1 v2 ((L f).length+1) (aF (bz (L f++[x]))))
  (hv:v2.ownBlock=(vs f).ownBlock\/∀b,v2.ownBlock=some b->w.heap.size<=b):UC (w2.setCell ⟨g,f,none⟩ v2) lo g N (fun v=>if v=f then v2 else vs v) (fun v=>if v=f then L f++[x] else L v):=by
 have hgf:g∉(vs f).ownBlock.toList:=fun e=>h.ng f hf (by simpa using e);have hU:aa [g] w2 (w2.setCell ⟨g,f,none⟩ v2):=(aa.refl _ _).setCell (Α σ) _;have hgl:=h.row.lt;have hng2:v2.ownBlock≠some g:=fun e=>by
  rcases hv with h1|h1
  ·exact h.ng f hf (by rw [←h1];exact e)
  ·have:=h1 g e;omega
 have XQ:∀v b,v<N->v≠f->(vs v).ownBlock=some b->v2.ownBlock≠some b:=fun v b hv' hne hb e=>by
  rcases hv with h1|h1
  ·exact h.sep v f b hv' hf hne hb (by rw [←h1];exact e)
  ·have h2:=h1 b e;have h3:=(h.own v hv').lt b hb;omega
 refine ⟨((h.row.upd hu hgf).set f v2),fun v hv'=>?_,fun v hv'=>?_,fun u v b hu' hv' hne hb=>?_⟩
 ·by_cases e:v=f
  ·simp only [Δ e];rw [υ];exact ay ho hU (fun k hk e=>by simp at e;subst e;exact hng2 hk)
  ·simp only [Γ e];exact ay (ay (h.own v hv') hu (fun k hk e2=>h.sep v f k hv' hf e hk (by simpa using e2))) hU (fun k hk e2=>by simp at e2;subst e2;exact h.ng v hv' hk)
 ·by_cases e:v=f
  ·simp only [Δ e];exact hng2
  ·simp only [Γ e];exact h.ng v hv'
 ·by_cases e1:u=f
  ·have e2:v≠f:=fun e=>hne (by rw [e1,e]);simp only [Δ e1] at hb;simp only [Γ e2];intro e3;exact XQ v b hv' e2 e3 hb
  ·simp only [Γ e1] at hb
   by_cases e2:v=f
   ·simp only [Δ e2];exact XQ u b hu' e1 hb
   ·simp only [Γ e2];exact h.sep u v b hu' hv' hne hb
theorem Q5:(Tryz.prog.info? 26).map (fun i=>(i.zero,i.size,i.bytes))=some (some (.slice none 0 0),1,24):=by kernel_rfl
theorem Nk (w:World) (lo n:Nat):UC (w.alloc (.cells (madeCells #[.slice none 0 0] n) 26)) lo w.heap.size n (fun _=>.slice none 0 0) (fun _=>[]):=by
 refine ⟨⟨madeCells #[.slice none 0 0] n,?_,by simp [madeCells],fun j hj=>?_⟩,fun v hv=>?_,fun v hv=>by simp [Value.ownBlock],fun u v b hu hv hne hb=>by simp [Value.ownBlock] at hb⟩
 ·show (w.heap.push _)[w.heap.size]?=_;simp
 ·simp [madeCells,hj,Nat.mod_one]
 ·exact World.ownsRow_nil _ _ _ _
theorem Ha (w:World) (N:Nat) (va:Value) (E:List Ed) (hE:vZ w va E) (hr:fJ (N:Int) E=true) :
    Calls Tryz.prog 53 #[.agg #[.int .i64 (N:Int),va]] w fun r w'=>∃g vs,r=.returned (.slice (some ⟨g,0,none⟩) N N)/\UC w' (w.heap.size+1) g N vs (xC E E.length)/\w.heap.size<=g/\aa [] w w':=by
  have hbd:=kN hr;have kc:=fun W (hW:aa [] w W)=>Ae W (N:Int) va E (hE.upd hW);rw [hr] at kc;obtain ⟨a,cap,rfl,hcap⟩:=hE.shape;have HE:=χ hE;have HR:=χ hr;have u0:aa [] w (w.alloc (.cells #[.int .i64 N,.slice a E.length cap] 57)):=(aa.refl _ _).alloc _;have hN:N<=4096:=ω;have Wj:E.length<=65536:=hbd.2.2;have hmk:=run_make_row' (P:=Tryz.prog) 51 26 (.slice none 0 0) 24 Tryz.underlying51 Q5 rfl .i64 .i64 N ω ω;clear hE hr hbd;generalize hn:E.length=n at *;have HN:=χ hn;clear hn
  go_enter Tryz.func53,Tryz.ntmps53
  go_wp2_with (first
    | ((go_at_call 74;(with_reducible refine (kc _ u0).mono ?_));rintro e w1 ⟨rfl,hu1⟩;(have q0:w1.cell? ⟨w.heap.size,0,none⟩=some (.int .i64 (N:Int)):=hu1.was γ);(have q1:w1.cell? ⟨w.heap.size,1,none⟩=some (.slice a n cap):=hu1.was γ);(have hb:=Ε w1 _ q0))
    | fail)
  have hL0:=Nk w1 (w.heap.size+1) N;have hsz1:=hu1.size;have hg1:w.heap.size<w1.heap.size:=hb;clear hmk hb
  go_loopw [4,5,15] (fun _ _ i wr=>∃ (k:Nat) (vs:Nat->Value),k<=n/\i=.int .i64 (k:Int)/\UC wr (w.heap.size+1) w1.heap.size N vs (xC E k)/\aa [] (w.alloc (.cells #[.int .i64 N,.slice a n cap] 57)) wr) (fun _ _ i _=>n-(intOf i).toNat)
  case atStart=>exact ⟨0,_,ω,rfl,hL0,β⟩
  case round=>
    clear hL0 q0 q1 kc;obtain ⟨k,vs,hk,rfl,hL,hu⟩:=hrel;rename World=>wr;have hsz:w.heap.size<wr.heap.size:=by have:=hu.size;simp at this;omega
    by_cases hkn:k<n
    · have Ey:k<E.length:=by rw [HN.out];exact hkn
      have hx:E[k]?=some (E.getD k default):=by simp [φ,Ey]
      have hmem:E.getD k default∈E:=Η hx;obtain ⟨ge,off,rfl,hg,c0,c1,c2⟩:=(HE.out.upd (u0.trans hu)).at k Ey;have h1:=dM HR.out hmem;have HT:=χ (SV E k);generalize E.getD k default=e at *;have hwr:IntKind.i64.wrap ((k:Int)+1)=(k:Int)+1:=Μ _ ω;obtain ⟨ef,et,ew⟩:=e;dsimp only at c0 c1 c2 h1;obtain ⟨f,rfl⟩:∃f:Nat,ef=f:=⟨ef.toNat,ω⟩;have hf:f<N:=ω;have hfI:(f:Int)<(N:Int):=ω;have hlf:=WT E k f;have ho:=hL.own f hf;obtain ⟨av,cv,hvf,hcv⟩:=aV ho;have d0:=hL.row.cellAt f hf hvf;have df:=hL.row.free f
      have hnb:wr.heap.size∉(Value.slice av (xC E k f).length cv).ownBlock.toList:=fun e=>by have:=((ho.lt wr.heap.size (by rw [hvf];simpa using e)).2);omega
      have hgl:=hL.row.lt;have HL:=χ (ψ hL hvf);have HU:=χ hu;rw [hvf] at ho;have Rz:=χ (fun b hb=>(ho.lt b hb).1);clear hx hmem hL hu hvf;generalize hln:(xC E k f).length=ln at *;have UU:=χ hln;clear hln
      go_upto_region 7 with (fail)
      refine Ce (fun W=>W.cell? ⟨wr.heap.size,0,none⟩=some (.int .i64 (f:Int))/\aa [] wr W) ⟨γ,β⟩ ?_;rintro W6 ⟨p2,gN⟩;have p1:=gN.was d0;have pf1:=gN.aK d0 σ df;have IV:=ay (S:=[]) ho gN σ;have hrs6:=Ε W6 _ p2;have hpa6:=Ε W6 _ p1;dsimp only at hrs6 hpa6;have s0:aa [] W6 (W6.drew.alloc (.cells #[.int .i64 (k:Int)] 3)):=((aa.refl _ _).drew).alloc _;have OA:w1.heap.size∉(Value.slice av ln cv).ownBlock.toList:=fun e=>by have:=HL.out.1.ng f hf;rw [HL.out.2] at this;exact this (by simpa using e)
      clear d0 df ho c0 c1 c2
      go_region_law
        (first
          | (refine jM rfl _ _ 26 rfl (w.heap.size+1) 3 (.int .i64 0) 1 8 Tryz.underlying26 dQ rfl δ (.slice av ln cv) ln (aF (bz (xC E k f))) rfl (IV.drew.alloc _) W6.heap.size [.int .i64 (k:Int)] rfl rfl (fun j u hj=>lY W6 [.int .i64 (k:Int)] 3 j u hj) (by simp [Value.oneCell']) μ ω ζ ?_
             intro v2 w2 ho2 hu2 hv2;have hS2:aa (Value.slice av ln cv).ownBlock.toList W6 w2:=(s0.mono σ).trans hu2;have z1:=hS2.kept p1 OA;have zf1:=hS2.aK p1 OA pf1;have z2:=hS2.kept p2 hnb
             obtain ⟨a2,cap2,rfl,hcap2⟩:=aV ho2))
      all_goals
        go_wp2;have lU:=HL.out.1.upd gN σ (fun v hv b hb=>σ)
        have hP:=lU.put hf (x:=k) (v2:=.slice a2 (ln+1) cap2) (by rw [HL.out.2];exact hS2) (by
          rw [UU.out,show bz (xC E k f++[k])=bz (xC E k f)++[(k:Int)] from by unfold bz;simp,bG];exact ho2) (by
          rw [HL.out.2];rcases hv2 with h|h
          · exact Α h
          · exact Β (fun b hb=>by rw [h] at hb;simp at hb;omega))
        have hfun:(fun v=>if v=f then xC E k f++[k] else xC E k v)=xC E (k+1):=funext fun v=>by
          rw [HT.out v]
          by_cases e:v=f
          · subst e;simp
          · rw [Γ e,Γ (by show ¬ ((f:Nat):Int)=v;omega)]
        rw [hfun] at hP
        exact ⟨⟨k+1,_,ω,by go_num,hP,by
          have h1:aa [] _ W6:=HU.out.trans gN;have h2:aa [] _ w2:=h1.joined hS2 (fun b hb=>Β (by have:=Rz.out b (by simpa using hb);rw [Κ];exact this))
          exact h2.setCell (Β ζ) _⟩,by simp [intOf];omega⟩
    · obtain rfl:k=n:=ω
      have HL:=χ hL;clear hL;go_wp2;go_ret;exact ⟨_,vs,rfl,HL.out,ω,u0.trans hu⟩
structure Yg (w:World) (F:List Nat) (gb rb B0 L0 L1 N g:Nat) (v0 v1 r0 r1:Value) (vs:Nat->Value) (L:Nat->List Nat):Prop where
 g0:w.cell? ⟨gb,0,none⟩=some v0
 g1:w.cell? ⟨gb,1,none⟩=some v1
 r0:w.cell? ⟨rb,0,none⟩=some r0
 r1:w.cell? ⟨rb,1,none⟩=some r1
 f0:w.frozen? ⟨rb,0,none⟩=false
 f1:w.frozen? ⟨rb,1,none⟩=false
 lv:UC w (L0+1) g N vs L
 bF:∀x,x∈F->B0<=x/\(x<L0\/L1<=x)
 gl:L0<=g/\g<L1
 vl:∀v,v<N->∀b,(vs v).ownBlock=some b->L0<=b/\b<L1
 hb:gb<B0/\rb<B0/\B0<=L0
 sz:L1<=w.heap.size
theorem Yg.step {w w':World} {F F' T:List Nat} {gb rb B0 L0 L1 N g:Nat} {v0 v1 r0 r1:Value} {vs:Nat->Value} {L:Nat->List Nat} (h:Yg w F gb rb B0 L0 L1 N g v0 v1 r0 r1 vs L) (hu:aa T w w') (hT:∀x,x∈T->x∈F\/(B0<=x/\x<L0)\/L1<=x) (hF:∀x,x∈F'->x∈F\/w.heap.size<=x):Yg w' F' gb rb B0 L0 L1 N g v0 v1 r0 r1 vs L:=by
 obtain ⟨hb1,hb2,hb3⟩:=h.hb;have hs:=h.sz;have hz:=hu.size;have hTb:∀x,x∈T->B0<=x/\(x<L0\/L1<=x):=fun x hx=>by
  rcases hT x hx with e|e|e
  ·exact h.bF x e
  ·exact ⟨e.1,Α e.2⟩
  ·exact ⟨by have:=h.gl;omega,Β e⟩
 have n1:gb∉T:=fun e=>by have:=hTb _ e;omega
 have n2:rb∉T:=fun e=>by have:=hTb _ e;omega
 have n3:g∉T:=fun e=>by have:=hTb _ e;have:=h.gl;omega
 refine ⟨hu.kept h.g0 n1,hu.kept h.g1 n1,hu.kept h.r0 n2,hu.kept h.r1 n2,hu.aK h.r0 n2 h.f0,hu.aK h.r1 n2 h.f1,h.lv.upd hu n3 (fun v hv b hb e=>by have:=hTb _ e;have:=h.vl v hv b hb;omega),fun x hx=>?_,h.gl,h.vl,h.hb,ω⟩;rcases hF x hx with e|e
 ·exact h.bF x e
 ·exact ⟨by have:=h.gl;omega,Β ω⟩
theorem Sb {n:Nat} {l:List Nat} (hn:l.Nodup) (h:∀x,x∈l->x<n):l.length<=n:=by
 have:=nodup_range n (l.map (fun (x:Nat)=>(x:Int))) (by
  unfold List.Nodup at hn ⊢;rw [List.pairwise_map];exact hn.imp (fun h e=>h ω)) (fun x hx=>by
  obtain ⟨y,hy,rfl⟩:=List.mem_map.1 hx
  have:=h y hy;omega)
 simpa using this
theorem YV {N:Int} {E:List Ed} (hr:fJ N E=true) {v i:Nat} (hi:i<E.length):(jd (eN E) i).f≠v\/i∈xC E E.length v:=by
 by_cases h:(jd (eN E) i).f=v
 ·refine Β (Mr.2 ⟨hi,?_⟩);have h3:=dM hr (Η (show E[i]?=some (E.getD i default) by simp [φ,hi]));rw [SN E i hi] at h;have h4:(E.getD i default).f.toNat=v:=h;omega
 ·exact Α h
theorem St.round {v:Nat} {K:gB} {X:rO} {kd dd:Int} {E:List Ed} {s N m:Nat} {w:World} {F:List Nat} {d:Nat->Nat} {bt:Nat->Int} {S:List Nat} {W R:Nat->Prop} (h:St K X kd dd E s N m w F d bt (v::S) W R) (hR:∀i,i<E.length->R i):St K X kd dd E s N m w F d bt (v::S) W (fun _=>True):=by
 obtain ⟨R',A,q,c,hc,f,sl,hM,hJ,hS⟩:=h;exact ⟨R',A,q,c,hc,f,sl,hM,SG hJ (fun i hi=>hR i (by rw [Av] at hi;exact hi)),hS⟩
theorem Rf {K:gB} {kd dd:Int} (w:World) (N s:Nat) (va:Value) (E:List Ed) (hE:vZ w va E) (qc:bD (N:Int) E=true) (hs:s<N) (hc:yV kd dd=0) (ko:om K kd dd N) :
  Calls Tryz.prog 29 #[.agg #[.int .i64 kd,.int .i64 dd],.agg #[.int .i64 (N:Int),va],.int .i64 (s:Int)] w fun e w'=>∃vd vb D B,e=.returned (.tuple #[.agg #[vd,vb],.int .i64 0])/\fw w' [] vd D/\fw w' [] vb B/\mE (eN E) N s (passes (eN E) s N) D B/\aa [] w w':=by
 have hr:=fK qc;have hbd:=kN hr;have hN:N<=4096:=ω;have hg:IW (eN E) s N (9223372036854775807 / N):=xS qc hs;have PL:∀e,e∈E->0<=e.w/\e.w<=9223372036854775807:=fun e he=>by
  have h1:=j3 qc he;have h2:(9223372036854775807:Int) / (N:Int)<=9223372036854775807:=Int.ediv_le_self _ ω;omega
 have kc:=fun W=>xX kd dd W;rw [hc] at kc;have kw:=fun W (hW:aa [] w W)=>ql W N va E (hE.upd hW) (fun e he=>(PL e he).2);rw [qc,show OT true=0 from rfl] at kw;have kb:=fun W=>NL (K:=K) N W ω hN hc ko;have kl:=fun W (hW:aa [] w W)=>Ha W N va E (hE.upd hW) hr;obtain ⟨a,cap,rfl,hcap⟩:=hE.shape;have HE:=χ hE;have HW:=χ (ψ qc (ψ hr hg));have hsn2:¬N<=s:=ω;have h1b:decide ((s:Int)≥(N:Int))=false:=ζ;have Wj:E.length<=65536:=hbd.2.2;clear hE qc hr hbd PL hg hc ko;generalize hn:E.length=n at *;have HN:=χ hn;clear hn
 go_enter Tryz.func29,Tryz.ntmps29
 go_upto_region 9 with (first
  | ((go_at_call 50;(with_reducible refine (kc _).mono ?_));rintro e w1 ⟨rfl,hu1⟩;(have q0:w1.cell? ⟨w.heap.size,0,none⟩=some (.int .i64 kd):=hu1.was γ);(have q1:w1.cell? ⟨w.heap.size,1,none⟩=some (.int .i64 dd):=hu1.was γ);(have q2:w1.cell? ⟨w.heap.size+1,0,none⟩=some (.int .i64 (N:Int)):=hu1.was γ);(have q3:w1.cell? ⟨w.heap.size+1,1,none⟩=some (.slice a n cap):=hu1.was γ);(have r0:w1.cell? ⟨w.heap.size+2,0,none⟩=some (.slice none 0 0):=hu1.was γ);(have r1:w1.cell? ⟨w.heap.size+2,1,none⟩=some (.slice none 0 0):=hu1.was γ);(have hw1:aa [] w w1:=aa.trans β hu1))
  | ((go_at_call 51;(with_reducible refine (kw _ β).mono ?_));rintro e w2 ⟨rfl,hu2⟩;(have q4:=hu2.was q0);(have q5:=hu2.was q1);(have q6:=hu2.was q2);(have q7:=hu2.was q3))
  | ((go_at_call 52;(with_reducible refine (kb _).mono ?_));rintro e w3 ⟨X,F,hv,rfl,hM,hu3,hX,hF⟩;(have q8:=hu3.was q6);(have q9:=hu3.was q7);(have r4:=hu3.was (hu2.was r0));(have r5:=hu3.was (hu2.was r1));(have Uz:w1.frozen? ⟨w.heap.size+2,0,none⟩=false:=hu1.aK (v:=.slice none 0 0) γ σ γ);(have PW:w1.frozen? ⟨w.heap.size+2,1,none⟩=false:=hu1.aK (v:=.slice none 0 0) γ σ γ);(have hw3:=(hw1.trans hu2).trans hu3);(have hst:=Aa HW.out.2.2 ω hM))
  | fail)
 have hb2:w.heap.size+2<w2.heap.size:=Ε w2 _ (hu2.was r0);have hMl:=hM.lt;have hFl:=hM.pq.lt;have hMst:=fun W (hW:aa [] w3 W)=>Aa HW.out.2.2 ω (hM.aj hW);clear hst hM kc kw kb;have kl3:=kl w3 hw3
 go_upto_region 11 with (first
  | ((go_at_call 53;(with_reducible refine (kl3).mono ?_));rintro e w4 ⟨g,vs,rfl,hL,hg4,fP⟩;(have hst4:=hMst w4 fP))
  | ((go_at_call 54;(with_reducible refine (hst4).mono ?_));rintro e w5 ⟨rfl,F5,hSt,bP,Wq⟩)
  | fail)
 have UK:Yg w4 F (w.heap.size+1) (w.heap.size+2) w2.heap.size w3.heap.size w4.heap.size N g (.int .i64 (N:Int)) (.slice a n cap) (.slice none 0 0) (.slice none 0 0) vs (xC E n):=by
  have hfr0:=(hu2.trans (hu3.trans fP)).aK r0 σ Uz;have hfr1:=(hu2.trans (hu3.trans fP)).aK r1 σ PW;have hgl:=hL.row.lt;have hs3:=hu3.size;exact ⟨fP.was q8,fP.was q9,fP.was r4,fP.was r5,hfr0,hfr1,hL,fun x hx=>⟨hF x hx,Α (hFl x hx)⟩,⟨hg4,hgl⟩,fun v hv b hb=>by have:=(hL.own v hv).lt b hb;omega,ω,ω⟩
 have hXb:∀x,x∈X.own->w2.heap.size<=x/\x<w3.heap.size:=fun x hx=>⟨hX x hx,hMl x hx⟩
 have hI5:=UK.step bP (fun x hx=>by
  rcases τ.1 hx with e|e
  ·exact Β (Α (hXb x e))
  ·exact Α e) Wq
 have PM:aa [] w w5:=(hw3.trans fP).joined bP (fun x hx=>Β (by
  have:=hw1.size;have:=hu2.size;rcases τ.1 hx with e|e
  ·have:=(hXb x e).1;omega
  ·have:=hF x e;omega))
 clear UK bP Wq hMst hst4 kl3 kl hL hg4 fP hMl hFl hF hX q0 q1 q2 q3 q4 q5 q6 q7 q8 q9 r0 r1 r4 r5 Uz PW
 go_loopg [12,13,14,16,78] (N+1) (fun fu _ _ _ _ _ wr=>∃F' d bt S W,St K X kd dd E s N (9223372036854775807 / N) wr F' d bt S W (fun _=>True)/\Yg wr F' (w.heap.size+1) (w.heap.size+2) w2.heap.size w3.heap.size w4.heap.size N g (.int .i64 (N:Int)) (.slice a n cap) (.slice none 0 0) (.slice none 0 0) vs (xC E n)/\aa [] w wr/\N<fu+S.length)
 case atStart=>exact ⟨F5,_,_,_,_,hSt,hI5,PM,σ⟩
 case round=>
  rename Nat=>fu;clear hSt hI5 PM;obtain ⟨F',d,bt,S,W,hSt,hI,hw,hfu⟩:=hrel;rename World=>wr;have hSn:S.length<=N:=by
   obtain ⟨_,_,_,_,_,_,_,_,hJ,_⟩:=hSt;exact Sb hJ.nd hJ.sN
  obtain ⟨fv,rfl⟩:∃fv,fu=fv+1:=⟨fu-1,ω⟩;obtain ⟨c0,c1,c2,c4⟩:=hSt.cells
  by_cases hno:∀v,¬W v
  ·have ke:=fun W' (hW':aa [] wr W')=>WM (hSt.aj hW') ω hno
   go_upto_region 12 with (first
    | ((go_at_call 41;(with_reducible refine (ke _ β).mono ?_));rintro e w6 ⟨rfl,F6,Jd,gN,hf6⟩)
    | fail)
   have SH:=hI.step gN (fun x hx=>Α hx) hf6;obtain ⟨t0,t1,t2⟩:=Jd.tree HW.out.2.2 hno (T:=[w.heap.size+1+1]) (fun e=>by have:=hXb X.gd (by unfold rO.own;simp);simp at e;omega) (fun e=>by have:=hXb X.gb (by unfold rO.own;simp);simp at e;omega);obtain ⟨d0,d1,d2,d4⟩:=Jd.cells;have IV:aa [] w w6:=hw.joined gN (fun x hx=>Β (by have:=hI.bF x hx;have:=hI.hb;omega));have HT:=χ (ψ t0 (ψ t1 t2));have e0:w6.cell? ⟨w.heap.size+1+1,0,none⟩=some (.slice none 0 0):=SH.r0;have e1:w6.cell? ⟨w.heap.size+1+1,1,none⟩=some (.slice none 0 0):=SH.r1;have f0:w6.frozen? ⟨w.heap.size+1+1,0,none⟩=false:=SH.f0
   have f1:w6.frozen? ⟨w.heap.size+1+1,1,none⟩=false:=SH.f1;have hxl:=Ε w6 _ d0;have hrl:=Ε w6 _ e0;dsimp only at hxl hrl;have hn1:¬X.b=w6.heap.size:=ω;have hn2:¬w.heap.size+1+1=w6.heap.size:=ω;clear t0 t1 t2 hSt Jd hI SH ke c0 c1 c2 c4;go_wp2;have q0:(((w6.setCell ⟨w.heap.size+1+1,0,none⟩ (.slice (some ⟨X.gd,0,none⟩) N X.cd)).setCell ⟨w.heap.size+1+1,1,none⟩ (.slice (some ⟨X.gb,0,none⟩) N X.cb)).alloc (.cells #[.int .i64 0,.int .u32 0] 85)).cell? ⟨w.heap.size+1+1,0,none⟩=some (.slice (some ⟨X.gd,0,none⟩) N X.cd):=γ
   have q1:(((w6.setCell ⟨w.heap.size+1+1,0,none⟩ (.slice (some ⟨X.gd,0,none⟩) N X.cd)).setCell ⟨w.heap.size+1+1,1,none⟩ (.slice (some ⟨X.gb,0,none⟩) N X.cb)).alloc (.cells #[.int .i64 0,.int .u32 0] 85)).cell? ⟨w.heap.size+1+1,1,none⟩=some (.slice (some ⟨X.gb,0,none⟩) N X.cb):=γ;refine bodyPost_ret (v:=.tuple #[.agg #[.slice (some ⟨X.gd,0,none⟩) N X.cd,.slice (some ⟨X.gb,0,none⟩) N X.cb],.int .i64 0]) (by simp [results,Tryz.results29,go_sem,q0,q1]) rfl ⟨_,_,_,_,rfl,HT.out.1.fresh β σ,HT.out.2.1.fresh β σ,HT.out.2.2,β⟩
  ·have hex:∃v,W v:=Ϛ fun h=>hno fun v hv=>h ⟨v,hv⟩;have ke:=fun W' (hW':aa [] wr W')=>QU (hSt.aj hW') ω hex;clear hno hex
   go_upto_region 12 with (first
    | ((go_at_call 41;(with_reducible refine (ke _ β).mono ?_));rintro e w6 ⟨v,x,rfl,nG,Tp,hx,F6,cm,fm,Jd,hmap,hfx,gN,hf6⟩)
    | fail)
   have SH:=hI.step gN (fun x hx=>Α hx) hf6;obtain ⟨d0,d1,d2,d4⟩:=Jd.cells;have IV:aa [] w w6:=hw.joined gN (fun x hx=>Β (by have:=hI.bF x hx;have:=hI.hb;omega));have hxl:=Ε w6 _ d0;dsimp only at hxl;have hn1:¬X.b=w6.heap.size:=ω;clear hSt hI ke c0 c1 c2 c4
   go_upto_region 14 with fail
   have VP:=χ (ψ hmap hfx);have hgl:=SH.lv.row.lt;have hlc:=SH.lv.row.cellAt v nG rfl;obtain ⟨av,cv,hvs,hcv⟩:=aV (SH.lv.own v nG);have ht6:=Ε w6 _ d4;have hlk:∀m,(Instr.lookup 82 (.map (some X.mb)) (.agg #[.int .i64 (x:Int),.int .u32 1]) false).run Tryz.prog ((w6.alloc (.cells #[.int .i64 (x:Int),.int .u32 1] 85)).drewN m)=.ok (.int .i64 (v:Int)) ((w6.alloc (.cells #[.int .i64 (x:Int),.int .u32 1] 85)).drewN m):=fun m=>(hmap.upd (S:=[]) β σ).look hfx ω ω;have hn2:¬g=w6.heap.size:=ω;have IQ:¬w6.heap.size=X.b:=ω;rw [hvs] at hlc;clear hmap hfx ht6
   go_quiet (fail)
   have iG:aa [] w6 ((w6.alloc (.cells #[.int .i64 (x:Int),.int .u32 1] 85)).drewN nq):=β;have hSt7:=Jd.aj iG;have hI7:=SH.step iG σ (fun x hx=>Α hx);have hw7:=IV.trans iG;clear Jd SH IV hlk hlc d0 d1 d2 d4 VP;go_wp2;generalize hln:(xC E n v).length=ln at *;have UU:=χ (ψ hln (ψ hvs hcv));clear hln hvs hcv
   go_loopw [16,78] (fun _ i wr=>∃ (j:Nat) (F':List Nat) (d':Nat->Nat) (bt':Nat->Int) (W':Nat->Prop),j<=ln/\i=.int .i64 (j:Int)/\St K X kd dd E s N (9223372036854775807 / N) wr F' d' bt' (v::S) W' (fun i=>(jd (eN E) i).f≠v\/i∈(xC E n v).take j)/\d' v=d v/\Yg wr F' (w.heap.size+1) (w.heap.size+2) w2.heap.size w3.heap.size w4.heap.size N g (.int .i64 (N:Int)) (.slice a n cap) (.slice none 0 0) (.slice none 0 0) vs (xC E n)/\aa [] w wr) (fun _ i _=>ln-(intOf i).toNat)
   case atStart=>exact ⟨0,_,_,_,_,ω,rfl,by simpa using hSt7,rfl,hI7,hw7⟩
   case round=>
    clear hSt7 hI7 hw7;obtain ⟨j,F8,d8,bt8,W8,hj,rfl,hSt,hdv,hI,hw⟩:=hrel;rename World=>w8
    by_cases hjl:j<ln
    ·have hji:(j:Int)<(ln:Int):=ω;obtain ⟨i0,hi0⟩:∃i0,(xC E n v)[j]?=some i0:=⟨_,ε (by rw [UU.out.1];exact hjl)⟩;have hmem:=Mr.1 (Η hi0);have hrow:=hI.lv.own v nG;rw [UU.out.1,UU.out.2.1] at hrow;obtain ⟨_,_,he8,_,_,h38⟩:=fw.rH (F:=[]) hrow σ;cases he8;obtain ⟨g8,o8,rfl,hg8,_,c8⟩:=h38 j (i0:Int) (by unfold bz;simp [hi0]);clear h38 hrow;have Eh:i0<E.length:=by rw [HN.out];exact hmem.1
     have hin:(i0:Int)<(n:Int):=ω;obtain ⟨ge,off,rfl,hg,c0',c1',c2'⟩:=HE.out.at i0 Eh;have c1:=hw.was c1';have c2:=hw.was c2';have h3:=dM HW.out.2.1 (Η (show E[i0]?=some (E.getD i0 default) by simp [φ,Eh]));have he:=SN E i0 Eh;have rD:=hmem.2;have hwx:=j3 HW.out.1 (Η (show E[i0]?=some (E.getD i0 default) by simp [φ,Eh]));generalize E.getD i0 default=ed at *;obtain ⟨ef,et,ew⟩:=ed;dsimp only at c0' c1 c2 c1' c2' h3 rD hwx;obtain ⟨t,rfl⟩:∃t:Nat,et=t:=⟨et.toNat,ω⟩;obtain ⟨y,rfl⟩:∃y:Nat,ew=y:=⟨ew.toNat,ω⟩;subst rD;have he':jd (eN E) i0=⟨v,t,y⟩:=he
     have hsum:(d v:Int)+(y:Int)<=9223372036854775807:=by
      obtain ⟨_,_,_,_,_,_,_,_,hJ,_⟩:=hSt;have hge:=HW.out.2.2.e _ (EI (by rw [Av];exact Eh));rw [he'] at hge;have:=hJ.rx.sum HW.out.2.2.nm (e:=⟨v,t,y⟩) nG hge.2.2 ((hJ.rc v nG).2 (Α σ));dsimp only at this;rw [hdv] at this;have hmx:(inf:Nat)=9223372036854775807:=rfl;omega
     have ke:=fun W (hW:aa [] w8 W)=>K9 HW.out.2.2 ω (by rw [HN.out];exact Wj) (hSt.aj hW) Eh he';rw [hdv] at ke;have hwr:IntKind.i64.wrap ((d v:Int)+(y:Int))=(d v:Int)+(y:Int):=Μ _ ω;have q1:w8.cell? ⟨w.heap.size+1,1,none⟩=some (.slice (some ⟨ge,off,none⟩) n cap):=hI.g1;have ke1:=ke w8.drew ((aa.refl _ _).drew);have ke2:=ke w8 (aa.refl _ _);clear ke c0' c1' c2';have HI:=χ (ψ hI (ψ hw (ψ hi0 hmem)));clear hI hw hi0 hmem hSt
     go_upto_region 17 with fail
     go_region_law
      (first
       | (go_simp;go_at_call 54;(with_reducible refine (ke1).mono ?_);rintro e w9 ⟨rfl,F9,d9,bt9,W9,RG,hd9,wU,hf9⟩))
     all_goals
      have Zv:aa (X.own++F8) w8 w9:=aa.trans ν wU
      have hI9:=HI.out.1.step Zv (fun x hx=>by
       rcases τ.1 hx with e|e
       ·exact Β (Α (hXb x e))
       ·exact Α e) hf9
      have aG:aa [] w w9:=HI.out.2.1.joined Zv (fun x hx=>Β (by
       have hb:=HI.out.1.hb;rcases τ.1 hx with e|e
       ·have:=(hXb x e).1;omega
       ·have:=HI.out.1.bF x e;omega))
      have HZ:=χ (ψ RG (ψ hd9 (ψ hI9 aG)));clear RG hd9 wU hf9 Zv hI9 aG;go_wp2
      go_roundw
      case rel=>
       obtain ⟨RG,hd9,hI9,aG⟩:=HZ.out
       have he:(fun i=>((jd (eN E) i).f≠v\/i∈(xC E n v).take j)\/i=i0)=fun i=>(jd (eN E) i).f≠v\/i∈(xC E n v).take (j+1):=funext fun i=>propext (by
        rw [ϐ,HI.out.2.2.1,or_assoc]
        simp)
       rw [he] at RG;exact ⟨j+1,F9,d9,bt9,W9,hjl,by go_num,RG,hd9,hI9,aG⟩
      case measure=>simp [intOf];omega
    ·have hjn:¬ (j:Int)<(ln:Int):=ω;have U5:j=ln:=ω;subst U5;go_wp2
     go_roundg fv
     case rel=>exact ⟨F8,d8,bt8,v::S,W8,hSt.round (fun i hi=>by have h:=YV (v:=v) HW.out.2.1 hi;rw [HN.out] at h;rw [←UU.out.1,List.take_length];exact h),hI,hw,ζ⟩
     all_goals omega
theorem NY (w:World) (N:Int) (va vd vb:Value) (E:List Ed) (D B:List Int) (src:Int) (hE:vZ w va E) (hwb:∀e,e∈E->e.w<=9223372036854775807) (hD:fw w [] vd D) (hB:fw w [] vb B)
  (h:bD N E=false\/src<0\/N<=src\/(D.length:Int)≠N\/(B.length:Int)≠N) :
  Calls Tryz.prog 37 #[.agg #[.int .i64 N,va],.int .i64 src,.agg #[vd,vb]] w fun r w'=>r=.returned (.bool false)/\aa [] w w':=by
 have kw:=fun W (hW:aa [] w W)=>ql W N va E (hE.upd hW) hwb;obtain ⟨a,cap,rfl,hcap⟩:=hE.shape;obtain ⟨ad,vW,rfl,_,_,_⟩:=hD;obtain ⟨ab,rQ,rfl,_,_,_⟩:=hB;have u0:aa [] w ((w.alloc (.cells #[.int .i64 N,.slice a E.length cap] 57)).alloc (.cells #[.slice ad D.length vW,.slice ab B.length rQ] 60)):=((aa.refl _ _).alloc _).alloc _;clear hE;cases hw:bD N E with
 | false=>
  rw [hw,show OT false=201 from rfl] at kw;clear hw h hwb;generalize E.length=n at *;generalize D.length=n2 at *;generalize B.length=n3 at *
  go_enter Tryz.func37,Tryz.ntmps37
  go_wp2_with (first|((go_at_call 51;(with_reducible refine (kw _ u0).mono ?_));rintro e w1 ⟨rfl,hu1⟩;(have q0:w1.cell? ⟨w.heap.size,0,none⟩=some (.int .i64 N):=hu1.was σ);(have q1:w1.cell? ⟨w.heap.size,1,none⟩=some (.slice a n cap):=hu1.was σ);(have q2:w1.cell? ⟨w.heap.size+1,0,none⟩=some (.slice ad n2 vW):=hu1.was σ);(have q3:w1.cell? ⟨w.heap.size+1,1,none⟩=some (.slice ab n3 rQ):=hu1.was σ))|fail)
  go_ret;exact ⟨rfl,u0.trans hu1⟩
 | true=>
  rw [hw,show OT true=0 from rfl] at kw;have h':src<0\/N<=src\/(D.length:Int)≠N\/(B.length:Int)≠N:=by
   rcases h with h|h
   ·rw [hw] at h;cases h
   ·exact h
  clear hw h hwb;generalize E.length=n at *;generalize D.length=n2 at *;generalize B.length=n3 at *
  by_cases h1:src<0
  ·go_enter Tryz.func37,Tryz.ntmps37
   go_wp2_with (first|((go_at_call 51;(with_reducible refine (kw _ u0).mono ?_));rintro e w1 ⟨rfl,hu1⟩;(have q0:w1.cell? ⟨w.heap.size,0,none⟩=some (.int .i64 N):=hu1.was σ);(have q1:w1.cell? ⟨w.heap.size,1,none⟩=some (.slice a n cap):=hu1.was σ);(have q2:w1.cell? ⟨w.heap.size+1,0,none⟩=some (.slice ad n2 vW):=hu1.was σ);(have q3:w1.cell? ⟨w.heap.size+1,1,none⟩=some (.slice ab n3 rQ):=hu1.was σ))|fail)
   go_ret;exact ⟨rfl,u0.trans hu1⟩
  ·by_cases h2:src≥N
   ·go_enter Tryz.func37,Tryz.ntmps37
    go_wp2_with (first|((go_at_call 51;(with_reducible refine (kw _ u0).mono ?_));rintro e w1 ⟨rfl,hu1⟩;(have q0:w1.cell? ⟨w.heap.size,0,none⟩=some (.int .i64 N):=hu1.was σ);(have q1:w1.cell? ⟨w.heap.size,1,none⟩=some (.slice a n cap):=hu1.was σ);(have q2:w1.cell? ⟨w.heap.size+1,0,none⟩=some (.slice ad n2 vW):=hu1.was σ);(have q3:w1.cell? ⟨w.heap.size+1,1,none⟩=some (.slice ab n3 rQ):=hu1.was σ))|fail)
    go_ret;exact ⟨rfl,u0.trans hu1⟩
   ·by_cases h3:(n2:Int)=N
    ·have h3b:((n2:Int) != N)=false:=by simpa using h3
     have h4b:((n3:Int) != N)=true:=ζ;clear h' h3
     go_enter Tryz.func37,Tryz.ntmps37
     go_wp2_with (first|((go_at_call 51;(with_reducible refine (kw _ u0).mono ?_));rintro e w1 ⟨rfl,hu1⟩;(have q0:w1.cell? ⟨w.heap.size,0,none⟩=some (.int .i64 N):=hu1.was σ);(have q1:w1.cell? ⟨w.heap.size,1,none⟩=some (.slice a n cap):=hu1.was σ);(have q2:w1.cell? ⟨w.heap.size+1,0,none⟩=some (.slice ad n2 vW):=hu1.was σ);(have q3:w1.cell? ⟨w.heap.size+1,1,none⟩=some (.slice ab n3 rQ):=hu1.was σ))|fail)
     go_ret;exact ⟨rfl,u0.trans hu1⟩
    ·have h3b:((n2:Int) != N)=true:=by simpa using h3
     clear h' h3
     go_enter Tryz.func37,Tryz.ntmps37
     go_wp2_with (first|((go_at_call 51;(with_reducible refine (kw _ u0).mono ?_));rintro e w1 ⟨rfl,hu1⟩;(have q0:w1.cell? ⟨w.heap.size,0,none⟩=some (.int .i64 N):=hu1.was σ);(have q1:w1.cell? ⟨w.heap.size,1,none⟩=some (.slice a n cap):=hu1.was σ);(have q2:w1.cell? ⟨w.heap.size+1,0,none⟩=some (.slice ad n2 vW):=hu1.was σ);(have q3:w1.cell? ⟨w.heap.size+1,1,none⟩=some (.slice ab n3 rQ):=hu1.was σ))|fail)
     go_ret;exact ⟨rfl,u0.trans hu1⟩
theorem Sy:(Tryz.prog.info? 4).map (fun i=>(i.zero,i.size,i.bytes))=some (some (.bool false),1,1):=by kernel_rfl
theorem KQ (w:World) (n:Nat):aI (w.alloc (.cells (madeCells #[.bool false] n) 4)) w.heap.size 4 n (fun _=>.bool false):=by
 refine ⟨madeCells #[.bool false] n,?_,by simp [madeCells],fun j hj=>?_⟩
 ·show (w.heap.push _)[w.heap.size]?=_;simp
 ·simp [madeCells,hj,Nat.mod_one]
theorem getD_at {l:List Int} {i:Nat} (h:i<l.length):l[i]?=some (l.getD i 0):=by simp [φ,h]
theorem KV {D:List Int} {E:List Ed} {k:Nat} {x:Int}:x∈jP D E k↔∃i:Nat,x=i/\i<k/\iB D (E.getD i default)=true:=by
 unfold jP;simp only [List.mem_map,List.mem_filter,List.mem_range];constructor
 ·rintro ⟨i,⟨h1,h2⟩,rfl⟩;exact ⟨i,rfl,h1,h2⟩
 ·rintro ⟨i,rfl,h1,h2⟩;exact ⟨i,⟨h1,h2⟩,rfl⟩
theorem Ji (w:World) (N s:Nat) (va vd vb:Value) (E:List Ed) (D B:List Int) (hE:vZ w va E) (qc:bD (N:Int) E=true) (hs:s<N) (hD:fw w [] vd D) (hB:fw w [] vb B)
  (lD:D.length=N) (lB:B.length=N) (hb:∀x,x∈D->-9223372036854775808<=x/\x<=9223372036854775807) :
  Calls Tryz.prog 37 #[.agg #[.int .i64 (N:Int),va],.int .i64 (s:Int),.agg #[vd,vb]] w (Lv (yu N s E D B) w):=by
 have hr:=fK qc;have hbd:=kN hr;have hN:N<=4096:=ω;have Wj:E.length<=65536:=hbd.2.2;have PL:∀e,e∈E->0<=e.w/\e.w<=9223372036854775807:=fun e he=>by
  have h1:=j3 qc he;have h2:(9223372036854775807:Int) / (N:Int)<=9223372036854775807:=Int.ediv_le_self _ ω;omega
 have kw:=fun W (hW:aa [] w W)=>ql W N va E (hE.upd hW) (fun e he=>(PL e he).2);rw [qc,show OT true=0 from rfl] at kw;have kn:=fun W (hW:aa [] w W)=>Qs W vd D (fun x=>decide (x<0)) 60 #[] (hD.fresh hW (fun g hg=>Α hg)) (fun _ _=>by kernel_rfl) (fun W e _ _=>VH e W);have Yx:=fun (hp:∀x,x∈D->0<=x) W (hW:aa [] w W)=>Si W N va vd E D (hE.upd hW) (hD.fresh hW (fun g hg=>Α hg)) hr ω PL (fun x hx=>⟨hp x hx,(hb x hx).2⟩);have kt:=fun W (hW:aa [] w W)=>Ja W N va vd E D (hE.upd hW) (hD.fresh hW (fun g hg=>Α hg)) qc ω hb
 have kr:=fun W (hW:aa [] w W) (h0:B.getD s 0=-1) (hd0:D.getD s 0=0) (hok:∀v,v<N->okV E s D B v)=>
  Jm W N va vb E B s (hE.upd hW) (hB.fresh hW (fun g hg=>Α hg)) qc hs lB (XL qc hs h0 hd0 lD hok).1 (XL qc hs h0 hd0 lD hok).2
 obtain ⟨a,cap,rfl,hcap⟩:=hE.shape;obtain ⟨ad,vW,rfl,_,_,hcd⟩:=hD;obtain ⟨ab,rQ,rfl,_,_,hcb⟩:=hB;have u0:aa [] w ((w.alloc (.cells #[.int .i64 (N:Int),.slice a E.length cap] 57)).alloc (.cells #[.slice ad D.length vW,.slice ab B.length rQ] 60)):=((aa.refl _ _).alloc _).alloc _;have HE:=χ hE;have HD:=χ hcd;have HB:=χ hcb;obtain ⟨gd,od,rfl,_,_,U7⟩:=hcd s (D.getD s 0) (getD_at ω);obtain ⟨gb,ob,rfl,_,_,cb'⟩:=hcb s (B.getD s 0) (getD_at ω);have HW:=χ (ψ qc (ψ hr (ψ hb PL)));have XG:=χ (show ∀h:yu N s E D B->False,(false=true↔yu N s E D B) from fun h=>⟨fun e=>(by cases e),fun e=>(h e).elim⟩)
 have hsI:(s:Int)<(N:Int):=ω;have hsn2:¬N<=s:=ω;have h1b:decide ((s:Int)≥(N:Int))=false:=ζ;have HL:=χ (ψ lD lB);rw [lD] at u0 kn Yx kt;rw [lB] at u0 kr;rw [lD,lB];have HKR:=χ kr;have HKT:=χ kt;clear hE qc hr hbd hcd hcb hb PL kr kt lD lB;generalize hx0:D.getD s 0=x0 at *;generalize hy0:B.getD s 0=y0 at *;have HX:=χ (ψ hx0 hy0);generalize hn:E.length=n at *;have HN:=χ hn;clear hx0 hy0 hn
 by_cases t1:x0=0
 ·have t1b:(x0 != 0)=false:=by simpa using t1
  by_cases t2:y0=-1
  ·have t2b:(y0 != -1)=false:=by simpa using t2
   cases t3:D.any (fun x=>decide (x<0)) with
   | true=>
    have HQ:=χ (XG.out (fun h=>by have:=h.pos;rw [t3] at this;cases this));rw [t3] at kn;clear t1 t2 t3 Yx
    go_enter Tryz.func37,Tryz.ntmps37
    go_wp2_with (first|((go_at_call 51;(with_reducible refine (kw _ u0).mono ?_));rintro e w1 ⟨rfl,hu1⟩;(have q0:w1.cell? ⟨w.heap.size,0,none⟩=some (.int .i64 (N:Int)):=hu1.was σ);(have q1:w1.cell? ⟨w.heap.size,1,none⟩=some (.slice a n cap):=hu1.was σ);(have q2:w1.cell? ⟨w.heap.size+1,0,none⟩=some (.slice (some ⟨gd,od,none⟩) N vW):=hu1.was σ);(have q3:w1.cell? ⟨w.heap.size+1,1,none⟩=some (.slice (some ⟨gb,ob,none⟩) N rQ):=hu1.was σ);(have p0:=(u0.trans hu1).was U7);(have p1:=(u0.trans hu1).was cb'))|((go_at_call 59;(with_reducible refine (kn _ (u0.trans hu1)).mono ?_));rintro e w2 ⟨rfl,hu2⟩;(have q4:=hu2.was q0);(have q5:=hu2.was q1);(have q6:=hu2.was q2);(have q7:=hu2.was q3))|fail)
    go_ret;exact ⟨_,rfl,HQ.out,(u0.trans hu1).trans hu2⟩
   | false=>
    have kf:=Yx ((DL D).1 t3);rw [t3] at kn;cases t4:CZ D E with
    | false=>
     have HQ:=χ (XG.out (fun h=>by have:=h.feas;rw [t4] at this;cases this));rw [t4] at kf;clear t1 t2 t3 t4 Yx
     go_enter Tryz.func37,Tryz.ntmps37
     go_wp2_with (first|((go_at_call 51;(with_reducible refine (kw _ u0).mono ?_));rintro e w1 ⟨rfl,hu1⟩;(have q0:w1.cell? ⟨w.heap.size,0,none⟩=some (.int .i64 (N:Int)):=hu1.was σ);(have q1:w1.cell? ⟨w.heap.size,1,none⟩=some (.slice a n cap):=hu1.was σ);(have q2:w1.cell? ⟨w.heap.size+1,0,none⟩=some (.slice (some ⟨gd,od,none⟩) N vW):=hu1.was σ);(have q3:w1.cell? ⟨w.heap.size+1,1,none⟩=some (.slice (some ⟨gb,ob,none⟩) N rQ):=hu1.was σ);(have p0:=(u0.trans hu1).was U7);(have p1:=(u0.trans hu1).was cb'))|((go_at_call 59;(with_reducible refine (kn _ (u0.trans hu1)).mono ?_));rintro e w2 ⟨rfl,hu2⟩;(have q4:=hu2.was q0);(have q5:=hu2.was q1);(have q6:=hu2.was q2);(have q7:=hu2.was q3))|((go_at_call 61;(with_reducible refine (kf _ ((u0.trans hu1).trans hu2)).mono ?_));rintro e w3 ⟨rfl,hu3⟩;(have q8:=hu3.was q4);(have q9:=hu3.was q5);(have qa:=hu3.was q6);(have qb:=hu3.was q7))|fail)
     go_ret;exact ⟨_,rfl,HQ.out,((u0.trans hu1).trans hu2).trans hu3⟩
    | true=>
     have HT:=χ (ψ t1 (ψ t2 (ψ t3 t4)));rw [t4] at kf;have hmk:=run_make_row' (P:=Tryz.prog) 40 4 (.bool false) 1 Tryz.underlying40 Sy rfl .i64 .i64 n ω ω;clear t1 t2 t3 t4 Yx
     go_enter Tryz.func37,Tryz.ntmps37
     go_upto_region 5 with (first|((go_at_call 51;(with_reducible refine (kw _ u0).mono ?_));rintro e w1 ⟨rfl,hu1⟩;(have q0:w1.cell? ⟨w.heap.size,0,none⟩=some (.int .i64 (N:Int)):=hu1.was σ);(have q1:w1.cell? ⟨w.heap.size,1,none⟩=some (.slice a n cap):=hu1.was σ);(have q2:w1.cell? ⟨w.heap.size+1,0,none⟩=some (.slice (some ⟨gd,od,none⟩) N vW):=hu1.was σ);(have q3:w1.cell? ⟨w.heap.size+1,1,none⟩=some (.slice (some ⟨gb,ob,none⟩) N rQ):=hu1.was σ);(have p0:=(u0.trans hu1).was U7);(have p1:=(u0.trans hu1).was cb'))|((go_at_call 59;(with_reducible refine (kn _ (u0.trans hu1)).mono ?_));rintro e w2 ⟨rfl,hu2⟩;(have q4:=hu2.was q0);(have q5:=hu2.was q1);(have q6:=hu2.was q2);(have q7:=hu2.was q3))|((go_at_call 61;(with_reducible refine (kf _ ((u0.trans hu1).trans hu2)).mono ?_));rintro e w3 ⟨rfl,hu3⟩;(have q8:=hu3.was q4);(have q9:=hu3.was q5);(have qa:=hu3.was q6);(have qb:=hu3.was q7))|fail)
     have hu:=((u0.trans hu1).trans hu2).trans hu3;have hsz3:w.heap.size+2<=w3.heap.size:=by have h1:=hu1.size;have h2:=hu2.size;have h3:=hu3.size;simp at h1;omega
     clear hu1 hu2 hu3 q0 q1 q2 q3 q4 q5 q6 q7 p0 p1 kn kf kw w1 w2 u0 U7 cb' t1b t2b;have hza:w.heap.size<w3.heap.size:=ω;have hzb:w.heap.size+1<w3.heap.size:=ω;have hbz:aa [] w3 (w3.alloc (.cells (madeCells #[.bool false] n) 4)):=(aa.refl _ _).alloc _;have hrow:=KQ w3 n;have kt:=HKT.out _ (hu.trans hbz);rw [Κ] at kt;have HU3:=χ hu;generalize htl:jP D E n=tl at *;have PO:=χ (show ∀x,x∈tl↔∃i:Nat,x=i/\i<n/\iB D (E.getD i default)=true from fun x=>by rw [←htl];exact KV);clear htl hu
     go_wp2_with (first
      | ((go_at_call 38;(with_reducible refine (kt).mono ?_));rintro e w4 ⟨v,rfl,fP,Ql⟩;(obtain ⟨a4,c4,rfl,hc4⟩:=aV Ql);(have hr4:=hrow.upd fP σ);(have q0:=(hbz.trans fP).was q8);(have q1:=(hbz.trans fP).was q9);(have q2:=(hbz.trans fP).was qa);(have q3:=(hbz.trans fP).was qb))
      | fail)
     have HU4:=χ ((HU3.out.trans hbz).trans fP);have hsl:fw w4 [w3.heap.size] (.slice a4 tl.length c4) tl:=fw.rH Ql σ;have hsz4:w3.heap.size<w4.heap.size:=by have:=fP.size;simp at this;omega
     have HSL:=χ hsl;have HQ4:=χ (ψ q0 (ψ q1 (ψ q2 q3)));have htll:tl.length<=9223372036854775807:=by have:=Ql.1;obtain ⟨_,_,_,h1,h2,_⟩:=hsl;omega
     clear hrow kt hmk Ql hsl q8 q9 qa qb fP hbz
     go_loopw [9,77] (fun _ i wr=>∃ (k:Nat) (tk:Nat->Bool),k<=tl.length/\i=.int .i64 (k:Int)/\aI wr w3.heap.size 4 n (fun j=>.bool (tk j))/\(∀j:Nat,tk j=true↔(j:Int)∈tl.take k)/\aa [w3.heap.size] w4 wr) (fun _ i _=>tl.length-(intOf i).toNat)
     case atStart=>exact ⟨0,fun _=>false,ω,rfl,hr4,fun j=>σ,aa.refl _ _⟩
     case round=>
      clear hr4 q0 q1 q2 q3;obtain ⟨k,tk,hk,rfl,hR,htk,hu⟩:=hrel;rename World=>wr
      by_cases hkn:k<tl.length
      ·have hx:=getD_at hkn;obtain ⟨i,hi,hin,_⟩:=(PO.out _).1 (Η hx);obtain ⟨_,_,he4,_,_,hcs⟩:=HSL.out;cases he4;obtain ⟨g4,o4,rfl,_,hne,Zx⟩:=hcs k _ hx;have c4:=hu.kept Zx hne;rw [hi] at c4;have XX:(i:Int)<(n:Int):=ω;have c7:=hR.cell i hin;have f7:=hR.free i;have hgl:=hR.lt;have hwr:IntKind.i64.wrap ((k:Int)+1)=(k:Int)+1:=Μ _ ω
       have HT:=χ (show ∀j:Nat,(if j=i then true else tk j)=true↔(j:Int)∈tl.take (k+1) from fun j=>by
        rw [ϐ,hx,hi,τ]
        by_cases hj:j=i
        ·simp [hj]
        ·rw [Γ hj,htk j];constructor
         ·intro h;exact Α h
         ·rintro (h|h)
          ·exact h
          ·simp at h;omega)
       have HR:=χ (show aI (wr.setCell ⟨w3.heap.size,i,none⟩ (.bool true)) w3.heap.size 4 n (fun j=>.bool (if j=i then true else tk j)) from (hR.set i (.bool true)).ext (fun j hj=>by by_cases e:j=i<;>simp [e]));have HU:=χ hu;clear Zx hne hcs hx hi hin htk hR hu;go_wp2
       go_roundw
       case rel=>exact ⟨k+1,_,ω,by go_num,HR.out,HT.out,HU.out.setCell (Α σ) _⟩
       case measure=>simp [intOf];omega
      ·obtain rfl:k=tl.length:=ω;have bP:aa [] w wr:=HU4.out.joined hu (fun x hx=>Β (by simp at hx;omega));have hsz5:w3.heap.size<wr.heap.size:=by have:=hu.size;omega
       have hTK:∀j:Nat,j<n->(tk j=iB D (E.getD j default)):=fun j hj=>by
        have h1:=htk j;rw [List.take_length,PO.out] at h1;cases hb:iB D (E.getD j default) with
        | true=>exact h1.2 ⟨j,rfl,hj,hb⟩
        | false=>
         cases ht:tk j with
         | false=>rfl
         | true=>
          obtain ⟨i,h2,h3,h4⟩:=h1.1 ht;obtain rfl:j=i:=ω;rw [hb] at h4;cases h4
       have HTK:=χ hTK;have HR:=χ hR;have JZ:=χ bP;have VB:Hid (wr.cell? ⟨w.heap.size,0,none⟩=some (.int .i64 (N:Int))/\wr.cell? ⟨w.heap.size,1,none⟩=some (.slice a n cap)/\wr.cell? ⟨w.heap.size+1,0,none⟩=some (.slice (some ⟨gd,od,none⟩) N vW)/\wr.cell? ⟨w.heap.size+1,1,none⟩=some (.slice (some ⟨gb,ob,none⟩) N rQ)):=
        χ ⟨hu.kept HQ4.out.1 ζ,hu.kept HQ4.out.2.1 ζ,hu.kept HQ4.out.2.2.1 ζ,hu.kept HQ4.out.2.2.2 ζ⟩
       have q3:=VB.out.2.2.2;clear hu bP hTK hR htk;go_wp2
       go_loopw [10,11,12,88] (fun _ _ _ i W=>∃v:Nat,v<=N/\i=.int .i64 (v:Int)/\(∀x,x<v->okV E s D B x)/\aa [] wr W) (fun _ _ _ i _=>N-(intOf i).toNat)
       case atStart=>exact ⟨0,ω,rfl,fun x hx=>ω,aa.refl _ _⟩
       case round=>
        clear q3;obtain ⟨v,hv,rfl,hok,hu⟩:=hrel;rename World=>W;have HOK:=χ hok;have HU:=χ hu;have PU:=χ (JZ.out.trans hu)
        by_cases nG:v<N
        ·have q0:=hu.was VB.out.1;have q1:=hu.was VB.out.2.1;have q2:=hu.was VB.out.2.2.1;have q3:=hu.was VB.out.2.2.2;obtain ⟨_,_,he1,_,_,U7⟩:=HD.out v (D.getD v 0) (getD_at (by have:=HL.out.1;omega));cases he1;obtain ⟨_,_,he2,_,_,cb'⟩:=HB.out v (B.getD v 0) (getD_at (by have:=HL.out.2;omega));cases he2;have cd:=PU.out.was U7;have cb:=PU.out.was cb';have hvI:(v:Int)<(N:Int):=ω;have hwr:IntKind.i64.wrap ((v:Int)+1)=(v:Int)+1:=Μ _ ω
         have HV:=χ (show okV E s D B v↔((v≠s/\D.getD v 0≠9223372036854775807)↔B.getD v 0≠-1)/\(v≠s/\D.getD v 0≠9223372036854775807->0<=B.getD v 0/\B.getD v 0<E.length/\iB D (E.getD (B.getD v 0).toNat default)=true/\(E.getD (B.getD v 0).toNat default).t=v) from Iff.rfl)
         have HGO:=χ (show okV E s D B v->∀x,x<v+1->okV E s D B x from fun h x hx=>by
          rcases (ω:x<v\/x=v) with h'|h'
          ·exact hok x h'
          ·rw [h'];exact h)
         have HBAD:=χ (show ¬okV E s D B v->(false=true↔yu N s E D B) from fun h=>XG.out (fun h'=>h (h'.ok v nG)));have hvs:((v:Int) != (s:Int))=decide (v≠s):=by
          rcases Nat.decEq v s with h|h
          ·rw [Ν h];simp;omega
          ·rw [Ξ (fun h'=>h' h)];simp;omega
         clear U7 cb' hok hu;generalize D.getD v 0=dv at *;generalize B.getD v 0=bv at *;clear q1
         by_cases e1:v=s
         ·rw [Ξ (fun h=>h e1)] at hvs
          by_cases e3:bv=-1
          ·have e3b:(bv != -1)=false:=by simpa using e3
           have HK:=χ (HGO.out (HV.out.2 ⟨⟨fun h=>absurd e1 h.1,fun h=>absurd e3 h⟩,fun h=>absurd e1 h.1⟩));clear e1 e3 q2;go_wp2
           go_roundw
           case rel=>exact ⟨v+1,ω,by go_num,HK.out,by have:=HU.out;exact β⟩
           case measure=>simp [intOf];omega
          ·have e3b:(bv != -1)=true:=by simpa using e3
           have HK:=χ (HBAD.out (fun h=>absurd e1 ((HV.out.1 h).1.2 e3).1));clear e1 e3 q2;go_wp2;go_ret;exact ⟨_,rfl,HK.out,by have:=PU.out;exact β⟩
         ·rw [Ν e1] at hvs
          by_cases e2:dv=9223372036854775807
          ·have e2b:(dv != 9223372036854775807)=false:=by simpa using e2
           by_cases e3:bv=-1
           ·have e3b:(bv != -1)=false:=by simpa using e3
            have HK:=χ (HGO.out (HV.out.2 ⟨⟨fun h=>absurd e2 h.2,fun h=>absurd e3 h⟩,fun h=>absurd e2 h.2⟩));clear e1 e2 e3;go_wp2
            go_roundw
            case rel=>exact ⟨v+1,ω,by go_num,HK.out,by have:=HU.out;exact β⟩
            case measure=>simp [intOf];omega
           ·have e3b:(bv != -1)=true:=by simpa using e3
            have HK:=χ (HBAD.out (fun h=>absurd e2 ((HV.out.1 h).1.2 e3).2));clear e1 e2 e3;go_wp2;go_ret;exact ⟨_,rfl,HK.out,by have:=PU.out;exact β⟩
          ·have e2b:(dv != 9223372036854775807)=true:=by simpa using e2
           by_cases e3:bv=-1
           ·have e3b:(bv != -1)=false:=by simpa using e3
            have HK:=χ (HBAD.out (fun h=>absurd e3 ((HV.out.1 h).1.1 ⟨e1,e2⟩)));clear e1 e2 e3;go_wp2;go_ret;exact ⟨_,rfl,HK.out,by have:=PU.out;exact β⟩
           ·have e3b:(bv != -1)=true:=by simpa using e3
            have HV2:=χ (show okV E s D B v↔0<=bv/\bv<E.length/\iB D (E.getD bv.toNat default)=true/\(E.getD bv.toNat default).t=v from ⟨fun h=>(HV.out.1 h).2 ⟨e1,e2⟩,fun h=>HV.out.2 ⟨⟨fun _=>e3,fun _=>⟨e1,e2⟩⟩,fun _=>h⟩⟩);clear e1 e2 e3
            by_cases e4:bv<0
            ·have e4b:decide (bv<0)=true:=by simpa using e4
             have HK:=χ (HBAD.out (fun h=>by have:=(HV2.out.1 h).1;omega));clear e4;go_wp2;go_ret;exact ⟨_,rfl,HK.out,by have:=PU.out;exact β⟩
            ·have e4b:decide (bv<0)=false:=by simpa using e4
             have q1:=HU.out.was VB.out.2.1
             by_cases e5:bv≥(n:Int)
             ·have e5b:decide (bv≥(n:Int))=true:=by simpa using e5
              have HK:=χ (HBAD.out (fun h=>by have:=(HV2.out.1 h).2.1;have:=HN.out;omega));clear e4 e5;go_wp2;go_ret;exact ⟨_,rfl,HK.out,by have:=PU.out;exact β⟩
             ·obtain ⟨i,rfl⟩:∃i:Nat,bv=i:=⟨bv.toNat,ω⟩;have hin:i<n:=ω;have hinI:(i:Int)<(n:Int):=ω;have hin2:¬n<=i:=ω;have Eh:i<E.length:=by rw [HN.out];exact hin
              have hx':E[i]?=some (E.getD i default):=by simp [φ,Eh]
              obtain ⟨ge,off,rfl,hg,_,c1,_⟩:=(HE.out.upd PU.out).at i Eh;have h1:=dM HW.out.2.1 (Η hx');have ct:=(HR.out.upd HU.out σ).cell i hin;have HTi:=χ (HTK.out i hin);have HV3:=χ (show okV E s D B v↔iB D (E.getD i default)=true/\(E.getD i default).t=v from by rw [HV2.out,show ((i:Int)).toNat=i by omega];exact ⟨fun h=>h.2.2,fun h=>⟨ω,ω,h⟩⟩);generalize E.getD i default=e at *;obtain ⟨ef,et,ew⟩:=e;dsimp only at c1 h1 ct;obtain ⟨t,rfl⟩:∃t:Nat,et=t:=⟨et.toNat,ω⟩;generalize tk i=ti at *;clear e4 e4b e5 hx' h1 hin;cases ti with
              | false=>
               have HK:=χ (HBAD.out (fun h=>by have:=(HV3.out.1 h).1;rw [←HTi.out] at this;cases this));go_wp2;go_ret;exact ⟨_,rfl,HK.out,by have:=PU.out;exact β⟩
              | true=>
               by_cases e6:t=v
               ·have e6b:((t:Int) != (v:Int))=false:=ζ;have HK:=χ (HGO.out (HV3.out.2 ⟨HTi.out.symm,by show ((t:Nat):Int)=v;omega⟩));clear e6;go_wp2
                go_roundw
                case rel=>exact ⟨v+1,ω,by go_num,HK.out,by have:=HU.out;exact β⟩
                case measure=>simp [intOf];omega
               ·have e6b:((t:Int) != (v:Int))=true:=ζ;have HK:=χ (HBAD.out (fun h=>by have h2:((t:Nat):Int)=v:=(HV3.out.1 h).2;omega));clear e6;go_wp2;go_ret;exact ⟨_,rfl,HK.out,by have:=PU.out;exact β⟩
        ·obtain rfl:v=N:=ω;have q0:=HU.out.was VB.out.1;have q1:=HU.out.was VB.out.2.1;have q3:=HU.out.was VB.out.2.2.2;have kr:=HKR.out _ PU.out HT.out.2.1 HT.out.1 HOK.out;have HP:=χ (show zU (eN E) (fun x=>B.getD x 0) s v↔yu v s E D B from ⟨fun h=>⟨HL.out.1,HL.out.2,HX.out.1.trans HT.out.1,HX.out.2.trans HT.out.2.1,HT.out.2.2.1,HT.out.2.2.2,HOK.out,h⟩,fun h=>h.root⟩);clear hu hok;generalize zU (eN E) (fun x=>B.getD x 0) s v=RT at *
         go_wp2_with (first
          | ((go_at_call 62;(with_reducible refine (kr).mono ?_));rintro e w6 ⟨b,rfl,hb6,gN⟩)
          | fail)
         go_ret;exact ⟨_,rfl,hb6.trans HP.out,PU.out.trans gN⟩
  ·have t2b:(y0 != -1)=true:=by simpa using t2
   have HQ:=χ (XG.out (fun h=>t2 (by rw [←HX.out.2];exact h.b0)));clear t1 t2 Yx
   go_enter Tryz.func37,Tryz.ntmps37
   go_wp2_with (first|((go_at_call 51;(with_reducible refine (kw _ u0).mono ?_));rintro e w1 ⟨rfl,hu1⟩;(have q0:w1.cell? ⟨w.heap.size,0,none⟩=some (.int .i64 (N:Int)):=hu1.was σ);(have q1:w1.cell? ⟨w.heap.size,1,none⟩=some (.slice a n cap):=hu1.was σ);(have q2:w1.cell? ⟨w.heap.size+1,0,none⟩=some (.slice (some ⟨gd,od,none⟩) N vW):=hu1.was σ);(have q3:w1.cell? ⟨w.heap.size+1,1,none⟩=some (.slice (some ⟨gb,ob,none⟩) N rQ):=hu1.was σ);(have p0:=(u0.trans hu1).was U7);(have p1:=(u0.trans hu1).was cb'))|fail)
   go_ret;exact ⟨_,rfl,HQ.out,u0.trans hu1⟩
 ·have t1b:(x0 != 0)=true:=by simpa using t1
  have HQ:=χ (XG.out (fun h=>t1 (by rw [←HX.out.1];exact h.d0)));clear t1 Yx
  go_enter Tryz.func37,Tryz.ntmps37
  go_wp2_with (first|((go_at_call 51;(with_reducible refine (kw _ u0).mono ?_));rintro e w1 ⟨rfl,hu1⟩;(have q0:w1.cell? ⟨w.heap.size,0,none⟩=some (.int .i64 (N:Int)):=hu1.was σ);(have q1:w1.cell? ⟨w.heap.size,1,none⟩=some (.slice a n cap):=hu1.was σ);(have q2:w1.cell? ⟨w.heap.size+1,0,none⟩=some (.slice (some ⟨gd,od,none⟩) N vW):=hu1.was σ);(have q3:w1.cell? ⟨w.heap.size+1,1,none⟩=some (.slice (some ⟨gb,ob,none⟩) N rQ):=hu1.was σ);(have p0:=(u0.trans hu1).was U7);(have p1:=(u0.trans hu1).was cb'))|fail)
  go_ret;exact ⟨_,rfl,HQ.out,u0.trans hu1⟩
def qE (N:Int) (n:Nat):Bool:=decide ((n:Int) > 60) || (decide (N > 40) && decide (N<=4096))
theorem OX (w:World) (N:Int) (a:Option Addr) (n cap:Nat):Calls Tryz.prog 36 #[.agg #[.int .i64 N,.slice a n cap]] w fun r w'=>r=.returned (.bool (qE N n))/\aa [] w w':=by
 unfold qE
 by_cases h1:(n:Int) > 60
 ·have h1b:decide ((n:Int) > 60)=true:=by simpa using h1
  go_enter Tryz.func36,Tryz.ntmps36
  go_wp2;go_ret;exact ⟨aO ι,β⟩
 ·have h1b:decide ((n:Int) > 60)=false:=by simpa using h1
  by_cases h2:N > 40
  ·have h2b:decide (N > 40)=true:=by simpa using h2
   go_enter Tryz.func36,Tryz.ntmps36
   go_wp2;go_ret;exact ⟨aO ι,β⟩
  ·have h2b:decide (N > 40)=false:=by simpa using h2
   go_enter Tryz.func36,Tryz.ntmps36
   go_wp2;go_ret;exact ⟨aO ι,β⟩
theorem qK {Q:Prop} {b:Bool} {w w':World} {r:Ending} (h:Lv Q w r w') (hb:b=true↔Q):r=.returned (.bool b)/\aa [] w w':=by
 obtain ⟨c,rfl,hc,hu⟩:=h;have:c=b:=by
  have h2:=hc.trans hb.symm;cases c<;>cases b<;>simp_all
 exact ⟨by rw [this],hu⟩
theorem sQ {N:Int} {E:List Ed} {src:Int} {D B:List Int} (n s:Nat) (hn:N=n) (hs:src=s) (hw:bD N E=true) (hsn:s<n) (hb:∀x,x∈D->x<=9223372036854775807):yu n s E D B↔yK N E src D B:=by
 subst hn hs;rw [Uu hw hsn hb];exact ⟨fun h=>⟨hw,ω,ω,h⟩,fun h=>h.2.2.2⟩
theorem qz (w:World) (N:Int) (va vd vb:Value) (E:List Ed) (D B:List Int) (src:Int) (hE:vZ w va E) (hwb:∀e,e∈E->e.w<=9223372036854775807) (hD:fw w [] vd D) (hB:fw w [] vb B)
  (hb:∀x,x∈D->-9223372036854775808<=x/\x<=9223372036854775807) :
  Calls Tryz.prog 37 #[.agg #[.int .i64 N,va],.int .i64 src,.agg #[vd,vb]] w (Lv (yK N E src D B) w):=by
 by_cases h:bD N E=false\/src<0\/N<=src\/(D.length:Int)≠N\/(B.length:Int)≠N
 ·refine (NY w N va vd vb E D B src hE hwb hD hB h).mono fun r w' ⟨h1,h2⟩=>⟨false,h1,⟨fun e=>(by cases e),fun e=>?_⟩,h2⟩
  obtain ⟨e1,e2,e3,e4,e5,_⟩:=e;rcases h with h|h|h|h|h
  ·rw [h] at e1;cases e1
  ·omega
  ·omega
  ·omega
  ·omega
 ·have hw:bD N E=true:=by
   cases hw:bD N E with
   | true=>rfl
   | false=>exact absurd (Α hw) h
  obtain ⟨n,hn⟩:∃n:Nat,N=n:=⟨N.toNat,ω⟩;obtain ⟨s,hs⟩:∃s:Nat,src=s:=⟨src.toNat,ω⟩;have hsn:s<n:=ω;have hP:=sQ (B:=B) n s hn hs hw hsn (fun x hx=>(hb x hx).2);subst hn hs;refine (Ji w n s va vd vb E D B hE hw hsn hD hB ω ω hb).mono fun r w' ⟨b,h1,h2,h3⟩=>⟨b,h1,h2.trans hP,h3⟩
def exE:List Ed:=[⟨0,1,5⟩]
theorem YR:yK 2 exE 0 [0,5] [-1,0]:=by
 refine (sQ 2 0 rfl rfl (by decide +kernel) δ δ).1 ?_;refine ⟨rfl,rfl,rfl,rfl,by decide +kernel,by decide +kernel,?_,?_⟩
 ·intro v hv;rcases (ω:v=0\/v=1) with rfl|rfl
  ·unfold okV;decide +kernel
  ·unfold okV;decide +kernel
 ·intro v hv hb;rcases (ω:v=0\/v=1) with rfl|rfl
  ·exact ⟨0,rfl⟩
  ·exact ⟨1,by decide +kernel⟩
theorem abk:¬yK 2 exE 0 [0,6] [-1,0]:=by
 intro h;have h2:=(sQ 2 0 rfl rfl (by decide +kernel) δ δ).2 h;have h3:=h2.ok 1 ω
 revert h3
 unfold okV;decide +kernel
theorem V5 {W:World} {g:Nat} {x y:Int} (h0:W.cell? ⟨g,0,none⟩=some (.int .i64 x)) (h1:W.cell? ⟨g,1,none⟩=some (.int .i64 y)):fw W [] (.slice (some ⟨g,0,none⟩) 2 2) [x,y]:=by
 refine ⟨some ⟨g,0,none⟩,2,rfl,σ,ω,fun j u hj=>⟨g,0,rfl,Ε W _ h0,σ,?_⟩⟩
 match j,hj with
 | 0,hj=>simp at hj;subst hj;exact h0
 | 1,hj=>simp at hj;subst hj;exact h1
 | j+2,hj=>simp at hj
theorem sle1 {W:World} {g:Nat} {x y z:Int} (h0:W.cell? ⟨g,0,none⟩=some (.int .i64 x)) (h1:W.cell? ⟨g,1,none⟩=some (.int .i64 y)) (h2:W.cell? ⟨g,2,none⟩=some (.int .i64 z)):vZ W (.slice (some ⟨g,0,none⟩) 1 1) [⟨x,y,z⟩]:=by
 refine ⟨some ⟨g,0,none⟩,1,rfl,ω,σ,fun j u hj=>⟨g,0,rfl,Ε W _ h0,?_⟩⟩
 match j,hj with
 | 0,hj=>simp at hj;subst hj;exact ⟨h0,h1,h2⟩
 | j+1,hj=>simp at hj
theorem ex1 {W:World} {va vd vb:Value} (hE:vZ W va exE) (hD:fw W [] vd [0,5]) (hB:fw W [] vb [-1,0]) :
  Calls Tryz.prog 37 #[.agg #[.int .i64 2,va],.int .i64 0,.agg #[vd,vb]] W fun r w'=>r=.returned (.bool true)/\aa [] W w':=
 (qz W 2 va vd vb exE [0,5] [-1,0] 0 hE δ hD hB δ).mono fun r w' h=>qK h ⟨fun _=>YR,fun _=>rfl⟩
theorem ex2 {W:World} {va vd vb:Value} (hE:vZ W va exE) (hD:fw W [] vd [0,6]) (hB:fw W [] vb [-1,0]) :
  Calls Tryz.prog 37 #[.agg #[.int .i64 2,va],.int .i64 0,.agg #[vd,vb]] W fun r w'=>r=.returned (.bool false)/\aa [] W w':=
 (qz W 2 va vd vb exE [0,6] [-1,0] 0 hE δ hD hB δ).mono fun r w' h=>qK h ⟨fun e=>(by cases e),fun e=>(abk e).elim⟩
theorem zg (w:World):Calls Tryz.prog 35 #[] w fun r w'=>r=.returned (.bool true)/\aa [] w w':=by
 go_enter Tryz.func35,Tryz.ntmps35
 go_wp2_with (first
  | ((go_at_call 37;(with_reducible refine (ex1 (vd:=.slice (some ⟨w.heap.size+1+1,0,none⟩) 2 2) (sle1 γ γ γ) (V5 γ γ) (V5 γ γ)).mono ?_));rintro e w1 ⟨rfl,hu1⟩;(have q0:w1.cell? ⟨w.heap.size,0,none⟩=some (.int .i64 0):=hu1.was γ);(have q1:w1.cell? ⟨w.heap.size,1,none⟩=some (.int .i64 1):=hu1.was γ);(have q2:w1.cell? ⟨w.heap.size,2,none⟩=some (.int .i64 5):=hu1.was γ);(have q3:w1.cell? ⟨w.heap.size+1,0,none⟩=some (.int .i64 2):=hu1.was γ);(have q4:w1.cell? ⟨w.heap.size+1,1,none⟩=some (.slice (some ⟨w.heap.size,0,none⟩) 1 1):=hu1.was γ);(have hz1:w.heap.size<w1.heap.size:=Ε w1 _ q0);(have hz2:w.heap.size+1<w1.heap.size:=Ε w1 _ q3))
  | ((go_at_call 37;(with_reducible refine (ex2 (sle1 γ γ γ) (V5 γ γ) (V5 γ γ)).mono ?_));rintro e w2 ⟨rfl,hu2⟩)
  | fail)
 go_ret;exact ⟨rfl,by have h1:aa [] w w1:=aa.trans β hu1;exact h1.trans (aa.trans β hu2)⟩
end Go.Proofs.YtklibcncmbofpaaGreat
