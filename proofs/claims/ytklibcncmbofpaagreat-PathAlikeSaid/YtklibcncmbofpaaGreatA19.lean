/-
  Lemmas for PathAlike: Pst, Pbg, Pst2, Lev, FrI, Frm, FrE, PrG. Conditions: those of each lemma.
-/
import Derived.Test.YtklibcncmbofpaaGreatA18
set_option linter.all false
set_option maxHeartbeats 8000000
set_option maxRecDepth 10000
namespace Go.Proofs.YtklibcncmbofpaaGreat
open Go Go.RowKit
def uu (n:Nat) (b:Nat->Int):List Int:=(List.range n).map b
theorem Iq (n:Nat) (b:Nat->Int):(uu n b).length=n:=by unfold uu;simp
theorem E9 {n:Nat} {b:Nat->Int} {v:Nat} (hv:v<n):(uu n b).getD v 0=b v:=by unfold uu;simp [φ,hv]
theorem AQ {n:Nat} {b:Nat->Int} {x:Nat} {y:Int}:(uu n b).set x y=uu n (fun u=>if u=x then y else b u):=by
 apply List.ext_getElem?;intro j;unfold uu;rw [ύ]
 by_cases h:x=j
 ·subst h
  by_cases hx:x<n
  ·simp [hx]
  ·simp [hx]
 ·simp [h]
  by_cases hj:j<n
  ·simp [hj];intro e;exact absurd e.symm h
  ·simp [hj]
def St (K:gD) (X:sj) (kd dd:Int) (E:List Ed) (s N m:Nat) (w:World) (F:List Nat) (d:Nat->Nat) (bt:Nat->Int) (S:List Nat) (W Rl:Nat->Prop):Prop:=
 ∃R A q c hc f sl,qa K w X F kd dd N (xD N d) (uu N bt) hc c f R A q/\DJ (eN E) s N m d bt S W Rl/\DS N d W R A q c hc f sl
theorem Sg (E:List Ed) (i:Nat) (hi:i<E.length):iZ (eN E) i=toN (E.getD i default):=by
 unfold iZ eN;simp [φ,hi]
section
variable {K:gD} {X:sj} {kd dd:Int} {E:List Ed} {s N m:Nat} {w:World} {F:List Nat} {d:Nat->Nat} {bt:Nat->Int} {S:List Nat} {W Rl:Nat->Prop}
theorem Jv (g:EW (eN E) s N m) (hN:N<=65536) (hE:E.length<=65536) {v:Nat} (h:St K X kd dd E s N m w F d bt (v::S) W Rl) {i t x:Nat} (hi:i<E.length) (he:iZ (eN E) i=⟨v,t,x⟩) :
  Calls Tryz.prog 54 #[.pointer (some ⟨X.b,0,none⟩),.int .i64 (t:Int),.int .i64 ((d v:Int)+(x:Int)),.int .i64 (i:Int)] w fun e w'=>e=.returned (.tuple #[])/\∃F' d' bt' W',St K X kd dd E s N m w' F' d' bt' (v::S) W' (fun j=>Rl j\/j=i)/\d' v=d v/\aa (X.own++F) w w'/\∀z,z∈F'->z∈F\/w.heap.size<=z:=by
 obtain ⟨R,A,q,c,hc,f,sl,hM,hJ,hS⟩:=h;have hi':i<(eN E).length:=by rw [DK];exact hi
 have hmem:=Es hi';have hge:=g.e _ hmem;rw [he] at hge;obtain ⟨pE,TR,hxm⟩:=hge;have hvd:d v≠inf:=(hJ.rc v pE).2 (Α σ);have hsum:=hJ.rx.sum g.nm (e:=⟨v,t,x⟩) pE hxm hvd;have hlet:=hJ.rx.le t;have Y0:(xD N d).getD t 0=((d t:Nat):Int):=Fs TR;have hef:(iZ (eN E) i).f=v:=by rw [he]
 have het:(iZ (eN E) i).t=t:=by rw [he]
 have hew:(iZ (eN E) i).w=x:=by rw [he]
 have hmx:(inf:Nat)=9223372036854775807:=rfl;have hcast:((d v:Int)+(x:Int))=((d v+x:Nat):Int):=ω;dsimp only at hsum
 by_cases hlt:d v+x<d t
 ·have hdj:=Yw g hJ hi' hef (by rw [hew,het];exact hlt);rw [het,hew] at hdj;have Z7:t∉v::S:=fun hm=>by have:=hJ.top t v S rfl hm;omega
  have hdv:bW d t (d v+x) v=d v:=by unfold bW;rw [Γ (fun e=>Z7 (by rw [←e];simp))]
  by_cases hti:d t=inf
  ·obtain ⟨R',hT,hg0,hS'⟩:=hS.new TR hti (x':=d v+x) ω ω;have hq:=hS.qn;have hq2:=hS.next;have hq3:=EB d N;have hcn:=hS.cn;have key:=CR hM t TR ((d v:Int)+(x:Int)) (i:Int) (by rw [Y0,hti];rfl) ω ω hS.has ω hN ω hT;refine key.mono fun e w' ⟨h1,F',h2,h3,h4⟩=>⟨h1,F',bW d t (d v+x),(fun u=>if u=t then (i:Int) else bt u),(fun u=>W u\/u=t),?_,hdv,h3,h4⟩
   rw [hcast,zu,AQ] at h2;exact ⟨_,_,_,_,_,_,_,h2,hdj,hS'⟩
  ·have hWt:W t:=by
    rcases (hJ.rc t TR).1 hti with e|e
    ·exact absurd e Z7
    ·exact e
   obtain ⟨a1,a2,a3,a4,a5⟩:=hS.wt t hWt;obtain ⟨b1,b2,b3,b4,b5⟩:=hS.U7 t TR hti;have hS':=hS.low hWt (x':=d v+x) ω hlet ω;have key:=O4 hM t (sl t) TR ((d v:Int)+(x:Int)) (i:Int) (by rw [Y0];omega) (by rw [Y0];omega) ω b3 (by rw [b4,b5];rfl) a3 (by rw [Y0];exact a5);refine key.mono fun e w' ⟨h1,F',h2,h3,h4⟩=>⟨h1,F',bW d t (d v+x),(fun u=>if u=t then (i:Int) else bt u),(fun u=>W u\/u=t),?_,hdv,h3,h4⟩
   rw [hcast,zu,AQ] at h2;exact ⟨_,_,_,_,_,_,_,h2,hdj,hS'⟩
 ·have hdj:=UY hJ hef (by rw [hew,het];exact hlt);have key:=Sm hM t TR ((d v:Int)+(x:Int)) (i:Int) (by rw [Y0];omega);refine key.mono fun e w' ⟨h1,h2⟩=>⟨h1,F,d,bt,W,⟨R,A,q,c,hc,f,sl,hM.aj h2,hdj,hS⟩,rfl,h2.mono σ,fun z hz=>Α hz⟩
end
end Go.Proofs.YtklibcncmbofpaaGreat
namespace Go.Proofs.YtklibcncmbofpaaGreat
open Go Go.RowKit Go.Maps
theorem UO:(Tryz.prog.info? 85).map (fun i=>(i.zero,i.size,i.bytes))=some (some (.agg #[.int .i64 0,.int .u32 0]),2,16):=by kernel_rfl
def srV (vd vb:Value) (p gh mb N:Nat) (j:Nat):Value:=[vd,vb,Value.pointer (some ⟨p,0,none⟩),.slice (some ⟨gh,0,none⟩) N N,.map (some mb)].getD j undef
structure VX (w:World) (b p gh mb N k k2:Nat) (vd vb:Value):Prop where
 head:aK w b 109 5 (srV vd vb p gh mb N)
 od:w.ownsRow (b+1) 2 1 vd k (aP (List.replicate k 9223372036854775807))
 ob:w.ownsRow (b+1) 3 1 vb k2 (aP (List.replicate k2 (-1)))
 ne:∀g,vd.ownBlock=some g->vb.ownBlock≠some g
theorem VX.putD {w w4:World} {b p gh mb N k k2:Nat} {vd vb v4:Value} (h:VX w b p gh mb N k k2 vd vb) (ho:w4.ownsRow (b+1) 2 1 v4 (k+1) (aP (List.replicate (k+1) 9223372036854775807))) (hu:aa vd.ownBlock.toList w w4)
  (hv:v4.ownBlock=vd.ownBlock\/∀g,v4.ownBlock=some g->w.heap.size<g):VX (w4.setCell ⟨b,0,none⟩ v4) b p gh mb N (k+1) k2 v4 vb:=by
 have hb:b∉vd.ownBlock.toList:=fun e=>by have:=(h.od.lt b (by simpa using e)).1;omega
 have hU:aa [b] w4 (w4.setCell ⟨b,0,none⟩ v4):=(aa.refl _ _).setCell (Α σ) _;refine ⟨((h.head.upd hu hb).set 0 v4).ext (fun j hj=>?_),ay ho hU (fun g hg e=>by simp at e;subst e;have:=(ho.lt _ hg).1;omega),ay (ay h.ob hu (fun g hg e=>h.ne g (by simpa using e) hg)) hU (fun g hg e=>by simp at e;subst e;have:=(h.ob.lt _ hg).1;omega),fun g hg hg2=>?_⟩
 ·rcases (ω:j=0\/j=1\/j=2\/j=3\/j=4) with rfl|rfl|rfl|rfl|rfl<;>simp [srV]
 ·rcases hv with e|e
  ·exact h.ne g (by rw [←e];exact hg) hg2
  ·have h1:=e g hg;have h2:=(h.ob.lt g hg2).2;omega
theorem VX.nR {w w4:World} {b p gh mb N k k2:Nat} {vd vb v4:Value} (h:VX w b p gh mb N k k2 vd vb) (ho:w4.ownsRow (b+1) 3 1 v4 (k2+1) (aP (List.replicate (k2+1) (-1)))) (hu:aa vb.ownBlock.toList w w4)
  (hv:v4.ownBlock=vb.ownBlock\/∀g,v4.ownBlock=some g->w.heap.size<g):VX (w4.setCell ⟨b,1,none⟩ v4) b p gh mb N k (k2+1) vd v4:=by
 have hb:b∉vb.ownBlock.toList:=fun e=>by have:=(h.ob.lt b (by simpa using e)).1;omega
 have hU:aa [b] w4 (w4.setCell ⟨b,1,none⟩ v4):=(aa.refl _ _).setCell (Α σ) _;refine ⟨((h.head.upd hu hb).set 1 v4).ext (fun j hj=>?_),ay (ay h.od hu (fun g hg e=>h.ne g hg (by simpa using e))) hU (fun g hg e=>by simp at e;subst e;have:=(h.od.lt _ hg).1;omega),ay ho hU (fun g hg e=>by simp at e;subst e;have:=(ho.lt _ hg).1;omega),fun g hg hg2=>?_⟩
 ·rcases (ω:j=0\/j=1\/j=2\/j=3\/j=4) with rfl|rfl|rfl|rfl|rfl<;>simp [srV]
 ·rcases hv with e|e
  ·exact h.ne g hg (by rw [←e];exact hg2)
  ·have h1:=e g hg2;have h2:=(h.od.lt g hg).2;omega
theorem reps (k:Nat) (x:Int):aP (List.replicate (k+1) x)=aP (List.replicate k x)++[.int .i64 x]:=by
 rw [List.replicate_succ',bP];rfl
theorem O6 {K:gD} {kd dd:Int} (N:Nat) (w:World) (hN:1<=N) (R9:N<=4096) (hc:qX kd dd=0) (ko:om K kd dd N) :
  Calls Tryz.prog 52 #[.agg #[.int .i64 kd,.int .i64 dd],.int .i64 (N:Int)] w fun e w'=>∃X F hv,e=.returned (.tuple #[.pointer (some ⟨X.b,0,none⟩),.int .i64 0])/\qa K w' X F kd dd N (List.replicate N 9223372036854775807) (List.replicate N (-1)) hv 0 (fun _ _=>none) (AR.new N 1) (aN (NS.new N)) 0/\aa [] w w'/\(∀x,x∈X.own->w.heap.size<=x)/\∀x,x∈F->w.heap.size<=x:=by
 have kp:=fun W=>OT (K:=K) N 1 W ω ω hc ko;simp only [show ((1:Nat):Int)=1 from rfl] at kp;have hmm:=@run_makeMap Tryz.prog;have hmv:cu (NS.new N)=1:=by unfold cu NS.new;simp
 go_enter Tryz.func52,Tryz.ntmps52
 go_upto_region 7 with (first
  | ((go_at_call 64;(with_reducible refine (kp _).mono ?_));rintro e w1 ⟨p,F,rfl,hP,hu1,hf1⟩;(have kh:=Dm hP);(rw [hmv,Γ ω] at kh))
  | ((go_at_call 65;(with_reducible refine (kh).mono ?_));rintro e w2 ⟨rfl,F2,hP2,hu2,hf2⟩)
  | (at_make;refine wpList_make_row rfl _ 107 rfl 85 (.agg #[.int .i64 0,.int .u32 0]) 2 16 Tryz.underlying107 UO N rfl ω μ ?_;intro w3 hr3 hu3)
  | fail)
 have hh:=dJ (w3.alloc (.map #[] 0)) [.slice none 0 0,.slice none 0 0,.pointer (some ⟨p,0,none⟩),.slice (some ⟨w2.heap.size,0,none⟩) N N,.map (some w3.heap.size)] 109;rw [Κ] at hh;refine iV (fun W=>VX W (w3.heap.size+1) p w2.heap.size w3.heap.size N 0 0 (.slice none 0 0) (.slice none 0 0)/\nT W w3.heap.size 0 (fun _ _=>none)/\aa [] w3 W/\W.heap.size=w3.heap.size+1+1)
  ⟨⟨hh.ext (fun j hj=>rfl),World.ownsRow_nil _ _ _ _,World.ownsRow_nil _ _ _ _,fun g hg=>by cases hg⟩,(nT.made w3).upd (S:=[]) ((aa.refl _ _).alloc _) σ,β,σ⟩ ?_
 rintro W0 ⟨hG0,hM0,hU0,hb0⟩;clear hh hmm kp kh;generalize hbb:w3.heap.size+1=b at *;have HBB:=χ hbb;clear hbb
 go_loopw [27] (fun i wr=>∃ (k:Nat) (vd vb:Value),k<=N/\i=.int .i64 (k:Int)/\VX wr b p w2.heap.size w3.heap.size N k k vd vb/\aa [b] W0 wr) (fun i _=>N-(intOf i).toNat)
 case atStart=>exact ⟨0,_,_,ω,rfl,hG0,aa.refl _ _⟩
 case round=>
  clear hG0;obtain ⟨k,vd,vb,hk,rfl,hG,hu⟩:=hrel;rename World=>wr
  by_cases hkN:k<N
  ·have hwr:IntKind.i64.wrap ((k:Int)+1)=(k:Int)+1:=Μ _ ω;obtain ⟨ad,cd,rfl,hcd⟩:=aY hG.od;have z0:wr.cell? ⟨b,0,none⟩=some (.slice ad k cd):=hG.head.cellAt 0 ω rfl;have f0:=hG.head.free 0;have hod:=hG.od;have hbl:=hG.head.lt;have HG:=χ (ψ hG hu);clear hG hu
   go_upto_region 9 with (first
    | ((at_builtin;refine aV rfl _ _ 24 rfl (b+1) 2 (.int .i64 0) 1 8 Tryz.underlying24 VC rfl δ _ _ _ rfl (hod) [.int .i64 (9223372036854775807:Int)] rfl (by simp [Value.oneCell']) (by first|rfl|(rw [Κ];rfl)) μ ω (ω) ?_;intro v4 w4 ZQ fZ Wz);(have hb4:b∉(Value.slice ad k cd).ownBlock.toList:=fun e=>by have:=(hod.lt b (by simpa using e)).1;omega);(have z4:=fZ.kept z0 hb4);(have f4:=fZ.aH z0 hb4 f0);(obtain ⟨a4,c4,rfl,hc4⟩:=aY ZQ))
    | fail)
   have hG1:=HG.out.1.putD (by rw [reps];exact ZQ) fZ Wz;have V6:aa [b] W0 (w4.setCell ⟨b,0,none⟩ (.slice a4 (k+1) c4)):=(HG.out.2.joined fZ (fun g hg=>Β (by have:=(hod.lt g (Option.mem_toList.1 hg)).1;omega))).setCell (Α σ) _;refine iV (fun W=>VX W b p w2.heap.size w3.heap.size N (k+1) k (.slice a4 (k+1) c4) vb/\aa [b] W0 W) ⟨hG1,V6⟩ ?_;clear hG1 V6 z4 f4 hb4 ZQ fZ Wz HG hod z0 f0 hbl;rintro W1 ⟨hG,hu⟩;obtain ⟨ab,cb,rfl,hcb⟩:=aY hG.ob;have z1:W1.cell? ⟨b,1,none⟩=some (.slice ab k cb):=hG.head.cellAt 1 ω rfl;have f1:=hG.head.free 1;have Bb:=hG.ob;have hbl:=hG.head.lt;have HG:=χ (ψ hG hu)
   clear hG hu
   go_wp2_with (first
    | ((at_builtin;refine aV rfl _ _ 26 rfl (b+1) 3 (.int .i64 0) 1 8 Tryz.underlying26 fE rfl δ _ _ _ rfl (Bb) [.int .i64 (-1:Int)] rfl (by simp [Value.oneCell']) (by first|rfl|(rw [Κ];rfl)) μ ω (ω) ?_;intro v5 w5 Zi bK aby);(have hb5:b∉(Value.slice ab k cb).ownBlock.toList:=fun e=>by have:=(Bb.lt b (by simpa using e)).1;omega);(have z5:=bK.kept z1 hb5);(have f5:=bK.aH z1 hb5 f1);(obtain ⟨a5,c5,rfl,hc5⟩:=aY Zi))
    | fail)
   have hG2:=HG.out.1.nR (by rw [reps];exact Zi) bK aby;have EA:aa [b] W0 (w5.setCell ⟨b,1,none⟩ (.slice a5 (k+1) c5)):=(HG.out.2.joined bK (fun g hg=>Β (by have:=(Bb.lt g (Option.mem_toList.1 hg)).1;omega))).setCell (Α σ) _;exact ⟨⟨k+1,_,_,ω,by go_num,hG2,EA⟩,by simp [intOf];omega⟩
  ·obtain rfl:k=N:=ω;obtain ⟨gd,cd,rfl,hID,hgd,hld⟩:=IE.gW hG.od hN;obtain ⟨gb,cb,rfl,hIB,hgb,hlb⟩:=IE.gW hG.ob hN;have HG:=χ (ψ hG (ψ hID hIB));have HU:=χ hu;clear hG hu hID hIB;go_wp2;go_ret2;obtain ⟨hG,hID,hIB⟩:=HG.out;have hu:=HU.out;have l1:=hr3.lt;have hF2:=hP2.lt;have s3:=hu3.size;have s2:=hu2.size;have s1:=hu1.size;rw [Κ] at s1;have hb':=HBB.out;have hneq:gd≠gb:=fun e=>hG.ne gd rfl (by rw [e];rfl);have uH:b∉F2:=fun e=>by have:=hF2 _ e;omega
   have hw1:aa [] w _:=aa.trans β hu1;have hw2:aa [] w w2:=hw1.joined hu2 (fun x hx=>Β (by have:=hf1 x hx;simp at this;omega));have hw3:aa [] w W0:=(hw2.trans hu3).trans hU0;have hPr:=((hP2.aj hu3).aj hU0).upd hu (fun x hx=>by simp at hx;subst hx;exact uH);refine ⟨⟨b,p,gd,cd,gb,cb,w2.heap.size,w3.heap.size⟩,F2,_,rfl,⟨hG.head.ext (fun j hj=>rfl),hID,hIB,(hr3.upd hU0 σ).upd hu ζ,hM0.upd hu ζ,hPr,σ,σ,?_,fun x hx hm=>?_⟩,hw3.joined hu (fun x hx=>Β (by simp at hx;subst hx;omega)),fun x hx=>?_,fun x hx=>?_⟩
   ·simp only [sj.own,Ζ,ρ,ς,or_false,not_or,Ϡ,and_true,not_false_eq_true];refine ⟨⟨?_,?_,?_,?_⟩,⟨hneq,?_,?_⟩,⟨?_,?_⟩,?_⟩<;>omega
   ·have:=hF2 x hm;simp only [sj.own,ρ,ς,or_false] at hx;omega
   ·simp only [sj.own,ρ,ς,or_false] at hx;omega
   ·rcases hf2 x hx with e|e
    ·have:=hf1 x e;simp at this;omega
    ·omega
end Go.Proofs.YtklibcncmbofpaaGreat
namespace Go.Proofs.YtklibcncmbofpaaGreat
open Go Go.RowKit
theorem iC.off {w:World} {T:List Nat} {g n c:Nat} {xs:List Int} (h:iC w [] (.slice (some ⟨g,0,none⟩) n c) xs) (hg:g∉T):iC w T (.slice (some ⟨g,0,none⟩) n c) xs:=by
 obtain ⟨a,cap,he,h1,h2,h3⟩:=h;refine ⟨a,cap,he,h1,h2,fun j u hj=>?_⟩;obtain ⟨g',off,rfl,a1,a2,a3⟩:=h3 j u hj;cases he;exact ⟨_,_,rfl,a1,hg,a3⟩
theorem Oz (n:Nat):cntF (fun _=>inf) n=0:=by
 induction n with
 | zero=>rfl
 | succ n ih=>rw [lH,ih];simp
theorem Su (n:Nat):xD n (fun _=>inf)=List.replicate n 9223372036854775807:=by
 apply List.ext_getElem?;intro j;unfold xD
 by_cases hj:j<n
 ·simp [hj,inf]
 ·simp [hj]
theorem Ws (n:Nat):uu n (fun _=>-1)=List.replicate n (-1):=by
 apply List.ext_getElem?;intro j;unfold uu
 by_cases hj:j<n
 ·simp [hj]
 ·simp [hj]
section
variable {K:gD} {X:sj} {kd dd:Int} {E:List Ed} {s N m:Nat} {w:World} {F:List Nat}
theorem Vu (hN:N<=65536) (hc:Nat->Value):DS N (fun _=>inf) (fun _=>False) (AR.new N 1) (aN (NS.new N)) 0 0 hc (fun _ _=>none) (fun _=>0):=by
 refine ⟨AR.zB hN ω,Hu (NS.zB N hN),by rw [BX];simp [NS.new],by simp [AR.new],fun x=>by rw [Il,PD,RZ],?_,rfl,rfl,by rw [Oz];rfl,rfl,rfl,fun v hv hd=>absurd rfl hd,fun v hv=>hv.elim,fun x hx=>by rw [PD] at hx;cases hx⟩;unfold aN NS.new bD;simp
theorem zy (g:EW (eN E) s N m) (hN:N<=65536) {hv:Nat->Value} (h:qa K w X F kd dd N (List.replicate N 9223372036854775807) (List.replicate N (-1)) hv 0 (fun _ _=>none) (AR.new N 1) (aN (NS.new N)) 0) :
  Calls Tryz.prog 54 #[.pointer (some ⟨X.b,0,none⟩),.int .i64 (s:Int),.int .i64 0,.int .i64 (-1)] w fun e w'=>e=.returned (.tuple #[])/\∃F',St K X kd dd E s N m w' F' (d0 s) (fun _=>-1) [] (fun v=>v=s) (fun _=>True)/\aa (X.own++F) w w'/\∀z,z∈F'->z∈F\/w.heap.size<=z:=by
 have Zu:=g.src;have hS:=Vu hN hv;obtain ⟨R',hT,hg0,hS'⟩:=hS.new Zu rfl (x':=0) δ δ;have hd0:bW (fun _=>inf) s 0=d0 s:=rfl;have hW:(fun u=>False\/u=s)=(fun u=>u=s):=funext fun u=>propext ⟨fun e=>e.elim (fun e=>e.elim) id,Β⟩;have Y0:(List.replicate N (9223372036854775807:Int)).getD s 0=9223372036854775807:=by simp [φ,Zu]
 have key:=CR h s Zu 0 (-1) Y0 ω ω hS.has ω hN ω hT;refine key.mono fun e w' ⟨h1,F',h2,h3,h4⟩=>⟨h1,F',?_,h3,h4⟩
 rw [←Su,←Ws,show (0:Int)=((0:Nat):Int) from rfl,zu,AQ,hd0] at h2;rw [hd0,hW] at hS';have hb:(fun u=>if u=s then (-1:Int) else (fun _=>(-1:Int)) u)=fun _=>-1:=funext fun u=>by dsimp only;split<;>rfl
 rw [hb] at h2;exact ⟨_,_,_,_,_,_,_,h2,Wl Zu,hS'⟩
variable {d:Nat->Nat} {bt:Nat->Int} {S:List Nat} {W R:Nat->Prop}
theorem Ce (h:St K X kd dd E s N m w F d bt S W (fun _=>True)) (hN:N<=65536) :
  Calls Tryz.prog 41 #[.pointer (some ⟨X.p,0,none⟩),.int .i64 1] w fun e w'=>
   (e=.returned (.tuple #[.agg #[.int .i64 0,.int .u32 0],.int .i64 0,.int .i64 172])/\(∀v,¬W v)/\∃F',St K X kd dd E s N m w' F' d bt S W (fun _=>True)/\aa F w w'/\∀z,z∈F'->z∈F\/w.heap.size<=z)\/
   ∃v x:Nat,e=.returned (.tuple #[hV (x:Int) 1,.int .i64 (d v:Int),.int .i64 0])/\v<N/\v∉S/\x<65536/\W v/\∃F' c f,St K X kd dd E s N m w' F' d bt (v::S) (fun u=>W u/\u≠v) (fun i=>(iZ (eN E) i).f≠v)/\nT w' X.mb c f/\f (x:Int) 1=some (v:Int)/\aa F w w'/\∀z,z∈F'->z∈F\/w.heap.size<=z:=by
 obtain ⟨R,A,q,c,hc,f,sl,hM,hJ,hS⟩:=h;cases hm:dF A 1 with
 | none=>
  have hno:=hS.none hm;refine (SE hM.pq 1 ω hm).mono fun e w' ⟨h1,h2⟩=>Α ⟨?_,hno,?_⟩
  ·rw [h1];unfold rq;rw [hS.has,hm];rfl
  ·obtain ⟨F',a1,a2,a3⟩:=hM.store h2;exact ⟨F',⟨R,A,q,c,hc,f,sl,a1,hJ,hS⟩,a2,a3⟩
 | some x=>
  obtain ⟨v,hW,hx,hk,hmin,hf,hg,hv⟩:=hS.min hm;have pE:=hJ.wN v hW;have hxl:=AR.MS hv;have uJ:=hS.ok.n;refine (Ni hM.pq 1 hm).mono fun e w' ⟨h1,h2⟩=>Β ⟨v,x,?_,pE.1,pE.2,ω,hW,?_⟩
  ·rw [h1,hg,hk];rfl
  ·obtain ⟨F',a1,a2,a3⟩:=hM.store h2;have hS2:=hS.take hW;rw [hx] at hS2;exact ⟨F',c,f,⟨_,_,q,c,hc,f,sl,a1,Wq hJ hW hmin,hS2⟩,a1.map,hf,a2,a3⟩
theorem Uw (h:St K X kd dd E s N m w F d bt S W (fun _=>True)) (hN:N<=65536) (hno:∀v,¬W v) :
  Calls Tryz.prog 41 #[.pointer (some ⟨X.p,0,none⟩),.int .i64 1] w fun e w'=>e=.returned (.tuple #[.agg #[.int .i64 0,.int .u32 0],.int .i64 0,.int .i64 172])/\∃F',St K X kd dd E s N m w' F' d bt S W (fun _=>True)/\aa F w w'/\∀z,z∈F'->z∈F\/w.heap.size<=z:=
 (Ce h hN).mono fun e w' hh=>by
  rcases hh with ⟨h1,_,h2⟩|⟨v,x,_,_,_,_,hW,_⟩
  ·exact ⟨h1,h2⟩
  ·exact (hno v hW).elim
theorem QK (h:St K X kd dd E s N m w F d bt S W (fun _=>True)) (hN:N<=65536) (hex:∃v,W v) :
  Calls Tryz.prog 41 #[.pointer (some ⟨X.p,0,none⟩),.int .i64 1] w fun e w'=>∃v x:Nat,e=.returned (.tuple #[.agg #[.int .i64 (x:Int),.int .u32 1],.int .i64 (d v:Int),.int .i64 0])/\v<N/\v∉S/\x<65536/\∃F' c f,St K X kd dd E s N m w' F' d bt (v::S) (fun u=>W u/\u≠v) (fun i=>(iZ (eN E) i).f≠v)/\nT w' X.mb c f/\f (x:Int) 1=some (v:Int)/\aa F w w'/\∀z,z∈F'->z∈F\/w.heap.size<=z:=
 (Ce h hN).mono fun e w' hh=>by
  rcases hh with ⟨_,hno,_⟩|⟨v,x,h1,h2,h3,h4,_,h5⟩
  ·obtain ⟨v,hv⟩:=hex;exact (hno v hv).elim
  ·exact ⟨v,x,h1,h2,h3,h4,h5⟩
theorem St.cells (h:St K X kd dd E s N m w F d bt S W R):w.cell? ⟨X.b,0,none⟩=some (.slice (some ⟨X.gd,0,none⟩) N X.cd)/\w.cell? ⟨X.b,1,none⟩=some (.slice (some ⟨X.gb,0,none⟩) N X.cb)/\w.cell? ⟨X.b,2,none⟩=some (.pointer (some ⟨X.p,0,none⟩))/\w.cell? ⟨X.b,4,none⟩=some (.map (some X.mb)):=by
 obtain ⟨_,_,_,_,_,_,_,hM,_⟩:=h;exact ⟨hM.c0,hM.c1,hM.c2,hM.c4⟩
theorem St.aj {w':World} (h:St K X kd dd E s N m w F d bt S W R) (hu:aa [] w w'):St K X kd dd E s N m w' F d bt S W R:=by
 obtain ⟨R',A,q,c,hc,f,sl,hM,hJ,hS⟩:=h;exact ⟨R',A,q,c,hc,f,sl,hM.aj hu,hJ,hS⟩
theorem St.tree (h:St K X kd dd E s N m w F d bt S W (fun _=>True)) (g:EW (eN E) s N m) (hno:∀v,¬W v) {T:List Nat} (hT1:X.gd∉T) (yQ:X.gb∉T):iC w T (.slice (some ⟨X.gd,0,none⟩) N X.cd) (xD N d)/\iC w T (.slice (some ⟨X.gb,0,none⟩) N X.cb) (uu N bt)/\K9 (eN E) N s (passes (eN E) s N) (xD N d) (uu N bt):=by
 obtain ⟨R',A,q,c,hc,f,sl,hM,hJ,hS⟩:=h;have hP:=XQ g.src g hJ hno;have hT:=(C8 g (fun v _=>hJ.rx.le v)).1 hP;have o1:=hM.vG.own;have o2:=hM.by'.own;rw [Gg] at o1;rw [Iq] at o2;refine ⟨(iC.JG o1 σ).off hT1,(iC.JG o2 σ).off yQ,Gg _ _,Iq _ _,fun v hv=>?_⟩;obtain ⟨a1,a2,a3⟩:=hT v hv;refine ⟨by rw [Fs hv,a1],fun h=>by rw [E9 hv];exact a2 h,fun h=>?_⟩;have key:∀k x,x<N->bg (eN E) bt (passes (eN E) s N) s k x=true->bg (eN E) (fun x=>(uu N bt).getD x 0) (passes (eN E) s N) s k x=true:=by
  intro k
  induction k with
  | zero=>intro x _ h;exact h
  | succ k ih=>
   intro x hx h
   by_cases e:x=s
   ·rw [e];exact MK _
   ·rw [JZ e] at h ⊢;simp only [Τ] at h ⊢;have e1:(uu N bt).getD x 0=bt x:=E9 hx;have e2:qZ (eN E) (fun x=>(uu N bt).getD x 0) x=qZ (eN E) bt x:=by unfold qZ;simp only [e1]
    have e3:jF (eN E) (fun x=>(uu N bt).getD x 0) (passes (eN E) s N) x=jF (eN E) bt (passes (eN E) s N) x:=by unfold jF;simp only [e2,e1]
    rw [e2,e3];exact ⟨h.1,ih _ (pg g h.1) h.2⟩
 exact key N v hv (a3 h)
end
def xN (E:List Ed) (k v:Nat):List Nat:=(List.range k).filter (fun i=>decide ((E.getD i default).f=(v:Int)))
theorem Sj (E:List Ed) (k v:Nat):xN E (k+1) v=if (E.getD k default).f=(v:Int) then xN E k v++[k] else xN E k v:=by
 unfold xN;rw [List.range_succ,List.filter_append]
 by_cases h:(E.getD k default).f=(v:Int)
 ·rw [Δ h,List.filter_cons_of_pos (by simpa only [Ο] using h)];rfl
 ·rw [Γ h,List.filter_cons_of_neg (by simpa only [Ο] using h)];simp
theorem V3 (E:List Ed) (k v:Nat):(xN E k v).length<=k:=by
 unfold xN;exact Χ (List.length_filter_le _ _) σ
theorem Lj {E:List Ed} {k v i:Nat}:i∈xN E k v↔i<k/\(E.getD i default).f=(v:Int):=by
 unfold xN;simp
structure Ug (w:World) (lo g N:Nat) (vs:Nat->Value) (L:Nat->List Nat):Prop where
 row:aK w g 26 N vs
 own:∀v,v<N->w.ownsRow lo 3 1 (vs v) (L v).length (aP (bC (L v)))
 ng:∀v,v<N->(vs v).ownBlock≠some g
 sep:∀u v b,u<N->v<N->u≠v->(vs u).ownBlock=some b->(vs v).ownBlock≠some b
theorem Ug.upd {w w':World} {lo g N:Nat} {vs:Nat->Value} {L:Nat->List Nat} {S:List Nat} (h:Ug w lo g N vs L) (hu:aa S w w') (hg:g∉S) (hS:∀v,v<N->∀b,(vs v).ownBlock=some b->b∉S):Ug w' lo g N vs L:=
 ⟨h.row.upd hu hg,fun v hv=>ay (h.own v hv) hu (fun b hb=>hS v hv b hb),h.ng,h.sep⟩
theorem Ug.put {w w2:World} {lo g N f x:Nat} {vs:Nat->Value} {L:Nat->List Nat} (h:Ug w lo g N vs L) (hf:f<N) {v2:Value} (hu:aa (vs f).ownBlock.toList w w2) (ho:w2.ownsRow lo 3 1 v2 ((L f).length+1) (aP (bC (L f++[x]))))
  (hv:v2.ownBlock=(vs f).ownBlock\/∀b,v2.ownBlock=some b->w.heap.size<=b):Ug (w2.setCell ⟨g,f,none⟩ v2) lo g N (fun v=>if v=f then v2 else vs v) (fun v=>if v=f then L f++[x] else L v):=by
 have hgf:g∉(vs f).ownBlock.toList:=fun e=>h.ng f hf (by simpa using e);have hU:aa [g] w2 (w2.setCell ⟨g,f,none⟩ v2):=(aa.refl _ _).setCell (Α σ) _;have hgl:=h.row.lt;have hng2:v2.ownBlock≠some g:=fun e=>by
  rcases hv with h1|h1
  ·exact h.ng f hf (by rw [←h1];exact e)
  ·have:=h1 g e;omega
 have WA:∀v b,v<N->v≠f->(vs v).ownBlock=some b->v2.ownBlock≠some b:=fun v b hv' hne hb e=>by
  rcases hv with h1|h1
  ·exact h.sep v f b hv' hf hne hb (by rw [←h1];exact e)
  ·have h2:=h1 b e;have h3:=(h.own v hv').lt b hb;omega
 refine ⟨((h.row.upd hu hgf).set f v2),fun v hv'=>?_,fun v hv'=>?_,fun u v b hu' hv' hne hb=>?_⟩
 ·by_cases e:v=f
  ·simp only [Δ e];rw [υ];exact ay ho hU (fun k hk e=>by simp at e;subst e;exact hng2 hk)
  ·simp only [Γ e];exact ay (ay (h.own v hv') hu (fun k hk e2=>h.sep v f k hv' hf e hk (by simpa using e2))) hU (fun k hk e2=>by simp at e2;subst e2;exact h.ng v hv' hk)
 ·by_cases e:v=f
  ·simp only [Δ e];exact hng2
  ·simp only [Γ e];exact h.ng v hv'
 ·by_cases e1:u=f
  ·have e2:v≠f:=fun e=>hne (by rw [e1,e]);simp only [Δ e1] at hb;simp only [Γ e2];intro e3;exact WA v b hv' e2 e3 hb
  ·simp only [Γ e1] at hb
   by_cases e2:v=f
   ·simp only [Δ e2];exact WA u b hu' e1 hb
   ·simp only [Γ e2];exact h.sep u v b hu' hv' hne hb
theorem Tq:(Tryz.prog.info? 26).map (fun i=>(i.zero,i.size,i.bytes))=some (some (.slice none 0 0),1,24):=by kernel_rfl
theorem Oo (w:World) (lo n:Nat):Ug (w.alloc (.cells (madeCells #[.slice none 0 0] n) 26)) lo w.heap.size n (fun _=>.slice none 0 0) (fun _=>[]):=by
 refine ⟨⟨madeCells #[.slice none 0 0] n,?_,by simp [madeCells],fun j hj=>?_⟩,fun v hv=>?_,fun v hv=>by simp [Value.ownBlock],fun u v b hu hv hne hb=>by simp [Value.ownBlock] at hb⟩
 ·show (w.heap.push _)[w.heap.size]?=_;simp
 ·simp [madeCells,hj,Nat.mod_one]
 ·exact World.ownsRow_nil _ _ _ _
theorem F7 (w:World) (N:Nat) (va:Value) (E:List Ed) (hE:vB w va E) (hr:fP (N:Int) E=true) :
    Calls Tryz.prog 53 #[.agg #[.int .i64 (N:Int),va]] w fun r w'=>∃g vs,r=.returned (.slice (some ⟨g,0,none⟩) N N)/\Ug w' (w.heap.size+1) g N vs (xN E E.length)/\w.heap.size<=g/\aa [] w w':=by
  have hbd:=oO hr;have kc:=fun W (hW:aa [] w W)=>y5 W (N:Int) va E (hE.upd hW);rw [hr] at kc;obtain ⟨a,cap,rfl,hcap⟩:=hE.shape;have HE:=χ hE;have HR:=χ hr;have u0:aa [] w (w.alloc (.cells #[.int .i64 N,.slice a E.length cap] 57)):=(aa.refl _ _).alloc _;have hN:N<=4096:=ω;have hE64:E.length<=65536:=hbd.2.2;have hmk:=run_make_row' (P:=Tryz.prog) 51 26 (.slice none 0 0) 24 Tryz.underlying51 Tq rfl .i64 .i64 N ω ω;clear hE hr hbd;generalize hn:E.length=n at *;have HN:=χ hn;clear hn
  go_enter Tryz.func53,Tryz.ntmps53
  go_wp2_with (first
    | ((go_at_call 74;(with_reducible refine (kc _ u0).mono ?_));rintro e w1 ⟨rfl,hu1⟩;(have q0:w1.cell? ⟨w.heap.size,0,none⟩=some (.int .i64 (N:Int)):=hu1.was γ);(have q1:w1.cell? ⟨w.heap.size,1,none⟩=some (.slice a n cap):=hu1.was γ);(have hb:=Ε w1 _ q0))
    | fail)
  have hL0:=Oo w1 (w.heap.size+1) N;have hsz1:=hu1.size;have hg1:w.heap.size<w1.heap.size:=hb;clear hmk hb
  go_loopw [4,5,15] (fun _ _ i wr=>∃ (k:Nat) (vs:Nat->Value),k<=n/\i=.int .i64 (k:Int)/\Ug wr (w.heap.size+1) w1.heap.size N vs (xN E k)/\aa [] (w.alloc (.cells #[.int .i64 N,.slice a n cap] 57)) wr) (fun _ _ i _=>n-(intOf i).toNat)
  case atStart=>exact ⟨0,_,ω,rfl,hL0,β⟩
  case round=>
    clear hL0 q0 q1 kc;obtain ⟨k,vs,hk,rfl,hL,hu⟩:=hrel;rename World=>wr;have hsz:w.heap.size<wr.heap.size:=by have:=hu.size;simp at this;omega
    by_cases hkn:k<n
    · have LP:k<E.length:=by rw [HN.out];exact hkn
      have hx:E[k]?=some (E.getD k default):=by simp [φ,LP]
      have hmem:E.getD k default∈E:=Η hx;obtain ⟨ge,off,rfl,hg,c0,c1,c2⟩:=(HE.out.upd (u0.trans hu)).at k LP;have h1:=jA HR.out hmem;have HT:=χ (Sj E k);generalize E.getD k default=e at *;have hwr:IntKind.i64.wrap ((k:Int)+1)=(k:Int)+1:=Μ _ ω;obtain ⟨ef,et,ew⟩:=e;dsimp only at c0 c1 c2 h1;obtain ⟨f,rfl⟩:∃f:Nat,ef=f:=⟨ef.toNat,ω⟩;have hf:f<N:=ω;have hfI:(f:Int)<(N:Int):=ω;have hlf:=V3 E k f;have ho:=hL.own f hf;obtain ⟨av,cv,hvf,hcv⟩:=aY ho;have d0:=hL.row.cellAt f hf hvf;have df:=hL.row.free f
      have hnb:wr.heap.size∉(Value.slice av (xN E k f).length cv).ownBlock.toList:=fun e=>by have:=((ho.lt wr.heap.size (by rw [hvf];simpa using e)).2);omega
      have hgl:=hL.row.lt;have HL:=χ (ψ hL hvf);have HU:=χ hu;rw [hvf] at ho;have Ty:=χ (fun b hb=>(ho.lt b hb).1);clear hx hmem hL hu hvf;generalize hln:(xN E k f).length=ln at *;have Z0:=χ hln;clear hln
      go_upto_region 7 with (fail)
      refine Ng (fun W=>W.cell? ⟨wr.heap.size,0,none⟩=some (.int .i64 (f:Int))/\aa [] wr W) ⟨γ,β⟩ ?_;rintro W6 ⟨p2,gF⟩;have p1:=gF.was d0;have pf1:=gF.aH d0 σ df;have GY:=ay (S:=[]) ho gF σ;have hrs6:=Ε W6 _ p2;have hpa6:=Ε W6 _ p1;dsimp only at hrs6 hpa6;have s0:aa [] W6 (W6.drew.alloc (.cells #[.int .i64 (k:Int)] 3)):=((aa.refl _ _).drew).alloc _;have Ob:w1.heap.size∉(Value.slice av ln cv).ownBlock.toList:=fun e=>by have:=HL.out.1.ng f hf;rw [HL.out.2] at this;exact this (by simpa using e)
      clear d0 df ho c0 c1 c2
      go_region_law
        (first
          | (refine iL rfl _ _ 26 rfl (w.heap.size+1) 3 (.int .i64 0) 1 8 Tryz.underlying26 fE rfl δ (.slice av ln cv) ln (aP (bC (xN E k f))) rfl (GY.drew.alloc _) W6.heap.size [.int .i64 (k:Int)] rfl rfl (fun j u hj=>ma W6 [.int .i64 (k:Int)] 3 j u hj) (by simp [Value.oneCell']) μ ω ζ ?_
             intro v2 w2 ho2 hu2 hv2;have hS2:aa (Value.slice av ln cv).ownBlock.toList W6 w2:=(s0.mono σ).trans hu2;have z1:=hS2.kept p1 Ob;have zf1:=hS2.aH p1 Ob pf1;have z2:=hS2.kept p2 hnb
             obtain ⟨a2,cap2,rfl,hcap2⟩:=aY ho2))
      all_goals
        go_wp2;have lM:=HL.out.1.upd gF σ (fun v hv b hb=>σ)
        have hP:=lM.put hf (x:=k) (v2:=.slice a2 (ln+1) cap2) (by rw [HL.out.2];exact hS2) (by
          rw [Z0.out,show bC (xN E k f++[k])=bC (xN E k f)++[(k:Int)] from by unfold bC;simp,bP];exact ho2) (by
          rw [HL.out.2];rcases hv2 with h|h
          · exact Α h
          · exact Β (fun b hb=>by rw [h] at hb;simp at hb;omega))
        have hfun:(fun v=>if v=f then xN E k f++[k] else xN E k v)=xN E (k+1):=funext fun v=>by
          rw [HT.out v]
          by_cases e:v=f
          · subst e;simp
          · rw [Γ e,Γ (by show ¬ ((f:Nat):Int)=v;omega)]
        rw [hfun] at hP
        exact ⟨⟨k+1,_,ω,by go_num,hP,by
          have h1:aa [] _ W6:=HU.out.trans gF;have h2:aa [] _ w2:=h1.joined hS2 (fun b hb=>Β (by have:=Ty.out b (by simpa using hb);rw [Κ];exact this))
          exact h2.setCell (Β ζ) _⟩,by simp [intOf];omega⟩
    · obtain rfl:k=n:=ω
      have HL:=χ hL;clear hL;go_wp2;go_ret;exact ⟨_,vs,rfl,HL.out,ω,u0.trans hu⟩
structure Y2 (w:World) (F:List Nat) (gb rb B0 L0 L1 N g:Nat) (v0 v1 r0 r1:Value) (vs:Nat->Value) (L:Nat->List Nat):Prop where
 g0:w.cell? ⟨gb,0,none⟩=some v0
 g1:w.cell? ⟨gb,1,none⟩=some v1
 r0:w.cell? ⟨rb,0,none⟩=some r0
 r1:w.cell? ⟨rb,1,none⟩=some r1
 f0:w.frozen? ⟨rb,0,none⟩=false
 f1:w.frozen? ⟨rb,1,none⟩=false
 lv:Ug w (L0+1) g N vs L
 bF:∀x,x∈F->B0<=x/\(x<L0\/L1<=x)
 gl:L0<=g/\g<L1
 vl:∀v,v<N->∀b,(vs v).ownBlock=some b->L0<=b/\b<L1
 hb:gb<B0/\rb<B0/\B0<=L0
 sz:L1<=w.heap.size
theorem Y2.step {w w':World} {F F' T:List Nat} {gb rb B0 L0 L1 N g:Nat} {v0 v1 r0 r1:Value} {vs:Nat->Value} {L:Nat->List Nat} (h:Y2 w F gb rb B0 L0 L1 N g v0 v1 r0 r1 vs L) (hu:aa T w w') (hT:∀x,x∈T->x∈F\/(B0<=x/\x<L0)\/L1<=x) (hF:∀x,x∈F'->x∈F\/w.heap.size<=x):Y2 w' F' gb rb B0 L0 L1 N g v0 v1 r0 r1 vs L:=by
 obtain ⟨hb1,hb2,hb3⟩:=h.hb;have hs:=h.sz;have hz:=hu.size;have hTb:∀x,x∈T->B0<=x/\(x<L0\/L1<=x):=fun x hx=>by
  rcases hT x hx with e|e|e
  ·exact h.bF x e
  ·exact ⟨e.1,Α e.2⟩
  ·exact ⟨by have:=h.gl;omega,Β e⟩
 have n1:gb∉T:=fun e=>by have:=hTb _ e;omega
 have n2:rb∉T:=fun e=>by have:=hTb _ e;omega
 have n3:g∉T:=fun e=>by have:=hTb _ e;have:=h.gl;omega
 refine ⟨hu.kept h.g0 n1,hu.kept h.g1 n1,hu.kept h.r0 n2,hu.kept h.r1 n2,hu.aH h.r0 n2 h.f0,hu.aH h.r1 n2 h.f1,h.lv.upd hu n3 (fun v hv b hb e=>by have:=hTb _ e;have:=h.vl v hv b hb;omega),fun x hx=>?_,h.gl,h.vl,h.hb,ω⟩;rcases hF x hx with e|e
 ·exact h.bF x e
 ·exact ⟨by have:=h.gl;omega,Β ω⟩
theorem Rt {n:Nat} {l:List Nat} (hn:l.Nodup) (h:∀x,x∈l->x<n):l.length<=n:=by
 have:=nodup_range n (l.map (fun (x:Nat)=>(x:Int))) (by
  unfold List.Nodup at hn ⊢;rw [List.pairwise_map];exact hn.imp (fun h e=>h ω)) (fun x hx=>by
  obtain ⟨y,hy,rfl⟩:=List.mem_map.1 hx
  have:=h y hy;omega)
 simpa using this
theorem YQ {N:Int} {E:List Ed} (hr:fP N E=true) {v i:Nat} (hi:i<E.length):(iZ (eN E) i).f≠v\/i∈xN E E.length v:=by
 by_cases h:(iZ (eN E) i).f=v
 ·refine Β (Lj.2 ⟨hi,?_⟩);have h3:=jA hr (Η (show E[i]?=some (E.getD i default) by simp [φ,hi]));rw [Sg E i hi] at h;have h4:(E.getD i default).f.toNat=v:=h;omega
 ·exact Α h
theorem St.round {v:Nat} {K:gD} {X:sj} {kd dd:Int} {E:List Ed} {s N m:Nat} {w:World} {F:List Nat} {d:Nat->Nat} {bt:Nat->Int} {S:List Nat} {W R:Nat->Prop} (h:St K X kd dd E s N m w F d bt (v::S) W R) (hR:∀i,i<E.length->R i):St K X kd dd E s N m w F d bt (v::S) W (fun _=>True):=by
 obtain ⟨R',A,q,c,hc,f,sl,hM,hJ,hS⟩:=h;exact ⟨R',A,q,c,hc,f,sl,hM,QE hJ (fun i hi=>hR i (by rw [DK] at hi;exact hi)),hS⟩
theorem He {K:gD} {kd dd:Int} (w:World) (N s:Nat) (va:Value) (E:List Ed) (hE:vB w va E) (Ka:bI (N:Int) E=true) (hs:s<N) (hc:qX kd dd=0) (ko:om K kd dd N) :
  Calls Tryz.prog 29 #[.agg #[.int .i64 kd,.int .i64 dd],.agg #[.int .i64 (N:Int),va],.int .i64 (s:Int)] w fun e w'=>∃vd vb D B,e=.returned (.tuple #[.agg #[vd,vb],.int .i64 0])/\iC w' [] vd D/\iC w' [] vb B/\K9 (eN E) N s (passes (eN E) s N) D B/\aa [] w w':=by
 have hr:=jW Ka;have hbd:=oO hr;have hN:N<=4096:=ω;have hg:EW (eN E) s N (9223372036854775807 / N):=pX Ka hs;have XZ:∀e,e∈E->0<=e.w/\e.w<=9223372036854775807:=fun e he=>by
  have h1:=oQ Ka he;have h2:(9223372036854775807:Int) / (N:Int)<=9223372036854775807:=Int.ediv_le_self _ ω;omega
 have kc:=fun W=>tQ kd dd W;rw [hc] at kc;have kw:=fun W (hW:aa [] w W)=>zK W N va E (hE.upd hW) (fun e he=>(XZ e he).2);rw [Ka,show VP true=0 from rfl] at kw;have kb:=fun W=>O6 (K:=K) N W ω hN hc ko;have kl:=fun W (hW:aa [] w W)=>F7 W N va E (hE.upd hW) hr;obtain ⟨a,cap,rfl,hcap⟩:=hE.shape;have HE:=χ hE;have HW:=χ (ψ Ka (ψ hr hg));have hsn2:¬N<=s:=ω;have h1b:decide ((s:Int)≥(N:Int))=false:=ζ;have hE64:E.length<=65536:=hbd.2.2;clear hE Ka hr hbd XZ hg hc ko;generalize hn:E.length=n at *;have HN:=χ hn;clear hn
 go_enter Tryz.func29,Tryz.ntmps29
 go_upto_region 9 with (first
  | ((go_at_call 50;(with_reducible refine (kc _).mono ?_));rintro e w1 ⟨rfl,hu1⟩;(have q0:w1.cell? ⟨w.heap.size,0,none⟩=some (.int .i64 kd):=hu1.was γ);(have q1:w1.cell? ⟨w.heap.size,1,none⟩=some (.int .i64 dd):=hu1.was γ);(have q2:w1.cell? ⟨w.heap.size+1,0,none⟩=some (.int .i64 (N:Int)):=hu1.was γ);(have q3:w1.cell? ⟨w.heap.size+1,1,none⟩=some (.slice a n cap):=hu1.was γ);(have r0:w1.cell? ⟨w.heap.size+2,0,none⟩=some (.slice none 0 0):=hu1.was γ);(have r1:w1.cell? ⟨w.heap.size+2,1,none⟩=some (.slice none 0 0):=hu1.was γ);(have hw1:aa [] w w1:=aa.trans β hu1))
  | ((go_at_call 51;(with_reducible refine (kw _ β).mono ?_));rintro e w2 ⟨rfl,hu2⟩;(have q4:=hu2.was q0);(have q5:=hu2.was q1);(have q6:=hu2.was q2);(have q7:=hu2.was q3))
  | ((go_at_call 52;(with_reducible refine (kb _).mono ?_));rintro e w3 ⟨X,F,hv,rfl,hM,hu3,hX,hF⟩;(have q8:=hu3.was q6);(have q9:=hu3.was q7);(have r4:=hu3.was (hu2.was r0));(have r5:=hu3.was (hu2.was r1));(have TW:w1.frozen? ⟨w.heap.size+2,0,none⟩=false:=hu1.aH (v:=.slice none 0 0) γ σ γ);(have Pp:w1.frozen? ⟨w.heap.size+2,1,none⟩=false:=hu1.aH (v:=.slice none 0 0) γ σ γ);(have hw3:=(hw1.trans hu2).trans hu3);(have hst:=zy HW.out.2.2 ω hM))
  | fail)
 have hb2:w.heap.size+2<w2.heap.size:=Ε w2 _ (hu2.was r0);have hMl:=hM.lt;have hFl:=hM.pq.lt;have hMst:=fun W (hW:aa [] w3 W)=>zy HW.out.2.2 ω (hM.aj hW);clear hst hM kc kw kb;have kl3:=kl w3 hw3
 go_upto_region 11 with (first
  | ((go_at_call 53;(with_reducible refine (kl3).mono ?_));rintro e w4 ⟨g,vs,rfl,hL,hg4,fZ⟩;(have hst4:=hMst w4 fZ))
  | ((go_at_call 54;(with_reducible refine (hst4).mono ?_));rintro e w5 ⟨rfl,F5,hSt,bK,Vy⟩)
  | fail)
 have Ua:Y2 w4 F (w.heap.size+1) (w.heap.size+2) w2.heap.size w3.heap.size w4.heap.size N g (.int .i64 (N:Int)) (.slice a n cap) (.slice none 0 0) (.slice none 0 0) vs (xN E n):=by
  have hfr0:=(hu2.trans (hu3.trans fZ)).aH r0 σ TW;have hfr1:=(hu2.trans (hu3.trans fZ)).aH r1 σ Pp;have hgl:=hL.row.lt;have hs3:=hu3.size;exact ⟨fZ.was q8,fZ.was q9,fZ.was r4,fZ.was r5,hfr0,hfr1,hL,fun x hx=>⟨hF x hx,Α (hFl x hx)⟩,⟨hg4,hgl⟩,fun v hv b hb=>by have:=(hL.own v hv).lt b hb;omega,ω,ω⟩
 have ZK:∀x,x∈X.own->w2.heap.size<=x/\x<w3.heap.size:=fun x hx=>⟨hX x hx,hMl x hx⟩
 have hI5:=Ua.step bK (fun x hx=>by
  rcases τ.1 hx with e|e
  ·exact Β (Α (ZK x e))
  ·exact Α e) Vy
 have Lc:aa [] w w5:=(hw3.trans fZ).joined bK (fun x hx=>Β (by
  have:=hw1.size;have:=hu2.size;rcases τ.1 hx with e|e
  ·have:=(ZK x e).1;omega
  ·have:=hF x e;omega))
 clear Ua bK Vy hMst hst4 kl3 kl hL hg4 fZ hMl hFl hF hX q0 q1 q2 q3 q4 q5 q6 q7 q8 q9 r0 r1 r4 r5 TW Pp
 go_loopg [12,13,14,16,78] (N+1) (fun fu _ _ _ _ _ wr=>∃F' d bt S W,St K X kd dd E s N (9223372036854775807 / N) wr F' d bt S W (fun _=>True)/\Y2 wr F' (w.heap.size+1) (w.heap.size+2) w2.heap.size w3.heap.size w4.heap.size N g (.int .i64 (N:Int)) (.slice a n cap) (.slice none 0 0) (.slice none 0 0) vs (xN E n)/\aa [] w wr/\N<fu+S.length)
 case atStart=>exact ⟨F5,_,_,_,_,hSt,hI5,Lc,σ⟩
 case round=>
  rename Nat=>fu;clear hSt hI5 Lc;obtain ⟨F',d,bt,S,W,hSt,hI,hw,hfu⟩:=hrel;rename World=>wr;have hSn:S.length<=N:=by
   obtain ⟨_,_,_,_,_,_,_,_,hJ,_⟩:=hSt;exact Rt hJ.nd hJ.sN
  obtain ⟨fv,rfl⟩:∃fv,fu=fv+1:=⟨fu-1,ω⟩;obtain ⟨c0,c1,c2,c4⟩:=hSt.cells
  by_cases hno:∀v,¬W v
  ·have ke:=fun W' (hW':aa [] wr W')=>Uw (hSt.aj hW') ω hno
   go_upto_region 12 with (first
    | ((go_at_call 41;(with_reducible refine (ke _ β).mono ?_));rintro e w6 ⟨rfl,F6,Kr,gF,hf6⟩)
    | fail)
   have SV:=hI.step gF (fun x hx=>Α hx) hf6;obtain ⟨t0,t1,t2⟩:=Kr.tree HW.out.2.2 hno (T:=[w.heap.size+1+1]) (fun e=>by have:=ZK X.gd (by unfold sj.own;simp);simp at e;omega) (fun e=>by have:=ZK X.gb (by unfold sj.own;simp);simp at e;omega);obtain ⟨d0,d1,d2,d4⟩:=Kr.cells;have GY:aa [] w w6:=hw.joined gF (fun x hx=>Β (by have:=hI.bF x hx;have:=hI.hb;omega));have HT:=χ (ψ t0 (ψ t1 t2));have e0:w6.cell? ⟨w.heap.size+1+1,0,none⟩=some (.slice none 0 0):=SV.r0;have e1:w6.cell? ⟨w.heap.size+1+1,1,none⟩=some (.slice none 0 0):=SV.r1;have f0:w6.frozen? ⟨w.heap.size+1+1,0,none⟩=false:=SV.f0
   have f1:w6.frozen? ⟨w.heap.size+1+1,1,none⟩=false:=SV.f1;have hxl:=Ε w6 _ d0;have hrl:=Ε w6 _ e0;dsimp only at hxl hrl;have hn1:¬X.b=w6.heap.size:=ω;have hn2:¬w.heap.size+1+1=w6.heap.size:=ω;clear t0 t1 t2 hSt Kr hI SV ke c0 c1 c2 c4;go_wp2;have q0:(((w6.setCell ⟨w.heap.size+1+1,0,none⟩ (.slice (some ⟨X.gd,0,none⟩) N X.cd)).setCell ⟨w.heap.size+1+1,1,none⟩ (.slice (some ⟨X.gb,0,none⟩) N X.cb)).alloc (.cells #[.int .i64 0,.int .u32 0] 85)).cell? ⟨w.heap.size+1+1,0,none⟩=some (.slice (some ⟨X.gd,0,none⟩) N X.cd):=γ
   have q1:(((w6.setCell ⟨w.heap.size+1+1,0,none⟩ (.slice (some ⟨X.gd,0,none⟩) N X.cd)).setCell ⟨w.heap.size+1+1,1,none⟩ (.slice (some ⟨X.gb,0,none⟩) N X.cb)).alloc (.cells #[.int .i64 0,.int .u32 0] 85)).cell? ⟨w.heap.size+1+1,1,none⟩=some (.slice (some ⟨X.gb,0,none⟩) N X.cb):=γ;refine bodyPost_ret (v:=.tuple #[.agg #[.slice (some ⟨X.gd,0,none⟩) N X.cd,.slice (some ⟨X.gb,0,none⟩) N X.cb],.int .i64 0]) (by simp [results,Tryz.results29,go_sem,q0,q1]) rfl ⟨_,_,_,_,rfl,HT.out.1.fresh β σ,HT.out.2.1.fresh β σ,HT.out.2.2,β⟩
  ·have hex:∃v,W v:=Ϙ fun h=>hno fun v hv=>h ⟨v,hv⟩;have ke:=fun W' (hW':aa [] wr W')=>QK (hSt.aj hW') ω hex;clear hno hex
   go_upto_region 12 with (first
    | ((go_at_call 41;(with_reducible refine (ke _ β).mono ?_));rintro e w6 ⟨v,x,rfl,pE,QH,hx,F6,cm,fm,Kr,hmap,hfx,gF,hf6⟩)
    | fail)
   have SV:=hI.step gF (fun x hx=>Α hx) hf6;obtain ⟨d0,d1,d2,d4⟩:=Kr.cells;have GY:aa [] w w6:=hw.joined gF (fun x hx=>Β (by have:=hI.bF x hx;have:=hI.hb;omega));have hxl:=Ε w6 _ d0;dsimp only at hxl;have hn1:¬X.b=w6.heap.size:=ω;clear hSt hI ke c0 c1 c2 c4
   go_upto_region 14 with fail
   have Uo:=χ (ψ hmap hfx);have hgl:=SV.lv.row.lt;have hlc:=SV.lv.row.cellAt v pE rfl;obtain ⟨av,cv,hvs,hcv⟩:=aY (SV.lv.own v pE);have ht6:=Ε w6 _ d4;have hlk:∀m,(Instr.lookup 82 (.map (some X.mb)) (.agg #[.int .i64 (x:Int),.int .u32 1]) false).run Tryz.prog ((w6.alloc (.cells #[.int .i64 (x:Int),.int .u32 1] 85)).drewN m)=.ok (.int .i64 (v:Int)) ((w6.alloc (.cells #[.int .i64 (x:Int),.int .u32 1] 85)).drewN m):=fun m=>(hmap.upd (S:=[]) β σ).look hfx ω ω;have hn2:¬g=w6.heap.size:=ω;have Jm:¬w6.heap.size=X.b:=ω;rw [hvs] at hlc;clear hmap hfx ht6
   go_quiet (fail)
   have jC:aa [] w6 ((w6.alloc (.cells #[.int .i64 (x:Int),.int .u32 1] 85)).drewN nq):=β;have hSt7:=Kr.aj jC;have hI7:=SV.step jC σ (fun x hx=>Α hx);have hw7:=GY.trans jC;clear Kr SV GY hlk hlc d0 d1 d2 d4 Uo;go_wp2;generalize hln:(xN E n v).length=ln at *;have Z0:=χ (ψ hln (ψ hvs hcv));clear hln hvs hcv
   go_loopw [16,78] (fun _ i wr=>∃ (j:Nat) (F':List Nat) (d':Nat->Nat) (bt':Nat->Int) (W':Nat->Prop),j<=ln/\i=.int .i64 (j:Int)/\St K X kd dd E s N (9223372036854775807 / N) wr F' d' bt' (v::S) W' (fun i=>(iZ (eN E) i).f≠v\/i∈(xN E n v).take j)/\d' v=d v/\Y2 wr F' (w.heap.size+1) (w.heap.size+2) w2.heap.size w3.heap.size w4.heap.size N g (.int .i64 (N:Int)) (.slice a n cap) (.slice none 0 0) (.slice none 0 0) vs (xN E n)/\aa [] w wr) (fun _ i _=>ln-(intOf i).toNat)
   case atStart=>exact ⟨0,_,_,_,_,ω,rfl,by simpa using hSt7,rfl,hI7,hw7⟩
   case round=>
    clear hSt7 hI7 hw7;obtain ⟨j,F8,d8,bt8,W8,hj,rfl,hSt,hdv,hI,hw⟩:=hrel;rename World=>w8
    by_cases hjl:j<ln
    ·have hji:(j:Int)<(ln:Int):=ω;obtain ⟨i0,hi0⟩:∃i0,(xN E n v)[j]?=some i0:=⟨_,ε (by rw [Z0.out.1];exact hjl)⟩;have hmem:=Lj.1 (Η hi0);have hrow:=hI.lv.own v pE;rw [Z0.out.1,Z0.out.2.1] at hrow;obtain ⟨_,_,he8,_,_,h38⟩:=iC.JG (F:=[]) hrow σ;cases he8;obtain ⟨g8,o8,rfl,hg8,_,c8⟩:=h38 j (i0:Int) (by unfold bC;simp [hi0]);clear h38 hrow;have VB:i0<E.length:=by rw [HN.out];exact hmem.1
     have hin:(i0:Int)<(n:Int):=ω;obtain ⟨ge,off,rfl,hg,c0',c1',c2'⟩:=HE.out.at i0 VB;have c1:=hw.was c1';have c2:=hw.was c2';have h3:=jA HW.out.2.1 (Η (show E[i0]?=some (E.getD i0 default) by simp [φ,VB]));have he:=Sg E i0 VB;have p9:=hmem.2;have hwx:=oQ HW.out.1 (Η (show E[i0]?=some (E.getD i0 default) by simp [φ,VB]));generalize E.getD i0 default=ed at *;obtain ⟨ef,et,ew⟩:=ed;dsimp only at c0' c1 c2 c1' c2' h3 p9 hwx;obtain ⟨t,rfl⟩:∃t:Nat,et=t:=⟨et.toNat,ω⟩;obtain ⟨y,rfl⟩:∃y:Nat,ew=y:=⟨ew.toNat,ω⟩;subst p9;have he':iZ (eN E) i0=⟨v,t,y⟩:=he
     have hsum:(d v:Int)+(y:Int)<=9223372036854775807:=by
      obtain ⟨_,_,_,_,_,_,_,_,hJ,_⟩:=hSt;have hge:=HW.out.2.2.e _ (Es (by rw [DK];exact VB));rw [he'] at hge;have:=hJ.rx.sum HW.out.2.2.nm (e:=⟨v,t,y⟩) pE hge.2.2 ((hJ.rc v pE).2 (Α σ));dsimp only at this;rw [hdv] at this;have hmx:(inf:Nat)=9223372036854775807:=rfl;omega
     have ke:=fun W (hW:aa [] w8 W)=>Jv HW.out.2.2 ω (by rw [HN.out];exact hE64) (hSt.aj hW) VB he';rw [hdv] at ke;have hwr:IntKind.i64.wrap ((d v:Int)+(y:Int))=(d v:Int)+(y:Int):=Μ _ ω;have q1:w8.cell? ⟨w.heap.size+1,1,none⟩=some (.slice (some ⟨ge,off,none⟩) n cap):=hI.g1;have ke1:=ke w8.drew ((aa.refl _ _).drew);have ke2:=ke w8 (aa.refl _ _);clear ke c0' c1' c2';have HI:=χ (ψ hI (ψ hw (ψ hi0 hmem)));clear hI hw hi0 hmem hSt
     go_upto_region 17 with fail
     go_region_law
      (first
       | (go_simp;go_at_call 54;(with_reducible refine (ke1).mono ?_);rintro e w9 ⟨rfl,F9,d9,bt9,W9,Sy,hd9,sO,hf9⟩))
     all_goals
      have Y9:aa (X.own++F8) w8 w9:=aa.trans ν sO
      have hI9:=HI.out.1.step Y9 (fun x hx=>by
       rcases τ.1 hx with e|e
       ·exact Β (Α (ZK x e))
       ·exact Α e) hf9
      have aI:aa [] w w9:=HI.out.2.1.joined Y9 (fun x hx=>Β (by
       have hb:=HI.out.1.hb;rcases τ.1 hx with e|e
       ·have:=(ZK x e).1;omega
       ·have:=HI.out.1.bF x e;omega))
      have HZ:=χ (ψ Sy (ψ hd9 (ψ hI9 aI)));clear Sy hd9 sO hf9 Y9 hI9 aI;go_wp2
      go_roundw
      case rel=>
       obtain ⟨Sy,hd9,hI9,aI⟩:=HZ.out
       have he:(fun i=>((iZ (eN E) i).f≠v\/i∈(xN E n v).take j)\/i=i0)=fun i=>(iZ (eN E) i).f≠v\/i∈(xN E n v).take (j+1):=funext fun i=>propext (by
        rw [Ϗ,HI.out.2.2.1,or_assoc]
        simp)
       rw [he] at Sy;exact ⟨j+1,F9,d9,bt9,W9,hjl,by go_num,Sy,hd9,hI9,aI⟩
      case measure=>simp [intOf];omega
    ·have hjn:¬ (j:Int)<(ln:Int):=ω;have Vs:j=ln:=ω;subst Vs;go_wp2
     go_roundg fv
     case rel=>exact ⟨F8,d8,bt8,v::S,W8,hSt.round (fun i hi=>by have h:=YQ (v:=v) HW.out.2.1 hi;rw [HN.out] at h;rw [←Z0.out.1,List.take_length];exact h),hI,hw,ζ⟩
     all_goals omega
def xE (kd d N src:Int) (E:List Ed):Int:=if qX kd d≠0 then qX kd d else if bI N E=true/\0<=src/\src<N then 0 else 201
theorem QR (kd d N src:Int) (va:Value) (E:List Ed) (w:World) (hE:vB w va E) (hwb:∀e,e∈E->e.w<=9223372036854775807) (hf:xE kd d N src E≠0) :
  Calls Tryz.prog 29 #[.agg #[.int .i64 kd,.int .i64 d],.agg #[.int .i64 N,va],.int .i64 src] w fun e w'=>e=.returned (.tuple #[.agg #[.slice none 0 0,.slice none 0 0],.int .i64 (xE kd d N src E)])/\aa [] w w':=by
 have kc:=fun W=>tQ kd d W;have kw:=fun W (hW:aa [] w W)=>zK W N va E (hE.upd hW) hwb;obtain ⟨a,cap,rfl,hcap⟩:=hE.shape;unfold xE at hf ⊢
 by_cases hc:qX kd d=0
 ·rw [Γ (show ¬ (qX kd d≠0) from fun h=>h hc)] at hf ⊢;rw [hc] at kc;have hn:¬ (bI N E=true/\0<=src/\src<N):=fun h=>hf (Δ h);rw [Γ hn];clear hE hwb hf hc;cases hw:bI N E with
  | false=>
   rw [hw] at kw;have e0:VP false=201:=rfl;rw [e0] at kw;clear hn hw;generalize E.length=n at *
   go_enter Tryz.func29,Tryz.ntmps29
   go_wp2_with (first|((go_at_call 50;(with_reducible refine (kc _).mono ?_));rintro e w1 ⟨rfl,hu1⟩;(have p0:w1.cell? ⟨w.heap.size+1,0,none⟩=some (.int .i64 N):=hu1.was γ);(have p1:w1.cell? ⟨w.heap.size+1,1,none⟩=some (.slice a n cap):=hu1.was γ);(have p2:w1.cell? ⟨w.heap.size+1+1,0,none⟩=some (.slice none 0 0):=hu1.was γ);(have p3:w1.cell? ⟨w.heap.size+1+1,1,none⟩=some (.slice none 0 0):=hu1.was γ);(have f2:w1.frozen? ⟨w.heap.size+1+1,0,none⟩=false:=hu1.aH (v:=.slice none 0 0) γ σ γ);(have f3:w1.frozen? ⟨w.heap.size+1+1,1,none⟩=false:=hu1.aH (v:=.slice none 0 0) γ σ γ);(have hw1:aa [] w w1:=aa.trans β hu1))|((go_at_call 51;(with_reducible refine (kw _ hw1).mono ?_));rintro e w2 ⟨rfl,hu2⟩;(have r0:=hu2.was p0);(have r1:=hu2.was p1);(have r2:=hu2.was p2);(have r3:=hu2.was p3);(have g2:=hu2.aH p2 σ f2);(have g3:=hu2.aH p3 σ f3);(have hw2:=hw1.trans hu2))|fail)
   exact bodyPost_ret (v:=.tuple #[.agg #[.slice none 0 0,.slice none 0 0],.int .i64 201]) (by simp [results,Tryz.results29,go_sem,r2,r3]) rfl ⟨rfl,β⟩
  | true=>
   rw [hw] at kw hn;have e0:VP true=0:=rfl;rw [e0] at kw
   by_cases hs:src<0
   ·have hsb:decide (src<0)=true:=by simpa using hs
    clear hn hw hs;generalize E.length=n at *
    go_enter Tryz.func29,Tryz.ntmps29
    go_wp2_with (first|((go_at_call 50;(with_reducible refine (kc _).mono ?_));rintro e w1 ⟨rfl,hu1⟩;(have p0:w1.cell? ⟨w.heap.size+1,0,none⟩=some (.int .i64 N):=hu1.was γ);(have p1:w1.cell? ⟨w.heap.size+1,1,none⟩=some (.slice a n cap):=hu1.was γ);(have p2:w1.cell? ⟨w.heap.size+1+1,0,none⟩=some (.slice none 0 0):=hu1.was γ);(have p3:w1.cell? ⟨w.heap.size+1+1,1,none⟩=some (.slice none 0 0):=hu1.was γ);(have f2:w1.frozen? ⟨w.heap.size+1+1,0,none⟩=false:=hu1.aH (v:=.slice none 0 0) γ σ γ);(have f3:w1.frozen? ⟨w.heap.size+1+1,1,none⟩=false:=hu1.aH (v:=.slice none 0 0) γ σ γ);(have hw1:aa [] w w1:=aa.trans β hu1))|((go_at_call 51;(with_reducible refine (kw _ hw1).mono ?_));rintro e w2 ⟨rfl,hu2⟩;(have r0:=hu2.was p0);(have r1:=hu2.was p1);(have r2:=hu2.was p2);(have r3:=hu2.was p3);(have g2:=hu2.aH p2 σ f2);(have g3:=hu2.aH p3 σ f3);(have hw2:=hw1.trans hu2))|fail)
    exact bodyPost_ret (v:=.tuple #[.agg #[.slice none 0 0,.slice none 0 0],.int .i64 201]) (by simp [results,Tryz.results29,go_sem,r2,r3]) rfl ⟨rfl,β⟩
   ·have hsb:decide (src<0)=false:=by simpa using hs
    have hsn:src≥N:=by
     rcases Int.lt_or_le src N with h|h
     ·exact absurd ⟨rfl,ω,h⟩ hn
     ·exact h
    have hsd:decide (src≥N)=true:=by simpa using hsn
    have hsd2:decide (N<=src)=true:=by simpa using hsn
    clear hn hw hs;generalize E.length=n at *
    go_enter Tryz.func29,Tryz.ntmps29
    go_wp2_with (first|((go_at_call 50;(with_reducible refine (kc _).mono ?_));rintro e w1 ⟨rfl,hu1⟩;(have p0:w1.cell? ⟨w.heap.size+1,0,none⟩=some (.int .i64 N):=hu1.was γ);(have p1:w1.cell? ⟨w.heap.size+1,1,none⟩=some (.slice a n cap):=hu1.was γ);(have p2:w1.cell? ⟨w.heap.size+1+1,0,none⟩=some (.slice none 0 0):=hu1.was γ);(have p3:w1.cell? ⟨w.heap.size+1+1,1,none⟩=some (.slice none 0 0):=hu1.was γ);(have f2:w1.frozen? ⟨w.heap.size+1+1,0,none⟩=false:=hu1.aH (v:=.slice none 0 0) γ σ γ);(have f3:w1.frozen? ⟨w.heap.size+1+1,1,none⟩=false:=hu1.aH (v:=.slice none 0 0) γ σ γ);(have hw1:aa [] w w1:=aa.trans β hu1))|((go_at_call 51;(with_reducible refine (kw _ hw1).mono ?_));rintro e w2 ⟨rfl,hu2⟩;(have r0:=hu2.was p0);(have r1:=hu2.was p1);(have r2:=hu2.was p2);(have r3:=hu2.was p3);(have g2:=hu2.aH p2 σ f2);(have g3:=hu2.aH p3 σ f3);(have hw2:=hw1.trans hu2))|fail)
    exact bodyPost_ret (v:=.tuple #[.agg #[.slice none 0 0,.slice none 0 0],.int .i64 201]) (by simp [results,Tryz.results29,go_sem,r2,r3]) rfl ⟨rfl,β⟩
 ·rw [Δ hc] at hf ⊢;have hv:(qX kd d != 0)=true:=by simpa using hc
  clear hE hwb hf hc kw;generalize qX kd d=v at *;generalize E.length=n at *
  go_enter Tryz.func29,Tryz.ntmps29
  go_wp2_with (first|((go_at_call 50;(with_reducible refine (kc _).mono ?_));rintro e w1 ⟨rfl,hu1⟩;(have p0:w1.cell? ⟨w.heap.size+1,0,none⟩=some (.int .i64 N):=hu1.was γ);(have p1:w1.cell? ⟨w.heap.size+1,1,none⟩=some (.slice a n cap):=hu1.was γ);(have p2:w1.cell? ⟨w.heap.size+1+1,0,none⟩=some (.slice none 0 0):=hu1.was γ);(have p3:w1.cell? ⟨w.heap.size+1+1,1,none⟩=some (.slice none 0 0):=hu1.was γ);(have f2:w1.frozen? ⟨w.heap.size+1+1,0,none⟩=false:=hu1.aH (v:=.slice none 0 0) γ σ γ);(have f3:w1.frozen? ⟨w.heap.size+1+1,1,none⟩=false:=hu1.aH (v:=.slice none 0 0) γ σ γ);(have hw1:aa [] w w1:=aa.trans β hu1))|fail)
  exact bodyPost_ret (v:=.tuple #[.agg #[.slice none 0 0,.slice none 0 0],.int .i64 v]) (by simp [results,Tryz.results29,go_sem,p2,p3]) rfl ⟨rfl,β⟩
def oz (N:Int) (n:Nat):Bool:=decide ((n:Int) > 60) || (decide (N > 40) && decide (N<=4096))
theorem Ik (w:World) (N:Int) (a:Option Addr) (n cap:Nat):Calls Tryz.prog 28 #[.agg #[.int .i64 N,.slice a n cap]] w fun r w'=>r=.returned (.bool (oz N n))/\aa [] w w':=by
 unfold oz
 by_cases h1:(n:Int) > 60
 ·have h1b:decide ((n:Int) > 60)=true:=by simpa using h1
  go_enter Tryz.func28,Tryz.ntmps28
  go_wp2;go_ret;exact ⟨aU ι,β⟩
 ·have h1b:decide ((n:Int) > 60)=false:=by simpa using h1
  by_cases h2:N > 40
  ·have h2b:decide (N > 40)=true:=by simpa using h2
   go_enter Tryz.func28,Tryz.ntmps28
   go_wp2;go_ret;exact ⟨aU ι,β⟩
  ·have h2b:decide (N > 40)=false:=by simpa using h2
   go_enter Tryz.func28,Tryz.ntmps28
   go_wp2;go_ret;exact ⟨aU ι,β⟩
end Go.Proofs.YtklibcncmbofpaaGreat
