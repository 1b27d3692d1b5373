/-
  Lemmas for PqOpens: PaP, Pa, Pa2, Pa3, Pa8, Pa7, Pa9, PaQ. Conditions: those of each lemma.
-/
import Derived.Deep.LoopGhost
import Derived.Test.YtnpdakpagnpanaaGreatD05
set_option linter.all false
set_option maxHeartbeats 8000000
set_option maxRecDepth 10000
namespace Go.Proofs.YtnpdakpagnpanaaGreat
def fO (A:NS):BT->Prop
 | .nil=>True
 | .node x l r=>(∀y,y∈l.nodes->dm A x y)/\fO A l/\fO A r
theorem fO.frame {A A':NS}:∀ {t:BT},fO A t->(∀x,x∈t.nodes->A'.c x=A.c x)->fO A' t
 | .nil,_,_=>trivial
 | .node x l r,h,hs=>by
  have hx:=hs x (by simp [BT.nodes]);exact ⟨λy hy=>(dM hx (hs y (by simp [BT.nodes,hy]))).2 (h.1 y hy),h.2.1.frame (λy hy=>hs y (by simp [BT.nodes,hy])),h.2.2.frame (λy hy=>hs y (by simp [BT.nodes,hy]))⟩
abbrev uN:BV:=⟨fO,fO.frame,λ_=>trivial⟩
def Lone:BT->Prop
 | .nil=>True
 | .node _ _ r=>r=.nil
/-! ### two trees become one -/
noncomputable def fT (A:NS) (a b:BT):BT:=
 match a,b with
 | .nil,t=>t
 | t,.nil=>t
 | .node x l _,.node y m _=>if dm A y x then .node y (.node x l m) .nil else .node x (.node y m l) .nil
theorem jA (A:NS) (t:BT):fT A .nil t=t:=by cases t<;>rfl
theorem il (A:NS) (t:BT):fT A t .nil=t:=by cases t<;>rfl
theorem iA (A:NS) (x y:Nat) (l r m q:BT):fT A (.node x l r) (.node y m q)=if dm A y x then .node y (.node x l m) .nil else .node x (.node y m l) .nil:=rfl
theorem yc (A:NS) {a b:BT} (ha:Lone a) (hb:Lone b):(fT A a b).nodes.Perm (a.nodes++b.nodes):=by
 cases a with
 | nil=>rw [jA];exact ό _
 | node x l r=>
  cases b with
  | nil=>rw [il];simp [BT.nodes]
  | node y m q=>
   have e1:r=.nil:=ha;have e2:q=.nil:=hb;subst e1 e2;rw [iA]
   split
   ·simp only [BT.nodes,Υ];exact (List.perm_middle (a:=y) (l₁:=x::l.nodes) (l₂:=m.nodes)).symm
   ·simp only [BT.nodes,Υ];refine List.Perm.cons x ?_;exact ((Φ (l₁:=l.nodes) (l₂:=y::m.nodes))).symm
theorem xY (A:NS) {a b:BT} (ha:Lone a) (hb:Lone b):Lone (fT A a b):=by
 cases a with
 | nil=>rw [jA];exact hb
 | node x l r=>
  cases b with
  | nil=>rw [il];exact ha
  | node y m q=>rw [iA];split<;>rfl
theorem G5 {A:NS} {x:Nat} {l:BT} (h:fO A (.node x l .nil)):∀y,y∈(BT.node x l .nil).nodes->y=x\/dm A x y:=λy hy=>by
 simp only [BT.nodes,Υ,ρ] at hy;rcases hy with e|e
 ·exact Α e
 ·exact Β (h.1 y e)
theorem xh {A:NS} {a b:BT} (ha:Lone a) (hb:Lone b) (h1:fO A a) (h2:fO A b) (hn:(a.nodes++b.nodes).Nodup):fO A (fT A a b):=by
 cases a with
 | nil=>rw [jA];exact h2
 | node x l r=>
  cases b with
  | nil=>rw [il];exact h1
  | node y m q=>
   have e1:r=.nil:=ha;have e2:q=.nil:=hb;subst e1 e2;have hxy:x≠y:=λe=>by
    simp only [BT.nodes,Υ,θ] at hn;exact hn.2.2 x σ y σ e
   rw [iA]
   split
   ·rename_i h
    refine ⟨λz hz=>?_,⟨h1.1,h1.2.1,h2.2.1⟩,trivial⟩;simp only [BT.nodes,ρ,τ] at hz;rcases hz with e|e|e
    ·rw [e];exact h
    ·exact bK h (h1.1 z e)
    ·exact h2.1 z e
   ·rename_i h
    have h':dm A x y:=(eU hxy).resolve_right h;refine ⟨λz hz=>?_,⟨h2.1,h2.2.1,h1.2.1⟩,trivial⟩;simp only [BT.nodes,ρ,τ] at hz;rcases hz with e|e|e
    ·rw [e];exact h'
    ·exact bK h' (h2.1 z e)
    ·exact h1.1 z e
def bY (S:TS) (x y:Nat):TS:=⟨λz=>if z=x then y else S.l z,λz=>if z=y then S.l x else S.r z,λz=>if z=y then x else if (z:Int)=S.l x then y else S.u z⟩
theorem tJ {S:TS} {x y z:Nat} (h1:z≠x) (h2:z≠y) (h3:(z:Int)≠S.l x):S.at (bY S x y) z:=by
 unfold bY TS.at;simp [h1,h2,h3]
theorem oG {S:TS} {x y:Nat} {l m:BT} (ha:dD S (-1) x (.node x l .nil)) (hb:dD S (-1) y (.node y m .nil)) (hn:((BT.node x l .nil).nodes++(BT.node y m .nil).nodes).Nodup) :
  dD (bY S x y) (-1) x (.node x (.node y m l) .nil)/\∀z,z∉(BT.node x l .nil).nodes++(BT.node y m .nil).nodes->S.at (bY S x y) z:=by
 simp only [BT.nodes,Υ] at hn ⊢;rw [θ,Ζ,Ζ] at hn;obtain ⟨⟨n1,n2⟩,⟨n3,n4⟩,n5⟩:=hn;obtain ⟨_,a2,a3,a4⟩:=ha;obtain ⟨_,b2,b3,b4⟩:=hb;have hxy:x≠y:=λe=>n5 x σ y σ e;have hlx:S.l x=l.root:=a3.root;have hlr:∀z:Nat,(z:Int)=S.l x->z∈l.nodes:=λz hz=>by
  rw [hlx] at hz
  by_cases e:l=.nil
  ·rw [e] at hz;simp [BT.root] at hz
  ·have h1:=dH e;have:l.root.toNat=z:=ω;rw [←this];exact h1.1
 have e0:(bY S x y).l x=y:=by unfold bY;simp
 have e1:(bY S x y).r x=S.r x:=by unfold bY;simp [hxy]
 have e2:(bY S x y).u x=S.u x:=by
  have h3:(x:Int)≠S.l x:=λe=>n1 (hlr x e);unfold bY;simp [hxy,h3]
 have e3:(bY S x y).l y=S.l y:=by have hyx:¬y=x:=λe=>hxy e.symm;unfold bY;simp [hyx]
 have e4:(bY S x y).r y=S.l x:=by unfold bY;simp
 have e5:(bY S x y).u y=x:=by unfold bY;simp
 refine ⟨⟨rfl,by rw [e2];exact a2,?_,by rw [e1];exact a4⟩,λz hz=>?_⟩
 ·rw [e0];refine ⟨rfl,e5,?_,?_⟩
  ·rw [e3];refine b3.frame (λz hz=>tJ (λe=>n5 x σ z (by simp [hz]) e.symm) (λe=>n3 (by rw [←e];exact hz)) (λe=>n5 z (by simp [hlr z e]) z (by simp [hz]) rfl))
  ·rw [e4];refine a3.EG n2 (λz hz=>?_) (λhl=>?_)
   ·have z1:z≠x:=λe=>n1 (by rw [←e];exact hz);have z2:z≠y:=λe=>n5 z (by simp [hz]) y σ e;refine ⟨by unfold bY;simp [z1],by unfold bY;simp [z2],λhr=>?_⟩;have z3:(z:Int)≠S.l x:=λe=>hr (by rw [←hlx,←e];simp);unfold bY;simp [z2,z3]
   ·have h1:=dH hl;have z2:l.root.toNat≠y:=λe=>n5 _ (Λ _ h1.1) y σ e
    show (if l.root.toNat=y then (x:Int) else if ((l.root.toNat:Nat):Int)=S.l x then (y:Int) else S.u l.root.toNat)=y
    rw [Γ z2,Δ (by rw [hlx];exact h1.2.symm)]
 ·simp only [τ,ρ,not_or] at hz;exact tJ hz.1.1 hz.2.1 (λe=>hz.1.2 (hlr z e))
end Go.Proofs.YtnpdakpagnpanaaGreat
namespace Go.Proofs.YtnpdakpagnpanaaGreat
open Go Go.RowKit
structure PB where
 n0:Nat
 c:Nat
 ba:Nat
structure dY (w:World) (B:PB) (F:List Nat) (gt ct:Nat) (A:NS) (st:Nat) (S:TS) (ae:List Int):Prop where
 head:ak w B.n0 188 3 (λj=>[Value.pointer (some ⟨B.c,0,none⟩),.slice (some ⟨B.ba,0,none⟩) A.cs.length A.cs.length,.slice (some ⟨gt,0,none⟩) ae.length ct].getD j undef)
 cells:ai w B.c F A st
 ties:ak w B.ba 190 (A.cs.length*3) (aV S)
 gB:IZ w gt ct ae
 fG:ae.length=A.hs.length
 aS:B.n0∉F/\B.ba∉F/\gt∉F
 sep:B.n0≠B.ba/\B.n0≠gt/\B.ba≠gt
section
variable {w:World} {B:PB} {F:List Nat} {gt ct:Nat} {A:NS} {st:Nat} {S:TS} {ae:List Int}
def PB.blk (B:PB) (F:List Nat) (gt:Nat):List Nat:=B.n0::B.ba::gt::F
theorem dY.upd {w':World} {G:List Nat} (h:dY w B F gt ct A st S ae) (hu:aa G w w') (hG:∀x,x∈G->x∉B.blk F gt):dY w' B F gt ct A st S ae:=by
 have h1:∀x,x∈B.blk F gt->x∉G:=λx hx hg=>hG x hg hx;exact ⟨h.head.upd hu (h1 _ (by simp [PB.blk])),h.cells.upd hu (λx hx=>λhm=>hG x hx (by simp [PB.blk,hm])),h.ties.upd hu (h1 _ (by simp [PB.blk])),h.gB.upd hu (h1 _ (by simp [PB.blk])),h.fG,h.aS,h.sep⟩
theorem dY.ah {w':World} (h:dY w B F gt ct A st S ae) (hu:aa [] w w'):dY w' B F gt ct A st S ae:=h.upd hu σ
theorem dY.lt (h:dY w B F gt ct A st S ae):∀x,x∈B.blk F gt->x<w.heap.size:=by
 intro x hx;have:=h.head.lt;have:=h.ties.lt;have:=h.gB.lt;simp only [PB.blk,ρ] at hx;rcases hx with rfl|rfl|rfl|hx
 ·assumption
 ·assumption
 ·assumption
 ·exact h.cells.lt x hx
theorem dY.cF (h:dY w B F gt ct A st S ae):B.c∈F:=h.cells.mem
theorem dY.h0 (h:dY w B F gt ct A st S ae):w.cell? ⟨B.n0,0,none⟩=some (.pointer (some ⟨B.c,0,none⟩)):=h.head.cellAt 0 ω rfl
theorem dY.h1 (h:dY w B F gt ct A st S ae):w.cell? ⟨B.n0,1,none⟩=some (.slice (some ⟨B.ba,0,none⟩) A.cs.length A.cs.length):=h.head.cellAt 1 ω rfl
theorem dY.h2 (h:dY w B F gt ct A st S ae):w.cell? ⟨B.n0,2,none⟩=some (.slice (some ⟨gt,0,none⟩) ae.length ct):=h.head.cellAt 2 ω rfl
theorem dY.l (h:dY w B F gt ct A st S ae) (x:Nat) (hx:x<A.cs.length):w.cell? ⟨B.ba,x*3,none⟩=some (.int .i64 (S.l x)):=h.ties.cellAt _ ω (gT S x)
theorem dY.r (h:dY w B F gt ct A st S ae) (x:Nat) (hx:x<A.cs.length):w.cell? ⟨B.ba,x*3+1,none⟩=some (.int .i64 (S.r x)):=h.ties.cellAt _ ω (gV S x)
theorem dY.u (h:dY w B F gt ct A st S ae) (x:Nat) (hx:x<A.cs.length):w.cell? ⟨B.ba,x*3+2,none⟩=some (.int .i64 (S.u x)):=h.ties.cellAt _ ω (jy S x)
theorem dY.f (h:dY w B F gt ct A st S ae) (j:Nat):w.frozen? ⟨B.ba,j,none⟩=false:=h.ties.free j
theorem dY.iY {w':World} {S':TS} (h:dY w B F gt ct A st S ae) (hu:aa [B.ba] w w') (hT:ak w' B.ba 190 (A.cs.length*3) (aV S')):dY w' B F gt ct A st S' ae:=by
 have s:=h.sep;have f:=h.aS;exact ⟨h.head.upd hu ζ,h.cells.upd hu (λx hx=>by simp at hx;rw [hx];exact f.2.1),hT,h.gB.upd hu ζ,h.fG,f,s⟩
theorem dY.ext {S':TS} (h:dY w B F gt ct A st S ae) (hS:∀x,S'.l x=S.l x/\S'.r x=S.r x/\S'.u x=S.u x):dY w B F gt ct A st S' ae:=by
 have e:S'=S:=by
  cases S;cases S';simp only [TS.mk.injEq];exact ⟨funext λx=>(hS x).1,funext λx=>(hS x).2.1,funext λx=>(hS x).2.2⟩
 rw [e];exact h
theorem BL (S:TS) (p:Nat) (v:Int) (j:Nat):(if j=p*3 then Value.int .i64 v else aV S j)=aV (S.aC p false v) j:=by
 unfold aV TS.aC
 by_cases hj2:j=p*3
 ·subst hj2;simp
 ·by_cases h0:j % 3=0
  ·simp [hj2,h0];intro hh;exfalso;omega
  ·simp [hj2,h0]
theorem Dz (S:TS) (p:Nat) (v:Int) (j:Nat):(if j=p*3+1 then Value.int .i64 v else aV S j)=aV (S.aC p true v) j:=by
 unfold aV TS.aC
 by_cases hj2:j=p*3+1
 ·subst hj2;simp;intro hh;exfalso;omega
 ·by_cases h0:j % 3=1
  ·simp [hj2,h0];intro hh;exfalso;omega
  ·simp [hj2,h0]
theorem DI (S:TS) (p:Nat) (v:Int) (j:Nat):(if j=p*3+2 then Value.int .i64 v else aV S j)=aV (S.bL p v) j:=by
 unfold aV TS.bL
 by_cases hj2:j=p*3+2
 ·subst hj2;simp;intro hh;exfalso;omega
 ·by_cases h0:j % 3=0
  ·simp [hj2,h0]
  ·by_cases h1:j % 3=1
   ·simp [hj2,h1]
   ·simp [hj2,h0,h1];intro hh;exfalso;omega
theorem dY.BN (h:dY w B F gt ct A st S ae) (p:Nat) (v:Int):dY (w.setCell ⟨B.ba,p*3,none⟩ (.int .i64 v)) B F gt ct A st (S.aC p false v) ae:=
 h.iY β ((h.ties.set _ _).ext (λj _=>BL S p v j))
theorem dY.gq (h:dY w B F gt ct A st S ae) (p:Nat) (v:Int):dY (w.setCell ⟨B.ba,p*3+1,none⟩ (.int .i64 v)) B F gt ct A st (S.aC p true v) ae:=
 h.iY β ((h.ties.set _ _).ext (λj _=>Dz S p v j))
theorem dY.nU (h:dY w B F gt ct A st S ae) (p:Nat) (v:Int):dY (w.setCell ⟨B.ba,p*3+2,none⟩ (.int .i64 v)) B F gt ct A st (S.bL p v) ae:=
 h.iY β ((h.ties.set _ _).ext (λj _=>DI S p v j))
theorem dY.uJ (h:dY w B F gt ct A st S ae) (x:Nat) (k:Int):dY (w.setCell ⟨gt,x,none⟩ (.int .i64 k)) B F gt ct A st S (ae.set x k):=by
 have s:=h.sep;have f:=h.aS;have hu:aa [gt] w (w.setCell ⟨gt,x,none⟩ (.int .i64 k)):=β;exact ⟨by rw [Ι];exact h.head.upd hu ζ,h.cells.upd hu (λx hx=>by simp at hx;rw [hx];exact f.2.2),h.ties.upd hu ζ,h.gB.set x k,by rw [Ι];exact h.fG,f,s⟩
theorem dY.fw {w':World} {F':List Nat} {A':NS} {st':Nat} (h:dY w B F gt ct A st S ae) (hu:aa F w w') (hC:ai w' B.c F' A' st') (hF:∀x,x∈F'->x∈F\/w.heap.size<=x) (h1:A'.cs.length=A.cs.length) (h2:A'.hs.length=A.hs.length):dY w' B F' gt ct A' st' S ae:=by
 have f:=h.aS;have g:=h.lt;have hf:∀x,x<w.heap.size->x∉F->x∉F':=λx hx hn hm=>by rcases hF x hm with h'|h';exact hn h';omega
 have l0:=g B.n0 (by simp [PB.blk]);have l1:=g B.ba (by simp [PB.blk]);have l4:=g gt (by simp [PB.blk]);exact ⟨by rw [h1];exact h.head.upd hu f.1,hC,by rw [h1];exact h.ties.upd hu f.2.1,h.gB.upd hu f.2.2,by rw [h2];exact h.fG,⟨hf _ l0 f.1,hf _ l1 f.2.1,hf _ l4 f.2.2⟩,h.sep⟩
end
def iO (w:World) (B:PB) (F:List Nat) (gt ct:Nat) (A:NS) (st:Nat) (tr:Nat->BT):Prop:=∃S ae,dY w B F gt ct A st S ae/\oq uN A S ae tr/\∀h,Lone (tr h)
theorem iO.upd {w w':World} {B:PB} {F G:List Nat} {gt ct st:Nat} {A:NS} {tr:Nat->BT} (h:iO w B F gt ct A st tr) (hu:aa G w w') (hG:∀x,x∈G->x∉B.blk F gt):iO w' B F gt ct A st tr:=by
 obtain ⟨S,ae,hM,hI⟩:=h;exact ⟨S,ae,hM.upd hu hG,hI⟩
theorem iO.ah {w w':World} {B:PB} {F:List Nat} {gt ct st:Nat} {A:NS} {tr:Nat->BT} (h:iO w B F gt ct A st tr) (hu:aa [] w w'):iO w' B F gt ct A st tr:=h.upd hu σ
section
variable {w:World} {B:PB} {F:List Nat} {gt ct:Nat} {A:NS} {st:Nat} {S:TS} {ae:List Int}
theorem oZ (S:TS) (x y:Nat) (h:S.l x=-1):∀z,(bY S x y).l z=((((S.aC y true (S.l x)).bL y x).aC x false y)).l z/\(bY S x y).r z=((((S.aC y true (S.l x)).bL y x).aC x false y)).r z/\(bY S x y).u z=((((S.aC y true (S.l x)).bL y x).aC x false y)).u z:=λz=>by
 unfold bY TS.aC TS.bL;rw [h];refine ⟨σ,σ,?_⟩;have:¬ (z:Int)=-1:=ω;simp [this]
theorem pz (S:TS) (x y o:Nat) (h:S.l x=o) (hoy:o≠y):∀z,(bY S x y).l z=(((((S.aC y true (S.l x)).bL y x).bL o y).aC x false y)).l z/\(bY S x y).r z=(((((S.aC y true (S.l x)).bL y x).bL o y).aC x false y)).r z/\(bY S x y).u z=(((((S.aC y true (S.l x)).bL y x).bL o y).aC x false y)).u z:=λz=>by
 unfold bY TS.aC TS.bL;rw [h];refine ⟨σ,σ,?_⟩;simp only [ϗ,if_false,if_true]
 by_cases h1:z=y
 ·subst h1;rw [Δ rfl,Γ (λe=>hoy e.symm),Δ rfl]
 ·rw [Γ h1]
  by_cases h2:z=o
  ·subst h2;simp
  ·rw [Γ (show ¬ (z:Int)=(o:Int) by omega),Γ h2,Γ h1]
theorem kV (b:Int) (w:World) (n0:Nat):Calls Tryz.prog 205 #[.pointer (some ⟨n0,0,none⟩),.int .i64 (-1),.int .i64 b] w λe w'=>e=.returned (.int .i64 b)/\w'=w:=by
 go_enter Tryz.func205,Tryz.ntmps205
 go_wp2;go_ret;exact ⟨rfl,rfl⟩
theorem qI (a:Int) (w:World) (n0:Nat):Calls Tryz.prog 205 #[.pointer (some ⟨n0,0,none⟩),.int .i64 a,.int .i64 (-1)] w λe w'=>e=.returned (.int .i64 a)/\w'=w:=by
 by_cases h:a=-1
 ·subst h;exact kV (-1) w n0
 ·have hb:(a == -1)=false:=by simpa using h
  go_enter Tryz.func205,Tryz.ntmps205
  go_wp2;go_ret;exact ⟨rfl,rfl⟩
theorem qZ (h:dY w B F gt ct A st S ae) (x y:Nat) (hx:dh A (x:Int)=true) (hy:dh A (y:Int)=true) (hxy:x≠y) (hkx:S.l x=-1\/(0<=S.l x/\S.l x<A.cs.length)) (JZ:S.l y=-1\/(0<=S.l y/\S.l y<A.cs.length)) (hnx:S.l x≠y) (hny:S.l y≠x) :
  Calls Tryz.prog 205 #[.pointer (some ⟨B.n0,0,none⟩),.int .i64 (x:Int),.int .i64 (y:Int)] w λe w'=>e=.returned (.int .i64 ((if dm A y x then y else x:Nat):Int))/\(∃st',dY w' B F gt ct A st' (if dm A y x then bY S y x else bY S x y) ae)/\aa [B.ba,B.c] w w':=by
 have ka:=dE h.cells y x hy hx;have hx2:=(aK _ _).1 hx;have hy2:=(aK _ _).1 hy;have hA:=h.cells.ok.c1;have c0:=h.h0;have hM1:∀w1,ai w1 B.c F A (bR st 1)->aa [B.c] w w1->dY w1 B F gt ct A (bR st 1) S ae:=λw1 hC hu=>h.fw (hu.mono (λz hz=>by simp at hz;rw [hz];exact h.cF)) hC (λz hz=>Α hz) rfl rfl;have hb1:((x:Int) == -1)=false:=σ;have hb2:((y:Int) == -1)=false:=σ;have HX:=χ (ψ hM1 h.sep);have Jn:(x:Int)<(A.cs.length:Int):=ω;have hyI:(y:Int)<(A.cs.length:Int):=ω;clear h hx hy hM1
 by_cases hlt:dm A y x
 ·rw [Ν hlt] at ka;rw [Δ hlt,Δ hlt];clear hlt hkx
  go_enter Tryz.func205,Tryz.ntmps205
  go_upto_region 7 with (first
   | ((go_at_call 164;(with_reducible refine (ka).mono ?_));rintro e w1 ⟨rfl,hC,hu1⟩)
   | fail)
  obtain ⟨hM1,hsep⟩:=HX.out;have hM:=hM1 w1 hC hu1;have c1:=hM.h1;have dl:=hM.l y hy2.1;have dr:=hM.r x hx2.1;have du:=hM.u x hx2.1;have ff:=hM.f;have ff1:=ff (x*3+1);have ff2:=ff (x*3+2);have ff3:=ff (y*3);have hn1:¬B.n0=B.ba:=hsep.1;have hn2:¬B.ba=B.n0:=λe=>hsep.1 e.symm;have HM:=χ (ψ hM hu1);have nb1:¬y*3=x*3+1:=ω;have nb2:¬y*3=x*3+2:=ω;have nbl:y*3<A.cs.length*3:=ω;clear hM hu1 hC hM1 hsep ka
  by_cases ho:S.l y=-1
  ·have HO:=χ ho;have he:=oZ S y x ho;rw [ho] at dl he;have HE:=χ he;have hlr:((-1:Int) != -1)=false:=σ;clear ho he JZ hny
   go_upto_region 8 with (fail)
   go_region_law (fail)
   all_goals
    go_wp2;go_ret;refine ⟨rfl,⟨_,dY.ext ((((HM.out.1.gq x (-1)).nU x y).BN y x).ah ?_) HE.out⟩,(HM.out.2.mono σ).trans ?_⟩
    ·exact ν
    ·exact β
  ·obtain ⟨o,zM⟩:∃o:Nat,S.l y=o:=⟨(S.l y).toNat,ω⟩;have hol:o<A.cs.length:=ω;have hoy:o≠x:=λe=>hny (by rw [zM,e]);have he:=pz S y x o zM hoy;rw [zM] at dl he;have HE:=χ he;have yK:((o:Int) != -1)=true:=σ;have hoI:(o:Int)<(A.cs.length:Int):=ω;have do_:=HM.out.1.u o hol;have ff4:=ff (o*3+2);have no1:¬o*3+2=x*3+1:=ω;have no2:¬o*3+2=x*3+2:=ω;have no3:¬y*3=o*3+2:=ω;clear ho he zM JZ hny
   go_upto_region 8 with (fail)
   go_region_law (fail)
   all_goals
    go_wp2;go_ret;refine ⟨rfl,⟨_,dY.ext (((((HM.out.1.gq x (o:Int)).nU x y).nU o x).BN y x).ah ?_) HE.out⟩,(HM.out.2.mono σ).trans ?_⟩
    ·exact ν
    ·exact β
 ·rw [Ξ hlt] at ka;rw [Γ hlt,Γ hlt];clear hlt JZ
  go_enter Tryz.func205,Tryz.ntmps205
  go_upto_region 7 with (first
   | ((go_at_call 164;(with_reducible refine (ka).mono ?_));rintro e w1 ⟨rfl,hC,hu1⟩)
   | fail)
  obtain ⟨hM1,hsep⟩:=HX.out;have hM:=hM1 w1 hC hu1;have c1:=hM.h1;have dl:=hM.l x hx2.1;have dr:=hM.r y hy2.1;have du:=hM.u y hy2.1;have ff:=hM.f;have ff1:=ff (y*3+1);have ff2:=ff (y*3+2);have ff3:=ff (x*3);have hn1:¬B.n0=B.ba:=hsep.1;have hn2:¬B.ba=B.n0:=λe=>hsep.1 e.symm;have HM:=χ (ψ hM hu1);have nb1:¬x*3=y*3+1:=ω;have nb2:¬x*3=y*3+2:=ω;have nbl:x*3<A.cs.length*3:=ω;clear hM hu1 hC hM1 hsep ka
  by_cases ho:S.l x=-1
  ·have HO:=χ ho;have he:=oZ S x y ho;rw [ho] at dl he;have HE:=χ he;have hlr:((-1:Int) != -1)=false:=σ;clear ho he hkx hnx
   go_upto_region 8 with (fail)
   go_region_law (fail)
   all_goals
    go_wp2;go_ret;refine ⟨rfl,⟨_,dY.ext ((((HM.out.1.gq y (-1)).nU y x).BN x y).ah ?_) HE.out⟩,(HM.out.2.mono σ).trans ?_⟩
    ·exact ν
    ·exact β
  ·obtain ⟨o,zM⟩:∃o:Nat,S.l x=o:=⟨(S.l x).toNat,ω⟩;have hol:o<A.cs.length:=ω;have hoy:o≠y:=λe=>hnx (by rw [zM,e]);have he:=pz S x y o zM hoy;rw [zM] at dl he;have HE:=χ he;have yK:((o:Int) != -1)=true:=σ;have hoI:(o:Int)<(A.cs.length:Int):=ω;have do_:=HM.out.1.u o hol;have ff4:=ff (o*3+2);have no1:¬o*3+2=y*3+1:=ω;have no2:¬o*3+2=y*3+2:=ω;have no3:¬x*3=o*3+2:=ω;clear ho he zM hkx hnx
   go_upto_region 8 with (fail)
   go_region_law (fail)
   all_goals
    go_wp2;go_ret;refine ⟨rfl,⟨_,dY.ext (((((HM.out.1.gq y (o:Int)).nU y x).nU o y).BN x y).ah ?_) HE.out⟩,(HM.out.2.mono σ).trans ?_⟩
    ·exact ν
    ·exact β
end
theorem KD {a b:List Nat} (h:(a++b).Nodup):(b++a).Nodup:=(Φ (l₁:=a) (l₂:=b)).nodup_iff.1 h
theorem nH {S:TS} {p z:Int} {t:BT} {n:Nat} (h:dD S p z t) (hl:∀y,y∈t.nodes->y<n):z=-1\/(0<=z/\z<n):=by
 rw [h.root]
 by_cases e:t=.nil
 ·left;rw [e];rfl
 ·right;have h1:=dH e;have:=hl _ h1.1;omega
section
variable {w:World} {B:PB} {F:List Nat} {gt ct:Nat} {A:NS} {st:Nat} {S:TS} {ae:List Int}
theorem BQ (h:dY w B F gt ct A st S ae) (a b:BT) (ha:dD S (-1) a.root a) (hb:dD S (-1) b.root b) (la:Lone a) (lb:Lone b) (hn:(a.nodes++b.nodes).Nodup) (hin:∀z,z∈a.nodes++b.nodes->dh A (z:Int)=true) :
  Calls Tryz.prog 205 #[.pointer (some ⟨B.n0,0,none⟩),.int .i64 a.root,.int .i64 b.root] w λe w'=>e=.returned (.int .i64 (fT A a b).root)/\aa [B.ba,B.c] w w'/\∃st' S',dY w' B F gt ct A st' S' ae/\dD S' (-1) (fT A a b).root (fT A a b)/\∀z,z∉a.nodes++b.nodes->S.at S' z:=by
 cases a with
 | nil=>
  rw [jA];refine (kV b.root w B.n0).mono ?_;rintro e w' ⟨rfl,rfl⟩;exact ⟨rfl,aa.refl _ _,st,S,h,hb,λz _=>⟨rfl,rfl,rfl⟩⟩
 | node x l r=>
  cases b with
  | nil=>
   rw [il];refine (qI (BT.node x l r).root w B.n0).mono ?_;rintro e w' ⟨rfl,rfl⟩;exact ⟨rfl,aa.refl _ _,st,S,h,ha,λz _=>⟨rfl,rfl,rfl⟩⟩
  | node y m q=>
   have e1:r=.nil:=la;have e2:q=.nil:=lb;subst e1 e2;have hlt:∀z,z∈(BT.node x l .nil).nodes++(BT.node y m .nil).nodes->z<A.cs.length:=λz hz=>((aK _ _).1 (hin z hz)).1;have hxy:x≠y:=λe=>by
    rw [θ] at hn;exact hn.2.2 x (by simp [BT.nodes]) y (by simp [BT.nodes]) e
   have hrx:=nH (n:=A.cs.length) ha.2.2.1 (λz hz=>hlt z (by simp [BT.nodes,hz]));have Hd:=nH (n:=A.cs.length) hb.2.2.1 (λz hz=>hlt z (by simp [BT.nodes,hz]));have hne:∀ {u:Nat} {t t':BT},S.l u=t.root->(∀z,z∈t.nodes->z∉t'.nodes)->∀v,v∈t'.nodes->S.l u≠(v:Int):=λ{u t t'} h1 h2 v hv e=>by
    rw [h1] at e;have h6:t≠.nil:=λe'=>by rw [e'] at e;simp [BT.root] at e
    have h7:=(dH h6).1;rw [e,π] at h7;exact h2 v h7 hv
   have hnn:=hn;rw [θ] at hnn;have hnx:S.l x≠(y:Int):=hne (t':=.node y m .nil) ha.2.2.1.root (λz hz hm=>hnn.2.2 z (by simp [BT.nodes,hz]) z hm rfl) y (by simp [BT.nodes]);have hny:S.l y≠(x:Int):=hne (t':=.node x l .nil) hb.2.2.1.root (λz hz hm=>hnn.2.2 z hm z (by simp [BT.nodes,hz]) rfl) x (by simp [BT.nodes]);refine (qZ h x y (hin x (by simp [BT.nodes])) (hin y (by simp [BT.nodes])) hxy hrx Hd hnx hny).mono ?_;rintro e w' ⟨rfl,⟨st',hM⟩,hu⟩;rw [iA]
   by_cases hc:dm A y x
   ·simp only [Δ hc] at hM ⊢;obtain ⟨h1,h2⟩:=oG hb ha (KD hn);exact ⟨rfl,hu,st',_,hM,h1,λz hz=>h2 z (λhm=>hz (by rw [τ] at hm ⊢;exact hm.symm))⟩
   ·simp only [Γ hc] at hM ⊢;obtain ⟨h1,h2⟩:=oG ha hb hn;exact ⟨rfl,hu,st',_,hM,h1,h2⟩
end
theorem Df:(Tryz.prog.info? 190).map (λi=>(i.zero,i.size,i.bytes))=some (some (.agg #[.int .i64 0,.int .i64 0,.int .i64 0]),3,24):=by kernel_rfl
theorem yJ (n:Nat):oq uN (NS.new n) TS.none [-1] (λ_=>.nil):=pM n
theorem yA (n:Nat) (w:World) (h:n<=65536) :
  Calls Tryz.prog 62 #[.int .i64 (n:Int)] w λe w'=>∃B F gt,e=.returned (.tuple #[.pointer (some ⟨B.n0,0,none⟩),.int .i64 0])/\iO w' B F gt 1 (NS.new n) 0 (λ_=>.nil)/\aa [] w w'/\∀x,x∈B.blk F gt->w.heap.size<=x:=by
 have hcs:(NS.new n).cs.length=n:=by simp [NS.new]
 have HCS:=χ hcs;clear hcs
 go_enter Tryz.func62,Tryz.ntmps62
 go_wp2_with (first
  | ((go_at_call 84;(with_reducible refine (gu n _ h).mono ?_));rintro e w1 ⟨c,F,rfl,hC,hu1,hF⟩)
  | (at_make;refine wpList_make_row rfl _ 186 rfl 190 (.agg #[.int .i64 0,.int .i64 0,.int .i64 0]) 3 24 Tryz.underlying186 Df n rfl ω μ ?_;intro w3 hr3 hu3))
 have l1:=hu1.size;have l3:=hu3.size;have l4:=hr3.lt;have l7:=hC.lt;have lc:=l7 c hC.mem;have e3:((w3.alloc (.cells #[.int .i64 (-1)] 3)).heap.size)=w3.heap.size+1:=by rw [Κ]
 have hv:aa [] w3 (w3.alloc (.cells #[.int .i64 (-1)] 3)):=(aa.refl _ _).alloc _;obtain ⟨W4,wS⟩:∃W4,W4=(w3.alloc (.cells #[.int .i64 (-1)] 3)).alloc (.cells #[.pointer (some ⟨c,0,none⟩),.slice (some ⟨w1.heap.size,0,none⟩) n n,.slice (some ⟨w3.heap.size,0,none⟩) 1 1] 188):=⟨_,rfl⟩;have hw:aa [] w3 W4:=by rw [wS];exact hv.alloc _
 have hh:=aY (w3.alloc (.cells #[.int .i64 (-1)] 3)) [.pointer (some ⟨c,0,none⟩),.slice (some ⟨w1.heap.size,0,none⟩) n n,.slice (some ⟨w3.heap.size,0,none⟩) 1 1] 188;rw [e3] at hh;rw [←wS] at hh;have hi:IZ W4 w3.heap.size 1 [-1]:=by rw [wS];exact (IZ.lit w3 [-1] σ).upd ((aa.refl [] _).alloc _) σ
 have IJ:ai W4 c F (NS.new n) 0:=(hC.ah hu3).ah hw;have hr4:=hr3.upd hw σ;have u4:aa [] w W4:=(hu1.trans hu3).trans hw;have hF':∀x,x∈F->x<w1.heap.size:=l7;have hnF:∀x,w1.heap.size<=x->x∉F:=λx hx hm=>by have:=hF' x hm;omega
 have l5:=hw.size;rw [←wS];clear wS e3 hv hu3 hr3 hw hC;have H4:=χ (ψ IJ (ψ hi (ψ u4 (ψ hF (ψ hF' hnF)))));clear IJ hi u4 hF hF' hnF hu1 l7;go_wp2
 go_loopw [7,27] (λv7 i wr=>∃ (k:Nat) (f:Nat->Value),k<=n/\i=.int .i64 k/\ak wr (w3.heap.size+1) 188 3 (λj=>[Value.pointer (some ⟨c,0,none⟩),.slice (some ⟨w1.heap.size,0,none⟩) n n,.slice (some ⟨w3.heap.size,0,none⟩) 1 1].getD j undef)/\ak wr w1.heap.size 190 (n*3) f/\(∀j,j<k*3->f j=.int .i64 (-1))/\aa [w1.heap.size] W4 wr) (λ_ i _=>n-(intOf i).toNat)
 case atStart=>exact ⟨0,_,ω,rfl,hh.ext (λj hj=>by (have h3:j<3:=by simpa using hj);rcases (ω:j=0\/j=1\/j=2) with rfl|rfl|rfl<;>rfl),hr4,ω,aa.refl _ _⟩
 case round=>
  obtain ⟨k,f,hk,rfl,hH,hR,hf,hu⟩:=hrel;rename World=>wr
  by_cases hkn:k<n
  ·have c0:=hH.cellAt 1 ω rfl;have d0:=hR.cell (k*3) ω;have d1:=hR.cell (k*3+1) ω;have d2:=hR.cell (k*3+2) ω;have e0:=hR.free (k*3);have e1:=hR.free (k*3+1);have e2:=hR.free (k*3+2);have HF:=χ (ψ hf (ψ hH (ψ hR hu)));have Gl:decide ((k:Int)<(n:Int))=true:=ζ;clear hf hH hR hu hh hr4;go_wp2
   go_roundw
   case rel=>
    obtain ⟨hf,hH,hR,hu⟩:=HF.out;refine ⟨k+1,_,ω,by go_num,((hH.far _ _ ζ).far _ _ ζ).far _ _ ζ,((hR.set _ _).set _ _).set _ _,λj hj=>?_,((hu.setCell (Α σ) _).setCell (Α σ) _).setCell (Α σ) _⟩
    show (if j=k*3+2 then _ else if j=k*3+1 then _ else if j=k*3 then _ else f j)=_
    split
    ·rfl
    ·split
     ·rfl
     ·split
      ·rfl
      ·exact hf j ω
   case measure=>simp [intOf];omega
  ·obtain rfl:k=n:=ω;have Gl:decide ((k:Int)<(k:Int))=false:=σ;have HF:=χ (ψ hf (ψ hH (ψ hR hu)));clear hf hH hR hu hh hr4;go_wp2;go_ret2;obtain ⟨hf,hH,hR,hu⟩:=HF.out;obtain ⟨IJ,hi,u4,hF,hF',hnF⟩:=H4.out;have hcs:=HCS.out
   refine ⟨⟨w3.heap.size+1,c,w1.heap.size⟩,F,w3.heap.size,rfl,⟨TS.none,[-1],⟨by rw [hcs];exact hH,IJ.upd hu (λx hx=>by simp at hx;rw [hx];exact hnF _ (Θ _)),?_,hi.upd hu ζ,rfl,⟨hnF _ (by simp only;omega),hnF _ (by simp only;omega),hnF _ ω⟩,⟨by simp only;omega,by simp only;omega,by simp only;omega⟩⟩,yJ _,λ_=>trivial⟩,u4.joined hu (λx hx=>Β (by simp at hx;omega)),λx hx=>?_⟩
   ·rw [hcs];exact hR.ext (λj hj=>by rw [hf j hj];unfold aV TS.none;simp)
   ·simp only [PB.blk,ρ] at hx;rcases hx with rfl|rfl|rfl|hx
    ·omega
    ·omega
    ·omega
    ·exact hF x hx
theorem oq.Fp {A:NS} {S:TS} {ae:List Int} {tr:Nat->BT} (h:oq uN A S ae tr) (hL:∀h,Lone (tr h)) {g:Nat} (hg:0<bO A g):∃m:Nat,(tr g).root=m/\bQ A g=some m:=by
 obtain ⟨x,hx,hi,h0⟩:=bX.1 hg;have hxm:x∈(tr g).nodes:=(h.mem g x).2 ⟨ω,hx,hi⟩;cases ht:tr g with
 | nil=>rw [ht] at hxm;cases hxm
 | node m l r=>
  have hm:=(h.mem g m).1 (by rw [ht];simp [BT.nodes]);have hH:fO A (tr g):=h.heap g;have hl:=hL g;rw [ht] at hH hl;have hr:r=.nil:=hl;subst hr;refine ⟨m,rfl,(eO h0).2 ⟨hm.2.1,hm.2.2,λy hy hyi=>?_⟩⟩;have hym:=(h.mem g y).2 ⟨ω,hy,hyi⟩;rw [ht] at hym;exact G5 hH y hym
section
variable {w:World} {B:PB} {F:List Nat} {gt ct:Nat} {A:NS} {st:Nat} {tr:Nat->BT}
theorem vE (h:iO w B F gt ct A st tr) (g:Nat) (hn:0<bO A g) :
  Calls Tryz.prog 203 #[.pointer (some ⟨B.n0,0,none⟩),.int .i64 (g:Int)] w λe w'=>∃m:Nat,bQ A g=some m/\(tr g).root=m/\e=.returned (.tuple #[.int .i64 (m:Int),.bool true])/\w'=w:=by
 obtain ⟨S,ae,hM,hI,hL⟩:=h;obtain ⟨m,hm,hf⟩:=hI.Fp hL hn;obtain ⟨x,hx,hi,h0⟩:=bX.1 hn;have ok:=hM.cells.ok;have hgl:g<A.hs.length:=by have:=(ok.nat x hx).2;omega
 have KP:=ok.h1;have k:=gZ hM.cells (g:Int) ω;have hh0:=hM.h0;have h3:=hM.h2;have d:=hM.gB.cell g (by rw [hM.fG];exact hgl);rw [hI.top g hgl,hm] at d;have htl:g<ae.length:=by rw [hM.fG];exact hgl
 generalize hl:bO A (g:Int)=n at *;have hb:((n:Int) == 0)=false:=ζ;have HF:=χ (ψ hf hm);clear hM hI hm hf hx hi h0 ok hl
 go_enter Tryz.func203,Tryz.ntmps203
 go_wp2_with (first|(go_at_call 126;(with_reducible refine (k).mono ?_);rintro e w9 ⟨rfl,aB⟩;rw [aB];clear aB w9))
 go_ret2;exact ⟨m,HF.out.1,HF.out.2,rfl,rfl⟩
theorem vk (h:iO w B F gt ct A st tr) (x:Int) (hx:-9223372036854775808<=x/\x<=9223372036854775807) (hn:bO A x=0) :
  Calls Tryz.prog 203 #[.pointer (some ⟨B.n0,0,none⟩),.int .i64 x] w λe w'=>e=.returned (.tuple #[.int .i64 0,.bool false])/\w'=w:=by
 obtain ⟨S,ae,hM, -⟩:=h;have k:=gZ hM.cells x hx;rw [hn] at k;have h0:=hM.h0;clear hM hn
 go_enter Tryz.func203,Tryz.ntmps203
 go_wp2_with (first|(go_at_call 126;(with_reducible refine (k).mono ?_);rintro e w9 ⟨rfl,aB⟩;rw [aB];clear aB w9))
 go_ret2;exact ⟨rfl,rfl⟩
theorem yl (h:iO w B F gt ct A st tr) (hl:65536<A.hs.length) :
  Calls Tryz.prog 201 #[.pointer (some ⟨B.n0,0,none⟩)] w λe w'=>e=.returned (.int .i64 0)/\Goes (B.blk F gt) w w' (λF'=>∃F1,F'=B.blk F1 gt/\iO w' B F1 gt ct A st tr):=by
 obtain ⟨S,ae,hM,hI⟩:=h;have k:=cZ hM.cells;have e1:aT A=0:=by unfold aT;rw [Δ hl]
 have e2:ag A=A:=by unfold ag;rw [Δ hl]
 rw [e1,e2] at k;have h0:=hM.h0;have HM:=χ hM;have HI:=χ hI;clear hM hI e1 e2
 go_enter Tryz.func201,Tryz.ntmps201
 go_wp2_with (first|((go_at_call 140;(with_reducible refine (k).mono ?_));rintro e w1 ⟨rfl,F1,hC,hu,hF⟩))
 go_ret
 exact ⟨rfl,B.blk F1 gt,⟨F1,rfl,S,ae,HM.out.fw hu hC hF rfl rfl,HI.out⟩,hu.mono (λy hy=>by simp [PB.blk,hy]),λx hx=>by
  simp only [PB.blk,ρ] at hx ⊢;rcases hx with rfl|rfl|rfl|hx
  ·simp
  ·simp
  ·simp
  ·rcases hF x hx with h|h
   ·simp [h]
   ·exact Β h⟩
theorem vW (h:iO w B F gt ct A st tr) (hl:¬65536<A.hs.length) :
  Calls Tryz.prog 201 #[.pointer (some ⟨B.n0,0,none⟩)] w λe w'=>e=.returned (.int .i64 (A.hs.length:Int))/\Goes (B.blk F gt) w w' (λF'=>∃F1 gP rR,F'=B.blk F1 gP/\iO w' B F1 gP rR (ag A) st tr):=by
 obtain ⟨S,ae,hM,hI,hL⟩:=h;have k:=cZ hM.cells;have e1:aT A=A.hs.length:=by unfold aT;rw [Γ hl]
 rw [e1] at k;have hcs:(ag A).cs.length=A.cs.length:=by unfold ag;rw [Γ hl]
 have gW:(ag A).hs.length=A.hs.length+1:=by unfold ag;rw [Γ hl];simp
 have hI2:=hI.make hM.cells.ok hM.fG hl;have h0:=hM.h0;have hh0:=hM.cells.ok.h0;have JP:=χ hM.fG;have htb:ae.length<=65536:=by rw [hM.fG];omega
 have HM:=χ hM;have HI:=χ (ψ hI2 hL);clear hM hI hL e1 hI2
 go_enter Tryz.func201,Tryz.ntmps201
 go_wp2_with (first
  | ((go_at_call 140;(with_reducible refine (k).mono ?_));rintro e w1 ⟨rfl,F1,hC,hu,hF⟩;(have d3:=hu.kept HM.out.h2 HM.out.aS.1);(have f3:=hu.aF HM.out.h2 HM.out.aS.1 (HM.out.head.free 2));(have ho1:=(HM.out.gB.upd hu HM.out.aS.2.2).own);(have g0:B.n0≠gt:=HM.out.sep.2.1);(have gl:=(HM.out.gB.upd hu HM.out.aS.2.2).lt))
  | ((at_builtin;refine aL rfl _ _ 77 rfl 0 3 (.int .i64 0) 1 8 Tryz.underlying77 dO rfl δ _ _ _ rfl (ho1) [.int .i64 (-1)] rfl (by simp [Value.oneCell']) (by first|rfl|(rw [Κ];rfl)) μ ω (ω) ?_;intro v2 w2 ho2 hu2 iI);(have hu2:aa [gt] w1 w2:=hu2);obtain ⟨gP,rR,ev,hI2, -⟩:=IZ.gp (l:=ae++[-1]) (by rw [bT,υ];exact ho2) σ;rw [υ,List.length_singleton] at ev;subst ev;(have d4:=hu2.kept d3 ζ);(have f4:=hu2.aF d3 ζ f3)))
 go_ret;have hM:=HM.out;have hlt:=hM.lt;have f:=hM.aS;have q:=hM.sep;have hw3:aa [B.n0] w2 (w2.setCell ⟨B.n0,2,none⟩ (.slice (some ⟨gP,0,none⟩) (ae.length+1) rR)):=β;have hg1:gP=gt\/w1.heap.size<gP:=by
  rcases iI with h|h
  ·exact Α (Option.some.inj h)
  ·exact Β (h gP rfl)
 have hws:=hu.size;have iU:=hC.lt;have l0:=hlt B.n0 (by simp [PB.blk]);have l1:=hlt B.ba (by simp [PB.blk]);have l4:=hlt gt (by simp [PB.blk]);have hnF:∀y,y<w.heap.size->y∉F->y∉F1:=λy hy hn hm=>by rcases hF y hm with h'|h';exact hn h';omega
 have tV:gP∉F1:=by
  rcases hg1 with e|e
  ·rw [e];exact hnF gt l4 f.2.2
  ·exact λhm=>by have:=iU gP hm;omega
 have hb:w.heap.size<=gP\/gP=gt:=ω;have hhd:=((hM.head.upd hu f.1).upd hu2 ζ).set 2 (.slice (some ⟨gP,0,none⟩) (ae.length+1) rR);refine ⟨rfl,B.blk F1 gP,⟨F1,gP,rR,rfl,S,ae++[-1],⟨?_,?_,?_,hI2.upd hw3 ζ,?_,⟨hnF _ l0 f.1,hnF _ l1 f.2.1,tV⟩,⟨q.1,ω,ω⟩⟩,HI.out⟩,?_,λy hy=>?_⟩
 ·rw [hcs,υ,List.length_singleton];refine hhd.ext (λj hj=>?_);rcases (ω:j=0\/j=1\/j=2) with rfl|rfl|rfl<;>rfl
 ·exact (hC.upd hu2 (λy hy=>by simp at hy;rw [hy];exact hnF gt l4 f.2.2)).upd hw3 (λy hy=>by simp at hy;rw [hy];exact hnF _ l0 f.1)
 ·rw [hcs];exact ((hM.ties.upd hu f.2.1).upd hu2 ζ).upd hw3 ζ
 ·rw [υ,List.length_singleton,gW,JP.out]
 ·have u1:aa (B.blk F gt) w w1:=hu.mono (λy hy=>by simp [PB.blk,hy]);exact (u1.trans (hu2.mono (λy hy=>by simp at hy;simp [PB.blk,hy]))).trans (hw3.mono (λy hy=>by simp at hy;simp [PB.blk,hy]))
 ·simp only [PB.blk,ρ] at hy ⊢;rcases hy with rfl|rfl|rfl|hy
  ·simp
  ·simp
  ·rcases hb with h|h
   ·exact Β h
   ·exact Α (by simp [h])
  ·rcases hF y hy with h|h
   ·simp [h]
   ·exact Β h
end
section
variable {w:World} {B:PB} {F:List Nat} {gt ct:Nat} {A:NS} {st:Nat} {tr:Nat->BT}
theorem dY.JN {S:TS} {ae:List Int} (h:dY w B F gt ct A st S ae):B.n0∉[B.ba,B.c,gt]/\gt∉[B.ba,B.c]:=by
 have a1:=h.sep;have a2:B.n0≠B.c:=λe=>h.aS.1 (by rw [e];exact h.cF);have a3:gt≠B.c:=λe=>h.aS.2.2 (by rw [e];exact h.cF);constructor<;>simp<;>omega
theorem pI (h:iO w B F gt ct A st tr) (hh x:Nat) (k s:Int) (hk:-9223372036854775808<=k/\k<=9223372036854775807/\0<=s/\s<=18446744073709551615) (hB:iq A hh x=true) :
  Calls Tryz.prog 200 #[.pointer (some ⟨B.n0,0,none⟩),.int .i64 (hh:Int),.int .i64 (x:Int),.agg #[.int .i64 k,.int .u64 s]] w λe w'=>e=.returned (.bool true)/\aa (B.blk F gt) w w'/\
   ∃st',iO w' B F gt ct (af A hh x k s) st' (λq=>if q=hh then fT (af A hh x k s) (tr hh) (single x) else tr q):=by
 obtain ⟨S,ae,hM,hI,hL⟩:=h;have hlt:=hM.lt;have ok:=hM.cells.ok;have ok':=pY ok hh x k s hk;obtain ⟨b1,b2,b3⟩:=(bG _ _ _).1 hB;have b4:=(aA _ _).1 b1;have hx:x<A.cs.length:=by have:=(bS _ _).1 b2;omega
 have yO:(A.c x).i=0:=by
  have:=(ok.nat x hx).1;have h3:¬ (0<(A.c x).i):=λh'=>by rw [(aK A x).2 ⟨hx,h'⟩] at b3;cases b3
  omega
 have hcs:(af A hh x k s).cs.length=A.cs.length:=by unfold af;rw [Δ hB,bU]
 have gW:(af A hh x k s).hs.length=A.hs.length:=by unfold af;rw [Δ hB];rfl
 have hcx:∀y,(af A hh x k s).c y=if y=x then ⟨hh,k,s⟩ else A.c y:=λy=>by
  unfold af;rw [Δ hB,π,fE]
  by_cases e:y=x
  ·rw [Δ ⟨e,hx⟩,Δ e]
  ·rw [Γ (λh=>e h.1),Γ e]
 have yM:x∉(tr hh).nodes:=hI.out yO;have hX:((tr hh).nodes++(single x).nodes).Nodup:=by
  rw [θ];refine ⟨hI.nd hh,by simp [single,BT.nodes],λa ha b hb e=>?_⟩;simp only [single,BT.nodes,Υ,Ϗ] at hb;exact yM (by rw [←hb,←e];exact ha)
 have hin:∀y,y∈(tr hh).nodes++(single x).nodes->dh (af A hh x k s) (y:Int)=true:=λy hy=>by
  rw [aK,hcs,hcx];simp only [single,BT.nodes,Υ,τ,Ϗ] at hy
  by_cases e:y=x
  ·rw [Δ e,e];exact ⟨hx,by show (0:Int)<(hh:Int);omega⟩
  ·rw [Γ e];have:=(hI.mem hh y).1 (hy.resolve_right e);exact ⟨this.2.1,ω⟩
 have Eg:fO (af A hh x k s) (tr hh):=fO.frame (hI.heap hh) (λy hy=>by rw [hcx,Γ (λe=>yM (by rw [←e];exact hy))]);have mp:=yc (af A hh x k s) (hL hh) (show Lone (single x) from rfl);have ml:=xY (af A hh x k s) (hL hh) (show Lone (single x) from rfl);have mh:=xh (hL hh) (show Lone (single x) from rfl) Eg (show fO (af A hh x k s) (single x) from ⟨by simp [BT.nodes],trivial,trivial⟩) hX;have hfr:=hI.free x hx yO;have hLh:=hL hh
 have FI:Hid (∀ (W:World) (S':TS) (st':Nat),dY W B F gt ct (af A hh x k s) st' S' (ae.set hh (fT (af A hh x k s) (tr hh) (single x)).root)->dD S' (-1) (fT (af A hh x k s) (tr hh) (single x)).root (fT (af A hh x k s) (tr hh) (single x))->
   (∀y,y∉(tr hh).nodes++(single x).nodes->S.at S' y)->iO W B F gt ct (af A hh x k s) st' (λq=>if q=hh then fT (af A hh x k s) (tr hh) (single x) else tr q)):=λW S' st' a1 a2 a4=>by
  refine ⟨S',_,a1,hI.put ok hM.fG hB a2 mp mh a4,λq=>?_⟩
  show Lone (if q=hh then _ else _)
  split
  ·exact ml
  ·exact hL q
 have Ed:=hI.Hf hh;have htop:=hI.top hh ω;have hgn:hh<ae.length:=by rw [hM.fG];omega
 have u1:aa [] w (w.alloc (.cells #[.int .i64 k,.int .u64 s] 97)):=(aa.refl _ _).alloc _;have kp:=λW (hW:aa [] (w.alloc (.cells #[.int .i64 k,.int .u64 s] 97)) W)=>fZ (hM.cells.ah (u1.trans hW)) hh x k s hk hB;have h0:=hM.h0;have BP:B.n0∉F:=hM.aS.1;have hsz:w.heap.size∉F:=λhm=>by have:=hlt w.heap.size (by simp [PB.blk,hm]);omega
 have r0:∀W,aa F (w.alloc (.cells #[.int .i64 k,.int .u64 s] 97)) W->W.cell? ⟨B.n0,0,none⟩=some (.pointer (some ⟨B.c,0,none⟩)):=λW hW=>hW.kept (u1.was h0) BP;have r1:∀W,aa F (w.alloc (.cells #[.int .i64 k,.int .u64 s] 97)) W->W.cell? ⟨w.heap.size,0,none⟩=some (.int .i64 k):=λW h=>h.kept σ hsz;have r2:∀W,aa F (w.alloc (.cells #[.int .i64 k,.int .u64 s] 97)) W->W.cell? ⟨w.heap.size,1,none⟩=some (.int .u64 s):=λW h=>h.kept σ hsz;have HM:=χ hM;have HH:=χ (ψ hX (ψ hin (ψ Ed (ψ hLh hfr))));have hA:=ok.c1;have KP:=ok.h1
 clear hM hI hL ok ok' b1 b2 b3 yO hcx yM hX hin Eg mp mh ml hfr h0 hlt Ed hLh;generalize hA':af A hh x k s=A' at *;generalize htr:tr hh=th at *
 go_enter Tryz.func200,Tryz.ntmps200
 go_wp2
 go_region_held3 (aa F (w.alloc (.cells #[.int .i64 k,.int .u64 s] 97))) (exact ν)
  ((go_at_call 138;(with_reducible refine (kp _ β).mono ?_);rintro e w1 ⟨rfl,iU,hu1⟩;(have hu2:aa F (w.alloc (.cells #[.int .i64 k,.int .u64 s] 97)) w1:=ν)))
 have uF:aa F w (w.alloc (.cells #[.int .i64 k,.int .u64 s] 97)):=u1.mono σ;have hM1:=HM.out.fw (uF.trans hu2) iU (λy hy=>Α hy) hcs gW;have hw1:aa F w w1:=uF.trans hu2;clear r0 r1 r2 kp hu1 hu2 iU uF;have km:=λW (hW:aa [] w1 W)=>BQ (hM1.ah hW) th (single x) HH.out.2.2.1 (jN HH.out.2.2.2.2) HH.out.2.2.2.1 rfl HH.out.1 HH.out.2.1;rw [show (single x).root=(x:Int) from rfl] at km;have d4:=hM1.gB.cell hh hgn;rw [htop] at d4;have f4:=hM1.gB.free hh;have h3:=hM1.h2;obtain ⟨Dn,hgc⟩:=hM1.JN
 have r3:∀W,aa [B.ba,B.c] w1 W->W.cell? ⟨B.n0,2,none⟩=some (.slice (some ⟨gt,0,none⟩) ae.length ct):=λW hW=>hW.kept h3 (λhm=>Dn (by simp at hm ⊢;omega));have r4:∀W,aa [B.ba,B.c] w1 W->W.cell? ⟨gt,hh,none⟩=some (.int .i64 th.root)/\W.frozen? ⟨gt,hh,none⟩=false:=λW hW=>⟨hW.kept d4 hgc,hW.aF d4 hgc f4⟩
 have Dm:(0:Int)<=(hh:Int):=ω;have zx:(hh:Int)<(ae.length:Int):=ω;generalize hmt:fT A' th (single x)=mt at *;clear hM1 f4 h3 Dn hgc;have q3:=r3 _ (aa.refl _ _);have q4:=(r4 _ (aa.refl _ _)).1;go_wp2
 go_region_law
  (first
   | (go_simp;go_at_call 205;(with_reducible refine (km _ β).mono ?_);rintro e w5 ⟨rfl,Am,st5,S5,Gv,JB,hs5⟩;(have dV:aa [B.ba,B.c] w1 w5:=aa.trans β Am);obtain ⟨d5,f5⟩:=r4 _ dV;(have q5:=r3 _ dV)))
 all_goals
  go_wp2;go_ret;have qz:=HM.out.cF;have v1:aa (B.blk F gt) w w1:=hw1.mono (λy hy=>by simp only [PB.blk,ρ];simp [hy])
  have v3:aa (B.blk F gt) w w5:=v1.trans (dV.mono (λy hy=>by
   simp only [ρ,ς,or_false] at hy;simp only [PB.blk,ρ];rcases hy with rfl|rfl
   ·simp
   ·simp [qz]))
  subst hmt;exact ⟨rfl,v3.setCell (Α (by simp [PB.blk])) _,st5,FI.out _ S5 st5 (Gv.uJ hh _) JB hs5⟩
end
theorem uV (p c:Nat):∀W:World,W.cell? ⟨p,0,none⟩=some (.pointer (some ⟨c,0,none⟩))->(method 409 130 (.pointer (some ⟨p,0,none⟩)) "Has").run Tryz.prog W=.ok (123,.pointer (some ⟨c,0,none⟩)) W:=(by intro W h;unfold method;have hm:∃m,(Array.find? (λx=>x.name == "Has") Tryz.t130.methods)=some m/\m.path.toList=[⟨188,0,true⟩]/\m.func=some (123,true)/\m.path.isEmpty=false:=⟨(Array.find? (λx=>x.name == "Has") Tryz.t130.methods).get!,by kernel_rfl,by kernel_rfl,by kernel_rfl,by kernel_rfl⟩;obtain ⟨m,h1,h2,h3,h4⟩:=hm;go_simp;simp only [follow,Place.get];go_simp;(try unfold receiverAt);(try simp only [Place.get]);(try go_simp))
theorem pO (p c:Nat):∀W:World,W.cell? ⟨p,0,none⟩=some (.pointer (some ⟨c,0,none⟩))->(method 409 130 (.pointer (some ⟨p,0,none⟩)) "Entry").run Tryz.prog W=.ok (121,.pointer (some ⟨c,0,none⟩)) W:=(by intro W h;unfold method;have hm:∃m,(Array.find? (λx=>x.name == "Entry") Tryz.t130.methods)=some m/\m.path.toList=[⟨188,0,true⟩]/\m.func=some (121,true)/\m.path.isEmpty=false:=⟨(Array.find? (λx=>x.name == "Entry") Tryz.t130.methods).get!,by kernel_rfl,by kernel_rfl,by kernel_rfl,by kernel_rfl⟩;obtain ⟨m,h1,h2,h3,h4⟩:=hm;go_simp;simp only [follow,Place.get];go_simp;(try unfold receiverAt);(try simp only [Place.get]);(try go_simp))
theorem Dk (p:Nat):∀W:World,(method 409 130 (.pointer (some ⟨p,0,none⟩)) "Make").run Tryz.prog W=.ok (201,.pointer (some ⟨p,0,none⟩)) W:=λ_=>by kernel_rfl
theorem xE (p:Nat):∀W:World,(method 409 130 (.pointer (some ⟨p,0,none⟩)) "Insert").run Tryz.prog W=.ok (200,.pointer (some ⟨p,0,none⟩)) W:=λ_=>by kernel_rfl
theorem EZ (p:Nat):∀W:World,(method 409 130 (.pointer (some ⟨p,0,none⟩)) "Min").run Tryz.prog W=.ok (203,.pointer (some ⟨p,0,none⟩)) W:=λ_=>by kernel_rfl
def PaQ (w:World) (p:Nat) (F:List Nat) (A:NS):Prop:=∃B F1 gt ct st tr,p=B.n0/\F=B.blk F1 gt/\iO w B F1 gt ct A st tr
def l9:bV where
 ty:=130
 at_:=PaQ
 upd:=λh hu hS=>by
  obtain ⟨B,F1,gt,ct,st,tr,rfl,rfl,hL⟩:=h;exact ⟨B,F1,gt,ct,st,tr,rfl,rfl,hL.upd hu hS⟩
 lt:=λh=>by
  obtain ⟨B,F1,gt,ct,st,tr,rfl,rfl,S,ae,hM, -⟩:=h;exact hM.lt
 ok:=λh=>by
  obtain ⟨B,F1,gt,ct,st,tr,rfl,rfl,S,ae,hM, -⟩:=h;exact hM.cells.ok
 make:=λ{w p F A} h=>by
  obtain ⟨B,F1,gt,ct,st,tr,rfl,rfl,hL⟩:=h;refine aQ 201 (λ_ _=>by kernel_rfl) (Dk _) (λW hW=>?_);have jg:=hL.ah hW
  by_cases hl:65536<A.hs.length
  ·have e1:aT A=0:=by unfold aT;rw [Δ hl]
   have e2:ag A=A:=by unfold ag;rw [Δ hl]
   rw [e1,e2];refine (yl jg hl).mono ?_;rintro e w' ⟨rfl,F',⟨F2,rfl,hA⟩,hu,hf⟩;exact ⟨rfl,_,⟨B,F2,gt,ct,st,tr,rfl,rfl,hA⟩,hu,hf⟩
  ·have e1:aT A=A.hs.length:=by unfold aT;rw [Γ hl]
   rw [e1];refine (vW jg hl).mono ?_;rintro e w' ⟨rfl,F',⟨F2,Kg,Jt,rfl,hA⟩,hu,hf⟩;exact ⟨rfl,_,⟨B,F2,Kg,Jt,st,tr,rfl,rfl,hA⟩,hu,hf⟩
 insert:=λ{w p F A} g y k s hk hB h=>by
  obtain ⟨B,F1,gt,ct,st,tr,rfl,rfl,hL⟩:=h;refine aQ 200 (λ_ _=>by kernel_rfl) (xE _) (λW hW=>?_);refine (pI (hL.ah hW) g y k s hk hB).mono ?_;rintro e w' ⟨rfl,hu,st',hL2⟩;exact ⟨rfl,Goes.stay ⟨B,F1,gt,ct,_,_,rfl,rfl,hL2⟩ hu⟩
 min:=λ{w p F A} y hB h=>by
  obtain ⟨B,F1,gt,ct,st,tr,rfl,rfl,hL⟩:=h;refine aQ 203 (λ_ _=>by kernel_rfl) (EZ _) (λW hW=>?_);have jg:=hL.ah hW;have hok:A.Ok:=by obtain ⟨S,ae,hM, -⟩:=hL;exact hM.cells.ok
  by_cases hl:bO A (y:Int)=0
  ·rw [fe.2 hl];have h4:=(aA _ _).1 hB;have h5:=hok.h1;refine (vk jg y ω hl).mono ?_;rintro e w' ⟨rfl,rfl⟩;exact ⟨rfl,Goes.stay ⟨B,F1,gt,ct,st,tr,rfl,rfl,jg⟩ (aa.refl _ _)⟩
  ·refine (vE jg y ω).mono ?_;rintro e w' ⟨m,hm, -,rfl,rfl⟩;rw [hm];exact ⟨rfl,Goes.stay ⟨B,F1,gt,ct,st,tr,rfl,rfl,jg⟩ (aa.refl _ _)⟩
 has:=λx h=>by
  obtain ⟨B,F1,gt,ct,st,tr,rfl,rfl,S,ae,hM, -⟩:=h;exact cB 123 (λ_ _=>by kernel_rfl) hM.h0 (uV _ _) (λW hW=>dF (hM.ah hW).cells x)
 entry:=λ{w p F A} x h=>by
  obtain ⟨B,F1,gt,ct,st,tr,rfl,rfl,S,ae,hM, -⟩:=h;refine cB 121 (λ_ _=>by kernel_rfl) hM.h0 (pO _ _) (λW hW=>?_);cases hin:dh A x with
  | false=>simpa using eQ (hM.ah hW).cells x hin
  | true=>
   obtain ⟨y,rfl⟩:=iD hin;simpa using dQ (hM.ah hW).cells y hin
theorem uf (p:Nat) (w:World):Calls Tryz.prog 61 #[.pointer (some ⟨p,0,none⟩),.int .i64 0] w λe w'=>e=.returned (.tuple #[.iface 130 (.pointer (some ⟨p,0,none⟩)),.int .i64 0])/\w'=w:=by
 go_enter Tryz.func61,Tryz.ntmps61
 go_wp2;go_ret2;exact ⟨rfl,rfl⟩
theorem tq (n:Nat) (hn:n<=65536):fP l9 4 0 n:=by
 intro w;have kn:=λW=>yA n W hn;have km:=uf;have hty:l9.ty=130:=rfl;have hat:∀w' B F gt,iO w' B F gt 1 (NS.new n) 0 (λ_=>.nil)->l9.at_ w' B.n0 (B.blk F gt) (NS.new n)/\lX w' B.n0 n:=λw' B F gt h=>⟨⟨B,F,gt,_,_,_,rfl,rfl,h⟩,by obtain ⟨S,ae,hM, -⟩:=h;exact ⟨_,_,hM.h0,hM.cells⟩⟩
 generalize l9=K at *;rw [hty]
 go_enter Tryz.func35,Tryz.ntmps35
 go_wp2_with (first
  | ((go_at_call 62;(with_reducible refine (kn _).mono ?_));rintro e w1 ⟨B,F,gt,rfl,hS,hu1,hf⟩)
  | ((go_at_call 61;(with_reducible refine (km _ _).mono ?_));rintro e w2 ⟨rfl,rfl⟩)
  | fail)
 go_ret2;exact ⟨B.n0,B.blk F gt,rfl,(hat _ _ _ _ hS).1,(hat _ _ _ _ hS).2,aa.trans β hu1,λx hx=>by have:=hf x hx;simp at this;omega⟩
end Go.Proofs.YtnpdakpagnpanaaGreat
