/-
  Lemmas for PqOpens: FbA, FbB, FbC, Fb, Fb2, FbI, FbT, FbP, FbQ, FbR, FbU, FbV, Fb5, Fb8, Fb9, FbN. Conditions: those of each lemma.
-/
import Derived.Deep.OwnRows
import Derived.Deep.RegionHeldLaw
import Derived.Outline
import Derived.Deep.LoopGhost
import Derived.Test.YtnpdakpagnpanaaGreatD02
set_option linter.all false
set_option maxHeartbeats 8000000
set_option maxRecDepth 10000
namespace Go.Proofs.YtnpdakpagnpanaaGreat
def tT (nx:Nat->Nat):List Nat->Nat->Prop
 | [],_=>True
 | x::t,z=>nx x=t.headD z/\tT nx t z
theorem o7 (a b:List Nat) (z:Nat):(a++b).headD z=a.headD (b.headD z):=by cases a<;>rfl
theorem mq {nx:Nat->Nat}:∀ (a b:List Nat) (z:Nat),tT nx (a++b) z↔tT nx a (b.headD z)/\tT nx b z
 | [],b,z=>by simp [tT]
 | x::t,b,z=>by
  show (nx x=(t++b).headD z/\tT nx (t++b) z)↔(nx x=t.headD (b.headD z)/\tT nx t (b.headD z))/\tT nx b z
  rw [mq t b z,o7,and_assoc]
theorem tT.far {nx nx':Nat->Nat}:∀ {l:List Nat} {z:Nat},tT nx l z->(∀w,w∈l->nx' w=nx w)->tT nx' l z
 | [],_,_,_=>trivial
 | x::t,z,h,e=>⟨(e x σ).trans h.1,tT.far h.2 (λw hw=>e w (by simp [hw]))⟩
def Ring (nx:Nat->Nat) (l:List Nat):Prop:=l.Nodup/\tT nx l (l.headD 0)
theorem Ring.nil (nx:Nat->Nat):Ring nx []:=⟨List.nodup_nil,trivial⟩
theorem jm {nx:Nat->Nat} {x:Nat} {t:List Nat}:Ring nx (x::t)↔(x::t).Nodup/\nx x=t.headD x/\tT nx t x:=Iff.rfl
theorem mH {nx:Nat->Nat} {x:Nat}:Ring nx [x]↔nx x=x:=by
 rw [jm];simp [tT]
theorem Ring.far {nx nx':Nat->Nat} {l:List Nat} (h:Ring nx l) (e:∀w,w∈l->nx' w=nx w):Ring nx' l:=⟨h.1,h.2.far e⟩
theorem xe {a b:List Nat} (h:(a++b).Nodup):(b++a).Nodup:=(Φ (l₁:=a) (l₂:=b)).nodup_iff.1 h
theorem Ring.rot {nx:Nat->Nat}:∀ {a b:List Nat},Ring nx (a++b)->Ring nx (b++a)
 | [],b,h=>by simpa using h
 | a0::a,[],h=>by simpa using h
 | a0::a,b0::b,h=>by
  refine ⟨xe h.1,?_⟩;have h2:=(mq _ _ _).1 h.2;exact (mq _ _ _).2 ⟨h2.2,h2.1⟩
def dJ (nx:Nat->Nat) (x y:Nat):Nat->Nat:=λz=>if z=x then nx y else if z=y then nx x else nx z
def kH (nx pv:Nat->Nat) (x y:Nat):Nat->Nat:=λz=>if z=nx x then y else if z=nx y then x else pv z
theorem jo {nx:Nat->Nat} {x y z:Nat} (h1:z≠x) (h2:z≠y):dJ nx x y z=nx z:=by unfold dJ;rw [Γ h1,Γ h2]
theorem Ring.rW {nx:Nat->Nat} {l:List Nat} (h:Ring nx l) {x y:Nat} (h1:x∉l) (h2:y∉l):Ring (dJ nx x y) l:=
 h.far (λw hw=>jo (λe=>h1 (e▸hw)) (λe=>h2 (e▸hw)))
theorem Ring.join {nx:Nat->Nat} {x y:Nat} {s t:List Nat} (h:Ring nx (x::s)) (k:Ring nx (y::t)) (d:∀z,z∈x::s->z∉y::t):Ring (dJ nx x y) (x::t++y::s):=by
 obtain ⟨n1,e1,r1⟩:=jm.1 h;obtain ⟨n2,e2,r2⟩:=jm.1 k;have n1':=Ζ.1 n1;have n2':=Ζ.1 n2;have hxy:y≠x:=λe=>d x σ (by simp [e]);have sx:dJ nx x y x=nx y:=by unfold dJ;rw [Δ rfl]
 have sy:dJ nx x y y=nx x:=by unfold dJ;rw [Γ hxy,Δ rfl]
 refine jm.2 ⟨?_,?_,?_⟩
 ·have:(x::t++y::s).Perm ((x::s)++(y::t)):=by
   show (x::(t++y::s)).Perm (x::(s++y::t))
   refine List.Perm.cons x ?_;exact (List.perm_middle).trans ((List.Perm.cons y Φ).trans List.perm_middle.symm)
  refine this.nodup_iff.2 (θ.2 ⟨n1,n2,λa ha b hb e=>?_⟩);subst e;exact d a ha hb
 ·show dJ nx x y x=(t++y::s).headD x
  rw [sx,e2,o7];rfl
 ·show tT (dJ nx x y) (t++y::s) x
  refine (mq _ _ _).2 ⟨?_,?_,?_⟩
  ·exact r2.far (λw hw=>jo (λe=>d x σ (by subst e;simp [hw])) (λe=>n2'.1 (e▸hw)))
  ·rw [sy,e1]
  ·exact r1.far (λw hw=>jo (λe=>n1'.1 (e▸hw)) (λe=>d w (by simp [hw]) (by subst e;simp)))
structure Rg (n:Nat) (nx pv:Nat->Nat):Prop where
 nn:∀x,x<n->nx x<n
 pp:∀x,x<n->pv x<n
 pn:∀x,x<n->pv (nx x)=x
 np:∀x,x<n->nx (pv x)=x
section
variable {n:Nat} {nx pv:Nat->Nat}
theorem Rg.inj (h:Rg n nx pv) {x y:Nat} (hx:x<n) (hy:y<n) (e:nx x=nx y):x=y:=by
 rw [←h.pn x hx,←h.pn y hy,e]
theorem Rg.swap (h:Rg n nx pv) {x y:Nat} (hx:x<n) (hy:y<n):Rg n (dJ nx x y) (kH nx pv x y):=by
 refine ⟨λz hz=>?_,λz hz=>?_,λz hz=>?_,λz hz=>?_⟩
 ·unfold dJ
  split
  ·exact h.nn y hy
  ·split
   ·exact h.nn x hx
   ·exact h.nn z hz
 ·unfold kH
  split
  ·exact hy
  ·split
   ·exact hx
   ·exact h.pp z hz
 ·unfold dJ kH
  by_cases e1:z=x
  ·rw [Δ e1]
   by_cases e2:nx y=nx x
   ·rw [Δ e2,e1];exact h.inj hy hx e2
   ·rw [Γ e2,Δ rfl,e1]
  ·rw [Γ e1]
   by_cases e2:z=y
   ·rw [Δ e2,Δ rfl,e2]
   ·rw [Γ e2,Γ (λe=>e1 (h.inj hz hx e)),Γ (λe=>e2 (h.inj hz hy e))];exact h.pn z hz
 ·unfold dJ kH
  by_cases e1:z=nx x
  ·rw [Δ e1]
   by_cases e2:y=x
   ·rw [Δ e2,e2,e1]
   ·rw [Γ e2,Δ rfl,e1]
  ·rw [Γ e1]
   by_cases e2:z=nx y
   ·rw [Δ e2,Δ rfl,e2]
   ·rw [Γ e2,Γ (λe=>e1 (by rw [←e,h.np z hz])),Γ (λe=>e2 (by rw [←e,h.np z hz]))];exact h.np z hz
end
end Go.Proofs.YtnpdakpagnpanaaGreat
namespace Go.Proofs.YtnpdakpagnpanaaGreat
open Go Go.RowKit
structure qp (w:World) (br bn bp n:Nat) (nx pv:Nat->Nat):Prop where
 head:ak w br 235 2 (λj=>[Value.slice (some ⟨bn,0,none⟩) n n,.slice (some ⟨bp,0,none⟩) n n].getD j undef)
 nr:ak w bn 3 n (λj=>.int .i64 (nx j:Int))
 pr:ak w bp 3 n (λj=>.int .i64 (pv j:Int))
 ne:br≠bn/\br≠bp/\bn≠bp
 le:n<=65536
 rg:Rg n nx pv
section
variable {w:World} {br bn bp n:Nat} {nx pv:Nat->Nat}
theorem qp.upd {w':World} {F:List Nat} (h:qp w br bn bp n nx pv) (hu:aa F w w') (h1:br∉F) (h2:bn∉F) (h3:bp∉F):qp w' br bn bp n nx pv:=
 ⟨h.head.upd hu h1,h.nr.upd hu h2,h.pr.upd hu h3,h.ne,h.le,h.rg⟩
theorem qp.ah {w':World} (h:qp w br bn bp n nx pv) (hu:aa [] w w'):qp w' br bn bp n nx pv:=h.upd hu σ σ σ
theorem qp.h0 (h:qp w br bn bp n nx pv):w.cell? ⟨br,0,none⟩=some (.slice (some ⟨bn,0,none⟩) n n):=h.head.cellAt 0 ω rfl
theorem qp.h1 (h:qp w br bn bp n nx pv):w.cell? ⟨br,1,none⟩=some (.slice (some ⟨bp,0,none⟩) n n):=h.head.cellAt 1 ω rfl
theorem qp.lt (h:qp w br bn bp n nx pv):br<w.heap.size/\bn<w.heap.size/\bp<w.heap.size:=⟨h.head.lt,h.nr.lt,h.pr.lt⟩
end
theorem yj:(Tryz.prog.info? 3).map (λi=>(i.zero,i.size,i.bytes))=some (some (.int .i64 0),1,8):=by kernel_rfl
theorem tF (w:World) (n:Nat):ak (w.alloc (.cells (madeCells #[.int .i64 0] n) 3)) w.heap.size 3 n (λj=>(madeCells #[.int .i64 0] n).toList.getD j undef):=by
 refine ⟨madeCells #[.int .i64 0] n,?_,by simp [madeCells],λj hj=>?_⟩
 ·show (w.heap.push _)[w.heap.size]?=_;simp
 ·simp [madeCells,φ,hj]
theorem rP (n:Nat) (w:World) (h:n<=65536) :
  Calls Tryz.prog 87 #[.int .i64 (n:Int)] w λe w'=>∃br bn bp,e=.returned (.tuple #[.pointer (some ⟨br,0,none⟩),.int .i64 0])/\qp w' br bn bp n id id/\aa [] w w'/\w.heap.size<=br/\w.heap.size<=bn/\w.heap.size<=bp:=by
 have hmk:=run_make_row' (P:=Tryz.prog) 77 3 (.int .i64 0) 8 Tryz.underlying77 yj rfl .i64 .i64 n ω ω
 go_enter Tryz.func87,Tryz.ntmps87
 go_wp2
 go_region
 all_goals
  go_wp2
  go_loopw [19] (λi wr=>∃ (bn bp k:Nat) (f g:Nat->Value),k<=n/\i=.int .i64 k/\ak wr (w.heap.size+1+1) 235 2 (λj=>[Value.slice (some ⟨bn,0,none⟩) n n,.slice (some ⟨bp,0,none⟩) n n].getD j undef)/\
   ak wr bn 3 n f/\ak wr bp 3 n g/\(∀j,j<k->f j=.int .i64 (j:Int)/\g j=.int .i64 (j:Int))/\(w.heap.size<=bn/\w.heap.size<=bp/\bn≠bp/\bn<w.heap.size+1+1/\bp<w.heap.size+1+1)/\aa [] w wr) (λi _=>n-(intOf i).toNat)
  case atStart=>
   have r0:=tF w n;have r1:=tF (w.alloc (.cells (madeCells #[.int .i64 0] n) 3)) n;rw [Κ] at r1;have rh:=λv1 v2=>aY ((w.alloc (.cells (madeCells #[.int .i64 0] n) 3)).alloc (.cells (madeCells #[.int .i64 0] n) 3)) [v1,v2] 235;simp only [Κ] at rh
   first
    | exact ⟨w.heap.size,w.heap.size+1,0,_,_,ω,rfl,(rh _ _).drew,((r0.alloc _).alloc _).drew,(r1.alloc _).drew,ω,ω,β⟩
    | exact ⟨w.heap.size+1,w.heap.size,0,_,_,ω,rfl,(rh _ _).drew,(r1.alloc _).drew,((r0.alloc _).alloc _).drew,ω,ω,β⟩
  case round=>
   obtain ⟨bn,bp,k,f,g,hk,rfl,hH,hN,hP,hf,hb,hu⟩:=hrel;rename World=>wr
   by_cases hkn:k<n
   ·have c0:=hH.cellAt 0 ω rfl;have c1:=hH.cellAt 1 ω rfl;have d0:=hN.cell k hkn;have d1:=hP.cell k hkn;have e0:=hN.free k;have e1:=hP.free k;have Gl:(k:Int)<(n:Int):=ω;obtain ⟨b1,b2,b3,b4,b5⟩:=hb;have HF:=χ (ψ hf (ψ hH (ψ hN (ψ hP hu))));clear hf hH hN hP hu hmk;go_wp2
    go_region
    all_goals
     go_wp2
     go_roundw
     case rel=>
      obtain ⟨hf,hH,hN,hP,hu⟩:=HF.out;refine ⟨bn,bp,k+1,_,_,ω,by go_num,(hH.far _ _ ζ).far _ _ ζ,(hN.set _ _).far _ _ ζ,(hP.far _ _ ζ).set _ _,λj hj=>?_,⟨b1,b2,b3,b4,b5⟩,((hu.setCell (Β (by simpa using b1)) _).setCell (Β (by simpa using b2)) _).drew⟩
      by_cases e:j=k
      ·subst e;simp
      ·simp only [Γ e];exact hf j ω
     case measure=>simp [intOf];omega
   ·obtain rfl:k=n:=ω;go_wp2;go_ret2;exact ⟨_,bn,bp,rfl,⟨hH,hN.ext (λj hj=>(hf j hj).1),hP.ext (λj hj=>(hf j hj).2),ω,h,⟨λx hx=>hx,λx hx=>hx,λ_ _=>rfl,λ_ _=>rfl⟩⟩,hu,ω,ω,ω⟩
theorem A9 {w:World} {br bn bp n:Nat} {nx pv:Nat->Nat} (h:qp w br bn bp n nx pv) (x:Int) (b:Bool) (hb:b=decide (0<=x/\x<n)) :
  Calls Tryz.prog 224 #[.pointer (some ⟨br,0,none⟩),.int .i64 x] w λe w'=>e=.returned (.bool b)/\w'=w:=by
 have hle:=h.le;have c0:=h.h0;clear h;rw [hb]
 by_cases h0:0<=x
 ·by_cases h1:x<n
  ·go_enter Tryz.func224,Tryz.ntmps224
   go_wp2;go_ret;exact ⟨aP (by simp [h0,h1]),rfl⟩
  ·go_enter Tryz.func224,Tryz.ntmps224
   go_wp2;go_ret;exact ⟨aP (by simp [h0,h1]),rfl⟩
 ·go_enter Tryz.func224,Tryz.ntmps224
  go_wp2;go_ret;exact ⟨aP ζ,rfl⟩
section
variable {w:World} {br bn bp n:Nat} {nx pv:Nat->Nat}
theorem qQ (h:qp w br bn bp n nx pv) {x:Nat} (hx:x<n):Calls Tryz.prog 224 #[.pointer (some ⟨br,0,none⟩),.int .i64 (x:Int)] w λe w'=>e=.returned (.bool true)/\w'=w:=
 A9 h x true ζ
theorem nL (nx:Nat->Nat) (x y j:Nat):(if j=y then Value.int .i64 (nx x:Int) else if j=x then Value.int .i64 (nx y:Int) else Value.int .i64 (nx j:Int))=.int .i64 (dJ nx x y j:Int):=by
 unfold dJ
 by_cases e1:j=y
 ·rw [Δ e1]
  by_cases e2:j=x
  ·rw [Δ e2,←e1,e2]
  ·rw [Γ e2,Δ e1]
 ·rw [Γ e1]
  by_cases e2:j=x
  ·rw [Δ e2,Δ e2]
  ·rw [Γ e2,Γ e2,Γ e1]
theorem mI (nx pv:Nat->Nat) (x y j:Nat):(if j=nx x then Value.int .i64 (y:Int) else if j=nx y then Value.int .i64 (x:Int) else Value.int .i64 (pv j:Int))=.int .i64 (kH nx pv x y j:Int):=by
 unfold kH
 split
 ·rfl
 ·split<;>rfl
theorem sJ (h:qp w br bn bp n nx pv) {x y:Nat} (hx:x<n) (hy:y<n):Calls Tryz.prog 223 #[.pointer (some ⟨br,0,none⟩),.int .i64 (x:Int),.int .i64 (y:Int)] w λe w'=>
  e=.returned (.bool true)/\qp w' br bn bp n (dJ nx x y) (kH nx pv x y)/\aa [bn,bp] w w':=by
 have hle:=h.le;have c0:=h.h0;have c1:=h.h1;have d0:=h.nr.cell x hx;have d1:=h.nr.cell y hy;have f0:=h.nr.free x;have f1:=h.nr.free y;have ha:=h.rg.nn x hx;have hb:=h.rg.nn y hy;have e0:=h.pr.cell (nx x) ha;have e1:=h.pr.cell (nx y) hb;have g0:=h.pr.free (nx x);have g1:=h.pr.free (nx y);have kx:=qQ h hx;have ky:=qQ h hy;obtain ⟨n1,n2,n3⟩:=h.ne;obtain ⟨l1,l2,l3⟩:=h.lt;have i1:(x:Int)<(n:Int):=ω;have i2:(y:Int)<(n:Int):=ω;have i3:(nx x:Int)<(n:Int):=ω;have i4:(nx y:Int)<(n:Int):=ω;have H:=χ h;clear h;generalize ea:nx x=a at *;generalize eb:nx y=b at *
 by_cases hxy:x=y
 ·subst hxy;rw [ea] at eb;subst eb
  go_enter Tryz.func223,Tryz.ntmps223
  go_wp2_with (first
   | (go_at_call 224;(with_reducible refine (kx).mono ?_);rintro e w9 ⟨rfl,aB⟩;rw [aB];clear aB w9)
   | fail)
  go_region
  go_wp2
  go_region
  go_wp2
  go_region
  go_wp2;go_ret;have h:=H.out;refine ⟨rfl,⟨((((h.head.far _ _ n1).far _ _ n1).far _ _ n2).far _ _ n2),((((h.nr.set _ _).set _ _).far _ _ n3).far _ _ n3).ext (λj hj=>?_),((((h.pr.far _ _ (Ne.symm n3)).far _ _ (Ne.symm n3)).set _ _).set _ _).ext (λj hj=>?_),h.ne,h.le,h.rg.swap hx hy⟩,ν⟩
  ·have:=nL nx x x j;rw [ea] at this;exact this
  ·have:=mI nx pv x x j;rw [ea] at this;exact this
 ·have hyx:y≠x:=λe=>hxy e.symm;have hab:a≠b:=λe=>hxy (H.out.rg.inj hx hy (by rw [ea,eb,e]))
  go_enter Tryz.func223,Tryz.ntmps223
  go_wp2_with (first
   | (go_at_call 224;(with_reducible refine (kx).mono ?_);rintro e w9 ⟨rfl,aB⟩;rw [aB];clear aB w9)
   | (go_at_call 224;(with_reducible refine (ky).mono ?_);rintro e w9 ⟨rfl,aB⟩;rw [aB];clear aB w9)
   | fail)
  go_region
  go_wp2
  go_region
  go_wp2
  go_region
  go_wp2;go_ret;have h:=H.out;refine ⟨rfl,⟨((((h.head.far _ _ n1).far _ _ n1).far _ _ n2).far _ _ n2),((((h.nr.set _ _).set _ _).far _ _ n3).far _ _ n3).ext (λj hj=>?_),((((h.pr.far _ _ (Ne.symm n3)).far _ _ (Ne.symm n3)).set _ _).set _ _).ext (λj hj=>?_),h.ne,h.le,h.rg.swap hx hy⟩,ν⟩
  ·have:=nL nx x y j;rw [ea,eb] at this;exact this
  ·have:=mI nx pv x y j;rw [ea,eb] at this;exact this
end
end Go.Proofs.YtnpdakpagnpanaaGreat
namespace Go.Proofs.YtnpdakpagnpanaaGreat
structure FG where
 nx:Nat->Nat
 pv:Nat->Nat
 up:Nat->Int
 mr:Nat->Bool
 K:Nat->List Nat
 R:Nat->List Nat
def FG.none:FG:=⟨id,id,λ_=>-1,λ_=>false,λ_=>[],λ_=>[]⟩
def wJ (l:List Nat):Int:=match l with|[]=>-1|x::_=>(x:Int)
def aW {α:Type} (f:Nat->α) (x:Nat) (v:α):Nat->α:=λz=>if z=x then v else f z
def Ga (G:FG) (x y:Nat):FG:={ G with nx:=dJ G.nx x y,pv:=kH G.nx G.pv x y }
def jZ (lt:Bool) (R l:List Nat):List Nat:=match R with
 | []=>l
 | t::s=>match l with
  | []=>t::s
  | x::r=>if lt then x::s++t::r else t::r++x::s
def dA (lt:Nat->Nat->Bool) (h:Nat) (l:List Nat) (G:FG):FG:=match G.R h,l with
 | t::s,x::r=>{ Ga G t x with R:=aW G.R h (jZ (lt x t) (t::s) (x::r)) }
 | _,l=>{ G with R:=aW G.R h l }
def pq (h:Nat) (G:FG):Nat:=if G.R h=[] then 0 else 1
end Go.Proofs.YtnpdakpagnpanaaGreat
namespace Go.Proofs.YtnpdakpagnpanaaGreat
open Go Go.RowKit
def nW (u k d:Nat->Int) (m:Nat->Bool) (j:Nat):Value:=if j % 4=0 then .int .i64 (u (j / 4)) else if j % 4=1 then .int .i64 (k (j / 4)) else if j % 4=2 then .int .i64 (d (j / 4)) else .bool (m (j / 4))
theorem nO (u k d:Nat->Int) (m:Nat->Bool) (x:Nat):nW u k d m (x*4)=.int .i64 (u x):=by unfold nW;rw [Δ ω,show x*4 / 4=x by omega]
theorem nJ (u k d:Nat->Int) (m:Nat->Bool) (x:Nat):nW u k d m (x*4+1)=.int .i64 (k x):=by unfold nW;rw [Γ ω,Δ ω,show (x*4+1) / 4=x by omega]
theorem ny (u k d:Nat->Int) (m:Nat->Bool) (x:Nat):nW u k d m (x*4+2)=.int .i64 (d x):=by unfold nW;rw [Γ ω,Γ ω,Δ ω,show (x*4+2) / 4=x by omega]
theorem mW (u k d:Nat->Int) (m:Nat->Bool) (x:Nat):nW u k d m (x*4+3)=.bool (m x):=by unfold nW;rw [Γ ω,Γ ω,Γ ω,show (x*4+3) / 4=x by omega]
theorem four (j:Nat):∃a,j=a*4\/j=a*4+1\/j=a*4+2\/j=a*4+3:=⟨j / 4,ω⟩
section
variable {w:World} {b m:Nat} {e:TypeId} {u k d:Nat->Int} {mr:Nat->Bool}
theorem AP (h:ak w b e m (nW u k d mr)) (x:Nat) (v:Int):ak (w.setCell ⟨b,x*4,none⟩ (.int .i64 v)) b e m (nW (aW u x v) k d mr):=by
 refine (h.set _ _).ext (λj _=>?_);obtain ⟨a,rfl|rfl|rfl|rfl⟩:=four j
 ·rw [nO,nO];unfold aW
  by_cases e:a=x
  ·rw [e,Δ rfl,Δ rfl]
  ·rw [Γ ω,Γ e]
 ·rw [nJ,nJ,Γ ω]
 ·rw [ny,ny,Γ ω]
 ·rw [mW,mW,Γ ω]
theorem yU (h:ak w b e m (nW u k d mr)) (x:Nat) (v:Int):ak (w.setCell ⟨b,x*4+1,none⟩ (.int .i64 v)) b e m (nW u (aW k x v) d mr):=by
 refine (h.set _ _).ext (λj _=>?_);obtain ⟨a,rfl|rfl|rfl|rfl⟩:=four j
 ·rw [nO,nO,Γ ω]
 ·rw [nJ,nJ];unfold aW
  by_cases e:a=x
  ·rw [e,Δ rfl,Δ rfl]
  ·rw [Γ ω,Γ e]
 ·rw [ny,ny,Γ ω]
 ·rw [mW,mW,Γ ω]
theorem Ai (h:ak w b e m (nW u k d mr)) (x:Nat) (v:Int):ak (w.setCell ⟨b,x*4+2,none⟩ (.int .i64 v)) b e m (nW u k (aW d x v) mr):=by
 refine (h.set _ _).ext (λj _=>?_);obtain ⟨a,rfl|rfl|rfl|rfl⟩:=four j
 ·rw [nO,nO,Γ ω]
 ·rw [nJ,nJ,Γ ω]
 ·rw [ny,ny];unfold aW
  by_cases e:a=x
  ·rw [e,Δ rfl,Δ rfl]
  ·rw [Γ ω,Γ e]
 ·rw [mW,mW,Γ ω]
theorem yV (h:ak w b e m (nW u k d mr)) (x:Nat) (v:Bool):ak (w.setCell ⟨b,x*4+3,none⟩ (.bool v)) b e m (nW u k d (aW mr x v)):=by
 refine (h.set _ _).ext (λj _=>?_);obtain ⟨a,rfl|rfl|rfl|rfl⟩:=four j
 ·rw [nO,nO,Γ ω]
 ·rw [nJ,nJ,Γ ω]
 ·rw [ny,ny,Γ ω]
 ·rw [mW,mW];unfold aW
  by_cases e:a=x
  ·rw [e,Δ rfl,Δ rfl]
  ·rw [Γ ω,Γ e]
end
theorem kW (K:Nat->List Nat) (x:Nat) (l:List Nat):(λz=>((aW K x l z).length:Int))=aW (λz=>((K z).length:Int)) x (l.length:Int):=by
 funext z;unfold aW;split<;>rfl
def zK (G:FG):Nat->Value:=nW G.up (λx=>wJ (G.K x)) (λx=>((G.K x).length:Int)) G.mr
def dB (R:Nat->List Nat) (m:Nat):List Int:=(List.range m).map (λh=>wJ (R h))
theorem jh (R:Nat->List Nat) (m:Nat):(dB R m).length=m:=by unfold dB;simp
theorem xA (R:Nat->List Nat) {m h:Nat} (hh:h<m):(dB R m).getD h 0=wJ (R h):=by unfold dB;simp [φ,hh]
theorem xG (R:Nat->List Nat) (m h:Nat) (l:List Nat):(dB R m).set h (wJ l)=dB (aW R h l) m:=by
 unfold dB aW;apply List.ext_getElem σ;intro i h1 h2;simp only [List.getElem_set,List.getElem_map,List.getElem_range]
 by_cases e:h=i
 ·subst e;rw [Δ rfl,Δ rfl]
 ·rw [Γ e,Γ (λe2=>e e2.symm)]
structure FB where
 n0:Nat
 c:Nat
 br:Nat
 bn:Nat
 bp:Nat
 bl:Nat
structure gX (w:World) (B:FB) (F:List Nat) (gt ct:Nat) (A:NS) (st:Nat) (G:FG):Prop where
 head:ak w B.n0 196 4 (λj=>[Value.pointer (some ⟨B.c,0,none⟩),.pointer (some ⟨B.br,0,none⟩),.slice (some ⟨B.bl,0,none⟩) A.cs.length A.cs.length,.slice (some ⟨gt,0,none⟩) A.hs.length ct].getD j undef)
 cells:ai w B.c F A st
 rings:qp w B.br B.bn B.bp A.cs.length G.nx G.pv
 pl:ak w B.bl 198 (A.cs.length*4) (zK G)
 ae:IZ w gt ct (dB G.R A.hs.length)
 d1:B.n0∉F/\B.br∉F/\B.bn∉F/\B.bp∉F/\B.bl∉F/\gt∉F
 d2:B.n0≠B.br/\B.n0≠B.bn/\B.n0≠B.bp/\B.n0≠B.bl/\B.n0≠gt
 d3:B.bl≠B.br/\B.bl≠B.bn/\B.bl≠B.bp/\B.bl≠gt/\gt≠B.br/\gt≠B.bn/\gt≠B.bp
def FB.blk (B:FB) (F:List Nat) (gt:Nat):List Nat:=B.n0::B.br::B.bn::B.bp::B.bl::gt::F
section
variable {w:World} {B:FB} {F:List Nat} {gt ct:Nat} {A:NS} {st:Nat} {G:FG}
theorem gX.lt (h:gX w B F gt ct A st G):∀x,x∈B.blk F gt->x<w.heap.size:=by
 intro x hx;have h1:=h.head.lt;have h2:=h.rings.lt;have h3:=h.pl.lt;have h4:=h.ae.lt;simp only [FB.blk,ρ] at hx;rcases hx with rfl|rfl|rfl|rfl|rfl|rfl|hx
 ·exact h1
 ·exact h2.1
 ·exact h2.2.1
 ·exact h2.2.2
 ·exact h3
 ·exact h4
 ·exact h.cells.lt x hx
theorem gX.h0 (h:gX w B F gt ct A st G):w.cell? ⟨B.n0,0,none⟩=some (.pointer (some ⟨B.c,0,none⟩)):=h.head.cellAt 0 ω rfl
theorem gX.h1 (h:gX w B F gt ct A st G):w.cell? ⟨B.n0,1,none⟩=some (.pointer (some ⟨B.br,0,none⟩)):=h.head.cellAt 1 ω rfl
theorem gX.h3 (h:gX w B F gt ct A st G):w.cell? ⟨B.n0,3,none⟩=some (.slice (some ⟨gt,0,none⟩) A.hs.length ct):=h.head.cellAt 3 ω rfl
theorem gX.top (h:gX w B F gt ct A st G) {q:Nat} (hq:q<A.hs.length):w.cell? ⟨gt,q,none⟩=some (.int .i64 (wJ (G.R q))):=by
 rw [h.ae.cell q (by rw [jh];exact hq),xA _ hq]
theorem gX.cap (h:gX w B F gt ct A st G):A.hs.length<=ct/\ct<=9223372036854775807:=by have:=h.ae.cap;rwa [jh] at this
theorem gX.cn (h:gX w B F gt ct A st G):B.n0≠B.c/\B.br≠B.c/\B.bn≠B.c/\B.bp≠B.c/\B.bl≠B.c/\gt≠B.c:=by
 have hm:=h.cells.mem;exact ⟨λe=>h.d1.1 (e▸hm),λe=>h.d1.2.1 (e▸hm),λe=>h.d1.2.2.1 (e▸hm),λe=>h.d1.2.2.2.1 (e▸hm),λe=>h.d1.2.2.2.2.1 (e▸hm),λe=>h.d1.2.2.2.2.2 (e▸hm)⟩
theorem gX.upd {w':World} {S:List Nat} (h:gX w B F gt ct A st G) (hu:aa S w w') (hS:∀x,x∈S->x∉B.blk F gt):gX w' B F gt ct A st G:=by
 have k:∀x,x∈B.blk F gt->x∉S:=λx hx hs=>hS x hs hx;exact ⟨h.head.upd hu (k _ (by simp [FB.blk])),h.cells.upd hu (λx hx hm=>hS x hx (by simp [FB.blk,hm])),h.rings.upd hu (k _ (by simp [FB.blk])) (k _ (by simp [FB.blk])) (k _ (by simp [FB.blk])),h.pl.upd hu (k _ (by simp [FB.blk])),h.ae.upd hu (k _ (by simp [FB.blk])),h.d1,h.d2,h.d3⟩
theorem gX.ah {w':World} (h:gX w B F gt ct A st G) (hu:aa [] w w'):gX w' B F gt ct A st G:=h.upd hu σ
theorem gX.fw {w':World} {F':List Nat} {A':NS} {st':Nat} (h:gX w B F gt ct A st G) (hu:aa F w w') (hC:ai w' B.c F' A' st') (hF:∀x,x∈F'->x∈F\/w.heap.size<=x) (e1:A'.cs.length=A.cs.length) (e2:A'.hs.length=A.hs.length):gX w' B F' gt ct A' st' G:=by
 have f:=h.d1;have g:=h.lt;have hf:∀x,x<w.heap.size->x∉F->x∉F':=λx hx hn hm=>by rcases hF x hm with h'|h';exact hn h';omega
 have l0:=g B.n0 (by simp [FB.blk]);have l1:=g B.br (by simp [FB.blk]);have l2:=g B.bn (by simp [FB.blk]);have l3:=g B.bp (by simp [FB.blk]);have l4:=g B.bl (by simp [FB.blk]);have l5:=g gt (by simp [FB.blk]);exact ⟨by rw [e1,e2];exact h.head.upd hu f.1,hC,by rw [e1];exact h.rings.upd hu f.2.1 f.2.2.1 f.2.2.2.1,by rw [e1];exact h.pl.upd hu f.2.2.2.2.1,by rw [e2];exact h.ae.upd hu f.2.2.2.2.2,⟨hf _ l0 f.1,hf _ l1 f.2.1,hf _ l2 f.2.2.1,hf _ l3 f.2.2.2.1,hf _ l4 f.2.2.2.2.1,hf _ l5 f.2.2.2.2.2⟩,h.d2,h.d3⟩
theorem gX.setSt {w':World} {st':Nat} (h:gX w B F gt ct A st G) (hu:aa [B.c] w w') (hC:ai w' B.c F A st'):gX w' B F gt ct A st' G:=
 h.fw (hu.mono (λx hx=>by simp at hx;rw [hx];exact h.cells.mem)) hC (λx hx=>Α hx) rfl rfl
theorem gX.gq {w':World} {nx pv:Nat->Nat} (h:gX w B F gt ct A st G) (hu:aa [B.bn,B.bp] w w') (hR:qp w' B.br B.bn B.bp A.cs.length nx pv):gX w' B F gt ct A st { G with nx:=nx,pv:=pv }:=by
 obtain ⟨f1,f2,f3,f4,f5,f6⟩:=h.d1;obtain ⟨e1,e2,e3,e4,e5⟩:=h.d2;obtain ⟨g1,g2,g3,g4,g5,g6,g7⟩:=h.d3;have m:∀x,x≠B.bn->x≠B.bp->x∉[B.bn,B.bp]:=λx h1 h2=>by simp [h1,h2]
 exact ⟨h.head.upd hu (m _ e2 e3),h.cells.upd hu (λx hx hm=>by simp at hx;rcases hx with rfl|rfl;exact f3 hm;exact f4 hm),hR,h.pl.upd hu (m _ g2 g3),h.ae.upd hu (m _ g6 g7),h.d1,h.d2,h.d3⟩
theorem gX.iY (h:gX w B F gt ct A st G) (q:Nat) (l:List Nat):gX (w.setCell ⟨gt,q,none⟩ (.int .i64 (wJ l))) B F gt ct A st { G with R:=aW G.R q l }:=by
 obtain ⟨f1,f2,f3,f4,f5,f6⟩:=h.d1;obtain ⟨e1,e2,e3,e4,e5⟩:=h.d2;obtain ⟨g1,g2,g3,g4,g5,g6,g7⟩:=h.d3;have hu:aa [gt] w (w.setCell ⟨gt,q,none⟩ (.int .i64 (wJ l))):=(aa.refl _ _).setCell (Α σ) _;have m:∀x,x≠gt->x∉[gt]:=λx h1=>by simp [h1]
 refine ⟨h.head.upd hu (m _ e5),h.cells.upd hu (λx hx hm=>by simp at hx;subst hx;exact f6 hm),h.rings.upd hu (m _ (Ne.symm g5)) (m _ (Ne.symm g6)) (m _ (Ne.symm g7)),h.pl.upd hu (m _ g4),?_,h.d1,h.d2,h.d3⟩;have:=h.ae.set q (wJ l);rwa [xG] at this
end
theorem vF (w:World):Calls Tryz.prog 88 #[] w λe w'=>e=.returned (.agg #[.int .i64 (-1),.int .i64 (-1),.int .i64 0,.bool false])/\aa [] w w':=by
 go_enter Tryz.func88,Tryz.ntmps88
 go_wp2;exact bodyPost_ret (v:=.agg #[.int .i64 (-1),.int .i64 (-1),.int .i64 0,.bool false]) (by simp [results,Tryz.results88,go_sem]) rfl ⟨rfl,(aa.refl _ _).alloc _⟩
section
variable {w:World} {B:FB} {F:List Nat} {gt ct:Nat} {A:NS} {st:Nat} {G:FG}
theorem uM (R:Nat->List Nat) (m h:Nat) (l:List Nat) (e:wJ l=wJ (R h)):dB (aW R h l) m=dB R m:=by
 unfold dB aW;refine List.map_congr_left (λi _=>?_)
 by_cases hi:i=h
 ·rw [Δ hi,e,hi]
 ·rw [Γ hi]
theorem gX.Gx (h:gX w B F gt ct A st G) (q:Nat) (l:List Nat) (e:wJ l=wJ (G.R q)):gX w B F gt ct A st { G with R:=aW G.R q l }:=
 ⟨h.head,h.cells,h.rings,h.pl,by rw [uM G.R _ q l e];exact h.ae,h.d1,h.d2,h.d3⟩
theorem xk (M:gX w B F gt ct A st G) {q x:Nat} (r:List Nat) (hq:q<A.hs.length) (hx:dh A (x:Int)=true) (ht:∀t s,G.R q=t::s->dh A (t:Int)=true) :
  Calls Tryz.prog 220 #[.pointer (some ⟨B.n0,0,none⟩),.int .i64 (q:Int),.int .i64 (x:Int)] w λe w'=>e=.returned (.tuple #[])/\
   gX w' B F gt ct A (bR st (pq q G)) (dA (λa b=>decide (dm A a b)) q (x::r) G)/\aa [B.c,B.bn,B.bp,gt] w w':=by
 have hst:=M.cells.ni;have h3:=M.h3;have ht0:=M.top hq;have hf0:=M.ae.free q;have hcap:=M.cap;have hqI:(q:Int)<(A.hs.length:Int):=ω;have hqb:q<65537:=by have:=M.cells.ok.h1;omega
 have hlb:=M.cells.ok.h1;cases hR:G.R q with
 | nil=>
  rw [hR] at ht0;have eq:pq q G=0:=by unfold pq;rw [Δ hR]
  have eg:dA (λa b=>decide (dm A a b)) q (x::r) G={ G with R:=aW G.R q (x::r) }:=by unfold dA;rw [hR]
  rw [eq,eg,eu hst];have HM:=χ (M.iY q (x::r));have hgl:=M.lt gt (by simp [FB.blk]);clear M hR eq eg hx ht;unfold wJ at ht0;generalize hhl:A.hs.length=hl at *
  go_enter Tryz.func220,Tryz.ntmps220
  go_wp2;refine bodyPost_ret (v:=.tuple #[]) (by simp [results,Tryz.results220,go_sem]) rfl ?_;exact ⟨rfl,HM.out,(aa.refl _ _).setCell (Α σ) _⟩
 | cons t s=>
  have htt:=ht t s hR;obtain ⟨hx1,hx2⟩:=(aK _ _).1 hx;obtain ⟨ht1,ht2⟩:=(aK _ _).1 htt;rw [hR] at ht0;have eq:pq q G=1:=by unfold pq;rw [Γ (by rw [hR];simp)]
  have eg:dA (λa b=>decide (dm A a b)) q (x::r) G={ Ga G t x with R:=aW G.R q (jZ (decide (dm A x t)) (t::s) (x::r)) }:=by unfold dA;rw [hR]
  rw [eq,eg];have ks:=λW (hW:aa [] w W)=>sJ (M.rings.ah hW) ht1 hx1;obtain ⟨g1,g2,g3,g4,g5,g6,g7⟩:=M.d3;obtain ⟨e1,e2,e3,e4,e5⟩:=M.d2;have m:∀x,x≠B.bn->x≠B.bp->x∉[B.bn,B.bp]:=λx h1 h2=>by simp [h1,h2]
  have r1:∀W,aa [B.bn,B.bp] w W->W.cell? ⟨B.n0,1,none⟩=some (.pointer (some ⟨B.br,0,none⟩)):=λW hW=>hW.kept M.h1 (m _ e2 e3);have r3:∀W,aa [B.bn,B.bp] w W->W.cell? ⟨B.n0,3,none⟩=some (.slice (some ⟨gt,0,none⟩) A.hs.length ct):=λW hW=>hW.kept M.h3 (m _ e2 e3);have rt:∀W,aa [B.bn,B.bp] w W->W.cell? ⟨gt,q,none⟩=some (.int .i64 (t:Int)):=λW hW=>hW.kept ht0 (m _ g6 g7);have ht0':w.cell? ⟨gt,q,none⟩=some (.int .i64 (t:Int)):=ht0;have htn:((t:Int) == -1)=false:=σ;have HM:=χ M;have HR:=χ hR;clear M hR eq eg ht ht0;generalize hhl:A.hs.length=hl at *
  go_enter Tryz.func220,Tryz.ntmps220
  go_wp2
  go_region_held3 (aa [B.bn,B.bp] w) (exact ν)
   (first
    | ((go_at_call 223;(with_reducible refine (ks _ β).mono ?_));rintro e w1 ⟨rfl,l8,hu1⟩;(have hu2:aa [B.bn,B.bp] w w1:=aa.trans ν hu1)))
  have hM1:=HM.out.gq hu2 l8;have kc:=λW (hW:aa [] w1 W)=>dE (hM1.cells.ah hW) x t hx htt;have c1:=hM1.cn;have mc:∀x,x≠B.c->x∉[B.c]:=λx h1=>by simp [h1]
  have r0:∀W,aa [B.c] w1 W->W.cell? ⟨B.n0,0,none⟩=some (.pointer (some ⟨B.c,0,none⟩)):=λW hW=>hW.kept hM1.h0 (mc _ c1.1);have r3':∀W,aa [B.c] w1 W->W.cell? ⟨B.n0,3,none⟩=some (.slice (some ⟨gt,0,none⟩) hl ct):=λW hW=>by rw [←hhl];exact hW.kept hM1.h3 (mc _ c1.1)
  have JJ:∀W,aa [B.c] w1 W->W.cell? ⟨gt,q,none⟩=some (.int .i64 (t:Int)):=λW hW=>hW.kept (rt _ hu2) (mc _ c1.2.2.2.2.2);have Kh:∀W,aa [B.c] w1 W->W.frozen? ⟨gt,q,none⟩=false:=λW hW=>hW.aF (rt _ hu2) (mc _ c1.2.2.2.2.2) (hu2.aF ht0' (m _ g6 g7) hf0);have mY:=χ (ψ hM1 hu2);clear hM1 ks r1 r3 rt ht0' hu2 l8 hu1 HM hf0;obtain ⟨b,hb⟩:∃b,decide (dm A x t)=b:=⟨_,rfl⟩;rw [hb] at kc;have HBB:=χ hb;clear hb;go_wp2
  go_region_held3 (aa [B.c] w1) (exact ν)
   (first
    | ((go_at_call 164;(with_reducible refine (kc _ β).mono ?_));rintro e w2 ⟨rfl,hC2,hu3⟩;(have lC:aa [B.c] w1 w2:=aa.trans ν hu3)))
  have d0:=r0 _ lC;have d3:=r3' _ lC;have dt:=JJ _ lC;have df:=Kh _ lC;have hM2:=mY.out.1.setSt lC hC2;have hU:aa [B.c,B.bn,B.bp,gt] w w2:=(mY.out.2.mono σ).trans (lC.mono σ);cases b with
  | false=>
   have HF:=χ (ψ hM2 hU);clear hM2 hU r0 r3' JJ Kh kc lC hC2 hu3;go_wp2;go_end0;rw [HBB.out];exact ⟨rfl,HF.out.1.Gx q (t::r++x::s) (by rw [show ({ G with nx:=dJ G.nx t x,pv:=kH G.nx G.pv t x }:FG).R q=t::s from HR.out];rfl),HF.out.2⟩
  | true=>
   have HF:=χ (ψ hM2 hU);clear hM2 hU r0 r3' JJ Kh kc lC hC2 hu3;go_wp2;go_end0;rw [HBB.out];exact ⟨rfl,HF.out.1.iY q (x::s++t::r),HF.out.2.setCell (Α σ) _⟩
end
end Go.Proofs.YtnpdakpagnpanaaGreat
namespace Go.Proofs.YtnpdakpagnpanaaGreat
def few (G:FG) (ex:Nat->Nat) (l:List Nat) (d:Nat):Nat:=(l.filter (λc=>decide ((G.K c).length+(if G.mr c then 1 else 0)+ex c<d))).length
structure FF (n:Nat) (G:FG) (cz:Nat->Int) (L:Nat->Nat->Prop) (ex:Nat->Nat):Prop where
 rg:Rg n G.nx G.pv
 kid:∀x y,x<n->y∈G.K x->y<n/\G.up y=x
 I7:∀y,y<n->G.up y=-1\/∃p:Nat,p<n/\G.up y=p/\y∈G.K p
 ring:∀x,x<n->Ring G.nx (G.K x)
 home:∀y p:Nat,y<n->G.up y=p->cz y=cz p/\0<cz y
 ord:∀y p:Nat,y<n->G.up y=p->L p y
 alone:∀y,y<n->¬0<cz y->G.up y=-1/\G.K y=[]/\G.nx y=y
 free:∀y,y<n->G.up y=-1->G.mr y=false
 cnt:∀x d,x<n->few G ex (G.K x) d<=d
structure FR (n:Nat) (G:FG) (cz:Nat->Int) (L:Nat->Nat->Prop) (g:Option Nat):Prop where
 ring:∀h,some h≠g->Ring G.nx (G.R h)
 mem:∀h y:Nat,some h≠g->(y∈G.R h↔1<=h/\y<n/\G.up y=-1/\cz y=h)
 top:∀h t s,some h≠g->G.R h=t::s->∀y,y∈s->L t y
section
variable {n:Nat} {G:FG} {cz:Nat->Int} {L:Nat->Nat->Prop} {ex:Nat->Nat}
theorem wz {α:Type} (f:Nat->α) (x:Nat) (v:α):aW f x v x=v:=by unfold aW;rw [Δ rfl]
theorem oL {α:Type} (f:Nat->α) {x z:Nat} (v:α) (h:z≠x):aW f x v z=f z:=by unfold aW;rw [Γ h]
end
def BI (n:Nat) (G:FG) (cz:Nat->Int) (h:Nat) (z:Nat):Prop:=z<n/\G.up z=-1/\cz z=h
section
variable {n:Nat} {cz:Nat->Int} {L:Nat->Nat->Prop} {h:Nat} {T:List Int} {xs:List Nat} {G:FG}
theorem getD_some {T:List Int} {d:Nat} (hd:d<T.length):T[d]?=some (T.getD d (-1)):=by
 rw [φ,ε hd];rfl
def Em (n:Nat) (G:FG) (cz:Nat->Int) (h:Nat) (L:Nat->Nat->Prop) (lt:Nat->Nat->Bool):Prop:=∀a b,a<n->b<n->cz a=h->cz b=h->a≠b->(lt a b=true->L a b)/\(lt a b=false->L b a)
end
section
variable {n:Nat} {G:FG} {cz:Nat->Int} {L:Nat->Nat->Prop} {ex:Nat->Nat}
theorem FF.zC (H:FF n G cz L ex) {a x:Nat} (hx:x<n) (ua:G.up a=-1):a∉G.K x:=λhm=>by
 have:=(H.kid x a hx hm).2;omega
theorem FF.Ga (H:FF n G cz L ex) {a b:Nat} (ha:a<n) (hb:b<n) (ua:G.up a=-1) (ub:G.up b=-1) (h0a:0<cz a) (h0b:0<cz b):FF n (Ga G a b) cz L ex:=
 ⟨H.rg.swap ha hb,H.kid,H.I7,λx hx=>(H.ring x hx).rW (H.zC hx ua) (H.zC hx ub),H.home,H.ord,λy hy h0=>by
  obtain ⟨h1,h2,h3⟩:=H.alone y hy h0
  exact ⟨h1,h2,by show dJ G.nx a b y=y;rw [jo (λe=>h0 (by rw [e];exact h0a)) (λe=>h0 (by rw [e];exact h0b))];exact h3⟩,H.free,H.cnt⟩
theorem FF.gq (H:FF n G cz L ex) (R:Nat->List Nat):FF n { G with R:=R } cz L ex:=⟨H.rg,H.kid,H.I7,H.ring,H.home,H.ord,H.alone,H.free,H.cnt⟩
theorem FF.mono {L':Nat->Nat->Prop} {zw:Nat->Int} (H:FF n G cz L ex) (hL:∀y p:Nat,y<n->G.up y=p->L p y->zw y=zw p/\0<zw y/\L' p y) (ha:∀y,y<n->¬0<zw y->G.up y=-1/\G.K y=[]/\G.nx y=y):FF n G zw L' ex:=
 ⟨H.rg,H.kid,H.I7,H.ring,λy p hy hu=>⟨(hL y p hy hu (H.ord y p hy hu)).1,(hL y p hy hu (H.ord y p hy hu)).2.1⟩,λy p hy hu=>(hL y p hy hu (H.ord y p hy hu)).2.2,ha,H.free,H.cnt⟩
def kl (l:List Nat):List Nat:=match l with|[]=>[]|k::t=>t++[k]
theorem uu (b:Bool) (R l:List Nat):(jZ b R l).Perm (R++l):=by
 unfold jZ;cases R with
 | nil=>exact ό _
 | cons t s=>
  cases l with
  | nil=>simp
  | cons x r=>
   simp only
   split
   ·exact Φ (l₁:=x::s) (l₂:=t::r) |>.trans (by
     show (t::(r++x::s)).Perm (t::(s++x::r))
     refine List.Perm.cons t ?_
     exact List.perm_middle.trans ((List.Perm.cons x Φ).trans List.perm_middle.symm))
   ·show (t::(r++x::s)).Perm (t::(s++x::r))
    refine List.Perm.cons t ?_;exact List.perm_middle.trans ((List.Perm.cons x Φ).trans List.perm_middle.symm)
theorem mU (lt:Nat->Nat->Bool) (h:Nat) (l:List Nat) (G:FG):(dA lt h l G).up=G.up/\(dA lt h l G).mr=G.mr/\(dA lt h l G).K=G.K/\∀g,g≠h->(dA lt h l G).R g=G.R g:=by
 unfold dA
 split
 ·exact ⟨rfl,rfl,rfl,λg hg=>oL _ _ hg⟩
 ·exact ⟨rfl,rfl,rfl,λg hg=>oL _ _ hg⟩
theorem vg {lt:Nat->Nat->Bool} {h x:Nat} {r:List Nat} (H:FF n G cz L ex) (h1:1<=h) (hl:Em n G cz h L lt) (tr:∀a b c,L a b->L b c->L a c) (hR:Ring G.nx (G.R h)) (hx:Ring G.nx (x::r)) (hd:∀z,z∈G.R h->z∉x::r)
  (mR:∀z,z∈G.R h->BI n G cz h z) (mx:∀z,z∈x::r->BI n G cz h z) (tR:∀t s,G.R h=t::s->∀y,y∈s->L t y) (tx:∀y,y∈r->L x y) :
  FF n (dA lt h (x::r) G) cz L ex/\Ring (dA lt h (x::r) G).nx ((dA lt h (x::r) G).R h)/\((dA lt h (x::r) G).R h).Perm (G.R h++x::r)/\
   (∀t s,(dA lt h (x::r) G).R h=t::s->∀y,y∈s->L t y)/\(∀l',Ring G.nx l'->(∀z,z∈l'->z∉G.R h/\z∉x::r)->Ring (dA lt h (x::r) G).nx l'):=by
 cases hRR:G.R h with
 | nil=>
  have e:dA lt h (x::r) G={ G with R:=aW G.R h (x::r) }:=by unfold dA;rw [hRR]
  rw [e];have eR:aW G.R h (x::r) h=x::r:=wz _ _ _;simp only [eR];exact ⟨H.gq _,hx,ό _,λt s e y hy=>by injection e with e1 e2;subst e1 e2;exact tx y hy,λl' h _=>h⟩
 | cons t s=>
  have e:dA lt h (x::r) G={ Ga G t x with R:=aW G.R h (jZ (lt x t) (t::s) (x::r)) }:=by unfold dA;rw [hRR]
  rw [e];rw [hRR] at hR hd mR;have ht:=mR t σ;have IA:=mx x σ;have hne:x≠t:=λe=>hd t σ (by simp [e]);have h0:(0:Int)<cz t/\(0:Int)<cz x:=⟨by rw [ht.2.2];omega,by rw [IA.2.2];omega⟩;have hk:=hl x t IA.1 ht.1 IA.2.2 ht.2.2 hne;have eR:aW G.R h (jZ (lt x t) (t::s) (x::r)) h=jZ (lt x t) (t::s) (x::r):=wz _ _ _;have hj:Ring (dJ G.nx t x) (t::r++x::s):=Ring.join hR hx hd;have hts:=tR t s hRR;simp only [eR];refine ⟨(H.Ga ht.1 IA.1 ht.2.1 IA.2.1 h0.1 h0.2).gq _,?_,uu _ _ _,λt' s' e' y hy=>?_,λl' hl' hd'=>hl'.rW (λhm=>(hd' t hm).1 σ) (λhm=>(hd' x hm).2 σ)⟩
  ·show Ring (dJ G.nx t x) _
   unfold jZ;simp only;cases hb:lt x t with
   | true=>exact Ring.rot (a:=t::r) (b:=x::s) hj
   | false=>exact hj
  ·unfold jZ at e';simp only at e';cases hb:lt x t with
   | true=>
    rw [hb] at hk;rw [hb,Δ rfl] at e';have hxt:=hk.1 rfl;have e1:x=t':=by injection e'
    have e2:s++t::r=s':=by injection e'
    subst e1 e2;simp only [τ,ρ] at hy;rcases hy with hy|rfl|hy
    ·exact tr _ _ _ hxt (hts y hy)
    ·exact hxt
    ·exact tx y hy
   | false=>
    rw [hb] at hk;rw [hb,Γ σ] at e';have htx:=hk.2 rfl;have e1:t=t':=by injection e'
    have e2:r++x::s=s':=by injection e'
    subst e1 e2;simp only [τ,ρ] at hy;rcases hy with hy|rfl|hy
    ·exact tr _ _ _ htx (tx y hy)
    ·exact htx
    ·exact hts y hy
end
structure yz (n:Nat) (cz:Nat->Int) (L:Nat->Nat->Prop) (h:Nat) (ps:List Nat) (G:FG):Prop where
 ff:FF n G cz L (λ_=>0)
 fr:FR n G cz L (some h)
 ring:Ring G.nx (G.R h)
 top:∀t s,G.R h=t::s->∀y,y∈s->L t y
 mem:∀y,y∈G.R h->BI n G cz h y
 nd:ps.Nodup
 pr:∀z,z∈ps->BI n G cz h z/\G.nx z=z/\z∉G.R h
 all:∀z,BI n G cz h z->z∈G.R h\/z∈ps
section
variable {n:Nat} {cz:Nat->Int} {L:Nat->Nat->Prop} {h:Nat} {G:FG}
theorem yz.step {lt:Nat->Nat->Bool} {z:Nat} {ps:List Nat} (H:yz n cz L h (z::ps) G) (h1:1<=h) (hl:∀G,Em n G cz h L lt) (tr:∀a b c,L a b->L b c->L a c) :
  yz n cz L h ps (dA lt h [z] G)/\((dA lt h [z] G).R h).length=(G.R h).length+1:=by
 obtain ⟨z1,z2,z3⟩:=H.pr z σ;have hnd:=Ζ.1 H.nd;obtain ⟨c1,c2,c3,c4,c5⟩:=vg H.ff h1 (hl G) tr H.ring (mH.2 z2) (λy hy hm=>by simp at hm;subst hm;exact z3 hy) H.mem (λy hy=>by simp at hy;subst hy;exact z1) H.top (λy hy=>by cases hy);obtain ⟨s1,s2,s3,s4⟩:=mU lt h [z] G;have rt:∀g y,BI n (dA lt h [z] G) cz g y↔BI n G cz g y:=λg y=>by unfold BI;rw [s1]
 have mem':∀y,y∈(dA lt h [z] G).R h↔y∈G.R h\/y=z:=λy=>by rw [c3.mem_iff];simp
 refine ⟨⟨c1,⟨λg hg=>?_,λg y hg=>?_,λg t s hg hR=>?_⟩,c2,c4,λy hy=>?_,hnd.2,λy hy=>?_,λy hy=>?_⟩,by rw [c3.length_eq];simp⟩
 ·have hgh:g≠h:=λe=>hg (by rw [e]);rw [s4 g hgh];refine c5 _ (H.fr.ring g hg) (λy hy=>?_);have hm:=(H.fr.mem g y hg).1 hy;refine ⟨λhm2=>hgh ?_,λhm2=>hgh ?_⟩
  ·have:=(H.mem y hm2).2.2;have:=hm.2.2.2;omega
  ·simp at hm2;subst hm2;have:=z1.2.2;have:=hm.2.2.2;omega
 ·have hgh:g≠h:=λe=>hg (by rw [e]);rw [s4 g hgh,s1];exact H.fr.mem g y hg
 ·have hgh:g≠h:=λe=>hg (by rw [e]);rw [s4 g hgh] at hR;exact H.fr.top g t s hg hR
 ·rw [rt];rcases (mem' y).1 hy with hy|rfl
  ·exact H.mem y hy
  ·exact z1
 ·obtain ⟨y1,y2,y3⟩:=H.pr y (by simp [hy]);have Ih:y≠z:=λe=>hnd.1 (e▸hy);refine ⟨(rt h y).2 y1,mH.1 (c5 [y] (mH.2 y2) (λw hw=>by simp at hw;subst hw;exact ⟨y3,by simpa using Ih⟩)),λhm=>?_⟩;rcases (mem' y).1 hm with hm|hm
  ·exact y3 hm
  ·exact Ih hm
 ·rcases H.all y ((rt h y).1 hy) with a|a
  ·exact Α ((mem' y).2 (Α a))
  ·rcases ρ.1 a with a|a
   ·exact Α ((mem' y).2 (Β a))
   ·exact Β a
end
structure vT (A:NS) (G:FG):Prop where
 ff:FF A.cs.length G (λy=>(A.c y).i) (dm A) (λ_=>0)
 fr:FR A.cs.length G (λy=>(A.c y).i) (dm A) none
theorem FR.all {n:Nat} {G:FG} {cz:Nat->Int} {L:Nat->Nat->Prop} (H:FR n G cz L none) (h:Nat):Ring G.nx (G.R h)/\(∀y,y∈G.R h↔1<=h/\BI n G cz h y)/\∀t s,G.R h=t::s->∀y,y∈s->L t y:=
 ⟨H.ring h σ,λy=>H.mem h y σ,λt s e=>H.top h t s σ e⟩
section
variable {A:NS} {G:FG}
theorem vT.lS (I:vT A G) {h:Int} {m:Nat} (hm:bQ A h=some m):BI A.cs.length G (λy=>(A.c y).i) h.toNat m/\1<=h.toNat:=by
 have h0:0<h:=by
  apply ϔ;intro hn;rw [kX hn] at hm;cases hm
 obtain ⟨h1,h2,h3⟩:=(eO h0).1 hm;refine ⟨⟨h1,?_,by show (A.c m).i=_;rw [h2];omega⟩,by omega⟩;rcases I.ff.I7 m h1 with e|⟨p,hp,e,_⟩
 ·exact e
 ·have ho:=I.ff.ord m p h1 e;have hh:=(I.ff.home m p h1 e).1;have hh':(A.c m).i=(A.c p).i:=hh;rcases h3 p hp (by rw [←hh',h2]) with e2|e2
  ·subst e2;exact absurd ho wR
  ·exact absurd ho (jb e2)
theorem vT.zP (I:vT A G) {h:Nat} {t:Nat} {s:List Nat} (hR:G.R h=t::s):bQ A (h:Int)=some t/\1<=h/\t<A.cs.length/\G.up t=-1/\(A.c t).i=h:=by
 obtain ⟨r1,r2,r3⟩:=I.fr.all h;obtain ⟨h1,t1,t2,t3⟩:=(r2 t).1 (by rw [hR];simp);have Gh:(A.c t).i=(h:Int):=t3;refine ⟨?_,h1,t1,t2,Gh⟩;cases hm:bQ A (h:Int) with
 | none=>
  have:=(eB ω).1 hm;have hp:0<bO A (h:Int):=bX.2 ⟨t,t1,Gh,ω⟩;omega
 | some m=>
  obtain ⟨m1,m2⟩:=I.lS hm;rw [π] at m1;have hmem:=(r2 m).2 ⟨h1,m1⟩;rw [hR] at hmem;rcases ρ.1 hmem with e|e
  ·rw [e]
  ·have a1:=r3 t s hR m e;obtain ⟨_,_,h3⟩:=(eO ω).1 hm;rcases h3 t t1 Gh with e2|e2
   ·rw [e2]
   ·exact absurd a1 (jb e2)
theorem vT.out (I:vT A G) {h:Nat} {z:Nat} (hz:z∈G.R h):1<=h/\z<A.cs.length/\G.up z=-1/\(A.c z).i=h/\dh A (z:Int)=true:=by
 obtain ⟨h1,t1,t2,t3⟩:=((I.fr.all h).2.1 z).1 hz;have Gh:(A.c z).i=(h:Int):=t3;exact ⟨h1,t1,t2,Gh,(aK _ _).2 ⟨t1,ω⟩⟩
end
def Gq (A:NS) (a b:Nat):Bool:=decide (dm A a b)
theorem Fu (A:NS) (n:Nat) (G:FG) (cz:Nat->Int) (h:Nat):Em n G cz h (dm A) (Gq A):=λa b _ _ _ _ hne=>
 ⟨λe=>by unfold Gq at e;simpa using e,λe=>by
  unfold Gq at e;have e':¬dm A a b:=by simpa using e
  exact (eU hne).resolve_left e'⟩
def yS (A':NS) (h x:Nat) (G:FG):FG:=dA (Gq A') h [x] G
section
variable {A:NS} {G:FG}
theorem FR.imp {n:Nat} {cz:Nat->Int} {L M:Nat->Nat->Prop} {g:Option Nat} (R:FR n G cz L g) (h:∀g t s,G.R g=t::s->∀y,y∈s->L t y->M t y):FR n G cz M g:=
 ⟨R.ring,R.mem,λg t s hg hR y hy=>h g t s hR y hy (R.top g t s hg hR y hy)⟩
end
theorem yz.done {n:Nat} {cz:Nat->Int} {L:Nat->Nat->Prop} {h:Nat} {G:FG} (H:yz n cz L h [] G) (h1:1<=h):FR n G cz L none:=by
 refine ⟨λg _=>?_,λg y _=>?_,λg t s _ hR=>?_⟩
 all_goals by_cases e:g=h
 ·subst e;exact H.ring
 ·exact H.fr.ring g (by simp;exact e)
 ·subst e;constructor
  ·intro hm;exact ⟨h1,H.mem y hm⟩
  ·rintro ⟨_,a⟩;rcases H.all y a with b|b
   ·exact b
   ·cases b
 ·exact H.fr.mem g y (by simp;exact e)
 ·subst e;exact H.top t s hR
 ·exact H.fr.top g t s (by simp;exact e) hR
section
variable {A:NS} {G:FG}
theorem E5 (n:Nat):vT (NS.new n) FG.none:=by
 have hl:(NS.new n).cs.length=n:=by simp [NS.new]
 have hz:∀y,((NS.new n).c y).i=0:=λy=>by rw [NS.iW];rfl
 refine ⟨⟨⟨λx hx=>hx,λx hx=>hx,λ_ _=>rfl,λ_ _=>rfl⟩,λx y _ hy=>(by cases hy),λy _=>Α rfl,λx _=>Ring.nil _,λy p _ hu=>?_,λy p _ hu=>?_,λy _ _=>⟨rfl,rfl,rfl⟩,λy _ _=>rfl,λx d _=>Nat.zero_le _⟩,⟨λh _=>Ring.nil _,λh y _=>?_,λh t s _ e=>(by cases e)⟩⟩
 ·have:(-1:Int)=p:=hu;omega
 ·have:(-1:Int)=p:=hu;omega
 ·constructor
  ·intro hm;cases hm
  ·rintro ⟨h1,_,_,h2⟩;simp only [hz] at h2;omega
theorem BJ (I:vT A G):vT (ag A) G:=by
 have e1:(ag A).cs=A.cs:=by unfold ag;split<;>rfl
 have e2:∀y,(ag A).c y=A.c y:=λy=>by unfold NS.c;rw [e1]
 have e3:(λy=>((ag A).c y).i)=(λy=>(A.c y).i):=funext (λy=>by rw [e2]);refine ⟨?_,?_⟩
 ·rw [e1,e3];exact I.ff.mono (λy p hy hu ho=>⟨(I.ff.home y p hy hu).1,(I.ff.home y p hy hu).2,(dM (e2 p) (e2 y)).2 ho⟩) I.ff.alone
 ·rw [e1,e3];exact I.fr.imp (λg t s _ y _ hl=>(dM (e2 t) (e2 y)).2 hl)
theorem EW (I:vT A G) (ok:A.Ok) {h x:Nat} (k s:Int) (hB:iq A h x=true) :
  vT (af A h x k s) (yS (af A h x k s) h x G)/\((yS (af A h x k s) h x G).R h).length=(G.R h).length+1/\(∀g,g≠h->(yS (af A h x k s) h x G).R g=G.R g)/\(yS (af A h x k s) h x G).mr=G.mr/\1<=h/\x<A.cs.length/\
   dh (af A h x k s) (x:Int)=true/\(∀t s',G.R h=t::s'->dh (af A h x k s) (t:Int)=true)/\(af A h x k s).cs.length=A.cs.length:=by
 obtain ⟨b1,b2,b3⟩:=(bG _ _ _).1 hB;have b4:=(aA _ _).1 b1;have b5:=(bS _ _).1 b2;have hx:x<A.cs.length:=ω;have h1:1<=h:=ω;have eP:af A h x k s=fu A x ⟨h,k,s⟩:=by unfold af;rw [hB];rfl
 have hc:∀y,(af A h x k s).c y=if y=x then ⟨h,k,s⟩ else A.c y:=λy=>by rw [eP,fE];simp [hx]
 have hl:(af A h x k s).cs.length=A.cs.length:=by rw [eP,bU]
 have x0:¬0<(A.c x).i:=λh'=>by
  have:dh A (x:Int)=true:=(aK _ _).2 ⟨hx,h'⟩;rw [this] at b3;cases b3
 obtain ⟨ax,kx,nx⟩:=I.ff.alone x hx x0;have cz:∀y,y≠x->((af A h x k s).c y).i=(A.c y).i:=λy hy=>by rw [hc,Γ hy]
 have Fj:((af A h x k s).c x).i=h:=by rw [hc,Δ rfl]
 have Ku:∀y,0<(A.c y).i->y≠x:=λy hy e=>x0 (e▸hy);have Kq:∀a y,a≠x->y≠x->(dm (af A h x k s) a y↔dm A a y):=λa y ha hy=>dM (by rw [hc,Γ ha]) (by rw [hc,Γ hy])
 have F':FF A.cs.length G (λy=>((af A h x k s).c y).i) (dm (af A h x k s)) (λ_=>0):=I.ff.mono (λy p hy hu ho=>by
  have hh:=I.ff.home y p hy hu;have hy1:0<(A.c y).i:=hh.2;have hp1:0<(A.c p).i:=by have:(A.c y).i=(A.c p).i:=hh.1;omega
  have e1:=Ku y hy1;have e2:=Ku p hp1;exact ⟨by simp only [cz y e1,cz p e2];exact hh.1,by simp only [cz y e1];exact hy1,(Kq p y e2 e1).2 ho⟩) (λy hy h0=>by
  by_cases e:y=x
  ·subst e;exact ⟨ax,kx,nx⟩
  ·simp only [cz y e] at h0;exact I.ff.alone y hy h0)
 have mR:∀g z,z∈G.R g->z≠x/\(A.c z).i=g/\1<=g:=λg z hz=>by
  have:=I.out hz;exact ⟨Ku z (by have:=this.2.2.2.1;omega),this.2.2.2.1,this.1⟩
 have mm:∀g z,z≠x->(z∈G.R g↔1<=g/\z<A.cs.length/\G.up z=-1/\((af A h x k s).c z).i=g):=λg z hz=>by rw [cz z hz];exact (I.fr.all g).2.1 z
 have H:yz A.cs.length (λy=>((af A h x k s).c y).i) (dm (af A h x k s)) h [x] G:=by
  refine ⟨F',⟨λg _=>(I.fr.all g).1,λg z hg=>?_,λg t s' _ hR y hy=>?_⟩,(I.fr.all h).1,λt s' hR y hy=>?_,λz hz=>?_,σ,λz hz=>?_,λz hz=>?_⟩
  ·by_cases e:z=x
   ·subst e;constructor
    ·intro hm;exact absurd rfl (mR g z hm).1
    ·rintro ⟨_,_,_,h2⟩;simp only [Fj] at h2;exact absurd (by congr 1;omega:some g=some h) hg
   ·exact mm g z e
  ·have e1:=(mR g t (by rw [hR];simp)).1;have e2:=(mR g y (by rw [hR];simp [hy])).1;exact (Kq t y e1 e2).2 ((I.fr.all g).2.2 t s' hR y hy)
  ·have e1:=(mR h t (by rw [hR];simp)).1;have e2:=(mR h y (by rw [hR];simp [hy])).1;exact (Kq t y e1 e2).2 ((I.fr.all h).2.2 t s' hR y hy)
  ·exact ((mm h z (mR h z hz).1).1 hz).2
  ·simp at hz;subst hz;exact ⟨⟨hx,ax,Fj⟩,nx,λhm=>(mR h z hm).1 rfl⟩
  ·by_cases e:z=x
   ·exact Β (by simp [e])
   ·exact Α ((mm h z e).2 ⟨h1,hz⟩)
 obtain ⟨r1,r2⟩:=H.step h1 (λG=>Fu _ _ _ _ _) (λa b c=>bK);obtain ⟨s1,s2,s3,s4⟩:=mU (Gq (af A h x k s)) h [x] G;refine ⟨⟨by rw [hl];exact r1.ff,by rw [hl];exact r1.done h1⟩,r2,s4,s2,h1,hx,(aK _ _).2 ⟨by rw [hl];exact hx,by rw [Fj];omega⟩,λt s' hR=>?_,hl⟩;have:=I.out (h:=h) (z:=t) (by rw [hR];simp);exact (aK _ _).2 ⟨by rw [hl];exact this.2.1,by rw [cz t (mR h t (by rw [hR];simp)).1];omega⟩
end
end Go.Proofs.YtnpdakpagnpanaaGreat
namespace Go.Proofs.YtnpdakpagnpanaaGreat
open Go Go.RowKit
def nQ (w:World) (p:Nat) (FF:List Nat) (A:NS) (st:Nat) (G:FG):Prop:=(∃B F gt ct,p=B.n0/\FF=B.blk F gt/\gX w B F gt ct A st G)/\vT A G
theorem mQ {B:FB} {F:List Nat} {gt:Nat}:∀x,x∈F->x∈B.blk F gt:=λx hx=>by simp [FB.blk,hx]
theorem CX {w:World} {B:FB} {F F':List Nat} {gt:Nat} (hF:∀x,x∈F'->x∈F\/w.heap.size<=x):∀x,x∈B.blk F' gt->x∈B.blk F gt\/w.heap.size<=x:=λx hx=>by
 simp only [FB.blk,ρ] at hx ⊢;rcases hx with e|e|e|e|e|e|e
 ·exact Α (Α e)
 ·exact Α (Β (Α e))
 ·exact Α (Β (Β (Α e)))
 ·exact Α (Β (Β (Β (Α e))))
 ·exact Α (Β (Β (Β (Β (Α e)))))
 ·exact Α (Β (Β (Β (Β (Β (Α e))))))
 ·rcases hF x e with h|h
  ·exact Α (Β (Β (Β (Β (Β (Β h))))))
  ·exact Β h
section
variable {w:World} {p:Nat} {FF:List Nat} {A:NS} {st:Nat} {G:FG}
theorem nQ.upd {w':World} {S:List Nat} (h:nQ w p FF A st G) (hu:aa S w w') (hS:∀x,x∈S->x∉FF):nQ w' p FF A st G:=by
 obtain ⟨⟨B,F,gt,ct,rfl,rfl,M⟩,I⟩:=h;exact ⟨⟨B,F,gt,ct,rfl,rfl,M.upd hu hS⟩,I⟩
theorem nQ.lt (h:nQ w p FF A st G):∀x,x∈FF->x<w.heap.size:=by
 obtain ⟨⟨B,F,gt,ct,rfl,rfl,M⟩,I⟩:=h;exact M.lt
theorem nQ.ok (h:nQ w p FF A st G):A.Ok:=by
 obtain ⟨⟨B,F,gt,ct,rfl,rfl,M⟩,I⟩:=h;exact M.cells.ok
theorem nQ.cl (h:nQ w p FF A st G):∃c F1,w.cell? ⟨p,0,none⟩=some (.pointer (some ⟨c,0,none⟩))/\ai w c F1 A st/\c∈FF:=by
 obtain ⟨⟨B,F,gt,ct,rfl,rfl,M⟩,I⟩:=h;exact ⟨B.c,F,M.h0,M.cells,mQ _ M.cells.mem⟩
theorem DC (I:vT A G) (ok:A.Ok) {q:Int} {m:Nat} (hm:bQ A q=some m):∃ (h:Nat) (s:List Nat),q=h/\1<=h/\h<A.hs.length/\G.R h=m::s/\0<bO A q:=by
 obtain ⟨m1,m2⟩:=I.lS hm;have hx:(A.c m).i=(q.toNat:Int):=m1.2.2;have hnat:=ok.nat m m1.1;refine ⟨q.toNat,?_⟩;have hmem:=((I.fr.all q.toNat).2.1 m).2 ⟨m2,m1⟩;cases hR:G.R q.toNat with
 | nil=>rw [hR] at hmem;cases hmem
 | cons t s=>
  have:=(I.zP hR).1;rw [show ((q.toNat:Nat):Int)=q by omega,hm] at this
  injection this with this
  subst this;exact ⟨s,ω,m2,ω,rfl,bX.2 ⟨m,m1.1,ω,ω⟩⟩
theorem zh (h:nQ w p FF A st G) (q:Int) (hqb:-9223372036854775808<=q/\q<=9223372036854775807) :
  Calls Tryz.prog 214 #[.pointer (some ⟨p,0,none⟩),.int .i64 q] w λe w'=>e=.returned (.tuple #[.int .i64 (nI (bQ A q)),.bool (bQ A q).isSome])/\w'=w:=by
 obtain ⟨⟨B,F,gt,ct,rfl,rfl,M⟩,I⟩:=h;have h0:=M.h0;have kl:=gZ M.cells q hqb;cases hm:bQ A q with
 | none=>
  rw [fe.1 hm] at kl;clear M I hm
  go_enter Tryz.func214,Tryz.ntmps214
  go_wp2_with ((go_at_call 126;(with_reducible refine (kl).mono ?_);rintro e w9 ⟨rfl,aB⟩;rw [aB];clear aB w9))
  go_ret2;exact ⟨rfl,rfl⟩
 | some m=>
  obtain ⟨hh,s,rfl,h1,hl,hR,hp⟩:=DC I M.cells.ok hm;have h3:=M.h3;have ht:=M.top hl;rw [hR] at ht;have ht':w.cell? ⟨gt,hh,none⟩=some (.int .i64 (m:Int)):=ht;have hcap:=M.cap;have hlI:(hh:Int)<(A.hs.length:Int):=ω;have hne:(((bO A (hh:Int):Nat):Int) == 0)=false:=ζ;generalize bO A (hh:Int)=ln at *;clear M I hm hR ht
  go_enter Tryz.func214,Tryz.ntmps214
  go_wp2_with ((go_at_call 126;(with_reducible refine (kl).mono ?_);rintro e w9 ⟨rfl,aB⟩;rw [aB];clear aB w9))
  go_ret2;exact ⟨rfl,rfl⟩
theorem rG (h:nQ w p FF A st G) (q x:Nat) (k s:Int) (hk:-9223372036854775808<=k/\k<=9223372036854775807/\0<=s/\s<=18446744073709551615) (hB:iq A q x=true) :
  Calls Tryz.prog 211 #[.pointer (some ⟨p,0,none⟩),.int .i64 (q:Int),.int .i64 (x:Int),.agg #[.int .i64 k,.int .u64 s]] w λe w'=>e=.returned (.bool true)/\
   Goes FF w w' (λES=>nQ w' p ES (af A q x k s) (bR st (pq q G)) (yS (af A q x k s) q x G)):=by
 obtain ⟨⟨B,F,gt,ct,rfl,rfl,M⟩,I⟩:=h;have ok:=M.cells.ok;obtain ⟨I2,_,_,_,h1,hx,hin,hti,hcs⟩:=EW I ok k s hB;have gW:(af A q x k s).hs.length=A.hs.length:=by unfold af;split;rfl;rfl
 have hql:q<(af A q x k s).hs.length:=by
  rw [gW];have:=(aA _ _).1 ((bG _ _ _).1 hB).1;omega
 have u1:aa [] w (w.alloc (.cells #[.int .i64 k,.int .u64 s] 97)):=(aa.refl _ _).alloc _;have kp:=λW (hW:aa [] (w.alloc (.cells #[.int .i64 k,.int .u64 s] 97)) W)=>fZ (M.cells.ah (u1.trans hW)) q x k s hk hB;have h0:=M.h0;have BP:B.n0∉F:=M.d1.1;have hsz:w.heap.size∉F:=λhm=>by have:=M.cells.lt _ hm;omega
 have r0:∀W,aa F (w.alloc (.cells #[.int .i64 k,.int .u64 s] 97)) W->W.cell? ⟨B.n0,0,none⟩=some (.pointer (some ⟨B.c,0,none⟩)):=λW hW=>hW.kept (u1.was h0) BP;have r1:∀W,aa F (w.alloc (.cells #[.int .i64 k,.int .u64 s] 97)) W->W.cell? ⟨w.heap.size,0,none⟩=some (.int .i64 k):=λW h=>h.kept σ hsz;have r2:∀W,aa F (w.alloc (.cells #[.int .i64 k,.int .u64 s] 97)) W->W.cell? ⟨w.heap.size,1,none⟩=some (.int .u64 s):=λW h=>h.kept σ hsz;have ka:=λ(W:World) (hM:gX W B F gt ct (af A q x k s) st G)=>xk hM [] hql hin hti;have HM:=χ (ψ M (ψ gW hcs));have HI:=χ I2
 clear M I ok I2 hin hti hql hx hcs gW h0 hB
 go_enter Tryz.func211,Tryz.ntmps211
 go_wp2
 go_region_held3 (aa F (w.alloc (.cells #[.int .i64 k,.int .u64 s] 97))) (exact ν)
  (first
   | ((go_at_call 138;(with_reducible refine (kp _ β).mono ?_));rintro e w1 ⟨rfl,iU,hu1⟩;(have hu2:aa F (w.alloc (.cells #[.int .i64 k,.int .u64 s] 97)) w1:=ν)))
 have uF:aa F w w1:=(u1.mono σ).trans hu2;have hM1:=HM.out.1.fw uF iU (λy hy=>Α hy) HM.out.2.2 HM.out.2.1;have KE:=λ(W:World) (hW:aa [] w1 W)=>ka W (hM1.ah hW);have HU:=χ uF;have hcm:=HM.out.1.cells.mem;clear kp r0 r1 r2 hM1 ka uF hu2 iU hu1
 go_wp2_with (first
  | ((go_at_call 220;(with_reducible refine (KE _ β).mono ?_));rintro e w2 ⟨rfl,hM2,hu3⟩)
  | fail)
 go_ret;refine ⟨rfl,B.blk F gt,⟨⟨B,F,gt,ct,rfl,rfl,hM2⟩,HI.out⟩,(HU.out.mono mQ).trans ((β:aa _ w1 _).trans (hu3.mono (λy hy=>?_))),λy hy=>Α hy⟩;simp only [ρ,ς,or_false] at hy;rcases hy with e|e|e|e
 ·rw [e];exact mQ _ hcm
 all_goals simp [FB.blk,e]
end
section
variable {w:World} {p:Nat} {FF:List Nat} {A:NS} {st:Nat} {G:FG}
theorem Fz (I:vT A G) (ok:A.Ok):G.R A.hs.length=[]:=by
 cases e:G.R A.hs.length with
 | nil=>rfl
 | cons x t=>
  have:=I.out (h:=A.hs.length) (z:=x) (by rw [e];simp);have:=ok.nat x this.2.1;omega
theorem yw (h:nQ w p FF A st G) :
  Calls Tryz.prog 212 #[.pointer (some ⟨p,0,none⟩)] w λe w'=>e=.returned (.int .i64 (aT A))/\Goes FF w w' (λES=>nQ w' p ES (ag A) st G):=by
 obtain ⟨⟨B,F,gt,ct,rfl,rfl,M⟩,I⟩:=h;have k:=cZ M.cells;have h0:=M.h0;have I2:=BJ I
 by_cases hl:65536<A.hs.length
 ·have e1:aT A=0:=by unfold aT;rw [Δ hl]
  have e2:ag A=A:=by unfold ag;rw [Δ hl]
  rw [e1,e2] at k;rw [e1,e2];have HM:=χ M;have HI:=χ I;clear M I e1 e2 I2
  go_enter Tryz.func212,Tryz.ntmps212
  go_wp2_with ((go_at_call 140;(with_reducible refine (k).mono ?_));rintro e w1 ⟨rfl,F1,hC,hu,hF⟩)
  go_ret;exact ⟨rfl,B.blk F1 gt,⟨⟨B,F1,gt,ct,rfl,rfl,HM.out.fw hu hC hF rfl rfl⟩,HI.out⟩,hu.mono mQ,CX hF⟩
 ·have e1:aT A=A.hs.length:=by unfold aT;rw [Γ hl]
  rw [e1] at k;rw [e1];have hcs:(ag A).cs.length=A.cs.length:=by unfold ag;rw [Γ hl]
  have gW:(ag A).hs.length=A.hs.length+1:=by unfold ag;rw [Γ hl];simp
  have hh0:=M.cells.ok.h0;have hpos:(0:Int)<(A.hs.length:Int):=ω;have qA:=Fz I M.cells.ok;have HM:=χ M;have HI:=χ (ψ I2 qA);have hlb:A.hs.length<=65536:=ω;clear M I e1 I2 qA
  go_enter Tryz.func212,Tryz.ntmps212
  go_wp2_with (first
   | ((go_at_call 140;(with_reducible refine (k).mono ?_));rintro e w1 ⟨rfl,F1,hC,hu,hF⟩;(have d3:=hu.kept HM.out.h3 HM.out.d1.1);(have f3:=hu.aF HM.out.h3 HM.out.d1.1 (HM.out.head.free 3));(have ho1:=ay HM.out.ae.own hu (λg hg=>by simp [Value.ownBlock] at hg;subst hg;exact HM.out.d1.2.2.2.2.2));rw [jh] at ho1;(have g0:B.n0≠gt:=HM.out.d2.2.2.2.2);(have gl:=Ψ (HM.out.lt gt (by simp [FB.blk])) hu.size))
   | ((at_builtin;refine aL rfl _ _ 77 rfl 0 3 (.int .i64 0) 1 8 Tryz.underlying77 dO rfl δ _ _ _ rfl (ho1) [.int .i64 (-1)] rfl (by simp [Value.oneCell']) (by first|rfl|(rw [Κ];rfl)) μ ω ω ?_;intro v2 w2 ho2 hu2 iI);(have hu2:aa [gt] w1 w2:=hu2);obtain ⟨gP,rR,ev,_⟩:=dI ho2 ω;subst ev;(have d4:=hu2.kept d3 ζ);(have f4:=hu2.aF d3 ζ f3)))
  go_ret;have hM:=HM.out;have hlt:=hM.lt;have f:=hM.d1;have q:=hM.d2;have r:=hM.d3;have hws:=hu.size;have hw3:aa [B.n0] w2 (w2.setCell ⟨B.n0,3,none⟩ (.slice (some ⟨gP,0,none⟩) (A.hs.length+1) rR)):=β;have hg1:gP=gt\/w1.heap.size<gP:=by
   rcases iI with h|h
   ·exact Α (Option.some.inj h)
   ·exact Β (h gP rfl)
  have iU:=hC.lt;have l0:=hlt B.n0 (by simp [FB.blk]);have l1:=hlt B.br (by simp [FB.blk]);have l2:=hlt B.bn (by simp [FB.blk]);have l3:=hlt B.bp (by simp [FB.blk]);have l4:=hlt B.bl (by simp [FB.blk]);have l5:=hlt gt (by simp [FB.blk]);have hnF:∀y,y<w.heap.size->y∉F->y∉F1:=λy hy hn hm=>by rcases hF y hm with h'|h';exact hn h';omega
  have tV:gP∉F1:=by
   rcases hg1 with e|e
   ·rw [e];exact hnF gt l5 f.2.2.2.2.2
   ·exact λhm=>by have:=iU gP hm;omega
  have hgn:∀y,y<w.heap.size->y≠gt->y≠gP:=λy hy hn e=>by
   rcases hg1 with e2|e2
   ·exact hn (e.trans e2)
   ·omega
  have hhd:=((hM.head.upd hu f.1).upd hu2 ζ).set 3 (.slice (some ⟨gP,0,none⟩) (A.hs.length+1) rR);have n2:∀y,y≠gt->y∉[gt]:=λy h=>by simpa using h
  have n3:∀y,y≠B.n0->y∉[B.n0]:=λy h=>by simpa using h
  have eT:dB G.R (A.hs.length+1)=dB G.R A.hs.length++[-1]:=by
   unfold dB;rw [List.range_succ,List.map_append];simp [HI.out.2,wJ]
  have Ia:gX (w2.setCell ⟨B.n0,3,none⟩ (.slice (some ⟨gP,0,none⟩) (A.hs.length+1) rR)) B F1 gP rR (ag A) st G:=by
   refine ⟨?_,?_,?_,?_,⟨?_⟩,⟨hnF _ l0 f.1,hnF _ l1 f.2.1,hnF _ l2 f.2.2.1,hnF _ l3 f.2.2.2.1,hnF _ l4 f.2.2.2.2.1,tV⟩,⟨q.1,q.2.1,q.2.2.1,q.2.2.2.1,hgn _ l0 q.2.2.2.2⟩,⟨r.1,r.2.1,r.2.2.1,hgn _ l4 r.2.2.2.1,(hgn _ l1 (Ne.symm r.2.2.2.2.1)).symm,(hgn _ l2 (Ne.symm r.2.2.2.2.2.1)).symm,(hgn _ l3 (Ne.symm r.2.2.2.2.2.2)).symm⟩⟩
   ·rw [hcs,gW];refine hhd.ext (λj hj=>?_);rcases (ω:j=0\/j=1\/j=2\/j=3) with rfl|rfl|rfl|rfl<;>rfl
   ·exact (hC.upd hu2 (λy hy=>by simp at hy;rw [hy];exact hnF gt l5 f.2.2.2.2.2)).upd hw3 (λy hy=>by simp at hy;rw [hy];exact hnF _ l0 f.1)
   ·rw [hcs];exact ((hM.rings.upd hu f.2.1 f.2.2.1 f.2.2.2.1).upd hu2 (n2 _ (Ne.symm r.2.2.2.2.1)) (n2 _ (Ne.symm r.2.2.2.2.2.1)) (n2 _ (Ne.symm r.2.2.2.2.2.2))).upd hw3 (n3 _ (Ne.symm q.1)) (n3 _ (Ne.symm q.2.1)) (n3 _ (Ne.symm q.2.2.1))
   ·rw [hcs];exact ((hM.pl.upd hu f.2.2.2.2.1).upd hu2 (n2 _ r.2.2.2.1)).upd hw3 (n3 _ (Ne.symm q.2.2.2.1))
   ·rw [gW,jh,eT,bT];refine ay (gQ ho2 (Nat.zero_le _)) hw3 (λg hg hm=>?_);simp [Value.ownBlock] at hg hm;exact hgn _ l0 q.2.2.2.2 ω
  refine ⟨rfl,B.blk F1 gP,⟨⟨B,F1,gP,rR,rfl,rfl,Ia⟩,HI.out.1⟩,((hu.mono mQ).trans (hu2.mono (λz hz=>by simp at hz;simp [FB.blk,hz]))).trans (hw3.mono (λz hz=>by simp at hz;simp [FB.blk,hz])),λy hy=>?_⟩;simp only [FB.blk,ρ] at hy ⊢;rcases hy with e|e|e|e|e|e|e
  ·exact Α (Α e)
  ·exact Α (Β (Α e))
  ·exact Α (Β (Β (Α e)))
  ·exact Α (Β (Β (Β (Α e))))
  ·exact Α (Β (Β (Β (Β (Α e)))))
  ·rcases hg1 with e2|e2
   ·exact Α (Β (Β (Β (Β (Β (Α (e.trans e2)))))))
   ·exact Β ω
  ·rcases hF y e with h'|h'
   ·exact Α (Β (Β (Β (Β (Β (Β h'))))))
   ·exact Β h'
end
theorem ym:(Tryz.prog.info? 198).map (λi=>(i.zero,i.size,i.bytes))=some (some (.agg #[.int .i64 0,.int .i64 0,.int .i64 0,.bool false]),4,32):=by kernel_rfl
theorem vL (n j:Nat) (hj:j<n*4):(madeCells #[Value.int .i64 0,.int .i64 0,.int .i64 0,.bool false] (n*4)).toList.getD j undef=nW (λ_=>0) (λ_=>0) (λ_=>0) (λ_=>false) j:=by
 rw [φ,ε (by simp [size_madeCells];omega)];simp only [Option.getD_some,madeCells,Array.getElem_toList,Array.getElem_map,Array.getElem_range];unfold nW;rcases (ω:j % 4=0\/j % 4=1\/j % 4=2\/j % 4=3) with e|e|e|e<;>simp [e]
def upTo (k:Nat) (v:Int):Nat->Int:=λi=>if i<k then v else 0
theorem zR (k:Nat) (v:Int):aW (upTo k v) k v=upTo (k+1) v:=by
 funext i;unfold aW upTo
 by_cases e:i=k
 ·rw [Δ e,Δ ω]
 ·rw [Γ e]
  by_cases h:i<k
  ·rw [Δ h,Δ ω]
  ·rw [Γ h,Γ ω]
theorem zA (n:Nat) (w:World) (h:n<=65536):Calls Tryz.prog 64 #[.int .i64 (n:Int)] w λe w'=>∃p FF,e=.returned (.tuple #[.pointer (some ⟨p,0,none⟩),.int .i64 0])/\nQ w' p FF (NS.new n) 0 FG.none/\aa [] w w'/\∀x,x∈FF->w.heap.size<=x:=by
 have kc:=gu n w h;have kr:=λW=>rP n W h;have hI:=χ (E5 n)
 go_enter Tryz.func64,Tryz.ntmps64
 go_wp2_with (first
  | ((go_at_call 84;(with_reducible refine (kc).mono ?_));rintro e w1 ⟨c,F,rfl,hC,hu1,hF⟩;(have HC:=χ (ψ hC (ψ hu1 hF)));clear hC hu1 hF)
  | ((go_at_call 87;(with_reducible refine (kr _).mono ?_));rintro e w2 ⟨br,bn,bp,rfl,hR,hu2,hb1,hb2,hb3⟩;(have HR:=χ (ψ hR (ψ hu2 (ψ hb1 (ψ hb2 hb3)))));clear hR hu2 hb1 hb2 hb3 kr)
  | (at_make;refine wpList_make_row rfl _ 194 rfl 198 (.agg #[.int .i64 0,.int .i64 0,.int .i64 0,.bool false]) 4 32 Tryz.underlying194 ym n rfl ω μ ?_;intro w3 hr3 hu3))
 obtain ⟨W0,hW0⟩:∃W0,W0=(w3.alloc (.cells #[.int .i64 (-1)] 3)).alloc (.cells #[.pointer (some ⟨c,0,none⟩),.pointer (some ⟨br,0,none⟩),.slice (some ⟨w2.heap.size,0,none⟩) n n,.slice (some ⟨w3.heap.size,0,none⟩) 1 1] 196):=⟨_,rfl⟩;have hu0:aa [] w3 W0:=by rw [hW0];exact β
 have hhead:=aY (w3.alloc (.cells #[.int .i64 (-1)] 3)) [.pointer (some ⟨c,0,none⟩),.pointer (some ⟨br,0,none⟩),.slice (some ⟨w2.heap.size,0,none⟩) n n,.slice (some ⟨w3.heap.size,0,none⟩) 1 1] 196;rw [Κ] at hhead;have hz1:IZ (w3.alloc (.cells #[.int .i64 (-1)] 3)) w3.heap.size 1 [-1]:=IZ.lit w3 [-1] σ;have hz0:IZ W0 w3.heap.size 1 [-1]:=by rw [hW0];exact hz1.upd ((aa.refl [] _).alloc _) σ
 have hhd:ak W0 (w3.heap.size+1) 196 4 (λj=>[Value.pointer (some ⟨c,0,none⟩),.pointer (some ⟨br,0,none⟩),.slice (some ⟨w2.heap.size,0,none⟩) n n,.slice (some ⟨w3.heap.size,0,none⟩) 1 1].getD j undef):=by rw [hW0];exact hhead
 have hzz:(Value.agg #[.int .i64 0,.int .i64 0,.int .i64 0,.bool false]).cells=#[.int .i64 0,.int .i64 0,.int .i64 0,.bool false]:=rfl;rw [hzz] at hr3;have hr0:ak W0 w2.heap.size 198 (n*4) (nW (upTo 0 (-1)) (upTo 0 (-1)) (λ_=>0) (λ_=>false)):=by
  refine ((hr3.upd hu0 σ).ext (λj hj=>?_));rw [vL n j hj];unfold upTo;simp
 have hl3:=hr3.lt;have hs3:=hu3.size;have H0:=χ (ψ hu0 (ψ hz0 (ψ hhd (ψ hr0 (ψ hu3 hW0)))));have hne:w3.heap.size+1≠w2.heap.size:=ω;clear hu0 hz0 hhd hr0 hz1 hhead hr3 hu3;rw [←hW0];clear hW0
 go_loopw [34] (λJO wr=>∃k:Nat,k<=n/\JO=.int .i64 (k:Int)/\ak wr w2.heap.size 198 (n*4) (nW (upTo k (-1)) (upTo k (-1)) (λ_=>0) (λ_=>false))/\aa [w2.heap.size] W0 wr) (λJO _=>n-(intOf JO).toNat)
 case atStart=>exact ⟨0,ω,rfl,H0.out.2.2.2.1,aa.refl _ _⟩
 case round=>
  obtain ⟨k,hk,rfl,hr,hu⟩:=hrel;rename World=>wr
  by_cases hkn:k<n
  ·have Gl:(k:Int)<(n:Int):=ω;have hw1:IntKind.i64.wrap ((k:Int)+1)=(k:Int)+1:=Μ _ ω;have d2:wr.cell? ⟨w3.heap.size+1,2,none⟩=some (.slice (some ⟨w2.heap.size,0,none⟩) n n):=hu.kept (H0.out.2.2.1.cellAt 2 ω rfl) (by simpa using hne);have p0:=hr.cellAt (k*4) ω (nO _ _ _ _ k);have p1:=hr.cellAt (k*4+1) ω (nJ _ _ _ _ k);have p2:=hr.cellAt (k*4+2) ω (ny _ _ _ _ k);have p3:=hr.cellAt (k*4+3) ω (mW _ _ _ _ k);have f0:=hr.free (k*4);have f1:=hr.free (k*4+1);have f2:=hr.free (k*4+2);have f3:=hr.free (k*4+3);have hlr:=hr.lt;have HR2:=χ (ψ hr hu);clear hr hu;go_wp2
   go_region_with (first
    | ((go_at_call 88;(with_reducible refine (vF _).mono ?_));rintro e w5 ⟨rfl,dV⟩;(have hv:aa [] wr w5:=aa.trans β dV);(have v0:=hv.was p0);(have v1:=hv.was p1);(have v2:=hv.was p2);(have v3:=hv.was p3);(have v4:=hv.was d2);(have z0:=hv.aF p0 σ f0);(have z1:=hv.aF p1 σ f1);(have z2:=hv.aF p2 σ f2);(have z3:=hv.aF p3 σ f3))
    | fail)
   all_goals
    go_wp2;have hr:=HR2.out.1.upd hv σ;have xO:aa [w2.heap.size] W0 w5:=HR2.out.2.then hv;refine ⟨⟨k+1,ω,by go_num,?_,ν⟩,by simp [intOf];omega⟩;have:=yV (Ai (yU (AP hr k (-1)) k (-1)) k 0) k false;rw [zR] at this;refine this.ext (λj _=>?_);rw [show aW (λ_=>(0:Int)) k 0=(λ_=>0) from by funext z;unfold aW;split<;>rfl,show aW (λ_=>false) k false=(λ_=>false) from by funext z;unfold aW;split<;>rfl]
  ·obtain rfl:k=n:=ω;have HR2:=χ (ψ hr hu);clear hr hu;go_wp2;go_ret2;obtain ⟨hr,hu⟩:=HR2.out;obtain ⟨hu0,hz0,hhd,_,hu3,_⟩:=H0.out;obtain ⟨hC,hu1,hF⟩:=HC.out;obtain ⟨hR,hu2,hb1,hb2,hb3⟩:=HR.out;have hcs:(NS.new k).cs.length=k:=by simp [NS.new]
   have gW:(NS.new k).hs.length=1:=rfl;have hCl:=hC.lt;have hRl:=hR.lt;have s1:=hu1.size;have s2:=hu2.size;have s3:=hu3.size;have s0:=hu0.size;have hFn:∀y,w1.heap.size<=y->y∉F:=λy hy hm=>by have:=hCl y hm;omega
   have hM:gX wr ⟨w3.heap.size+1,c,br,bn,bp,w2.heap.size⟩ F w3.heap.size 1 (NS.new k) 0 FG.none:=by
    refine ⟨?_,?_,?_,?_,?_,⟨hFn _ ζ,hFn _ hb1,hFn _ hb2,hFn _ hb3,hFn _ s2,hFn _ ω⟩,⟨ζ,ζ,ζ,ζ,σ⟩,⟨ζ,ζ,ζ,ζ,ζ,ζ,ζ⟩⟩
    ·rw [hcs,gW];exact hhd.upd hu (by simpa using hne)
    ·exact ((hC.ah ((hu2.trans hu3).trans hu0))).upd hu (λy hy=>by simp at hy;rw [hy];exact hFn _ s2)
    ·rw [hcs];exact (hR.ah (hu3.trans hu0)).upd hu ζ ζ ζ
    ·rw [hcs];refine hr.ext (λj hj=>?_);unfold zK;obtain ⟨a,e⟩:=four j;have ha:a<k:=ω;rcases e with rfl|rfl|rfl|rfl
     ·rw [nO,nO];unfold upTo;rw [Δ ha];rfl
     ·rw [nJ,nJ];unfold upTo;rw [Δ ha];rfl
     ·rw [ny,ny];rfl
     ·rw [mW,mW];rfl
    ·exact hz0.upd hu ζ
   refine ⟨_,_,rfl,⟨⟨⟨w3.heap.size+1,c,br,bn,bp,w2.heap.size⟩,F,w3.heap.size,1,rfl,rfl,hM⟩,hI.out⟩,(((hu1.trans hu2).trans hu3).trans hu0).joined hu (λy hy=>by simp at hy;rw [hy];right;omega),λy hy=>?_⟩;simp only [FB.blk,ρ] at hy;rcases hy with e|e|e|e|e|e|e
   ·omega
   ·omega
   ·omega
   ·omega
   ·omega
   ·omega
   ·exact hF y e
theorem sG (p c:Nat):∀W:World,W.cell? ⟨p,0,none⟩=some (.pointer (some ⟨c,0,none⟩))->(method 409 134 (.pointer (some ⟨p,0,none⟩)) "Has").run Tryz.prog W=.ok (123,.pointer (some ⟨c,0,none⟩)) W:=(by intro W h;unfold method;have hm:∃m,(Array.find? (λx=>x.name == "Has") Tryz.t134.methods)=some m/\m.path.toList=[⟨196,0,true⟩]/\m.func=some (123,true)/\m.path.isEmpty=false:=⟨(Array.find? (λx=>x.name == "Has") Tryz.t134.methods).get!,by kernel_rfl,by kernel_rfl,by kernel_rfl,by kernel_rfl⟩;obtain ⟨m,h1,h2,h3,h4⟩:=hm;go_simp;simp only [follow,Place.get];go_simp;(try unfold receiverAt);(try simp only [Place.get]);(try go_simp))
theorem ow (p c:Nat):∀W:World,W.cell? ⟨p,0,none⟩=some (.pointer (some ⟨c,0,none⟩))->(method 409 134 (.pointer (some ⟨p,0,none⟩)) "Entry").run Tryz.prog W=.ok (121,.pointer (some ⟨c,0,none⟩)) W:=(by intro W h;unfold method;have hm:∃m,(Array.find? (λx=>x.name == "Entry") Tryz.t134.methods)=some m/\m.path.toList=[⟨196,0,true⟩]/\m.func=some (121,true)/\m.path.isEmpty=false:=⟨(Array.find? (λx=>x.name == "Entry") Tryz.t134.methods).get!,by kernel_rfl,by kernel_rfl,by kernel_rfl,by kernel_rfl⟩;obtain ⟨m,h1,h2,h3,h4⟩:=hm;go_simp;simp only [follow,Place.get];go_simp;(try unfold receiverAt);(try simp only [Place.get]);(try go_simp))
theorem yT (p:Nat):∀W:World,(method 409 134 (.pointer (some ⟨p,0,none⟩)) "Make").run Tryz.prog W=.ok (212,.pointer (some ⟨p,0,none⟩)) W:=λ_=>by kernel_rfl
theorem uq (p:Nat):∀W:World,(method 409 134 (.pointer (some ⟨p,0,none⟩)) "Insert").run Tryz.prog W=.ok (211,.pointer (some ⟨p,0,none⟩)) W:=λ_=>by kernel_rfl
theorem C8 (p:Nat):∀W:World,(method 409 134 (.pointer (some ⟨p,0,none⟩)) "Min").run Tryz.prog W=.ok (214,.pointer (some ⟨p,0,none⟩)) W:=λ_=>by kernel_rfl
theorem qi {w w':World} {p:Nat} {F S:List Nat} {A:NS} {st:Nat} {G:FG} (h:nQ w p F A st G) (hu:aa S w w') (hS:∀x,x∈S->x∉F):nQ w' p F A st G:=h.upd hu hS
theorem Gg {w:World} {p:Nat} {F:List Nat} {A:NS} {st:Nat} {G:FG} (h:nQ w p F A st G):∀x,x∈F->x<w.heap.size:=h.lt
theorem DT {w:World} {p:Nat} {F:List Nat} {A:NS} {st:Nat} {G:FG} (h:nQ w p F A st G):A.Ok:=h.ok
theorem Ae {w:World} {p:Nat} {F:List Nat} {A:NS} {st:Nat} {G:FG} (h:nQ w p F A st G):∃c F1,w.cell? ⟨p,0,none⟩=some (.pointer (some ⟨c,0,none⟩))/\ai w c F1 A st:=by
 obtain ⟨c,F1,h0,hC, -⟩:=h.cl;exact ⟨c,F1,h0,hC⟩
def FbQ (w:World) (p:Nat) (F:List Nat) (A:NS):Prop:=∃st G,nQ w p F A st G
noncomputable def mE:bV where
 ty:=134
 at_:=FbQ
 upd:=λh hu hS=>by
  obtain ⟨st,G,hL⟩:=h;exact ⟨st,G,qi hL hu hS⟩
 lt:=λh=>by
  obtain ⟨st,G,hL⟩:=h;exact Gg hL
 ok:=λh=>by
  obtain ⟨st,G,hL⟩:=h;exact DT hL
 make:=λ{w p F A} h=>by
  obtain ⟨st,G,hL⟩:=h;refine aQ 212 (λ_ _=>by kernel_rfl) (yT _) (λW hW=>?_);refine (yw (qi hL hW σ)).mono ?_;rintro e w' ⟨rfl,F',hA,hu,hf⟩;exact ⟨rfl,F',⟨_,_,hA⟩,hu,hf⟩
 insert:=λ{w p F A} g y k s hk hB h=>by
  obtain ⟨st,G,hL⟩:=h;refine aQ 211 (λ_ _=>by kernel_rfl) (uq _) (λW hW=>?_);refine (rG (qi hL hW σ) g y k s hk hB).mono ?_;rintro e w' ⟨rfl,F',hA,hu,hf⟩;exact ⟨rfl,F',⟨_,_,hA⟩,hu,hf⟩
 min:=λ{w p F A} y hB h=>by
  obtain ⟨st,G,hL⟩:=h;refine aQ 214 (λ_ _=>by kernel_rfl) (C8 _) (λW hW=>?_);have jg:=qi hL hW σ;have hok:=DT hL;have h4:=(aA _ _).1 hB;have h5:=hok.h1;refine (zh jg (y:Int) ω).mono ?_;rintro e w' ⟨rfl,rfl⟩;exact ⟨rfl,Goes.stay ⟨_,_,jg⟩ (aa.refl _ _)⟩
 has:=λx h=>by
  obtain ⟨st,G,hL⟩:=h;obtain ⟨c,F1,h0,hC⟩:=Ae hL;exact cB 123 (λ_ _=>by kernel_rfl) h0 (sG _ _) (λW hW=>dF (hC.ah hW) x)
 entry:=λ{w p F A} x h=>by
  obtain ⟨st,G,hL⟩:=h;obtain ⟨c,F1,h0,hC⟩:=Ae hL;refine cB 121 (λ_ _=>by kernel_rfl) h0 (ow _ _) (λW hW=>?_);cases hin:dh A x with
  | false=>simpa using eQ (hC.ah hW) x hin
  | true=>
   obtain ⟨y,rfl⟩:=iD hin;simpa using dQ (hC.ah hW) y hin
theorem uL (p:Nat) (w:World):Calls Tryz.prog 63 #[.pointer (some ⟨p,0,none⟩),.int .i64 0] w λe w'=>e=.returned (.tuple #[.iface 134 (.pointer (some ⟨p,0,none⟩)),.int .i64 0])/\w'=w:=by
 go_enter Tryz.func63,Tryz.ntmps63
 go_wp2;go_ret2;exact ⟨rfl,rfl⟩
theorem tN (n:Nat) (hn:n<=65536):fP mE 5 0 n:=by
 intro w;have kn:=λW=>zA n W hn;have km:=uL;have hty:mE.ty=134:=rfl;have hat:∀w' p FF,nQ w' p FF (NS.new n) 0 FG.none->mE.at_ w' p FF (NS.new n)/\lX w' p n:=λw' p FF h=>⟨⟨_,_,h⟩,Ae h⟩
 generalize mE=K at *;rw [hty]
 go_enter Tryz.func35,Tryz.ntmps35
 go_wp2_with (first
  | ((go_at_call 64;(with_reducible refine (kn _).mono ?_));rintro e w1 ⟨pn,FF,rfl,hS,hu1,hf⟩)
  | ((go_at_call 63;(with_reducible refine (km _ _).mono ?_));rintro e w2 ⟨rfl,rfl⟩)
  | fail)
 go_ret2;exact ⟨pn,FF,rfl,(hat _ _ _ hS).1,(hat _ _ _ hS).2,aa.trans β hu1,λx hx=>by have:=hf x hx;simp at this;omega⟩
end Go.Proofs.YtnpdakpagnpanaaGreat
