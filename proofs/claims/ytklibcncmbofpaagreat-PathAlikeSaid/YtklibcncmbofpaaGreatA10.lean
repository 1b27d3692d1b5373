/-
  Lemmas for PathAlike: FbA, FbB, FbC, Fb, Fb2, FbI, FbT, FbP, FbQ, FbR, Fb3, FbS, FbU, FbV, Fb4, Fb5. Conditions: those of each lemma.
-/
import Derived.Deep.OwnRows
import Derived.Deep.RegionHeldLaw
import Derived.Deep.RegionLaw
import Derived.Deep.DeepCutAuto
import Derived.Outline
import Derived.Deep.LoopGhost
import Derived.Test.YtklibcncmbofpaaGreatA01
set_option linter.all false
set_option maxHeartbeats 8000000
set_option maxRecDepth 10000
namespace Go.Proofs.YtklibcncmbofpaaGreat
def Ba (nx:Nat->Nat):List Nat->Nat->Prop
 | [],_=>True
 | x::t,z=>nx x=t.headD z/\Ba nx t z
theorem wV (a b:List Nat) (z:Nat):(a++b).headD z=a.headD (b.headD z):=by cases a<;>rfl
theorem sJ {nx:Nat->Nat}:∀ (a b:List Nat) (z:Nat),Ba nx (a++b) z↔Ba nx a (b.headD z)/\Ba nx b z
 | [],b,z=>by simp [Ba]
 | x::t,b,z=>by
  show (nx x=(t++b).headD z/\Ba nx (t++b) z)↔(nx x=t.headD (b.headD z)/\Ba nx t (b.headD z))/\Ba nx b z
  rw [sJ t b z,wV,and_assoc]
theorem Ba.far {nx nx':Nat->Nat}:∀ {l:List Nat} {z:Nat},Ba nx l z->(∀w,w∈l->nx' w=nx w)->Ba nx' l z
 | [],_,_,_=>trivial
 | x::t,z,h,e=>⟨(e x σ).trans h.1,Ba.far h.2 (fun w hw=>e w (by simp [hw]))⟩
def Ring (nx:Nat->Nat) (l:List Nat):Prop:=l.Nodup/\Ba nx l (l.headD 0)
theorem Ring.nil (nx:Nat->Nat):Ring nx []:=⟨Ϡ,trivial⟩
theorem Ring.nd {nx:Nat->Nat} {l:List Nat} (h:Ring nx l):l.Nodup:=h.1
theorem iO {nx:Nat->Nat} {x:Nat} {t:List Nat}:Ring nx (x::t)↔(x::t).Nodup/\nx x=t.headD x/\Ba nx t x:=Iff.rfl
theorem jf {nx:Nat->Nat} {x:Nat}:Ring nx [x]↔nx x=x:=by
 rw [iO];simp [Ba]
theorem Ring.far {nx nx':Nat->Nat} {l:List Nat} (h:Ring nx l) (e:∀w,w∈l->nx' w=nx w):Ring nx' l:=⟨h.1,h.2.far e⟩
theorem N7 {a b:List Nat} (h:(a++b).Nodup):(b++a).Nodup:=(Φ (l₁:=a) (l₂:=b)).nodup_iff.1 h
theorem Ring.Wx {nx:Nat->Nat}:∀ {a b:List Nat},Ring nx (a++b)->Ring nx (b++a)
 | [],b,h=>by simpa using h
 | a0::a,[],h=>by simpa using h
 | a0::a,b0::b,h=>by
  refine ⟨N7 h.1,?_⟩;have h2:=(sJ _ _ _).1 h.2;exact (sJ _ _ _).2 ⟨h2.2,h2.1⟩
def dA (nx:Nat->Nat) (x y:Nat):Nat->Nat:=fun z=>if z=x then nx y else if z=y then nx x else nx z
def jr (nx pv:Nat->Nat) (x y:Nat):Nat->Nat:=fun z=>if z=nx x then y else if z=nx y then x else pv z
theorem iP {nx:Nat->Nat} {x y z:Nat} (h1:z≠x) (h2:z≠y):dA nx x y z=nx z:=by unfold dA;rw [Γ h1,Γ h2]
theorem Ring.nM {nx:Nat->Nat} {l:List Nat} (h:Ring nx l) {x y:Nat} (h1:x∉l) (h2:y∉l):Ring (dA nx x y) l:=
 h.far (fun w hw=>iP (fun e=>h1 (e▸hw)) (fun e=>h2 (e▸hw)))
theorem Ring.join {nx:Nat->Nat} {x y:Nat} {s t:List Nat} (h:Ring nx (x::s)) (k:Ring nx (y::t)) (d:∀z,z∈x::s->z∉y::t):Ring (dA nx x y) (x::t++y::s):=by
 obtain ⟨n1,e1,r1⟩:=iO.1 h;obtain ⟨n2,e2,r2⟩:=iO.1 k;have n1':=List.nodup_cons.1 n1;have n2':=List.nodup_cons.1 n2;have hxy:y≠x:=fun e=>d x σ (by simp [e]);have sx:dA nx x y x=nx y:=by unfold dA;rw [Δ rfl]
 have sy:dA nx x y y=nx x:=by unfold dA;rw [Γ hxy,Δ rfl]
 refine iO.2 ⟨?_,?_,?_⟩
 ·have:(x::t++y::s).Perm ((x::s)++(y::t)):=by
   show (x::(t++y::s)).Perm (x::(s++y::t))
   refine List.Perm.cons x ?_;exact (ϝ).trans ((List.Perm.cons y Φ).trans List.perm_middle.symm)
  refine this.nodup_iff.2 (θ.2 ⟨n1,n2,fun a ha b hb e=>?_⟩);subst e;exact d a ha hb
 ·show dA nx x y x=(t++y::s).headD x
  rw [sx,e2,wV];rfl
 ·show Ba (dA nx x y) (t++y::s) x
  refine (sJ _ _ _).2 ⟨?_,?_,?_⟩
  ·exact r2.far (fun w hw=>iP (fun e=>d x σ (by subst e;simp [hw])) (fun e=>n2'.1 (e▸hw)))
  ·rw [sy,e1]
  ·exact r1.far (fun w hw=>iP (fun e=>n1'.1 (e▸hw)) (fun e=>d w (by simp [hw]) (by subst e;simp)))
theorem Ring.cut {nx:Nat->Nat} {x y:Nat} {a b:List Nat} (h:Ring nx (x::a++y::b)):Ring (dA nx x y) (x::b)/\Ring (dA nx x y) (y::a):=by
 have h':Ring nx (x::(a++y::b)):=h;obtain ⟨n1,e1,r1⟩:=iO.1 h';have r2:=(sJ _ _ _).1 r1;obtain ⟨r3,r4,r5⟩:Ba nx a y/\nx y=b.headD x/\Ba nx b x:=⟨r2.1,r2.2.1,r2.2.2⟩;have n2:=List.nodup_cons.1 n1;have n3:=θ.1 n2.2;have n4:=List.nodup_cons.1 n3.2.1;have hxy:y≠x:=fun e=>n2.1 (by subst e;simp);have sx:dA nx x y x=nx y:=by unfold dA;rw [Δ rfl]
 have sy:dA nx x y y=nx x:=by unfold dA;rw [Γ hxy,Δ rfl]
 have xb:x∉b:=fun hm=>n2.1 (by simp [hm]);have xa:x∉a:=fun hm=>n2.1 (by simp [hm]);have ya:y∉a:=fun hm=>n3.2.2 y hm y σ rfl
 refine ⟨iO.2 ⟨List.nodup_cons.2 ⟨xb,n4.2⟩,by rw [sx,r4],r5.far (fun w hw=>iP (fun e=>xb (e▸hw)) (fun e=>n4.1 (e▸hw)))⟩,
  iO.2 ⟨List.nodup_cons.2 ⟨ya,n3.1⟩,?_,r3.far (fun w hw=>iP (fun e=>xa (e▸hw)) (fun e=>ya (e▸hw)))⟩⟩
 rw [sy,e1,wV];rfl
structure Rg (n:Nat) (nx pv:Nat->Nat):Prop where
 nn:∀x,x<n->nx x<n
 pp:∀x,x<n->pv x<n
 pn:∀x,x<n->pv (nx x)=x
 np:∀x,x<n->nx (pv x)=x
section
variable {n:Nat} {nx pv:Nat->Nat}
theorem Rg.inj (h:Rg n nx pv) {x y:Nat} (hx:x<n) (hy:y<n) (e:nx x=nx y):x=y:=by
 rw [←h.pn x hx,←h.pn y hy,e]
theorem Rg.swap (h:Rg n nx pv) {x y:Nat} (hx:x<n) (hy:y<n):Rg n (dA nx x y) (jr nx pv x y):=by
 refine ⟨fun z hz=>?_,fun z hz=>?_,fun z hz=>?_,fun z hz=>?_⟩
 ·unfold dA
  split
  ·exact h.nn y hy
  ·split
   ·exact h.nn x hx
   ·exact h.nn z hz
 ·unfold jr
  split
  ·exact hy
  ·split
   ·exact hx
   ·exact h.pp z hz
 ·unfold dA jr
  by_cases e1:z=x
  ·rw [Δ e1]
   by_cases e2:nx y=nx x
   ·rw [Δ e2,e1];exact h.inj hy hx e2
   ·rw [Γ e2,Δ rfl,e1]
  ·rw [Γ e1]
   by_cases e2:z=y
   ·rw [Δ e2,Δ rfl,e2]
   ·rw [Γ e2,Γ (fun e=>e1 (h.inj hz hx e)),Γ (fun e=>e2 (h.inj hz hy e))];exact h.pn z hz
 ·unfold dA jr
  by_cases e1:z=nx x
  ·rw [Δ e1]
   by_cases e2:y=x
   ·rw [Δ e2,e2,e1]
   ·rw [Γ e2,Δ rfl,e1]
  ·rw [Γ e1]
   by_cases e2:z=nx y
   ·rw [Δ e2,Δ rfl,e2]
   ·rw [Γ e2,Γ (fun e=>e1 (by rw [←e,h.np z hz])),Γ (fun e=>e2 (by rw [←e,h.np z hz]))];exact h.np z hz
theorem Rg.last (h:Rg n nx pv) {x y:Nat} {a:List Nat} (hr:Ring nx (x::a++[y])) (hy:y<n):pv x=y:=by
 have h':Ring nx (x::(a++[y])):=hr;have r2:=(sJ _ _ _).1 (iO.1 h').2.2;have:nx y=x:=r2.2.1;rw [←this];exact h.pn y hy
theorem Rg.part (h:Rg n nx pv) {x:Nat} {l:List Nat} (hr:Ring nx (x::l)) (hl:∀z,z∈x::l->z<n):Ring (dA nx x (pv x)) [x]/\Ring (dA nx x (pv x)) l:=by
 have hx:x<n:=hl x σ;rcases List.eq_nil_or_concat l with rfl|⟨a,y,e⟩
 ·have e1:=jf.1 hr;have e2:pv x=x:=by have:=h.pn x hx;rw [e1] at this;exact this
  rw [e2];refine ⟨jf.2 ?_,Ring.nil _⟩;unfold dA;rw [Δ rfl];exact e1
 ·have e':l=a++[y]:=by rw [e,List.concat_eq_append]
  subst e';have hy:y<n:=hl y σ;rw [h.last hr hy];have:=Ring.cut (b:=[]) hr;exact ⟨this.1,Ring.Wx (a:=[y]) (b:=a) this.2⟩
end
theorem NY (t:List Nat) (z:Nat):t.headD z=t.getD 0 z:=by cases t<;>rfl
theorem Ba.at {nx:Nat->Nat}:∀ {l:List Nat} {z:Nat},Ba nx l z->∀k (hk:k<l.length),nx l[k]=l.getD (k+1) z
 | [],_,_,k,hk=>by simp at hk
 | x::t,z,h,0,hk=>by
  show nx x=(x::t).getD 1 z
  rw [h.1,NY];simp [φ]
 | x::t,z,h,k+1,hk=>by
  have:=Ba.at h.2 k (by simpa using hk)
  show nx (t[k]'(by simpa using hk))=(x::t).getD (k+1+1) z
  rw [this];simp [φ]
theorem Ring.at {nx:Nat->Nat} {x:Nat} {t:List Nat} (h:Ring nx (x::t)) (k:Nat) (hk:k<(x::t).length):nx (x::t)[k]=(x::t).getD (k+1) x:=Ba.at h.2 k hk
theorem jq:∀ (n:Nat) (l:List Nat),l.Nodup->(∀x,x∈l->x<n)->l.length<=n
 | 0,l,_,h=>by
  cases l with
  | nil=>simp
  | cons x t=>have:=h x σ;omega
 | n+1,l,hd,h=>by
  by_cases hm:n∈l
  ·have h1:=jq n (l.erase n) (hd.erase n) (fun x hx=>by
    have h2:=(List.Nodup.mem_erase_iff hd).1 hx;have:=h x h2.2
    omega)
   rw [List.length_erase_of_mem hm] at h1;omega
  ·have:=jq n l hd (fun x hx=>by
    have:=h x hx;have:x≠n:=fun e=>hm (e▸hx)
    omega)
   omega
def pU (l:List Nat):List Int:=l.map (fun x:Nat=>(x:Int))
theorem lV (l:List Nat):(pU l).length=l.length:=by unfold pU;simp
theorem QP (a b:List Nat):pU (a++b)=pU a++pU b:=by unfold pU;simp
end Go.Proofs.YtklibcncmbofpaaGreat
namespace Go.Proofs.YtklibcncmbofpaaGreat
open Go Go.RowKit
structure xS (w:World) (br bn bp n:Nat) (nx pv:Nat->Nat):Prop where
 head:aK w br 254 2 (fun j=>[Value.slice (some ⟨bn,0,none⟩) n n,.slice (some ⟨bp,0,none⟩) n n].getD j undef)
 nr:aK w bn 3 n (fun j=>.int .i64 (nx j:Int))
 pr:aK w bp 3 n (fun j=>.int .i64 (pv j:Int))
 ne:br≠bn/\br≠bp/\bn≠bp
 le:n<=65536
 rg:Rg n nx pv
section
variable {w:World} {br bn bp n:Nat} {nx pv:Nat->Nat}
theorem xS.upd {w':World} {F:List Nat} (h:xS w br bn bp n nx pv) (hu:aa F w w') (h1:br∉F) (h2:bn∉F) (h3:bp∉F):xS w' br bn bp n nx pv:=
 ⟨h.head.upd hu h1,h.nr.upd hu h2,h.pr.upd hu h3,h.ne,h.le,h.rg⟩
theorem xS.aj {w':World} (h:xS w br bn bp n nx pv) (hu:aa [] w w'):xS w' br bn bp n nx pv:=h.upd hu σ σ σ
theorem xS.h0 (h:xS w br bn bp n nx pv):w.cell? ⟨br,0,none⟩=some (.slice (some ⟨bn,0,none⟩) n n):=h.head.cellAt 0 ω rfl
theorem xS.h1 (h:xS w br bn bp n nx pv):w.cell? ⟨br,1,none⟩=some (.slice (some ⟨bp,0,none⟩) n n):=h.head.cellAt 1 ω rfl
theorem xS.lt (h:xS w br bn bp n nx pv):br<w.heap.size/\bn<w.heap.size/\bp<w.heap.size:=⟨h.head.lt,h.nr.lt,h.pr.lt⟩
end
theorem Pd:(Tryz.prog.info? 3).map (fun i=>(i.zero,i.size,i.bytes))=some (some (.int .i64 0),1,8):=by kernel_rfl
theorem Gy (w:World) (n:Nat):aK (w.alloc (.cells (madeCells #[.int .i64 0] n) 3)) w.heap.size 3 n (fun j=>(madeCells #[.int .i64 0] n).toList.getD j undef):=by
 refine ⟨madeCells #[.int .i64 0] n,?_,by simp [madeCells],fun j hj=>?_⟩
 ·show (w.heap.push _)[w.heap.size]?=_;simp
 ·simp [madeCells,φ,hj]
theorem G5 (n:Nat) (w:World) (h:n<=65536) :
  Calls Tryz.prog 110 #[.int .i64 (n:Int)] w fun e w'=>∃br bn bp,e=.returned (.tuple #[.pointer (some ⟨br,0,none⟩),.int .i64 0])/\xS w' br bn bp n id id/\aa [] w w'/\w.heap.size<=br/\w.heap.size<=bn/\w.heap.size<=bp:=by
 have hmk:=run_make_row' (P:=Tryz.prog) 26 3 (.int .i64 0) 8 Tryz.underlying26 Pd rfl .i64 .i64 n ω ω
 go_enter Tryz.func110,Tryz.ntmps110
 go_wp2
 go_region
 all_goals
  go_wp2
  go_loopw [19] (fun i wr=>∃ (bn bp k:Nat) (f g:Nat->Value),k<=n/\i=.int .i64 k/\aK wr (w.heap.size+1+1) 254 2 (fun j=>[Value.slice (some ⟨bn,0,none⟩) n n,.slice (some ⟨bp,0,none⟩) n n].getD j undef)/\
   aK wr bn 3 n f/\aK wr bp 3 n g/\(∀j,j<k->f j=.int .i64 (j:Int)/\g j=.int .i64 (j:Int))/\(w.heap.size<=bn/\w.heap.size<=bp/\bn≠bp/\bn<w.heap.size+1+1/\bp<w.heap.size+1+1)/\aa [] w wr) (fun i _=>n-(intOf i).toNat)
  case atStart=>
   have r0:=Gy w n;have r1:=Gy (w.alloc (.cells (madeCells #[.int .i64 0] n) 3)) n;rw [Κ] at r1;have rh:=fun v1 v2=>dJ ((w.alloc (.cells (madeCells #[.int .i64 0] n) 3)).alloc (.cells (madeCells #[.int .i64 0] n) 3)) [v1,v2] 254;simp only [Κ] at rh
   first
    | exact ⟨w.heap.size,w.heap.size+1,0,_,_,ω,rfl,(rh _ _).drew,((r0.alloc _).alloc _).drew,(r1.alloc _).drew,ω,ω,β⟩
    | exact ⟨w.heap.size+1,w.heap.size,0,_,_,ω,rfl,(rh _ _).drew,(r1.alloc _).drew,((r0.alloc _).alloc _).drew,ω,ω,β⟩
  case round=>
   obtain ⟨bn,bp,k,f,g,hk,rfl,hH,hN,hP,hf,hb,hu⟩:=hrel;rename World=>wr
   by_cases hkn:k<n
   ·have c0:=hH.cellAt 0 ω rfl;have c1:=hH.cellAt 1 ω rfl;have d0:=hN.cell k hkn;have d1:=hP.cell k hkn;have e0:=hN.free k;have e1:=hP.free k;have WZ:(k:Int)<(n:Int):=ω;obtain ⟨b1,b2,b3,b4,b5⟩:=hb;have HF:=χ (ψ hf (ψ hH (ψ hN (ψ hP hu))));clear hf hH hN hP hu hmk;go_wp2
    go_region
    all_goals
     go_wp2
     go_roundw
     case rel=>
      obtain ⟨hf,hH,hN,hP,hu⟩:=HF.out;refine ⟨bn,bp,k+1,_,_,ω,by go_num,(hH.far _ _ ζ).far _ _ ζ,(hN.set _ _).far _ _ ζ,(hP.far _ _ ζ).set _ _,fun j hj=>?_,⟨b1,b2,b3,b4,b5⟩,((hu.setCell (Β (by simpa using b1)) _).setCell (Β (by simpa using b2)) _).drew⟩
      by_cases e:j=k
      ·subst e;simp
      ·simp only [Γ e];exact hf j ω
     case measure=>simp [intOf];omega
   ·obtain rfl:k=n:=ω;go_wp2;go_ret2;exact ⟨_,bn,bp,rfl,⟨hH,hN.ext (fun j hj=>(hf j hj).1),hP.ext (fun j hj=>(hf j hj).2),ω,h,⟨fun x hx=>hx,fun x hx=>hx,fun _ _=>rfl,fun _ _=>rfl⟩⟩,hu,ω,ω,ω⟩
theorem RV {w:World} {br bn bp n:Nat} {nx pv:Nat->Nat} (h:xS w br bn bp n nx pv) (x:Int) (b:Bool) (hb:b=decide (0<=x/\x<n)) :
  Calls Tryz.prog 234 #[.pointer (some ⟨br,0,none⟩),.int .i64 x] w fun e w'=>e=.returned (.bool b)/\w'=w:=by
 have hle:=h.le;have c0:=h.h0;clear h;rw [hb]
 by_cases h0:0<=x
 ·by_cases h1:x<n
  ·go_enter Tryz.func234,Tryz.ntmps234
   go_wp2;go_ret;exact ⟨aU (by simp [h0,h1]),rfl⟩
  ·go_enter Tryz.func234,Tryz.ntmps234
   go_wp2;go_ret;exact ⟨aU (by simp [h0,h1]),rfl⟩
 ·go_enter Tryz.func234,Tryz.ntmps234
  go_wp2;go_ret;exact ⟨aU ζ,rfl⟩
section
variable {w:World} {br bn bp n:Nat} {nx pv:Nat->Nat}
theorem ru (h:xS w br bn bp n nx pv) {x:Nat} (hx:x<n):Calls Tryz.prog 234 #[.pointer (some ⟨br,0,none⟩),.int .i64 (x:Int)] w fun e w'=>e=.returned (.bool true)/\w'=w:=
 RV h x true ζ
theorem Cc (h:xS w br bn bp n nx pv) {x:Nat} (hx:x<n):Calls Tryz.prog 236 #[.pointer (some ⟨br,0,none⟩),.int .i64 (x:Int)] w fun e w'=>e=.returned (.tuple #[.int .i64 (nx x:Int),.bool true])/\w'=w:=by
 have hle:=h.le;have c0:=h.h0;have c1:=h.nr.cell x hx;have kh:=ru h hx;have Bl:(x:Int)<(n:Int):=ω;clear h
 go_enter Tryz.func236,Tryz.ntmps236
 go_wp2_with ((go_at_call 234;(with_reducible refine (kh).mono ?_);rintro e w9 ⟨rfl,aI⟩;rw [aI];clear aI w9))
 go_ret2;exact ⟨rfl,rfl⟩
theorem ze (nx:Nat->Nat) (x y j:Nat):(if j=y then Value.int .i64 (nx x:Int) else if j=x then Value.int .i64 (nx y:Int) else Value.int .i64 (nx j:Int))=.int .i64 (dA nx x y j:Int):=by
 unfold dA
 by_cases e1:j=y
 ·rw [Δ e1]
  by_cases e2:j=x
  ·rw [Δ e2,←e1,e2]
  ·rw [Γ e2,Δ e1]
 ·rw [Γ e1]
  by_cases e2:j=x
  ·rw [Δ e2,Δ e2]
  ·rw [Γ e2,Γ e2,Γ e1]
theorem zC (nx pv:Nat->Nat) (x y j:Nat):(if j=nx x then Value.int .i64 (y:Int) else if j=nx y then Value.int .i64 (x:Int) else Value.int .i64 (pv j:Int))=.int .i64 (jr nx pv x y j:Int):=by
 unfold jr
 split
 ·rfl
 ·split<;>rfl
theorem j6 (h:xS w br bn bp n nx pv) {x y:Nat} (hx:x<n) (hy:y<n):Calls Tryz.prog 233 #[.pointer (some ⟨br,0,none⟩),.int .i64 (x:Int),.int .i64 (y:Int)] w fun e w'=>
  e=.returned (.bool true)/\xS w' br bn bp n (dA nx x y) (jr nx pv x y)/\aa [bn,bp] w w':=by
 have hle:=h.le;have c0:=h.h0;have c1:=h.h1;have d0:=h.nr.cell x hx;have d1:=h.nr.cell y hy;have f0:=h.nr.free x;have f1:=h.nr.free y;have ha:=h.rg.nn x hx;have hb:=h.rg.nn y hy;have e0:=h.pr.cell (nx x) ha;have e1:=h.pr.cell (nx y) hb;have g0:=h.pr.free (nx x);have g1:=h.pr.free (nx y);have kx:=ru h hx;have ky:=ru h hy;obtain ⟨n1,n2,n3⟩:=h.ne;obtain ⟨l1,l2,l3⟩:=h.lt;have i1:(x:Int)<(n:Int):=ω;have i2:(y:Int)<(n:Int):=ω;have i3:(nx x:Int)<(n:Int):=ω;have i4:(nx y:Int)<(n:Int):=ω;have H:=χ h;clear h;generalize ea:nx x=a at *;generalize eb:nx y=b at *
 by_cases hxy:x=y
 ·subst hxy;rw [ea] at eb;subst eb
  go_enter Tryz.func233,Tryz.ntmps233
  go_wp2_with (first
   | (go_at_call 234;(with_reducible refine (kx).mono ?_);rintro e w9 ⟨rfl,aI⟩;rw [aI];clear aI w9)
   | fail)
  go_region
  go_wp2
  go_region
  go_wp2
  go_region
  go_wp2;go_ret;have h:=H.out;refine ⟨rfl,⟨((((h.head.far _ _ n1).far _ _ n1).far _ _ n2).far _ _ n2),((((h.nr.set _ _).set _ _).far _ _ n3).far _ _ n3).ext (fun j hj=>?_),((((h.pr.far _ _ (Ne.symm n3)).far _ _ (Ne.symm n3)).set _ _).set _ _).ext (fun j hj=>?_),h.ne,h.le,h.rg.swap hx hy⟩,ν⟩
  ·have:=ze nx x x j;rw [ea] at this;exact this
  ·have:=zC nx pv x x j;rw [ea] at this;exact this
 ·have hyx:y≠x:=fun e=>hxy e.symm;have hab:a≠b:=fun e=>hxy (H.out.rg.inj hx hy (by rw [ea,eb,e]))
  go_enter Tryz.func233,Tryz.ntmps233
  go_wp2_with (first
   | (go_at_call 234;(with_reducible refine (kx).mono ?_);rintro e w9 ⟨rfl,aI⟩;rw [aI];clear aI w9)
   | (go_at_call 234;(with_reducible refine (ky).mono ?_);rintro e w9 ⟨rfl,aI⟩;rw [aI];clear aI w9)
   | fail)
  go_region
  go_wp2
  go_region
  go_wp2
  go_region
  go_wp2;go_ret;have h:=H.out;refine ⟨rfl,⟨((((h.head.far _ _ n1).far _ _ n1).far _ _ n2).far _ _ n2),((((h.nr.set _ _).set _ _).far _ _ n3).far _ _ n3).ext (fun j hj=>?_),((((h.pr.far _ _ (Ne.symm n3)).far _ _ (Ne.symm n3)).set _ _).set _ _).ext (fun j hj=>?_),h.ne,h.le,h.rg.swap hx hy⟩,ν⟩
  ·have:=ze nx x y j;rw [ea,eb] at this;exact this
  ·have:=zC nx pv x y j;rw [ea,eb] at this;exact this
theorem CW (h:xS w br bn bp n nx pv) {x:Nat} (hx:x<n):Calls Tryz.prog 228 #[.pointer (some ⟨br,0,none⟩),.int .i64 (x:Int)] w fun e w'=>
  e=.returned (.bool true)/\xS w' br bn bp n (dA nx x (pv x)) (jr nx pv x (pv x))/\aa [bn,bp] w w':=by
 have hle:=h.le;have c1:=h.h1;have d0:=h.pr.cell x hx;have kx:=ru h hx;have ks:=j6 h hx (h.rg.pp x hx);have Bl:(x:Int)<(n:Int):=ω;clear h
 go_enter Tryz.func228,Tryz.ntmps228
 go_wp2_with (first
  | (go_at_call 234;(with_reducible refine (kx).mono ?_);rintro e w9 ⟨rfl,aI⟩;rw [aI];clear aI w9)
  | ((go_at_call 233;(with_reducible refine (ks).mono ?_));rintro e w1 ⟨rfl,hR,hu⟩)
  | fail)
 go_ret;exact ⟨rfl,hR,hu⟩
theorem GM (h:xS w br bn bp n nx pv) {x:Nat} {t:List Nat} (hr:Ring nx (x::t)) (hl:∀z,z∈x::t->z<n):Calls Tryz.prog 227 #[.pointer (some ⟨br,0,none⟩),.int .i64 (x:Int)] w fun e w'=>
  ∃v,e=.returned v/\w'.ownsRow w.heap.size 3 1 v (x::t).length (aP (pU (x::t)))/\aa [] w w':=by
 have hx:x<n:=hl x σ;have hlen:(x::t).length<=n:=jq n (x::t) hr.nd hl;have hle:=h.le;obtain ⟨l1,l2,l3⟩:=h.lt;have c0:=h.h0;have d0:=h.nr.cell x hx;have kx:=ru h hx;have Bl:(x:Int)<(n:Int):=ω;have e0:=hr.at 0 σ;have hcell:∀ (W:World) (y:Nat),aa [] w W->y<n->W.cell? ⟨bn,y,none⟩=some (.int .i64 (nx y:Int)):=fun W y hW hy=>hW.was (h.nr.cell y hy);have hc0:∀ (W:World),aa [] w W->W.cell? ⟨br,0,none⟩=some (.slice (some ⟨bn,0,none⟩) n n):=fun W hW=>hW.was h.h0;have HR:=χ (ψ hr (ψ hl hcell))
 have ho0:(w.alloc (.cells #[.int .i64 (x:Int)] 3)).ownsRow w.heap.size 3 1 (.slice (some ⟨w.heap.size,0,none⟩) 1 1) 1 [.int .i64 (x:Int)]:=qy w [.int .i64 (x:Int)] 3 w.heap.size 1 1 rfl (Θ _) μ;have HO:=χ ho0;clear h hr hl hcell ho0
 go_enter Tryz.func227,Tryz.ntmps227
 go_wp2_with (first
  | (go_at_call 234;(with_reducible refine (kx).mono ?_);rintro e w9 ⟨rfl,aI⟩;rw [aI];clear aI w9)
  | fail)
 go_loopw [5,6] (fun s5 s6 wr=>∃k:Nat,k<(x::t).length/\s6=.int .i64 ((nx ((x::t).getD k 0):Nat):Int)/\wr.ownsRow w.heap.size 3 1 s5 (k+1) (aP (pU ((x::t).take (k+1))))/\aa [] w wr) (fun s5 _ _=>match s5 with | .slice _ l _=>n-l|_=>0)
 case atStart=>exact ⟨0,σ,rfl,HO.out,β⟩
 case round=>
  obtain ⟨k,hk,rfl,ho,hu⟩:=hrel;rename World=>wr;obtain ⟨a,c,rfl,hc⟩:=aY ho;have hat:=HR.out.1.at k hk;have hgk:(x::t).getD k 0=(x::t)[k]:=by rw [φ,ε hk];rfl
  rw [hgk,hat];have h0:=hc0 wr hu
  by_cases hk1:k+1<(x::t).length
  ·obtain ⟨y,hy⟩:∃y,(x::t)[k+1]?=some y:=⟨_,ε hk1⟩;have hg1:(x::t).getD (k+1) x=y:=by rw [φ,hy];rfl
   have hne:y≠x:=fun e=>by
    have hp:=List.pairwise_iff_getElem.1 (List.nodup_iff_pairwise_ne.1 HR.out.1.nd) 0 (k+1) σ hk1 ω;rw [ε hk1] at hy;have h2:(x::t)[k+1]=y:=by injection hy
    exact hp (by rw [h2,e];rfl)
   have hyn:y<n:=HR.out.2.1 _ (Η hy);have e2:(x::t).take (k+1+1)=(x::t).take (k+1)++[y]:=by rw [Ϗ,hy];rfl
   have e3:(x::t).getD (k+1) 0=y:=by rw [φ,hy];rfl
   rw [hg1];have HE:=χ (ψ hk1 (ψ e2 (ψ e3 hu)));have hsz:=hu.size;have hkn:k+1<n:=ω;clear hat hgk hg1 e2 e3 hk1 hk hy hlen;have ZC:(y:Int)<(n:Int):=ω;have hyx:((y:Int) == (x:Int))=false:=ζ;have d1:=fun W hW=>HR.out.2.2 W y hW hyn;have HU:=χ hu
   go_wp2_with (first
    | ((at_builtin;refine aV rfl _ _ 26 rfl w.heap.size 3 (.int .i64 0) 1 8 Tryz.underlying26 fE rfl δ _ _ _ rfl (ho) [.int .i64 (y:Int)] rfl (by simp [Value.oneCell']) (by first|rfl|(rw [Κ];rfl)) μ ω (ω) ?_;intro v2 w2 ho2 hu2 mG);(have hw2:aa [] w w2:=HU.out.own ho (Θ _) hu2);(have q0:=hc0 w2 hw2);(have q1:=d1 w2 hw2))
    | fail)
   obtain ⟨hk1,e2,e3,_⟩:=HE.out;obtain ⟨a2,c2,rfl,_⟩:=aY ho2;refine ⟨⟨k+1,hk1,by rw [e3],?_,hw2⟩,ζ⟩;rw [e2,QP,bP];exact ho2
  ·have hkl:k+1=(x::t).length:=ω;have hg1:(x::t).getD (k+1) x=x:=by rw [φ,List.getElem?_eq_none ω];rfl
   rw [hg1];have e2:(x::t).take (k+1)=x::t:=List.take_of_length_le ω;rw [e2] at ho;have HO2:=χ (ψ ho (ψ hu hkl));clear hat hgk hg1 e2 hk1 hk ho hkl hlen;go_wp2;go_ret;obtain ⟨ho,hu,hkl⟩:=HO2.out;exact ⟨_,rfl,hkl▸ho,hu⟩
end
end Go.Proofs.YtklibcncmbofpaaGreat
namespace Go.Proofs.YtklibcncmbofpaaGreat
structure FG where
 nx:Nat->Nat
 pv:Nat->Nat
 up:Nat->Int
 mr:Nat->Bool
 K:Nat->List Nat
 R:Nat->List Nat
def FG.none:FG:=⟨id,id,fun _=>-1,fun _=>false,fun _=>[],fun _=>[]⟩
def lW (l:List Nat):Int:=match l with|[]=>-1|x::_=>(x:Int)
def ai {α:Type} (f:Nat->α) (x:Nat) (v:α):Nat->α:=fun z=>if z=x then v else f z
def Oe (G:FG) (x y:Nat):FG:={ G with nx:=dA G.nx x y,pv:=jr G.nx G.pv x y }
def prt (G:FG) (x:Nat):FG:=Oe G x (G.pv x)
def vU (lt:Bool) (R l:List Nat):List Nat:=match R with
 | []=>l
 | t::s=>match l with
  | []=>t::s
  | x::r=>if lt then x::s++t::r else t::r++x::s
def iG (lt:Nat->Nat->Bool) (h:Nat) (l:List Nat) (G:FG):FG:=match G.R h,l with
 | t::s,x::r=>{ Oe G t x with R:=ai G.R h (vU (lt x t) (t::s) (x::r)) }
 | _,l=>{ G with R:=ai G.R h l }
def rJ (h:Nat) (G:FG):Nat:=if G.R h=[] then 0 else 1
def dH (G:FG) (y x:Nat):FG:=
 let G1:=match G.K x with|[]=>G|k::_=>Oe G k y
 { G1 with up:=ai G.up y x,mr:=ai G.mr y false,K:=ai G.K x (match G.K x with|[]=>[y]|k::t=>y::(t++[k])) }
def dB (G:FG) (x:Nat):FG:=match G.K x with
 | []=>G
 | k::t=>{ Oe G x k with up:=ai (fun z=>if z∈k::t then -1 else G.up z) x (-1),mr:=ai (fun z=>if z∈k::t then false else G.mr z) x false,K:=ai G.K x [] }
end Go.Proofs.YtklibcncmbofpaaGreat
namespace Go.Proofs.YtklibcncmbofpaaGreat
open Go Go.RowKit
def Bv (u k d:Nat->Int) (m:Nat->Bool) (j:Nat):Value:=if j % 4=0 then .int .i64 (u (j / 4)) else if j % 4=1 then .int .i64 (k (j / 4)) else if j % 4=2 then .int .i64 (d (j / 4)) else .bool (m (j / 4))
theorem ym (u k d:Nat->Int) (m:Nat->Bool) (x:Nat):Bv u k d m (x*4)=.int .i64 (u x):=by unfold Bv;rw [Δ ω,show x*4 / 4=x by omega]
theorem yg (u k d:Nat->Int) (m:Nat->Bool) (x:Nat):Bv u k d m (x*4+1)=.int .i64 (k x):=by unfold Bv;rw [Γ ω,Δ ω,show (x*4+1) / 4=x by omega]
theorem yh (u k d:Nat->Int) (m:Nat->Bool) (x:Nat):Bv u k d m (x*4+2)=.int .i64 (d x):=by unfold Bv;rw [Γ ω,Γ ω,Δ ω,show (x*4+2) / 4=x by omega]
theorem yt (u k d:Nat->Int) (m:Nat->Bool) (x:Nat):Bv u k d m (x*4+3)=.bool (m x):=by unfold Bv;rw [Γ ω,Γ ω,Γ ω,show (x*4+3) / 4=x by omega]
theorem four (j:Nat):∃a,j=a*4\/j=a*4+1\/j=a*4+2\/j=a*4+3:=⟨j / 4,ω⟩
section
variable {w:World} {b m:Nat} {e:TypeId} {u k d:Nat->Int} {mr:Nat->Bool}
theorem sD (h:aK w b e m (Bv u k d mr)) (x:Nat) (v:Int):aK (w.setCell ⟨b,x*4,none⟩ (.int .i64 v)) b e m (Bv (ai u x v) k d mr):=by
 refine (h.set _ _).ext (fun j _=>?_);obtain ⟨a,rfl|rfl|rfl|rfl⟩:=four j
 ·rw [ym,ym];unfold ai
  by_cases e:a=x
  ·rw [e,Δ rfl,Δ rfl]
  ·rw [Γ ω,Γ e]
 ·rw [yg,yg,Γ ω]
 ·rw [yh,yh,Γ ω]
 ·rw [yt,yt,Γ ω]
theorem oV (h:aK w b e m (Bv u k d mr)) (x:Nat) (v:Int):aK (w.setCell ⟨b,x*4+1,none⟩ (.int .i64 v)) b e m (Bv u (ai k x v) d mr):=by
 refine (h.set _ _).ext (fun j _=>?_);obtain ⟨a,rfl|rfl|rfl|rfl⟩:=four j
 ·rw [ym,ym,Γ ω]
 ·rw [yg,yg];unfold ai
  by_cases e:a=x
  ·rw [e,Δ rfl,Δ rfl]
  ·rw [Γ ω,Γ e]
 ·rw [yh,yh,Γ ω]
 ·rw [yt,yt,Γ ω]
theorem rR (h:aK w b e m (Bv u k d mr)) (x:Nat) (v:Int):aK (w.setCell ⟨b,x*4+2,none⟩ (.int .i64 v)) b e m (Bv u k (ai d x v) mr):=by
 refine (h.set _ _).ext (fun j _=>?_);obtain ⟨a,rfl|rfl|rfl|rfl⟩:=four j
 ·rw [ym,ym,Γ ω]
 ·rw [yg,yg,Γ ω]
 ·rw [yh,yh];unfold ai
  by_cases e:a=x
  ·rw [e,Δ rfl,Δ rfl]
  ·rw [Γ ω,Γ e]
 ·rw [yt,yt,Γ ω]
theorem pO (h:aK w b e m (Bv u k d mr)) (x:Nat) (v:Bool):aK (w.setCell ⟨b,x*4+3,none⟩ (.bool v)) b e m (Bv u k d (ai mr x v)):=by
 refine (h.set _ _).ext (fun j _=>?_);obtain ⟨a,rfl|rfl|rfl|rfl⟩:=four j
 ·rw [ym,ym,Γ ω]
 ·rw [yg,yg,Γ ω]
 ·rw [yh,yh,Γ ω]
 ·rw [yt,yt];unfold ai
  by_cases e:a=x
  ·rw [e,Δ rfl,Δ rfl]
  ·rw [Γ ω,Γ e]
end
theorem DN (K:Nat->List Nat) (x:Nat) (l:List Nat):(fun z=>lW (ai K x l z))=ai (fun z=>lW (K z)) x (lW l):=by
 funext z;unfold ai;split<;>rfl
theorem jM (K:Nat->List Nat) (x:Nat) (l:List Nat):(fun z=>((ai K x l z).length:Int))=ai (fun z=>((K z).length:Int)) x (l.length:Int):=by
 funext z;unfold ai;split<;>rfl
def nz (G:FG):Nat->Value:=Bv G.up (fun x=>lW (G.K x)) (fun x=>((G.K x).length:Int)) G.mr
theorem Vo (G:FG) (x:Nat):nz G (x*4)=.int .i64 (G.up x):=ym _ _ _ _ x
theorem UG (G:FG) (x:Nat):nz G (x*4+1)=.int .i64 (lW (G.K x)):=yg _ _ _ _ x
theorem Vl (G:FG) (x:Nat):nz G (x*4+2)=.int .i64 ((G.K x).length:Int):=yh _ _ _ _ x
theorem VY (G:FG) (x:Nat):nz G (x*4+3)=.bool (G.mr x):=yt _ _ _ _ x
def iX (R:Nat->List Nat) (m:Nat):List Int:=(List.range m).map (fun h=>lW (R h))
theorem sV (R:Nat->List Nat) (m:Nat):(iX R m).length=m:=by unfold iX;simp
theorem Nt (R:Nat->List Nat) {m h:Nat} (hh:h<m):(iX R m).getD h 0=lW (R h):=by unfold iX;simp [φ,hh]
theorem Ny (R:Nat->List Nat) (m h:Nat) (l:List Nat):(iX R m).set h (lW l)=iX (ai R h l) m:=by
 unfold iX ai;apply List.ext_getElem σ;intro i h1 h2;simp only [List.getElem_set,List.getElem_map,List.getElem_range]
 by_cases e:h=i
 ·subst e;rw [Δ rfl,Δ rfl]
 ·rw [Γ e,Γ (fun e2=>e e2.symm)]
structure FB where
 n0:Nat
 c:Nat
 br:Nat
 bn:Nat
 bp:Nat
 bl:Nat
structure dZ (w:World) (B:FB) (F:List Nat) (gt ct:Nat) (A:NS) (st:Nat) (G:FG):Prop where
 head:aK w B.n0 223 4 (fun j=>[Value.pointer (some ⟨B.c,0,none⟩),.pointer (some ⟨B.br,0,none⟩),.slice (some ⟨B.bl,0,none⟩) A.cs.length A.cs.length,.slice (some ⟨gt,0,none⟩) A.hs.length ct].getD j undef)
 cells:aC w B.c F A st
 rings:xS w B.br B.bn B.bp A.cs.length G.nx G.pv
 pl:aK w B.bl 225 (A.cs.length*4) (nz G)
 ah:IZ w gt ct (iX G.R A.hs.length)
 d1:B.n0∉F/\B.br∉F/\B.bn∉F/\B.bp∉F/\B.bl∉F/\gt∉F
 d2:B.n0≠B.br/\B.n0≠B.bn/\B.n0≠B.bp/\B.n0≠B.bl/\B.n0≠gt
 d3:B.bl≠B.br/\B.bl≠B.bn/\B.bl≠B.bp/\B.bl≠gt/\gt≠B.br/\gt≠B.bn/\gt≠B.bp
def FB.blk (B:FB) (F:List Nat) (gt:Nat):List Nat:=B.n0::B.br::B.bn::B.bp::B.bl::gt::F
section
variable {w:World} {B:FB} {F:List Nat} {gt ct:Nat} {A:NS} {st:Nat} {G:FG}
theorem dZ.lt (h:dZ w B F gt ct A st G):∀x,x∈B.blk F gt->x<w.heap.size:=by
 intro x hx;have h1:=h.head.lt;have h2:=h.rings.lt;have h3:=h.pl.lt;have h4:=h.ah.lt;simp only [FB.blk,ρ] at hx;rcases hx with rfl|rfl|rfl|rfl|rfl|rfl|hx
 ·exact h1
 ·exact h2.1
 ·exact h2.2.1
 ·exact h2.2.2
 ·exact h3
 ·exact h4
 ·exact h.cells.lt x hx
theorem dZ.h0 (h:dZ w B F gt ct A st G):w.cell? ⟨B.n0,0,none⟩=some (.pointer (some ⟨B.c,0,none⟩)):=h.head.cellAt 0 ω rfl
theorem dZ.h1 (h:dZ w B F gt ct A st G):w.cell? ⟨B.n0,1,none⟩=some (.pointer (some ⟨B.br,0,none⟩)):=h.head.cellAt 1 ω rfl
theorem dZ.h2 (h:dZ w B F gt ct A st G):w.cell? ⟨B.n0,2,none⟩=some (.slice (some ⟨B.bl,0,none⟩) A.cs.length A.cs.length):=h.head.cellAt 2 ω rfl
theorem dZ.h3 (h:dZ w B F gt ct A st G):w.cell? ⟨B.n0,3,none⟩=some (.slice (some ⟨gt,0,none⟩) A.hs.length ct):=h.head.cellAt 3 ω rfl
theorem dZ.p0 (h:dZ w B F gt ct A st G) {x:Nat} (hx:x<A.cs.length):w.cell? ⟨B.bl,x*4,none⟩=some (.int .i64 (G.up x)):=h.pl.cellAt _ ω (Vo G x)
theorem dZ.p1 (h:dZ w B F gt ct A st G) {x:Nat} (hx:x<A.cs.length):w.cell? ⟨B.bl,x*4+1,none⟩=some (.int .i64 (lW (G.K x))):=h.pl.cellAt _ ω (UG G x)
theorem dZ.p2 (h:dZ w B F gt ct A st G) {x:Nat} (hx:x<A.cs.length):w.cell? ⟨B.bl,x*4+2,none⟩=some (.int .i64 ((G.K x).length:Int)):=h.pl.cellAt _ ω (Vl G x)
theorem dZ.p3 (h:dZ w B F gt ct A st G) {x:Nat} (hx:x<A.cs.length):w.cell? ⟨B.bl,x*4+3,none⟩=some (.bool (G.mr x)):=h.pl.cellAt _ ω (VY G x)
theorem dZ.top (h:dZ w B F gt ct A st G) {q:Nat} (hq:q<A.hs.length):w.cell? ⟨gt,q,none⟩=some (.int .i64 (lW (G.R q))):=by
 rw [h.ah.cell q (by rw [sV];exact hq),Nt _ hq]
theorem dZ.cap (h:dZ w B F gt ct A st G):A.hs.length<=ct/\ct<=9223372036854775807:=by have:=h.ah.cap;rwa [sV] at this
theorem dZ.cn (h:dZ w B F gt ct A st G):B.n0≠B.c/\B.br≠B.c/\B.bn≠B.c/\B.bp≠B.c/\B.bl≠B.c/\gt≠B.c:=by
 have hm:=h.cells.mem;exact ⟨fun e=>h.d1.1 (e▸hm),fun e=>h.d1.2.1 (e▸hm),fun e=>h.d1.2.2.1 (e▸hm),fun e=>h.d1.2.2.2.1 (e▸hm),fun e=>h.d1.2.2.2.2.1 (e▸hm),fun e=>h.d1.2.2.2.2.2 (e▸hm)⟩
theorem dZ.upd {w':World} {S:List Nat} (h:dZ w B F gt ct A st G) (hu:aa S w w') (hS:∀x,x∈S->x∉B.blk F gt):dZ w' B F gt ct A st G:=by
 have k:∀x,x∈B.blk F gt->x∉S:=fun x hx hs=>hS x hs hx;exact ⟨h.head.upd hu (k _ (by simp [FB.blk])),h.cells.upd hu (fun x hx hm=>hS x hx (by simp [FB.blk,hm])),h.rings.upd hu (k _ (by simp [FB.blk])) (k _ (by simp [FB.blk])) (k _ (by simp [FB.blk])),h.pl.upd hu (k _ (by simp [FB.blk])),h.ah.upd hu (k _ (by simp [FB.blk])),h.d1,h.d2,h.d3⟩
theorem dZ.aj {w':World} (h:dZ w B F gt ct A st G) (hu:aa [] w w'):dZ w' B F gt ct A st G:=h.upd hu σ
theorem dZ.bY {w':World} {F':List Nat} {A':NS} {st':Nat} (h:dZ w B F gt ct A st G) (hu:aa F w w') (hC:aC w' B.c F' A' st') (hF:∀x,x∈F'->x∈F\/w.heap.size<=x) (e1:A'.cs.length=A.cs.length) (e2:A'.hs.length=A.hs.length):dZ w' B F' gt ct A' st' G:=by
 have f:=h.d1;have g:=h.lt;have hf:∀x,x<w.heap.size->x∉F->x∉F':=fun x hx hn hm=>by rcases hF x hm with h'|h';exact hn h';omega
 have l0:=g B.n0 (by simp [FB.blk]);have l1:=g B.br (by simp [FB.blk]);have l2:=g B.bn (by simp [FB.blk]);have l3:=g B.bp (by simp [FB.blk]);have l4:=g B.bl (by simp [FB.blk]);have l5:=g gt (by simp [FB.blk]);exact ⟨by rw [e1,e2];exact h.head.upd hu f.1,hC,by rw [e1];exact h.rings.upd hu f.2.1 f.2.2.1 f.2.2.2.1,by rw [e1];exact h.pl.upd hu f.2.2.2.2.1,by rw [e2];exact h.ah.upd hu f.2.2.2.2.2,⟨hf _ l0 f.1,hf _ l1 f.2.1,hf _ l2 f.2.2.1,hf _ l3 f.2.2.2.1,hf _ l4 f.2.2.2.2.1,hf _ l5 f.2.2.2.2.2⟩,h.d2,h.d3⟩
theorem dZ.setSt {w':World} {st':Nat} (h:dZ w B F gt ct A st G) (hu:aa [B.c] w w') (hC:aC w' B.c F A st'):dZ w' B F gt ct A st' G:=
 h.bY (hu.mono (fun x hx=>by simp at hx;rw [hx];exact h.cells.mem)) hC (fun x hx=>Α hx) rfl rfl
theorem dZ.cz {w':World} {nx pv:Nat->Nat} (h:dZ w B F gt ct A st G) (hu:aa [B.bn,B.bp] w w') (hR:xS w' B.br B.bn B.bp A.cs.length nx pv):dZ w' B F gt ct A st { G with nx:=nx,pv:=pv }:=by
 obtain ⟨f1,f2,f3,f4,f5,f6⟩:=h.d1;obtain ⟨e1,e2,e3,e4,e5⟩:=h.d2;obtain ⟨g1,g2,g3,g4,g5,g6,g7⟩:=h.d3;have m:∀x,x≠B.bn->x≠B.bp->x∉[B.bn,B.bp]:=fun x h1 h2=>by simp [h1,h2]
 exact ⟨h.head.upd hu (m _ e2 e3),h.cells.upd hu (fun x hx hm=>by simp at hx;rcases hx with rfl|rfl;exact f3 hm;exact f4 hm),hR,h.pl.upd hu (m _ g2 g3),h.ah.upd hu (m _ g6 g7),h.d1,h.d2,h.d3⟩
theorem dZ.JH {w':World} {up:Nat->Int} {mr:Nat->Bool} {K:Nat->List Nat} (h:dZ w B F gt ct A st G) (hu:aa [B.bl] w w') (hP:aK w' B.bl 225 (A.cs.length*4) (nz { G with up:=up,mr:=mr,K:=K })):dZ w' B F gt ct A st { G with up:=up,mr:=mr,K:=K }:=by
 obtain ⟨f1,f2,f3,f4,f5,f6⟩:=h.d1;obtain ⟨e1,e2,e3,e4,e5⟩:=h.d2;obtain ⟨g1,g2,g3,g4,g5,g6,g7⟩:=h.d3;have m:∀x,x≠B.bl->x∉[B.bl]:=fun x h1=>by simp [h1]
 exact ⟨h.head.upd hu (m _ e4),h.cells.upd hu (fun x hx hm=>by simp at hx;subst hx;exact f5 hm),h.rings.upd hu (m _ (Ne.symm g1)) (m _ (Ne.symm g2)) (m _ (Ne.symm g3)),hP,h.ah.upd hu (m _ (Ne.symm g4)),h.d1,h.d2,h.d3⟩
theorem dZ.iE (h:dZ w B F gt ct A st G) (q:Nat) (l:List Nat):dZ (w.setCell ⟨gt,q,none⟩ (.int .i64 (lW l))) B F gt ct A st { G with R:=ai G.R q l }:=by
 obtain ⟨f1,f2,f3,f4,f5,f6⟩:=h.d1;obtain ⟨e1,e2,e3,e4,e5⟩:=h.d2;obtain ⟨g1,g2,g3,g4,g5,g6,g7⟩:=h.d3;have hu:aa [gt] w (w.setCell ⟨gt,q,none⟩ (.int .i64 (lW l))):=(aa.refl _ _).setCell (Α σ) _;have m:∀x,x≠gt->x∉[gt]:=fun x h1=>by simp [h1]
 refine ⟨h.head.upd hu (m _ e5),h.cells.upd hu (fun x hx hm=>by simp at hx;subst hx;exact f6 hm),h.rings.upd hu (m _ (Ne.symm g5)) (m _ (Ne.symm g6)) (m _ (Ne.symm g7)),h.pl.upd hu (m _ g4),?_,h.d1,h.d2,h.d3⟩;have:=h.ah.set q (lW l);rwa [Ny] at this
theorem dZ.drewN (h:dZ w B F gt ct A st G) (k:Nat):dZ (w.drewN k) B F gt ct A st G:=h.aj ((aa.refl [] w).drewN k)
end
theorem zM (w:World):Calls Tryz.prog 111 #[] w fun e w'=>e=.returned (.agg #[.int .i64 (-1),.int .i64 (-1),.int .i64 0,.bool false])/\aa [] w w':=by
 go_enter Tryz.func111,Tryz.ntmps111
 go_wp2;exact bodyPost_ret (v:=.agg #[.int .i64 (-1),.int .i64 (-1),.int .i64 0,.bool false]) (by simp [results,Tryz.results111,go_sem]) rfl ⟨rfl,(aa.refl _ _).alloc _⟩
section
variable {w:World} {B:FB} {F:List Nat} {gt ct:Nat} {A:NS} {st:Nat} {G:FG}
theorem Ky (R:Nat->List Nat) (m h:Nat) (l:List Nat) (e:lW l=lW (R h)):iX (ai R h l) m=iX R m:=by
 unfold iX ai;refine List.map_congr_left (fun i _=>?_)
 by_cases hi:i=h
 ·rw [Δ hi,e,hi]
 ·rw [Γ hi]
theorem dZ.PN (h:dZ w B F gt ct A st G) (q:Nat) (l:List Nat) (e:lW l=lW (G.R q)):dZ w B F gt ct A st { G with R:=ai G.R q l }:=
 ⟨h.head,h.cells,h.rings,h.pl,by rw [Ky G.R _ q l e];exact h.ah,h.d1,h.d2,h.d3⟩
theorem BQ (M:dZ w B F gt ct A st G) {q x:Nat} (r:List Nat) (hq:q<A.hs.length) (hx:bQ A (x:Int)=true) (ht:∀t s,G.R q=t::s->bQ A (t:Int)=true) :
  Calls Tryz.prog 230 #[.pointer (some ⟨B.n0,0,none⟩),.int .i64 (q:Int),.int .i64 (x:Int)] w fun e w'=>e=.returned (.tuple #[])/\
   dZ w' B F gt ct A (bR st (rJ q G)) (iG (fun a b=>decide (bX A a b)) q (x::r) G)/\aa [B.c,B.bn,B.bp,gt] w w':=by
 have hst:=M.cells.ou;have h3:=M.h3;have ht0:=M.top hq;have hf0:=M.ah.free q;have hcap:=M.cap;have hqI:(q:Int)<(A.hs.length:Int):=ω;have ZE:q<65537:=by have:=M.cells.ok.h1;omega
 have hlb:=M.cells.ok.h1;cases hR:G.R q with
 | nil=>
  rw [hR] at ht0;have eq:rJ q G=0:=by unfold rJ;rw [Δ hR]
  have eg:iG (fun a b=>decide (bX A a b)) q (x::r) G={ G with R:=ai G.R q (x::r) }:=by unfold iG;rw [hR]
  rw [eq,eg,fO hst];have HM:=χ (M.iE q (x::r));have hgl:=M.lt gt (by simp [FB.blk]);clear M hR eq eg hx ht;unfold lW at ht0;generalize XN:A.hs.length=hl at *
  go_enter Tryz.func230,Tryz.ntmps230
  go_wp2;refine bodyPost_ret (v:=.tuple #[]) (by simp [results,Tryz.results230,go_sem]) rfl ?_;exact ⟨rfl,HM.out,(aa.refl _ _).setCell (Α σ) _⟩
 | cons t s=>
  have htt:=ht t s hR;obtain ⟨hx1,hx2⟩:=(ae _ _).1 hx;obtain ⟨ht1,ht2⟩:=(ae _ _).1 htt;rw [hR] at ht0;have eq:rJ q G=1:=by unfold rJ;rw [Γ (by rw [hR];simp)]
  have eg:iG (fun a b=>decide (bX A a b)) q (x::r) G={ Oe G t x with R:=ai G.R q (vU (decide (bX A x t)) (t::s) (x::r)) }:=by unfold iG;rw [hR]
  rw [eq,eg];have ks:=fun W (hW:aa [] w W)=>j6 (M.rings.aj hW) ht1 hx1;obtain ⟨g1,g2,g3,g4,g5,g6,g7⟩:=M.d3;obtain ⟨e1,e2,e3,e4,e5⟩:=M.d2;have m:∀x,x≠B.bn->x≠B.bp->x∉[B.bn,B.bp]:=fun x h1 h2=>by simp [h1,h2]
  have r1:∀W,aa [B.bn,B.bp] w W->W.cell? ⟨B.n0,1,none⟩=some (.pointer (some ⟨B.br,0,none⟩)):=fun W hW=>hW.kept M.h1 (m _ e2 e3);have r3:∀W,aa [B.bn,B.bp] w W->W.cell? ⟨B.n0,3,none⟩=some (.slice (some ⟨gt,0,none⟩) A.hs.length ct):=fun W hW=>hW.kept M.h3 (m _ e2 e3);have rt:∀W,aa [B.bn,B.bp] w W->W.cell? ⟨gt,q,none⟩=some (.int .i64 (t:Int)):=fun W hW=>hW.kept ht0 (m _ g6 g7);have ht0':w.cell? ⟨gt,q,none⟩=some (.int .i64 (t:Int)):=ht0;have htn:((t:Int) == -1)=false:=σ;have HM:=χ M;have HR:=χ hR;clear M hR eq eg ht ht0;generalize XN:A.hs.length=hl at *
  go_enter Tryz.func230,Tryz.ntmps230
  go_wp2
  go_region_held3 (aa [B.bn,B.bp] w) (exact ν)
   (first
    | ((go_at_call 233;(with_reducible refine (ks _ β).mono ?_));rintro e w1 ⟨rfl,Hw,hu1⟩;(have hu2:aa [B.bn,B.bp] w w1:=aa.trans ν hu1)))
  have hM1:=HM.out.cz hu2 Hw;have kc:=fun W (hW:aa [] w1 W)=>dX (hM1.cells.aj hW) x t hx htt;have c1:=hM1.cn;have mc:∀x,x≠B.c->x∉[B.c]:=fun x h1=>by simp [h1]
  have r0:∀W,aa [B.c] w1 W->W.cell? ⟨B.n0,0,none⟩=some (.pointer (some ⟨B.c,0,none⟩)):=fun W hW=>hW.kept hM1.h0 (mc _ c1.1);have r3':∀W,aa [B.c] w1 W->W.cell? ⟨B.n0,3,none⟩=some (.slice (some ⟨gt,0,none⟩) hl ct):=fun W hW=>by rw [←XN];exact hW.kept hM1.h3 (mc _ c1.1)
  have rt':∀W,aa [B.c] w1 W->W.cell? ⟨gt,q,none⟩=some (.int .i64 (t:Int)):=fun W hW=>hW.kept (rt _ hu2) (mc _ c1.2.2.2.2.2);have rf':∀W,aa [B.c] w1 W->W.frozen? ⟨gt,q,none⟩=false:=fun W hW=>hW.aH (rt _ hu2) (mc _ c1.2.2.2.2.2) (hu2.aH ht0' (m _ g6 g7) hf0);have jI:=χ (ψ hM1 hu2);clear hM1 ks r1 r3 rt ht0' hu2 Hw hu1 HM hf0;obtain ⟨b,hb⟩:∃b,decide (bX A x t)=b:=⟨_,rfl⟩;rw [hb] at kc;have HBB:=χ hb;clear hb;go_wp2
  go_region_held3 (aa [B.c] w1) (exact ν)
   (first
    | ((go_at_call 174;(with_reducible refine (kc _ β).mono ?_));rintro e w2 ⟨rfl,hC2,hu3⟩;(have fZ:aa [B.c] w1 w2:=aa.trans ν hu3)))
  have d0:=r0 _ fZ;have d3:=r3' _ fZ;have dt:=rt' _ fZ;have df:=rf' _ fZ;have hM2:=jI.out.1.setSt fZ hC2;have hU:aa [B.c,B.bn,B.bp,gt] w w2:=(jI.out.2.mono σ).trans (fZ.mono σ);cases b with
  | false=>
   have HF:=χ (ψ hM2 hU);clear hM2 hU r0 r3' rt' rf' kc fZ hC2 hu3;go_wp2;go_end0;rw [HBB.out];exact ⟨rfl,HF.out.1.PN q (t::r++x::s) (by rw [show ({ G with nx:=dA G.nx t x,pv:=jr G.nx G.pv t x }:FG).R q=t::s from HR.out];rfl),HF.out.2⟩
  | true=>
   have HF:=χ (ψ hM2 hU);clear hM2 hU r0 r3' rt' rf' kc fZ hC2 hu3;go_wp2;go_end0;rw [HBB.out];exact ⟨rfl,HF.out.1.iE q (x::s++t::r),HF.out.2.setCell (Α σ) _⟩
theorem dZ.under (M:dZ w B F gt ct A st G) (x y:Nat) (l:List Nat) (v d:Int) (hv:v=lW l) (hd:d=(l.length:Int)) :
  dZ ((((w.setCell ⟨B.bl,x*4+1,none⟩ (.int .i64 v)).setCell ⟨B.bl,x*4+2,none⟩ (.int .i64 d)).setCell ⟨B.bl,y*4,none⟩ (.int .i64 (x:Int))).setCell ⟨B.bl,y*4+3,none⟩ (.bool false)) B F gt ct A st { G with up:=ai G.up y x,mr:=ai G.mr y false,K:=ai G.K x l }:=by
 refine M.JH ν ?_;unfold nz;simp only [DN,jM,←hv,←hd];exact pO (sD (rR (oV M.pl x v) x d) y x) y false
theorem zS (M:dZ w B F gt ct A st G) {x y:Nat} (hx:x<A.cs.length) (hy:y<A.cs.length) (hk:∀k t,G.K x=k::t->k<A.cs.length) (hl:(G.K x).length<=65536) :
  Calls Tryz.prog 235 #[.pointer (some ⟨B.n0,0,none⟩),.int .i64 (y:Int),.int .i64 (x:Int)] w fun e w'=>e=.returned (.tuple #[])/\
   dZ w' B F gt ct A st (dH G y x)/\aa [B.bn,B.bp,B.bl] w w':=by
 have hc1:=M.cells.ok.c1;have h2:=M.h2;have Bl:(x:Int)<(A.cs.length:Int):=ω;have ZC:(y:Int)<(A.cs.length:Int):=ω;have LU:=M.p1 hx;have Zc:=M.p2 hx;have py0:=M.p0 hy;have py3:=M.p3 hy;have fx1:=M.pl.free (x*4+1);have fx2:=M.pl.free (x*4+2);have fy0:=M.pl.free (y*4);have fy3:=M.pl.free (y*4+3);have hw1:IntKind.i64.wrap (((G.K x).length:Int)+1)=((G.K x).length:Int)+1:=Μ _ ω;cases hK:G.K x with
 | nil=>
  rw [hK] at LU Zc hw1;unfold lW at LU;have eg:dH G y x={ G with up:=ai G.up y x,mr:=ai G.mr y false,K:=ai G.K x [y] }:=by unfold dH;rw [hK]
  rw [eg];have HM:=χ M;clear M eg hK hk;generalize hcl:A.cs.length=n at *;simp only [List.length_nil] at Zc hw1
  go_enter Tryz.func235,Tryz.ntmps235
  go_wp2
  go_region
  go_wp2;go_end0;exact ⟨rfl,(HM.out.under x y [y] y 1 rfl rfl).drewN 1,ν⟩
 | cons k t=>
  have hkn:=hk k t hK;rw [hK] at LU Zc hw1 hl;simp only [Ω] at Zc hw1 hl;unfold lW at LU;have eg:dH G y x={ Oe G k y with up:=ai G.up y x,mr:=ai G.mr y false,K:=ai G.K x (y::(t++[k])) }:=by unfold dH;rw [hK]
  rw [eg];have ks:=fun W (hW:aa [] w W)=>j6 (M.rings.aj hW) hkn hy;obtain ⟨g1,g2,g3,g4,g5,g6,g7⟩:=M.d3;obtain ⟨e1,e2,e3,e4,e5⟩:=M.d2;have m:∀x,x≠B.bn->x≠B.bp->x∉[B.bn,B.bp]:=fun x h1 h2=>by simp [h1,h2]
  have r1:∀W,aa [B.bn,B.bp] w W->W.cell? ⟨B.n0,1,none⟩=some (.pointer (some ⟨B.br,0,none⟩)):=fun W hW=>hW.kept M.h1 (m _ e2 e3);have rx:∀W,aa [B.bn,B.bp] w W->W.cell? ⟨B.bl,x*4+1,none⟩=some (.int .i64 (k:Int)):=fun W hW=>hW.kept LU (m _ g2 g3);have hkk:((k:Int) == -1)=false:=σ;have HM:=χ M;have hx2:=fun W (hW:aa [B.bn,B.bp] w W)=>hW.kept Zc (m _ g2 g3);have hy0:=fun W (hW:aa [B.bn,B.bp] w W)=>hW.kept py0 (m _ g2 g3);have hy3:=fun W (hW:aa [B.bn,B.bp] w W)=>hW.kept py3 (m _ g2 g3);have hf1:=fun W (hW:aa [B.bn,B.bp] w W)=>hW.aH LU (m _ g2 g3) fx1
  have hf2:=fun W (hW:aa [B.bn,B.bp] w W)=>hW.aH Zc (m _ g2 g3) fx2;have hg0:=fun W (hW:aa [B.bn,B.bp] w W)=>hW.aH py0 (m _ g2 g3) fy0;have hg3:=fun W (hW:aa [B.bn,B.bp] w W)=>hW.aH py3 (m _ g2 g3) fy3;have px1':w.cell? ⟨B.bl,x*4+1,none⟩=some (.int .i64 (k:Int)):=LU;have H2:=χ (ψ hx2 (ψ hy0 (ψ hy3 (ψ hf1 (ψ hf2 (ψ hg0 hg3))))));clear M eg hK hk hx2 hy0 hy3 hf1 hf2 hg0 hg3 LU Zc py0 py3 fx1 fx2 fy0 fy3;generalize hcl:A.cs.length=n at *;generalize htl:t.length=tl at *;have hdz:((tl:Int)+1+1)=(((y::(t++[k])).length:Nat):Int):=by first|(simp [htl];done)|(simp [htl];omega)
  have HDZ:=χ hdz;clear hdz htl
  go_enter Tryz.func235,Tryz.ntmps235
  go_wp2
  go_region
  go_wp2
  go_region_held3 (aa [B.bn,B.bp] w) (exact ν)
   (first
    | ((go_at_call 233;(with_reducible refine (ks _ β).mono ?_));rintro e w1 ⟨rfl,Hw,hu1⟩;(have hu2:aa [B.bn,B.bp] w w1:=aa.trans ν hu1)))
  have q1:=rx _ hu2;obtain ⟨q2,q3,q4,q5,q6,q7,q8⟩:=H2.out;have q2:=q2 _ hu2;have q3:=q3 _ hu2;have q4:=q4 _ hu2;have q5:=q5 _ hu2;have q6:=q6 _ hu2;have q7:=q7 _ hu2;have q8:=q8 _ hu2;have hR1':xS w1 B.br B.bn B.bp A.cs.length (dA G.nx k y) (jr G.nx G.pv k y):=by rw [hcl];exact Hw
  have hM1:=HM.out.cz hu2 hR1';have HF:=χ (ψ hM1 hu2);clear hM1 hu2 Hw hR1' hu1 ks r1 rx px1' HM H2;go_wp2;go_end0;have hU:aa [B.bn,B.bp,B.bl] w w1:=HF.out.2.mono (fun z hz=>by simp at hz;rcases hz with rfl|rfl<;>simp);exact ⟨rfl,HF.out.1.under x y (y::(t++[k])) y _ rfl HDZ.out,ν⟩
theorem dZ.Yn (M:dZ w B F gt ct A st G) (x:Nat) :
  dZ ((((w.setCell ⟨B.bl,x*4,none⟩ (.int .i64 (-1))).setCell ⟨B.bl,x*4+1,none⟩ (.int .i64 (-1))).setCell ⟨B.bl,x*4+2,none⟩ (.int .i64 0)).setCell ⟨B.bl,x*4+3,none⟩ (.bool false)) B F gt ct A st { G with up:=ai G.up x (-1),mr:=ai G.mr x false,K:=ai G.K x [] }:=by
 refine M.JH ν ?_;unfold nz;simp only [DN,jM];exact pO (rR (oV (sD M.pl x (-1)) x (-1)) x 0) x false
def Ev (l:List Nat) (up:Nat->Int):Nat->Int:=fun z=>if z∈l then -1 else up z
def Du (l:List Nat) (mr:Nat->Bool):Nat->Bool:=fun z=>if z∈l then false else mr z
theorem QO (l:List Nat) (x:Nat) (up:Nat->Int):ai (Ev l up) x (-1)=Ev (l++[x]) up:=by
 funext z;unfold ai Ev
 by_cases e:z=x
 ·rw [Δ e,Δ (by simp [e])]
 ·rw [Γ e];simp [e]
theorem RL (l:List Nat) (x:Nat) (mr:Nat->Bool):ai (Du l mr) x false=Du (l++[x]) mr:=by
 funext z;unfold ai Du
 by_cases e:z=x
 ·rw [Δ e,Δ (by simp [e])]
 ·rw [Γ e];simp [e]
theorem TJ (up:Nat->Int):Ev [] up=up:=by funext z;unfold Ev;simp
theorem Ry (mr:Nat->Bool):Du [] mr=mr:=by funext z;unfold Du;simp
theorem JW (M:dZ w B F gt ct A st G) {x:Nat} (hx:x<A.cs.length) (hr:Ring G.nx (G.K x)) (hk:∀z,z∈G.K x->z<A.cs.length) :
  Calls Tryz.prog 226 #[.pointer (some ⟨B.n0,0,none⟩),.int .i64 (x:Int)] w fun e w'=>e=.returned (.tuple #[])/\
   dZ w' B F gt ct A st (dB G x)/\aa [B.bn,B.bp,B.bl] w w':=by
 have hc1:=M.cells.ok.c1;have h2:=M.h2;have Bl:(x:Int)<(A.cs.length:Int):=ω;have LU:=M.p1 hx;cases hK:G.K x with
 | nil=>
  rw [hK] at LU;unfold lW at LU;have eg:dB G x=G:=by unfold dB;rw [hK]
  rw [eg];have HM:=χ M;clear M eg hK hk hr;generalize hcl:A.cs.length=n at *
  go_enter Tryz.func226,Tryz.ntmps226
  go_wp2;refine bodyPost_ret (v:=.tuple #[]) (by simp [results,Tryz.results226,go_sem]) rfl ?_;exact ⟨rfl,HM.out,aa.refl _ _⟩
 | cons k t=>
  rw [hK] at LU hr hk;have px1':w.cell? ⟨B.bl,x*4+1,none⟩=some (.int .i64 (k:Int)):=LU;have eg:dB G x={ Oe G x k with up:=ai (Ev (k::t) G.up) x (-1),mr:=ai (Du (k::t) G.mr) x false,K:=ai G.K x [] }:=by unfold dB;rw [hK];rfl
  rw [eg];have hkk:((k:Int) == -1)=false:=σ;have h1:=M.h1;have kall:=GM M.rings hr hk;have hlen:(k::t).length<=A.cs.length:=jq A.cs.length (k::t) hr.nd hk;have hkn:k<A.cs.length:=hk k σ;have HM:=χ (ψ M hk);clear M eg hK hk LU hr;generalize hcl:A.cs.length=n at *
  go_enter Tryz.func226,Tryz.ntmps226
  go_wp2_with (first
   | ((go_at_call 227;(with_reducible refine (kall).mono ?_));rintro e w1 ⟨v1,rfl,ho1,hu1⟩;rw [←lV] at ho1;obtain ⟨g,cap,rfl,hZ,hb⟩:=IZ.gW ho1 (by simp [pU]);rw [lV] at *)
   | fail)
  obtain ⟨g1,g2,g3,g4,g5,g6,g7⟩:=HM.out.1.d3;obtain ⟨e1,e2,e3,e4,e5⟩:=HM.out.1.d2;have hlt:=HM.out.1.lt;have lbl:=hlt B.bl (by simp [FB.blk]);have hM1:=HM.out.1.aj hu1;have hM1':dZ w1 B F gt ct A st { G with up:=Ev ((k::t).take 0) G.up,mr:=Du ((k::t).take 0) G.mr,K:=G.K }:=by rw [List.take_zero,TJ,Ry];exact hM1
  have jI:=χ (ψ hM1' (ψ hu1 hZ));have hgl:=hZ.lt;have hgb:g≠B.bl:=ω;clear hM1 hM1' hu1 hZ ho1 hlt kall h1 h2;have hll:(k::t).length=t.length+1:=rfl;rw [hll] at hlen;generalize htl:t.length=tl at *;obtain ⟨len,WR⟩:∃len,tl+1=len:=⟨_,rfl⟩;have hlI:(tl:Int)+1=(len:Int):=ω;rw [WR] at hll hlen ⊢;rw [hlI];clear hlI htl WR
  go_loopw [24] (fun s24 wr=>∃j:Nat,j<=len/\s24=.int .i64 (j:Int)/\dZ wr B F gt ct A st { G with up:=Ev ((k::t).take j) G.up,mr:=Du ((k::t).take j) G.mr,K:=G.K }/\IZ wr g cap (pU (k::t))/\aa [B.bl] w wr) (fun s24 _=>len-(intOf s24).toNat)
  case atStart=>exact ⟨0,ω,rfl,jI.out.1,jI.out.2.2,jI.out.2.1.mono σ⟩
  case round=>
   obtain ⟨j,hj,rfl,wU,Zy,hur⟩:=hrel;rename World=>wr
   by_cases hjl:j<len
   ·obtain ⟨z,hz⟩:∃z,(k::t)[j]?=some z:=⟨_,ε ω⟩;have hzn:z<n:=hcl▸HM.out.2 z (Η hz);have hc:=Zy.cell j (by rw [lV];omega);have hgz:(pU (k::t)).getD j 0=(z:Int):=by unfold pU;rw [φ,ϑ,hz];rfl
    rw [hgz] at hc;have q2:=wU.h2;rw [hcl] at q2;have p0:=wU.p0 (x:=z) (by rw [hcl];exact hzn);have p3:=wU.p3 (x:=z) (by rw [hcl];exact hzn);have f0:=wU.pl.free (z*4);have f3:=wU.pl.free (z*4+3);have hzI:(z:Int)<(n:Int):=ω;have ZP:(j:Int)<(len:Int):=ω;have hw1:IntKind.i64.wrap ((j:Int)+1)=(j:Int)+1:=Μ _ ω;have et:(k::t).take (j+1)=(k::t).take j++[z]:=by rw [Ϗ,hz];rfl
    have HR:=χ (ψ wU (ψ Zy (ψ hur et)));clear wU Zy hur et hz hgz;go_wp2
    go_region
    go_wp2;obtain ⟨wU,Zy,hur,et⟩:=HR.out;refine ⟨⟨j+1,ω,by go_num,?_,(Zy.upd ((aa.refl [B.bl] wr).setCell (Α σ) _) (by simpa using hgb)).upd (((aa.refl [B.bl] _).setCell (Α σ) _).drew) (by simpa using hgb),ν⟩,by simp [intOf];omega⟩;rw [et,←QO,←RL];refine (wU.JH (up:=ai (Ev ((k::t).take j) G.up) z (-1)) (mr:=ai (Du ((k::t).take j) G.mr) z false) (K:=G.K) ν ?_).drewN 1;exact pO (sD wU.pl z (-1)) z false
   ·obtain rfl:j=len:=ω;have et:(k::t).take j=k::t:=List.take_of_length_le ω;rw [et] at wU;have ks:=fun W (hW:aa [] wr W)=>j6 (wU.rings.aj hW) (x:=x) (y:=k) (by rw [hcl];exact hx) (by rw [hcl];exact hkn);have q1:=wU.h1;have q2:∀W,aa [B.bn,B.bp] wr W->W.cell? ⟨B.n0,2,none⟩=some (.slice (some ⟨B.bl,0,none⟩) n n):=fun W hW=>by
     have:=hW.kept wU.h2 (by simp;exact ⟨e2,e3⟩);rwa [hcl] at this
    have p0:=fun W (hW:aa [B.bn,B.bp] wr W)=>hW.kept (wU.p0 (x:=x) (by rw [hcl];exact hx)) (by simp;exact ⟨g2,g3⟩);have p1:=fun W (hW:aa [B.bn,B.bp] wr W)=>hW.kept (wU.p1 (x:=x) (by rw [hcl];exact hx)) (by simp;exact ⟨g2,g3⟩);have p2:=fun W (hW:aa [B.bn,B.bp] wr W)=>hW.kept (wU.p2 (x:=x) (by rw [hcl];exact hx)) (by simp;exact ⟨g2,g3⟩);have p3:=fun W (hW:aa [B.bn,B.bp] wr W)=>hW.kept (wU.p3 (x:=x) (by rw [hcl];exact hx)) (by simp;exact ⟨g2,g3⟩);have HR:=χ (ψ wU (ψ hur (ψ p0 (ψ p1 (ψ p2 p3)))));clear wU Zy hur et p0 p1 p2 p3 HM jI
    go_wp2_with (first
     | ((go_at_call 233;(with_reducible refine (ks _ β).mono ?_));rintro e w2 ⟨rfl,hR2,hu2⟩;(have q3:=q2 _ hu2))
     | fail)
    obtain ⟨wU,hur,p0,p1,p2,p3⟩:=HR.out;have p0:=p0 _ hu2;have p1:=p1 _ hu2;have p2:=p2 _ hu2;have p3:=p3 _ hu2;have f0:=(wU.cz hu2 hR2).pl.free (x*4);have f1:=(wU.cz hu2 hR2).pl.free (x*4+1);have f2:=(wU.cz hu2 hR2).pl.free (x*4+2);have f3:=(wU.cz hu2 hR2).pl.free (x*4+3);have hb2:B.bl<w2.heap.size:=(wU.cz hu2 hR2).lt _ (by simp [FB.blk]);have mU:=χ (wU.cz hu2 hR2);have HU:=χ (ψ hur hu2);clear wU hR2 hur hu2 ks q1 q2 HR
    go_region_with (first
     | ((go_at_call 111;(with_reducible refine (zM _).mono ?_));rintro e w3 ⟨rfl,hu3⟩;(have hv:aa [] w2 w3:=aa.trans β hu3);(have v0:=hv.was p0);(have v1:=hv.was p1);(have v2:=hv.was p2);(have v3:=hv.was p3);(have v4:=hv.was q3);(have z0:=hv.aH p0 σ f0);(have z1:=hv.aH p1 σ f1);(have z2:=hv.aH p2 σ f2);(have z3:=hv.aH p3 σ f3))
     | fail)
    all_goals
     go_wp2;go_end0;have hU:aa [B.bn,B.bp,B.bl] w w3:=((HU.out.1.mono σ).trans (HU.out.2.mono (fun z hz=>by simp at hz;rcases hz with rfl|rfl<;>simp))).trans (hv.mono σ);exact ⟨rfl,(mU.out.aj hv).Yn x,ν⟩
end
end Go.Proofs.YtklibcncmbofpaaGreat
namespace Go.Proofs.YtklibcncmbofpaaGreat
def few (G:FG) (ex:Nat->Nat) (l:List Nat) (d:Nat):Nat:=(l.filter (fun c=>decide ((G.K c).length+(if G.mr c then 1 else 0)+ex c<d))).length
structure FF (n:Nat) (G:FG) (bJ:Nat->Int) (L:Nat->Nat->Prop) (ex:Nat->Nat):Prop where
 rg:Rg n G.nx G.pv
 kid:∀x y,x<n->y∈G.K x->y<n/\G.up y=x
 Ir:∀y,y<n->G.up y=-1\/∃p:Nat,p<n/\G.up y=p/\y∈G.K p
 ring:∀x,x<n->Ring G.nx (G.K x)
 home:∀y p:Nat,y<n->G.up y=p->bJ y=bJ p/\0<bJ y
 ord:∀y p:Nat,y<n->G.up y=p->L p y
 alone:∀y,y<n->¬0<bJ y->G.up y=-1/\G.K y=[]/\G.nx y=y
 free:∀y,y<n->G.up y=-1->G.mr y=false
 cnt:∀x d,x<n->few G ex (G.K x) d<=d
structure FR (n:Nat) (G:FG) (bJ:Nat->Int) (L:Nat->Nat->Prop) (g:Option Nat):Prop where
 ring:∀h,some h≠g->Ring G.nx (G.R h)
 mem:∀h y:Nat,some h≠g->(y∈G.R h↔1<=h/\y<n/\G.up y=-1/\bJ y=h)
 top:∀h t s,some h≠g->G.R h=t::s->∀y,y∈s->L t y
section
variable {n:Nat} {G:FG} {bJ:Nat->Int} {L:Nat->Nat->Prop} {ex:Nat->Nat}
theorem FF.ML (H:FF n G bJ L ex) {x:Nat} (hx:x<n):(G.K x).length<=n:=jq n _ (H.ring x hx).nd (fun y hy=>(H.kid x y hx hy).1)
theorem FF.above (H:FF n G bJ L ex) {y p:Nat} (hy:y<n) (h:G.up y=p):p<n/\y∈G.K p:=by
 rcases H.Ir y hy with h1|⟨q,hq,h1,h2⟩
 ·omega
 ·obtain rfl:p=q:=ω;exact ⟨hq,h2⟩
theorem YB (G:FG) (ex:Nat->Nat) (l:List Nat) (d:Nat):few G ex l d<=l.length:=List.length_filter_le _ _
theorem Gc (G:FG) (ex:Nat->Nat) {l l':List Nat} (h:l.Perm l') (d:Nat):few G ex l d=few G ex l' d:=(h.filter _).length_eq
theorem tK {G G':FG} {ex YS:Nat->Nat} {l:List Nat} (d:Nat) (h:∀c,c∈l->(G'.K c).length+(if G'.mr c then 1 else 0)+YS c=(G.K c).length+(if G.mr c then 1 else 0)+ex c):few G' YS l d=few G ex l d:=by
 unfold few
 congr 1
 exact List.filter_congr (fun c hc=>by rw [h c hc])
theorem Gm {G G':FG} {ex YS:Nat->Nat} {l:List Nat} (d:Nat) (h:∀c,c∈l->(G.K c).length+(if G.mr c then 1 else 0)+ex c<=(G'.K c).length+(if G'.mr c then 1 else 0)+YS c):few G' YS l d<=few G ex l d:=by
 unfold few
 induction l with
 | nil=>simp
 | cons c t ih=>
  have ih':=ih (fun c hc=>h c (by simp [hc]));have hc:=h c σ
  by_cases h1:(G'.K c).length+(if G'.mr c then 1 else 0)+YS c<d
  ·have h2:(G.K c).length+(if G.mr c then 1 else 0)+ex c<d:=ω;rw [List.filter_cons_of_pos (by simpa using h1),List.filter_cons_of_pos (by simpa using h2)];simpa using ih'
  ·rw [List.filter_cons_of_neg (by simpa using h1)]
   by_cases h2:(G.K c).length+(if G.mr c then 1 else 0)+ex c<d
   ·rw [List.filter_cons_of_pos (by simpa using h2)];simp only [Ω];omega
   ·rw [List.filter_cons_of_neg (by simpa using h2)];exact ih'
theorem Fz (G:FG) (ex:Nat->Nat) (c:Nat) (l:List Nat) (d:Nat):few G ex (c::l) d=(if (G.K c).length+(if G.mr c then 1 else 0)+ex c<d then 1 else 0)+few G ex l d:=by
 unfold few;rw [List.filter_cons]
 by_cases h:(G.K c).length+(if G.mr c then 1 else 0)+ex c<d
 ·rw [Δ (by simpa using h),Δ h];simp;omega
 ·rw [Γ (by simpa using h),Γ h];omega
theorem bN {α:Type} (f:Nat->α) (x:Nat) (v:α):ai f x v x=v:=by unfold ai;rw [Δ rfl]
theorem aW {α:Type} (f:Nat->α) {x z:Nat} (v:α) (h:z≠x):ai f x v z=f z:=by unfold ai;rw [Γ h]
def U4 (l:List Nat) (y:Nat):List Nat:=match l with|[]=>[y]|k::t=>y::(t++[k])
theorem CY (l:List Nat) (y:Nat):(U4 l y).Perm (y::l):=by
 cases l with
 | nil=>exact ό _
 | cons k t=>exact List.Perm.cons y (Φ (l₁:=t) (l₂:=[k]))
theorem l9 (G:FG) (y x:Nat):(dH G y x).up=ai G.up y x:=rfl
theorem Aq (G:FG) (y x:Nat):(dH G y x).mr=ai G.mr y false:=rfl
theorem qg (G:FG) (y x:Nat):(dH G y x).K=ai G.K x (U4 (G.K x) y):=rfl
theorem tJ (G:FG) (y x:Nat):(dH G y x).R=G.R:=by unfold dH;cases G.K x<;>rfl
theorem zQ (G:FG) (y x:Nat):(dH G y x).nx=match G.K x with|[]=>G.nx|k::_=>dA G.nx k y:=by unfold dH;cases G.K x<;>rfl
theorem Sz (G:FG) (y x:Nat):(dH G y x).pv=match G.K x with|[]=>G.pv|k::_=>jr G.nx G.pv k y:=by unfold dH;cases G.K x<;>rfl
theorem FF.under (H:FF n G bJ L ex) {x y:Nat} (hx:x<n) (hy:y<n) (ux:G.up x=-1) (uy:G.up y=-1) (hne:x≠y) (hh:bJ y=bJ x) (h0:0<bJ x) (hL:L x y) (sy:G.nx y=y) (hd:(G.K y).length=(G.K x).length) (hex:ex y=0) :
  FF n (dH G y x) bJ L ex/\(∀z,z<n->z≠y->G.up z=-1->(dH G y x).nx z=G.nx z)/\(∀l:List Nat,Ring G.nx l->y∉l->(∀z,z∈l->z∉G.K x)->Ring (dH G y x).nx l):=by
 have kx:∀a z,a<n->z∈G.K a->z≠x/\z≠y:=fun a z ha hz=>by
  have:=(H.kid a z ha hz).2;exact ⟨fun e=>by subst e;omega,fun e=>by subst e;omega⟩
 have far:∀z,z≠y->z∉G.K x->(dH G y x).nx z=G.nx z:=fun z h1 h2=>by
  rw [zQ];cases hK:G.K x with
  | nil=>rfl
  | cons k t=>exact iP (fun e=>h2 (by rw [hK,e];simp)) h1
 have nk:∀z,G.up z=-1->z∉G.K x:=fun z hu hm=>by
  have:=(H.kid x z hx hm).2;omega
 have rl:∀l:List Nat,Ring G.nx l->y∉l->(∀z,z∈l->z∉G.K x)->Ring (dH G y x).nx l:=fun l hr h1 h2=>hr.far (fun z hz=>far z (fun e=>h1 (e▸hz)) (h2 z hz));have mem:∀z,z∈U4 (G.K x) y↔z=y\/z∈G.K x:=fun z=>by rw [(CY _ _).mem_iff];simp
 refine ⟨⟨?_,fun a z ha hz=>?_,fun z hz=>?_,fun a ha=>?_,fun z p hz hu=>?_,fun z p hz hu=>?_,fun z hz h1=>?_,fun z hz hu=>?_,fun a d ha=>?_⟩,fun z hz h1 h2=>far z h1 (nk z h2),rl⟩
 ·rw [zQ,Sz];cases hK:G.K x with
  | nil=>exact H.rg
  | cons k t=>exact H.rg.swap (H.kid x k hx (by rw [hK];simp)).1 hy
 ·rw [qg] at hz;rw [l9]
  by_cases e:a=x
  ·subst e;rw [bN,mem] at hz;rcases hz with rfl|hz
   ·exact ⟨hy,bN _ _ _⟩
   ·exact ⟨(H.kid a z ha hz).1,by rw [aW _ _ (kx a z ha hz).2];exact (H.kid a z ha hz).2⟩
  ·rw [aW _ _ e] at hz;exact ⟨(H.kid a z ha hz).1,by rw [aW _ _ (kx a z ha hz).2];exact (H.kid a z ha hz).2⟩
 ·rw [l9,qg]
  by_cases e:z=y
  ·subst e;exact Β ⟨x,hx,bN _ _ _,by rw [bN,mem];exact Α rfl⟩
  ·rw [aW _ _ e];rcases H.Ir z hz with h1|⟨p,hp,h1,h2⟩
   ·exact Α h1
   ·refine Β ⟨p,hp,h1,?_⟩
    by_cases e2:p=x
    ·rw [e2,bN,mem];rw [e2] at h2;exact Β h2
    ·rw [aW _ _ e2];exact h2
 ·rw [qg]
  by_cases e:a=x
  ·subst e;rw [bN,zQ];have hr:=H.ring a ha;cases hK:G.K a with
   | nil=>exact jf.2 sy
   | cons k t=>
    rw [hK] at hr
    have hj:=Ring.join hr (jf.2 sy) (fun z hz hm=>by
     simp at hm;subst hm
     exact (kx a z ha (by rw [hK];exact hz)).2 rfl)
    exact Ring.Wx (a:=[k]) (b:=y::t) hj
  ·rw [aW _ _ e]
   exact rl _ (H.ring a ha) (fun hm=>(kx a y ha hm).2 rfl) (fun z hz hm=>e (by
    have:=(H.kid a z ha hz).2;have:=(H.kid x z hx hm).2
    omega))
 ·rw [l9] at hu
  by_cases e:z=y
  ·subst e;rw [bN] at hu;obtain rfl:p=x:=ω;exact ⟨hh,ω⟩
  ·rw [aW _ _ e] at hu;exact H.home z p hz hu
 ·rw [l9] at hu
  by_cases e:z=y
  ·subst e;rw [bN] at hu;obtain rfl:p=x:=ω;exact hL
  ·rw [aW _ _ e] at hu;exact H.ord z p hz hu
 ·have e1:z≠y:=fun e=>h1 (by rw [e,hh];exact h0);have e2:z≠x:=fun e=>h1 (by rw [e];exact h0);obtain ⟨a1,a2,a3⟩:=H.alone z hz h1;exact ⟨by rw [l9,aW _ _ e1];exact a1,by rw [qg,aW _ _ e2];exact a2,by rw [far z e1 (nk z a1)];exact a3⟩
 ·rw [l9] at hu;rw [Aq]
  by_cases e:z=y
  ·subst e;rw [bN]
  ·rw [aW _ _ e] at hu ⊢;exact H.free z hz hu
 ·have old:∀b:Nat,b<n->few (dH G y x) ex (G.K b) d=few G ex (G.K b) d:=fun b hb=>tK d (fun c hc=>by
   have:=kx b c hb hc
   rw [qg,Aq,aW _ _ this.1,aW _ _ this.2])
  by_cases e:a=x
  ·subst e;rw [show (dH G y a).K a=U4 (G.K a) y from bN _ _ _,Gc _ _ (CY _ _),Fz,old a ha,qg,Aq,bN,aW _ _ (Ne.symm hne),hex];have h1:=H.cnt a d ha;have h2:=YB G ex (G.K a) d;simp only [Ϟ,if_false,ϔ]
   split<;>omega
  ·rw [show (dH G y x).K a=G.K a from aW _ _ e,old a ha];exact H.cnt a d ha
end
def jN (T:List Int) (d:Nat):List Int:=T++List.replicate (d+1-T.length) (-1)
def nS (T:List Int):Nat:=(T.filter (fun y=>decide (y≠-1))).length
structure TD where
 T:List Int
 G:FG
 q:Nat
def Jp (lt:Nat->Nat->Bool):Nat->List Int->Nat->FG->Nat->TD
 | 0,T,x,G,q=>⟨T,G,q⟩
 | f+1,T,x,G,q=>
  if (jN T (G.K x).length).getD (G.K x).length (-1)=-1 then ⟨(jN T (G.K x).length).set (G.K x).length x,G,q⟩
  else if lt ((jN T (G.K x).length).getD (G.K x).length (-1)).toNat x then Jp lt f ((jN T (G.K x).length).set (G.K x).length (-1)) ((jN T (G.K x).length).getD (G.K x).length (-1)).toNat (dH G x ((jN T (G.K x).length).getD (G.K x).length (-1)).toNat) (q+1)
  else Jp lt f ((jN T (G.K x).length).set (G.K x).length (-1)) x (dH G ((jN T (G.K x).length).getD (G.K x).length (-1)).toNat x) (q+1)
def tid (lt:Nat->Nat->Bool):List Nat->TD->TD
 | [],D=>D
 | x::rs,D=>tid lt rs (Jp lt (nS D.T+1) D.T x D.G D.q)
theorem DU (T:List Int) (d:Nat):(jN T d).length=max T.length (d+1):=by unfold jN;simp;omega
theorem Wi (a b:List Int):nS (a++b)=nS a+nS b:=by unfold nS;simp
theorem V5 (k:Nat):nS (List.replicate k (-1))=0:=by
 unfold nS;rw [List.length_eq_zero_iff,List.filter_eq_nil_iff];intro a ha;have:=List.eq_of_mem_replicate ha;simp [this]
theorem V7 (T:List Int) (d:Nat):nS (jN T d)=nS T:=by unfold jN;rw [Wi,V5];omega
theorem Eo:∀ (T:List Int) (d:Nat) (v u:Int),T[d]?=some u->nS (T.set d v)+(if u=-1 then 0 else 1)=nS T+(if v=-1 then 0 else 1)
 | [],d,v,u,h=>by simp at h
 | a::t,0,v,u,h=>by
  have e:a=u:=by simpa using h
  subst e;have c:∀z:Int,nS (z::t)=(if z=-1 then 0 else 1)+nS t:=fun z=>by
   unfold nS
   by_cases hz:z=-1
   ·rw [List.filter_cons_of_neg (by simpa using hz),Δ hz];omega
   ·rw [List.filter_cons_of_pos (by simpa using hz),Γ hz];simp;omega
  show nS (v::t)+_=_
  rw [c,c];omega
 | a::t,d+1,v,u,h=>by
  have ih:=Eo t d v u (by simpa using h);have c:∀l:List Int,nS (a::l)=(if a=-1 then 0 else 1)+nS l:=fun l=>by
   unfold nS
   by_cases hz:a=-1
   ·rw [List.filter_cons_of_neg (by simpa using hz),Δ hz];omega
   ·rw [List.filter_cons_of_pos (by simpa using hz),Γ hz];simp;omega
  show nS (a::t.set d v)+_=_
  rw [c,c];omega
def zf (n:Nat) (G:FG) (bJ:Nat->Int) (h:Nat) (z:Nat):Prop:=z<n/\G.up z=-1/\bJ z=h
structure TT (n:Nat) (bJ:Nat->Int) (L:Nat->Nat->Prop) (h:Nat) (T:List Int) (xs:List Nat) (G:FG):Prop where
 ff:FF n G bJ L (fun _=>0)
 fr:FR n G bJ L (some h)
 zero:G.R h=[]
 one:∀y,zf n G bJ h y->G.nx y=y
 tab:∀ (d:Nat) (y:Int),T[d]?=some y->y=-1\/∃z:Nat,y=z/\zf n G bJ h z/\(G.K z).length=d/\z∉xs
 nd:xs.Nodup
 xr:∀z,z∈xs->zf n G bJ h z
 all:∀z,zf n G bJ h z->z∈xs\/(z:Int)∈T
section
variable {n:Nat} {bJ:Nat->Int} {L:Nat->Nat->Prop} {h:Nat} {T:List Int} {xs:List Nat} {G:FG}
theorem TT.pad (H:TT n bJ L h T xs G) (d:Nat):TT n bJ L h (jN T d) xs G:=by
 refine ⟨H.ff,H.fr,H.zero,H.one,fun e y hy=>?_,H.nd,H.xr,fun z hz=>(H.all z hz).imp id (fun hm=>by unfold jN;simp [hm])⟩;unfold jN at hy
 by_cases he:e<T.length
 ·rw [Ρ he] at hy;exact H.tab e y hy
 ·rw [ϊ ω] at hy;exact Α (List.eq_of_mem_replicate (Η hy))
theorem su (T:List Int) (d:Nat) (v z:Int):z∈T.set d v↔(z=v/\d<T.length)\/∃e,e≠d/\T[e]?=some z:=by
 rw [List.mem_iff_getElem?];constructor
 ·rintro ⟨e,he⟩;rw [ύ] at he
  by_cases hd:d=e
  ·rw [Δ hd] at he
   by_cases hl:d<T.length
   ·rw [Δ hl] at he;injection he with he;exact Α ⟨he.symm,ω⟩
   ·rw [Γ hl] at he;cases he
  ·rw [Γ hd] at he;exact Β ⟨e,fun h'=>hd h'.symm,he⟩
 ·rintro (⟨rfl,hl⟩|⟨e,hne,he⟩)
  ·exact ⟨d,by rw [ύ,Δ rfl,Δ hl]⟩
  ·exact ⟨e,by rw [ύ,Γ (Ne.symm hne)];exact he⟩
theorem TT.place {x:Nat} {rs:List Nat} (H:TT n bJ L h T (x::rs) G) {d:Nat} (hd:(G.K x).length=d) (hT:T[d]?=some (-1)):TT n bJ L h (T.set d x) rs G:=by
 have hnd:=List.nodup_cons.1 H.nd;have hdl:d<T.length:=(List.getElem?_eq_some_iff.1 hT).1;refine ⟨H.ff,H.fr,H.zero,H.one,fun e y hy=>?_,hnd.2,fun z hz=>H.xr z (by simp [hz]),fun z hz=>?_⟩
 ·rw [ύ] at hy
  by_cases he:d=e
  ·rw [Δ he,Δ ω] at hy
   injection hy with hy
   exact Β ⟨x,hy.symm,H.xr x σ,ω,hnd.1⟩
  ·rw [Γ he] at hy;rcases H.tab e y hy with h1|⟨z,h1,h2,h3,h4⟩
   ·exact Α h1
   ·exact Β ⟨z,h1,h2,h3,fun hm=>h4 (by simp [hm])⟩
 ·rcases H.all z hz with h1|h1
  ·rcases ρ.1 h1 with rfl|h1
   ·exact Β ((su _ _ _ _).2 (Α ⟨rfl,hdl⟩))
   ·exact Α h1
  ·obtain ⟨e,he⟩:=List.mem_iff_getElem?.1 h1;refine Β ((su _ _ _ _).2 (Β ⟨e,fun e2=>?_,he⟩));subst e2;rw [hT] at he
   injection he with he
   omega
theorem TT.link {x z hi lo:Nat} {rs:List Nat} (H:TT n bJ L h T (x::rs) G) {d:Nat} (hd:(G.K x).length=d) (hT:T[d]?=some (z:Int)) (hl:(hi=x/\lo=z)\/(hi=z/\lo=x)) (hL:L hi lo) (h1:1<=h) :
  TT n bJ L h (T.set d (-1)) (hi::rs) (dH G lo hi):=by
 have hnd:=List.nodup_cons.1 H.nd;have AZ:=H.xr x σ;obtain ⟨z',e,Md,hzd,hzx⟩:∃z':Nat,(z:Int)=z'/\zf n G bJ h z'/\(G.K z').length=d/\z'∉x::rs:=by
  rcases H.tab d z hT with h2|h2
  ·omega
  ·exact h2
 obtain rfl:z=z':=ω;have hzne:z≠x:=fun e=>hzx (by simp [e]);have hzrs:z∉rs:=fun hm=>hzx (by simp [hm]);have hir:zf n G bJ h hi:=by rcases hl with ⟨e,_⟩|⟨e,_⟩<;>subst e<;>assumption
 have lor:zf n G bJ h lo:=by rcases hl with ⟨_,e⟩|⟨_,e⟩<;>subst e<;>assumption
 have hid:(G.K hi).length=d:=by rcases hl with ⟨e,_⟩|⟨e,_⟩<;>subst e<;>assumption
 have lod:(G.K lo).length=d:=by rcases hl with ⟨_,e⟩|⟨_,e⟩<;>subst e<;>assumption
 have hne:hi≠lo:=by rcases hl with ⟨e1,e2⟩|⟨e1,e2⟩<;>subst e1 e2<;>omega
 have hirs:hi∉rs:=by rcases hl with ⟨e,_⟩|⟨e,_⟩<;>subst e;exact hnd.1;exact hzrs
 have lors:lo∉rs:=by rcases hl with ⟨_,e⟩|⟨_,e⟩<;>subst e;exact hzrs;exact hnd.1
 have hs:=H.one lo lor;have hh:(0:Int)<bJ hi:=by rw [hir.2.2];omega
 obtain ⟨hF,hnx,hrl⟩:=H.ff.under hir.1 lor.1 hir.2.1 lor.2.1 hne (by rw [lor.2.2,hir.2.2]) hh hL hs ω rfl;have OB:∀w,w≠lo->(dH G lo hi).up w=G.up w:=fun w hw=>by rw [l9,aW _ _ hw]
 have upl:(dH G lo hi).up lo=hi:=by rw [l9,bN]
 have rt:∀g w,zf n (dH G lo hi) bJ g w↔zf n G bJ g w/\w≠lo:=fun g w=>by
  unfold zf
  by_cases e:w=lo
  ·subst e;rw [upl];constructor
   ·rintro ⟨_,h2,_⟩;omega
   ·rintro ⟨_,h2⟩;exact absurd rfl h2
  ·rw [OB w e];simp [e]
 have kn:∀w,w≠hi->(dH G lo hi).K w=G.K w:=fun w hw=>by rw [qg,aW _ _ hw]
 have V4:∀g,some g≠some h->∀w,w∈G.R g->w≠lo/\w∉G.K hi:=fun g hg w hw=>by
  have hm:=(H.fr.mem g w hg).1 hw;refine ⟨fun e=>hg ?_,fun hk=>?_⟩
  ·subst e;have:=lor.2.2;have:=hm.2.2.2;congr 1;omega
  ·have:=(H.ff.kid hi w hir.1 hk).2;omega
 refine ⟨hF,⟨fun g hg=>?_,fun g w hg=>?_,fun g t s hg hR=>?_⟩,by rw [tJ];exact H.zero,fun w hw=>?_,fun e y hy=>?_,List.nodup_cons.2 ⟨hirs,hnd.2⟩,fun w hw=>?_,fun w hw=>?_⟩
 ·rw [tJ];exact hrl _ (H.fr.ring g hg) (fun hm=>(V4 g hg lo hm).1 rfl) (fun w hw=>(V4 g hg w hw).2)
 ·rw [tJ,H.fr.mem g w hg];constructor
  ·rintro ⟨a1,a2,a3,a4⟩;have hw:w≠lo:=fun e=>hg (by subst e;have:=lor.2.2;congr 1;omega);exact ⟨a1,a2,by rw [OB w hw];exact a3,a4⟩
  ·rintro ⟨a1,a2,a3,a4⟩;have hw:w≠lo:=fun e=>by subst e;rw [upl] at a3;omega
   exact ⟨a1,a2,by rw [OB w hw] at a3;exact a3,a4⟩
 ·rw [tJ] at hR;exact H.fr.top g t s hg hR
 ·obtain ⟨hw1,hwl⟩:=(rt h w).1 hw;rw [hnx w hw1.1 hwl hw1.2.1];exact H.one w hw1
 ·rw [ύ] at hy
  by_cases he:d=e
  ·rw [Δ he] at hy
   by_cases hl2:d<T.length
   ·rw [Δ hl2] at hy;injection hy with hy;exact Α hy.symm
   ·rw [Γ hl2] at hy;cases hy
  ·rw [Γ he] at hy;rcases H.tab e y hy with a1|⟨w,a1,a2,a3,a4⟩
   ·exact Α a1
   ·have w1:w≠x:=fun e2=>a4 (by simp [e2]);have w2:w≠z:=fun e2=>by subst e2;omega
    have whi:w≠hi:=by rcases hl with ⟨e2,_⟩|⟨e2,_⟩<;>subst e2<;>assumption
    have wlo:w≠lo:=by rcases hl with ⟨_,e2⟩|⟨_,e2⟩<;>subst e2<;>assumption
    refine Β ⟨w,a1,(rt h w).2 ⟨a2,wlo⟩,by rw [kn w whi];exact a3,fun hm=>?_⟩;rcases ρ.1 hm with e2|hm
    ·exact whi e2
    ·exact a4 (by simp [hm])
 ·rcases ρ.1 hw with rfl|hw
  ·exact (rt h w).2 ⟨hir,hne⟩
  ·exact (rt h w).2 ⟨H.xr w (by simp [hw]),fun e=>lors (e▸hw)⟩
 ·obtain ⟨hw,hwl⟩:=(rt h w).1 hw;have fin:w=x\/w=z->w∈hi::rs:=fun hc=>by
   rcases hl with ⟨e1,e2⟩|⟨e1,e2⟩
   ·rcases hc with hc|hc
    ·simp [e1,hc]
    ·exact absurd (hc.trans e2.symm) hwl
   ·rcases hc with hc|hc
    ·exact absurd (hc.trans e2.symm) hwl
    ·simp [e1,hc]
  rcases H.all w hw with a|a
  ·rcases ρ.1 a with a|a
   ·exact Α (fin (Α a))
   ·exact Α (by simp [a])
  ·obtain ⟨e,he⟩:=List.mem_iff_getElem?.1 a
   by_cases WN:e=d
   ·subst WN;rw [hT] at he
    injection he with he
    exact Α (fin (Β ω))
   ·exact Β ((su _ _ _ _).2 (Β ⟨e,WN,he⟩))
theorem getD_some {T:List Int} {d:Nat} (hd:d<T.length):T[d]?=some (T.getD d (-1)):=by
 rw [φ,ε hd];rfl
def IU (n:Nat) (G:FG) (bJ:Nat->Int) (h:Nat) (L:Nat->Nat->Prop) (lt:Nat->Nat->Bool):Prop:=∀a b,a<n->b<n->bJ a=h->bJ b=h->a≠b->(lt a b=true->L a b)/\(lt a b=false->L b a)
theorem TT.step {lt:Nat->Nat->Bool} {x:Nat} {rs:List Nat} (H:TT n bJ L h T (x::rs) G) (hl:IU n G bJ h L lt) (h1:1<=h) :
  (jN T (G.K x).length)[(G.K x).length]?=some ((jN T (G.K x).length).getD (G.K x).length (-1))/\
  ((jN T (G.K x).length).getD (G.K x).length (-1)=-1->TT n bJ L h ((jN T (G.K x).length).set (G.K x).length x) rs G/\nS ((jN T (G.K x).length).set (G.K x).length x)=nS T+1)/\
  ((jN T (G.K x).length).getD (G.K x).length (-1)≠-1->∃z:Nat,(jN T (G.K x).length).getD (G.K x).length (-1)=z/\z<n/\z≠x/\bJ z=h/\nS ((jN T (G.K x).length).set (G.K x).length (-1))+1=nS T/\
   (lt z x=true->TT n bJ L h ((jN T (G.K x).length).set (G.K x).length (-1)) (z::rs) (dH G x z))/\(lt z x=false->TT n bJ L h ((jN T (G.K x).length).set (G.K x).length (-1)) (x::rs) (dH G z x))):=by
 have hp:=H.pad (G.K x).length;have ho:=V7 T (G.K x).length;have hlen:=DU T (G.K x).length;generalize jN T (G.K x).length=P at *;have hg:P[(G.K x).length]?=some (P.getD (G.K x).length (-1)):=getD_some ω;refine ⟨hg,fun e=>?_,fun e=>?_⟩
 ·rw [e] at hg;refine ⟨hp.place rfl hg,?_⟩;have:=Eo P (G.K x).length x (-1) hg;rw [Δ rfl,Γ ω] at this;omega
 ·rcases hp.tab _ _ hg with e1|⟨z,e1,e2,e3,e4⟩
  ·exact absurd e1 e
  ·rw [e1] at hg;have hzx:z≠x:=fun e=>e4 (by simp [e]);have AZ:=hp.xr x σ;have hk:=hl z x e2.1 AZ.1 e2.2.2 AZ.2.2 hzx;have:=Eo P (G.K x).length (-1) z hg;rw [Δ rfl,Γ ω] at this;exact ⟨z,e1,e2.1,hzx,e2.2.2,ω,fun ht=>hp.link rfl hg (Β ⟨rfl,rfl⟩) (hk.1 ht) h1,fun ht=>hp.link rfl hg (Α ⟨rfl,rfl⟩) (hk.2 ht) h1⟩
theorem Jc {lt:Nat->Nat->Bool} {rs:List Nat} (h1:1<=h) (hl:∀G,IU n G bJ h L lt):∀ (f:Nat) (T:List Int) (x:Nat) (G:FG) (q:Nat),TT n bJ L h T (x::rs) G->nS T<f->
  TT n bJ L h (Jp lt f T x G q).T rs (Jp lt f T x G q).G/\nS (Jp lt f T x G q).T+(Jp lt f T x G q).q=nS T+1+q/\(Jp lt f T x G q).G.R=G.R/\(Jp lt f T x G q).T.length<=max T.length (n+1)
 | 0,T,x,G,q,H,hf=>ω
 | f+1,T,x,G,q,H,hf=>by
  obtain ⟨s0,s1,s2⟩:=H.step (hl G) h1;have hkn:=H.ff.ML (H.xr x σ).1;have hpl:=DU T (G.K x).length;unfold Jp
  by_cases e:(jN T (G.K x).length).getD (G.K x).length (-1)=-1
  ·rw [Δ e];obtain ⟨a,b⟩:=s1 e;exact ⟨a,by simp only;omega,rfl,by simp only [Ι];omega⟩
  ·rw [Γ e];obtain ⟨z,e1,_,_,_,e3,e4,e5⟩:=s2 e;rw [e1,π];cases ht:lt z x with
   | true=>
    rw [Δ rfl];obtain ⟨r1,r2,r3,r4⟩:=Jc h1 hl f _ z _ (q+1) (e4 ht) ω;exact ⟨r1,ω,r3.trans (tJ _ _ _),by rw [Ι] at r4;omega⟩
   | false=>
    rw [Γ σ];obtain ⟨r1,r2,r3,r4⟩:=Jc h1 hl f _ x _ (q+1) (e5 ht) ω;exact ⟨r1,ω,r3.trans (tJ _ _ _),by rw [Ι] at r4;omega⟩
theorem Rb {lt:Nat->Nat->Bool} (h1:1<=h) (hl:∀G,IU n G bJ h L lt):∀ (rs:List Nat) (D:TD),TT n bJ L h D.T rs D.G->D.T.length<=n+1->
  TT n bJ L h (tid lt rs D).T [] (tid lt rs D).G/\nS (tid lt rs D).T+(tid lt rs D).q=nS D.T+rs.length+D.q/\(tid lt rs D).G.R=D.G.R/\(tid lt rs D).T.length<=n+1
 | [],D,H,hlen=>⟨H,by simp [tid],rfl,hlen⟩
 | x::rs,D,H,hlen=>by
  obtain ⟨r1,r2,r3,r4⟩:=Jc h1 hl (nS D.T+1) D.T x D.G D.q H ω;obtain ⟨t1,t2,t3,t4⟩:=Rb h1 hl rs _ r1 ω;have e:tid lt (x::rs) D=tid lt rs (Jp lt (nS D.T+1) D.T x D.G D.q):=rfl;rw [e];exact ⟨t1,by rw [t2,Ω];omega,t3.trans r3,t4⟩
end
section
variable {n:Nat} {G:FG} {bJ:Nat->Int} {L:Nat->Nat->Prop} {ex:Nat->Nat}
theorem FF.r9 (H:FF n G bJ L ex) {a x:Nat} (hx:x<n) (ua:G.up a=-1):a∉G.K x:=fun hm=>by
 have:=(H.kid x a hx hm).2;omega
theorem FF.Oe (H:FF n G bJ L ex) {a b:Nat} (ha:a<n) (hb:b<n) (ua:G.up a=-1) (ub:G.up b=-1) (h0a:0<bJ a) (h0b:0<bJ b):FF n (Oe G a b) bJ L ex:=
 ⟨H.rg.swap ha hb,H.kid,H.Ir,fun x hx=>(H.ring x hx).nM (H.r9 hx ua) (H.r9 hx ub),H.home,H.ord,fun y hy h0=>by
  obtain ⟨h1,h2,h3⟩:=H.alone y hy h0
  exact ⟨h1,h2,by show dA G.nx a b y=y;rw [iP (fun e=>h0 (by rw [e];exact h0a)) (fun e=>h0 (by rw [e];exact h0b))];exact h3⟩,H.free,H.cnt⟩
theorem FF.cz (H:FF n G bJ L ex) (R:Nat->List Nat):FF n { G with R:=R } bJ L ex:=⟨H.rg,H.kid,H.Ir,H.ring,H.home,H.ord,H.alone,H.free,H.cnt⟩
theorem FF.mono {L':Nat->Nat->Prop} {vL:Nat->Int} (H:FF n G bJ L ex) (hL:∀y p:Nat,y<n->G.up y=p->L p y->vL y=vL p/\0<vL y/\L' p y) (ha:∀y,y<n->¬0<vL y->G.up y=-1/\G.K y=[]/\G.nx y=y):FF n G vL L' ex:=
 ⟨H.rg,H.kid,H.Ir,H.ring,fun y p hy hu=>⟨(hL y p hy hu (H.ord y p hy hu)).1,(hL y p hy hu (H.ord y p hy hu)).2.1⟩,fun y p hy hu=>(hL y p hy hu (H.ord y p hy hu)).2.2,ha,H.free,H.cnt⟩
def kl (l:List Nat):List Nat:=match l with|[]=>[]|k::t=>t++[k]
theorem KQ (l:List Nat):(kl l).Perm l:=by
 cases l with
 | nil=>exact ό _
 | cons k t=>exact Φ (l₁:=t) (l₂:=[k])
theorem Yf {l:List Nat} {z:Nat}:z∈kl l↔z∈l:=(KQ l).mem_iff
theorem Xw (l:List Nat):(kl l).length=l.length:=(KQ l).length_eq
theorem Vz (G:FG) (x:Nat):(dB G x).R=G.R:=by unfold dB;cases G.K x<;>rfl
theorem Ej (G:FG) (x:Nat):(dB G x).K=ai G.K x []:=by
 unfold dB;cases hK:G.K x with
 | nil=>funext z;unfold ai;by_cases e:z=x<;>simp [e,hK]
 | cons k t=>rfl
theorem Ii (G:FG) {x:Nat} (ux:G.up x=-1) (z:Nat):(dB G x).up z=if z∈G.K x then -1 else G.up z:=by
 unfold dB;cases hK:G.K x with
 | nil=>simp
 | cons k t=>
  show ai (fun z=>if z∈k::t then (-1:Int) else G.up z) x (-1) z=_
  unfold ai
  by_cases e:z=x
  ·rw [Δ e];split;rfl;rw [e,ux]
  ·rw [Γ e]
theorem SY (G:FG) {x:Nat} (mx:G.mr x=false) (z:Nat):(dB G x).mr z=if z∈G.K x then false else G.mr z:=by
 unfold dB;cases hK:G.K x with
 | nil=>simp
 | cons k t=>
  show ai (fun z=>if z∈k::t then false else G.mr z) x false z=_
  unfold ai
  by_cases e:z=x
  ·rw [Δ e];split;rfl;rw [e,mx]
  ·rw [Γ e]
theorem zU (G:FG) (x:Nat):(dB G x).nx=match G.K x with|[]=>G.nx|k::_=>dA G.nx x k:=by unfold dB;cases G.K x<;>rfl
theorem Qr (G:FG) (x:Nat):(dB G x).pv=match G.K x with|[]=>G.pv|k::_=>jr G.nx G.pv x k:=by unfold dB;cases G.K x<;>rfl
theorem FF.raise (H:FF n G bJ L ex) {x:Nat} (hx:x<n) (ux:G.up x=-1) (h0:0<bJ x) :
  FF n (dB G x) bJ L ex/\(∀l,Ring G.nx l->x∉l->(∀z,z∈l->z∉G.K x)->Ring (dB G x).nx l)/\
   (∀a b,Ring G.nx (a++x::b)->(∀z,z∈a++x::b->z∉G.K x)->Ring (dB G x).nx (a++x::(kl (G.K x)++b))):=by
 have mx:=H.free x hx ux;have up:=Ii G ux;have mr:=SY G mx;have far:∀z,z≠x->z∉G.K x->(dB G x).nx z=G.nx z:=fun z h1 h2=>by
  rw [zU];cases hK:G.K x with
  | nil=>rfl
  | cons k t=>exact iP h1 (fun e=>h2 (by rw [hK,e];simp))
 have rl:∀l,Ring G.nx l->x∉l->(∀z,z∈l->z∉G.K x)->Ring (dB G x).nx l:=fun l hl h1 h2=>hl.far (fun z hz=>far z (fun e=>h1 (e▸hz)) (h2 z hz));have oth:∀a,a<n->a≠x->∀z,z∈G.K a->z≠x/\z∉G.K x:=fun a ha hne z hz=>by
  have:=(H.kid a z ha hz).2;exact ⟨fun e=>by subst e;omega,fun hm=>by have:=(H.kid x z hx hm).2;omega⟩
 have kn:∀a,a≠x->(dB G x).K a=G.K a:=fun a ha=>by rw [Ej,aW _ _ ha]
 have kx:(dB G x).K x=[]:=by rw [Ej,bN]
 refine ⟨⟨?_,fun a y ha hy=>?_,fun y hy=>?_,fun a ha=>?_,fun y p hy hu=>?_,fun y p hy hu=>?_,fun y hy h1=>?_,fun y hy hu=>?_,fun a d ha=>?_⟩,rl,fun a b hr hd=>?_⟩
 ·rw [zU,Qr];cases hK:G.K x with
  | nil=>exact H.rg
  | cons k t=>exact H.rg.swap hx (H.kid x k hx (by rw [hK];simp)).1
 ·by_cases e:a=x
  ·subst e;rw [kx] at hy;cases hy
  ·rw [kn a e] at hy;have:=oth a ha e y hy;exact ⟨(H.kid a y ha hy).1,by rw [up,Γ this.2];exact (H.kid a y ha hy).2⟩
 ·rw [up]
  by_cases e:y∈G.K x
  ·rw [Δ e];exact Α rfl
  ·rw [Γ e];rcases H.Ir y hy with h1|⟨p,hp,h1,h2⟩
   ·exact Α h1
   ·have hpx:p≠x:=fun e2=>e (e2▸h2);exact Β ⟨p,hp,h1,by rw [kn p hpx];exact h2⟩
 ·by_cases e:a=x
  ·subst e;rw [kx];exact Ring.nil _
  ·rw [kn a e];exact rl _ (H.ring a ha) (fun hm=>(oth a ha e x hm).1 rfl) (fun z hz=>(oth a ha e z hz).2)
 ·rw [up] at hu
  split at hu
  ·omega
  ·exact H.home y p hy hu
 ·rw [up] at hu
  split at hu
  ·omega
  ·exact H.ord y p hy hu
 ·obtain ⟨a1,a2,a3⟩:=H.alone y hy h1;have hyx:y≠x:=fun e=>h1 (by rw [e];exact h0);have hyk:y∉G.K x:=H.r9 hx a1;exact ⟨by rw [up,Γ hyk];exact a1,by rw [kn y hyx];exact a2,by rw [far y hyx hyk];exact a3⟩
 ·rw [up] at hu;rw [mr]
  split
  ·rfl
  ·rename_i hk
   rw [Γ hk] at hu;exact H.free y hy hu
 ·by_cases e:a=x
  ·subst e;rw [kx];exact Nat.zero_le _
  ·rw [kn a e,tK (G:=G) (ex:=ex) d (fun c hc=>by
    have:=oth a ha e c hc
    rw [kn c this.1,mr,Γ this.2])]
   exact H.cnt a d ha
 ·have hk:=H.ring x hx;rw [zU];cases hK:G.K x with
  | nil=>simpa [kl] using hr
  | cons k t=>
   rw [hK] at hk hd;have h1:Ring G.nx (x::(b++a)):=Ring.Wx (a:=a) (b:=x::b) hr;have h2:=Ring.join h1 hk (fun z hz=>hd z (by simp only [ρ,τ] at hz ⊢;rcases hz with h|h|h<;>simp [h]));have h3:Ring (dA G.nx x k) ((x::(t++k::b))++a):=by simpa using h2
   have h4:=Ring.Wx h3;simpa [kl] using h4
def uB (l:List Nat) (G:FG):FG:=l.foldl prt G
theorem xQ:∀ (l:List Nat) (G:FG),(uB l G).up=G.up/\(uB l G).mr=G.mr/\(uB l G).K=G.K/\(uB l G).R=G.R
 | [],G=>⟨rfl,rfl,rfl,rfl⟩
 | x::t,G=>by
  obtain ⟨h1,h2,h3,h4⟩:=xQ t (prt G x);exact ⟨h1,h2,h3,h4⟩
theorem LV:∀ (l:List Nat) (G:FG),FF n G bJ L ex->Ring G.nx l->(∀z,z∈l->z<n/\G.up z=-1/\0<bJ z)->
  FF n (uB l G) bJ L ex/\(∀z,z∈l->(uB l G).nx z=z)/\(∀l',Ring G.nx l'->(∀z,z∈l'->z∉l)->Ring (uB l G).nx l')
 | [],G,H,hr,hl=>⟨H,fun z hz=>(by cases hz),fun l' h _=>h⟩
 | x::t,G,H,hr,hl=>by
  have hx:=hl x σ;obtain ⟨p1,p2⟩:=H.rg.part hr (fun z hz=>(hl z hz).1);have hpm:G.pv x∈x::t:=by
   rcases List.eq_nil_or_concat t with rfl|⟨a,y,e⟩
   ·have e1:=jf.1 hr;have:=H.rg.pn x hx.1;rw [e1] at this;simp [this]
   ·rw [List.concat_eq_append] at e;subst e;have:=H.rg.last (x:=x) (y:=y) (a:=a) hr (hl y σ).1;rw [this];simp
  have hp:=hl _ hpm;have H1:FF n (prt G x) bJ L ex:=H.Oe hx.1 hp.1 hx.2.1 hp.2.1 hx.2.2 hp.2.2;have hnd:=List.nodup_cons.1 hr.nd;obtain ⟨r1,r2,r3⟩:=LV t (prt G x) H1 p2 (fun z hz=>hl z (by simp [hz]));refine ⟨r1,fun z hz=>?_,fun l' h' hd=>r3 l' (h'.nM (fun hm=>hd x hm σ) (fun hm=>hd _ hm hpm)) (fun z hz hm=>hd z hz (by simp [hm]))⟩;rcases ρ.1 hz with rfl|hz
  ·exact jf.1 (r3 [z] p1 (fun y hy=>by simp at hy;subst hy;exact hnd.1))
  ·exact r2 z hz
theorem Ke (b:Bool) (R l:List Nat):(vU b R l).Perm (R++l):=by
 unfold vU;cases R with
 | nil=>exact ό _
 | cons t s=>
  cases l with
  | nil=>simp
  | cons x r=>
   simp only
   split
   ·exact Φ (l₁:=x::s) (l₂:=t::r) |>.trans (by
     show (t::(r++x::s)).Perm (t::(s++x::r))
     refine List.Perm.cons t ?_
     exact List.perm_middle.trans ((List.Perm.cons x Φ).trans List.perm_middle.symm))
   ·show (t::(r++x::s)).Perm (t::(s++x::r))
    refine List.Perm.cons t ?_;exact List.perm_middle.trans ((List.Perm.cons x Φ).trans List.perm_middle.symm)
theorem uR (lt:Nat->Nat->Bool) (h:Nat) (l:List Nat) (G:FG):(iG lt h l G).up=G.up/\(iG lt h l G).mr=G.mr/\(iG lt h l G).K=G.K/\∀g,g≠h->(iG lt h l G).R g=G.R g:=by
 unfold iG
 split
 ·exact ⟨rfl,rfl,rfl,fun g hg=>aW _ _ hg⟩
 ·exact ⟨rfl,rfl,rfl,fun g hg=>aW _ _ hg⟩
theorem Aa {lt:Nat->Nat->Bool} {h x:Nat} {r:List Nat} (H:FF n G bJ L ex) (h1:1<=h) (hl:IU n G bJ h L lt) (tr:∀a b c,L a b->L b c->L a c) (hR:Ring G.nx (G.R h)) (hx:Ring G.nx (x::r)) (hd:∀z,z∈G.R h->z∉x::r)
  (mR:∀z,z∈G.R h->zf n G bJ h z) (mx:∀z,z∈x::r->zf n G bJ h z) (tR:∀t s,G.R h=t::s->∀y,y∈s->L t y) (tx:∀y,y∈r->L x y) :
  FF n (iG lt h (x::r) G) bJ L ex/\Ring (iG lt h (x::r) G).nx ((iG lt h (x::r) G).R h)/\((iG lt h (x::r) G).R h).Perm (G.R h++x::r)/\
   (∀t s,(iG lt h (x::r) G).R h=t::s->∀y,y∈s->L t y)/\(∀l',Ring G.nx l'->(∀z,z∈l'->z∉G.R h/\z∉x::r)->Ring (iG lt h (x::r) G).nx l'):=by
 cases hRR:G.R h with
 | nil=>
  have e:iG lt h (x::r) G={ G with R:=ai G.R h (x::r) }:=by unfold iG;rw [hRR]
  rw [e];have eR:ai G.R h (x::r) h=x::r:=bN _ _ _;simp only [eR];exact ⟨H.cz _,hx,ό _,fun t s e y hy=>by injection e with e1 e2;subst e1 e2;exact tx y hy,fun l' h _=>h⟩
 | cons t s=>
  have e:iG lt h (x::r) G={ Oe G t x with R:=ai G.R h (vU (lt x t) (t::s) (x::r)) }:=by unfold iG;rw [hRR]
  rw [e];rw [hRR] at hR hd mR;have ht:=mR t σ;have AZ:=mx x σ;have hne:x≠t:=fun e=>hd t σ (by simp [e]);have h0:(0:Int)<bJ t/\(0:Int)<bJ x:=⟨by rw [ht.2.2];omega,by rw [AZ.2.2];omega⟩;have hk:=hl x t AZ.1 ht.1 AZ.2.2 ht.2.2 hne;have eR:ai G.R h (vU (lt x t) (t::s) (x::r)) h=vU (lt x t) (t::s) (x::r):=bN _ _ _;have hj:Ring (dA G.nx t x) (t::r++x::s):=Ring.join hR hx hd;have hts:=tR t s hRR;simp only [eR];refine ⟨(H.Oe ht.1 AZ.1 ht.2.1 AZ.2.1 h0.1 h0.2).cz _,?_,Ke _ _ _,fun t' s' e' y hy=>?_,fun l' hl' hd'=>hl'.nM (fun hm=>(hd' t hm).1 σ) (fun hm=>(hd' x hm).2 σ)⟩
  ·show Ring (dA G.nx t x) _
   unfold vU;simp only;cases hb:lt x t with
   | true=>exact Ring.Wx (a:=t::r) (b:=x::s) hj
   | false=>exact hj
  ·unfold vU at e';simp only at e';cases hb:lt x t with
   | true=>
    rw [hb] at hk;rw [hb,Δ rfl] at e';have hxt:=hk.1 rfl;have e1:x=t':=by injection e'
    have e2:s++t::r=s':=by injection e'
    subst e1 e2;simp only [τ,ρ] at hy;rcases hy with hy|rfl|hy
    ·exact tr _ _ _ hxt (hts y hy)
    ·exact hxt
    ·exact tx y hy
   | false=>
    rw [hb] at hk;rw [hb,Γ σ] at e';have htx:=hk.2 rfl;have e1:t=t':=by injection e'
    have e2:r++x::s=s':=by injection e'
    subst e1 e2;simp only [τ,ρ] at hy;rcases hy with hy|rfl|hy
    ·exact tr _ _ _ htx (tx y hy)
    ·exact htx
    ·exact hts y hy
end
def qD (lt:Nat->Nat->Bool) (h:Nat):List Int->FG->Nat->FG×Nat
 | [],G,q=>(G,q)
 | y::t,G,q=>if y=-1 then qD lt h t G q else qD lt h t (iG lt h [y.toNat] G) (q+rJ h G)
def FJ (T:List Int):List Nat:=T.filterMap (fun y=>if y=-1 then none else some y.toNat)
theorem si (y:Int) (t:List Int):FJ (y::t)=if y=-1 then FJ t else y.toNat::FJ t:=by
 unfold FJ;rw [List.filterMap_cons];split<;>rename_i h<;>by_cases e:y=-1<;>simp_all
theorem KW:∀T:List Int,(FJ T).length=nS T
 | []=>rfl
 | y::t=>by
  rw [si];have ih:=KW t;unfold nS at *
  by_cases e:y=-1
  ·rw [Δ e,List.filter_cons_of_neg (by simpa using e)];exact ih
  ·rw [Γ e,List.filter_cons_of_pos (by simpa using e)];simp [ih]
structure yT (n:Nat) (bJ:Nat->Int) (L:Nat->Nat->Prop) (h:Nat) (ps:List Nat) (G:FG):Prop where
 ff:FF n G bJ L (fun _=>0)
 fr:FR n G bJ L (some h)
 ring:Ring G.nx (G.R h)
 top:∀t s,G.R h=t::s->∀y,y∈s->L t y
 mem:∀y,y∈G.R h->zf n G bJ h y
 nd:ps.Nodup
 pr:∀z,z∈ps->zf n G bJ h z/\G.nx z=z/\z∉G.R h
 all:∀z,zf n G bJ h z->z∈G.R h\/z∈ps
section
variable {n:Nat} {bJ:Nat->Int} {L:Nat->Nat->Prop} {h:Nat} {G:FG}
theorem yT.step {lt:Nat->Nat->Bool} {z:Nat} {ps:List Nat} (H:yT n bJ L h (z::ps) G) (h1:1<=h) (hl:∀G,IU n G bJ h L lt) (tr:∀a b c,L a b->L b c->L a c) :
  yT n bJ L h ps (iG lt h [z] G)/\((iG lt h [z] G).R h).length=(G.R h).length+1:=by
 obtain ⟨z1,z2,z3⟩:=H.pr z σ;have hnd:=List.nodup_cons.1 H.nd;obtain ⟨c1,c2,c3,c4,c5⟩:=Aa H.ff h1 (hl G) tr H.ring (jf.2 z2) (fun y hy hm=>by simp at hm;subst hm;exact z3 hy) H.mem (fun y hy=>by simp at hy;subst hy;exact z1) H.top (fun y hy=>by cases hy);obtain ⟨s1,s2,s3,s4⟩:=uR lt h [z] G;have rt:∀g y,zf n (iG lt h [z] G) bJ g y↔zf n G bJ g y:=fun g y=>by unfold zf;rw [s1]
 have mem':∀y,y∈(iG lt h [z] G).R h↔y∈G.R h\/y=z:=fun y=>by rw [c3.mem_iff];simp
 refine ⟨⟨c1,⟨fun g hg=>?_,fun g y hg=>?_,fun g t s hg hR=>?_⟩,c2,c4,fun y hy=>?_,hnd.2,fun y hy=>?_,fun y hy=>?_⟩,by rw [c3.length_eq];simp⟩
 ·have hgh:g≠h:=fun e=>hg (by rw [e]);rw [s4 g hgh];refine c5 _ (H.fr.ring g hg) (fun y hy=>?_);have hm:=(H.fr.mem g y hg).1 hy;refine ⟨fun hm2=>hgh ?_,fun hm2=>hgh ?_⟩
  ·have:=(H.mem y hm2).2.2;have:=hm.2.2.2;omega
  ·simp at hm2;subst hm2;have:=z1.2.2;have:=hm.2.2.2;omega
 ·have hgh:g≠h:=fun e=>hg (by rw [e]);rw [s4 g hgh,s1];exact H.fr.mem g y hg
 ·have hgh:g≠h:=fun e=>hg (by rw [e]);rw [s4 g hgh] at hR;exact H.fr.top g t s hg hR
 ·rw [rt];rcases (mem' y).1 hy with hy|rfl
  ·exact H.mem y hy
  ·exact z1
 ·obtain ⟨y1,y2,y3⟩:=H.pr y (by simp [hy]);have R6:y≠z:=fun e=>hnd.1 (e▸hy);refine ⟨(rt h y).2 y1,jf.1 (c5 [y] (jf.2 y2) (fun w hw=>by simp at hw;subst hw;exact ⟨y3,by simpa using R6⟩)),fun hm=>?_⟩;rcases (mem' y).1 hm with hm|hm
  ·exact y3 hm
  ·exact R6 hm
 ·rcases H.all y ((rt h y).1 hy) with a|a
  ·exact Α ((mem' y).2 (Α a))
  ·rcases ρ.1 a with a|a
   ·exact Α ((mem' y).2 (Β a))
   ·exact Β a
theorem CP (h:Nat) (G:FG):rJ h G=min 1 (G.R h).length:=by
 unfold rJ;cases G.R h with
 | nil=>simp
 | cons t s=>simp
theorem Kj {lt:Nat->Nat->Bool} (h1:1<=h) (hl:∀G,IU n G bJ h L lt) (tr:∀a b c,L a b->L b c->L a c):∀ (T:List Int) (G:FG) (q:Nat),yT n bJ L h (FJ T) G->
  yT n bJ L h [] (qD lt h T G q).1/\((qD lt h T G q).1.up=G.up/\(qD lt h T G q).1.mr=G.mr/\(qD lt h T G q).1.K=G.K/\∀g,g≠h->(qD lt h T G q).1.R g=G.R g)/\
   ((qD lt h T G q).1.R h).Perm (G.R h++FJ T)/\(qD lt h T G q).2+min 1 ((qD lt h T G q).1.R h).length=q+nS T+min 1 (G.R h).length
 | [],G,q,H=>⟨H,⟨rfl,rfl,rfl,fun _ _=>rfl⟩,by simp [FJ,qD],by simp [qD,nS]⟩
 | y::t,G,q,H=>by
  rw [si] at H;unfold qD
  by_cases e:y=-1
  ·rw [Δ e] at H ⊢;obtain ⟨r1,r2,r3,r4⟩:=Kj h1 hl tr t G q H;refine ⟨r1,r2,by rw [si,Δ e];exact r3,?_⟩;have:nS (y::t)=nS t:=by unfold nS;rw [List.filter_cons_of_neg (by simpa using e)]
   rw [this];exact r4
  ·rw [Γ e] at H ⊢;obtain ⟨k1,k2⟩:=H.step h1 hl tr;obtain ⟨s1,s2,s3,s4⟩:=uR lt h [y.toNat] G;obtain ⟨r1,r2,r3,r4⟩:=Kj h1 hl tr t _ (q+rJ h G) k1;have hp:((iG lt h [y.toNat] G).R h).Perm (G.R h++[y.toNat]):=by
    obtain ⟨z1,z2,z3⟩:=H.pr y.toNat σ;exact (Aa H.ff h1 (hl G) tr H.ring (jf.2 z2) (fun w hw hm=>by simp at hm;subst hm;exact z3 hw) H.mem (fun w hw=>by simp at hw;subst hw;exact z1) H.top (fun w hw=>by cases hw)).2.2.1
   refine ⟨r1,⟨r2.1.trans s1,r2.2.1.trans s2,r2.2.2.1.trans s3,fun g hg=>(r2.2.2.2 g hg).trans (s4 g hg)⟩,?_,?_⟩
   ·rw [si,Γ e];exact r3.trans ((hp.append_right (FJ t)).trans σ)
   ·have:nS (y::t)=nS t+1:=by unfold nS;rw [List.filter_cons_of_pos (by simpa using e)];rfl
    rw [this];rw [CP] at r4;rw [CP];omega
theorem TT.degs {T:List Int} (H:TT n bJ L h T [] G):(FJ T).Pairwise (fun a b=>(G.K a).length≠(G.K b).length):=by
 unfold FJ;rw [List.pairwise_filterMap,List.pairwise_iff_getElem];intro i j hi hj hij a ha b hb;have f:∀ (i:Nat) (hi:i<T.length) (a:Nat),(if T[i]=-1 then none else some T[i].toNat)=some a->(G.K a).length=i:=fun i hi a ha=>by
  rcases H.tab i T[i] (ε hi) with e|⟨z,e1,_,e2,_⟩
  ·rw [Δ e] at ha;cases ha
  ·rw [Γ ω] at ha;have:T[i].toNat=a:=by injection ha
   obtain rfl:z=a:=ω;exact e2
 rw [f i hi a ha,f j hj b hb];omega
theorem TT.ri {T:List Int} (H:TT n bJ L h T [] G):yT n bJ L h (FJ T) G:=by
 have hm:∀z,z∈FJ T↔(z:Int)∈T:=fun z=>by
  unfold FJ;rw [List.mem_filterMap];constructor
  ·rintro ⟨y,hy,e⟩
   by_cases e1:y=-1
   ·rw [Δ e1] at e;cases e
   ·rw [Γ e1] at e;have e2:y.toNat=z:=by injection e
    obtain ⟨i,hi⟩:=List.mem_iff_getElem?.1 hy;rcases H.tab i y hi with e3|⟨w,e3,_⟩
    ·exact absurd e3 e1
    ·rw [show (z:Int)=y by omega];exact hy
  ·intro hz;exact ⟨z,hz,by rw [Γ ω];simp⟩
 refine ⟨H.ff,H.fr,by rw [H.zero];exact Ring.nil _,fun t s e=>(by rw [H.zero] at e;cases e),fun y hy=>(by rw [H.zero] at hy;cases hy),H.degs.imp (fun {a b} hab e=>hab (by rw [e])),fun z hz=>?_,fun z hz=>?_⟩
 ·obtain ⟨i,hi⟩:=List.mem_iff_getElem?.1 ((hm z).1 hz);rcases H.tab i z hi with e3|⟨w,e3,e4,_⟩
  ·omega
  ·obtain rfl:z=w:=ω;exact ⟨e4,H.one z e4,by rw [H.zero];simp⟩
 ·rcases H.all z hz with a|a
  ·cases a
  ·exact Β ((hm z).2 a)
end
structure yB (A:NS) (G:FG):Prop where
 ff:FF A.cs.length G (fun y=>(A.c y).i) (bX A) (fun _=>0)
 fr:FR A.cs.length G (fun y=>(A.c y).i) (bX A) none
theorem FR.all {n:Nat} {G:FG} {bJ:Nat->Int} {L:Nat->Nat->Prop} (H:FR n G bJ L none) (h:Nat):Ring G.nx (G.R h)/\(∀y,y∈G.R h↔1<=h/\zf n G bJ h y)/\∀t s,G.R h=t::s->∀y,y∈s->L t y:=
 ⟨H.ring h σ,fun y=>H.mem h y σ,fun t s e=>H.top h t s σ e⟩
section
variable {A:NS} {G:FG}
theorem yB.rU (I:yB A G) {h:Int} {m:Nat} (hm:dF A h=some m):zf A.cs.length G (fun y=>(A.c y).i) h.toNat m/\1<=h.toNat:=by
 have h0:0<h:=by
  apply Ϙ;intro hn;rw [o9 hn] at hm;cases hm
 obtain ⟨h1,h2,h3⟩:=(iB h0).1 hm;refine ⟨⟨h1,?_,by show (A.c m).i=_;rw [h2];omega⟩,by omega⟩;rcases I.ff.Ir m h1 with e|⟨p,hp,e,_⟩
 ·exact e
 ·have ho:=I.ff.ord m p h1 e;have hh:=(I.ff.home m p h1 e).1;have hh':(A.c m).i=(A.c p).i:=hh;rcases h3 p hp (by rw [←hh',h2]) with e2|e2
  ·subst e2;exact absurd ho vV
  ·exact absurd ho (pI e2)
theorem yB.pK (I:yB A G) {h:Nat} {t:Nat} {s:List Nat} (hR:G.R h=t::s):dF A (h:Int)=some t/\1<=h/\t<A.cs.length/\G.up t=-1/\(A.c t).i=h:=by
 obtain ⟨r1,r2,r3⟩:=I.fr.all h;obtain ⟨h1,t1,t2,t3⟩:=(r2 t).1 (by rw [hR];simp);have t3':(A.c t).i=(h:Int):=t3;refine ⟨?_,h1,t1,t2,t3'⟩;cases hm:dF A (h:Int) with
 | none=>
  have:=(jB ω).1 hm;have hp:0<dI A (h:Int):=eH.2 ⟨t,t1,t3',ω⟩;omega
 | some m=>
  obtain ⟨m1,m2⟩:=I.rU hm;rw [π] at m1;have hmem:=(r2 m).2 ⟨h1,m1⟩;rw [hR] at hmem;rcases ρ.1 hmem with e|e
  ·rw [e]
  ·have a1:=r3 t s hR m e;obtain ⟨_,_,h3⟩:=(iB ω).1 hm;rcases h3 t t1 t3' with e2|e2
   ·rw [e2]
   ·exact absurd a1 (pI e2)
theorem yB.Qf (I:yB A G) {h:Nat} (hR:G.R h=[]):dF A (h:Int)=none:=by
 cases hm:dF A (h:Int) with
 | none=>rfl
 | some m=>
  obtain ⟨m1,m2⟩:=I.rU hm;rw [π] at m1 m2;have:=((I.fr.all h).2.1 m).2 ⟨m2,m1⟩;rw [hR] at this;cases this
theorem yB.first (I:yB A G) {h:Nat} {t:Nat} {s:List Nat} (hR:G.R h=t::s) {y:Nat} (hy:y<A.cs.length) (hh:(A.c y).i=h) (hne:y≠t):bX A t y:=by
 obtain ⟨m1,m2,_⟩:=I.pK hR;obtain ⟨_,_,h3⟩:=(iB ω).1 m1;exact (h3 y hy hh).resolve_left hne
theorem yB.out (I:yB A G) {h:Nat} {z:Nat} (hz:z∈G.R h):1<=h/\z<A.cs.length/\G.up z=-1/\(A.c z).i=h/\bQ A (z:Int)=true:=by
 obtain ⟨h1,t1,t2,t3⟩:=((I.fr.all h).2.1 z).1 hz;have t3':(A.c z).i=(h:Int):=t3;exact ⟨h1,t1,t2,t3',(ae _ _).2 ⟨t1,ω⟩⟩
end
def ow (A:NS) (a b:Nat):Bool:=decide (bX A a b)
theorem Ah (A:NS) (n:Nat) (G:FG) (bJ:Nat->Int) (h:Nat):IU n G bJ h (bX A) (ow A):=fun a b _ _ _ _ hne=>
 ⟨fun e=>by unfold ow at e;simpa using e,fun e=>by
  unfold ow at e;have e':¬bX A a b:=by simpa using e
  exact (iQ hne).resolve_left e'⟩
def oG (h x:Nat) (rs:List Nat) (G:FG):FG:={ uB (x::rs) (dB G x) with R:=ai G.R h [] }
def rH (A:NS) (h x:Nat) (rs:List Nat) (G:FG):TD:=tid (ow A) rs ⟨[],oG h x rs G,0⟩
def qU (A:NS) (h x:Nat) (rs:List Nat) (G:FG):FG×Nat:=qD (ow A) h (rH A h x rs G).T (rH A h x rs G).G 0
section
variable {A:NS} {G:FG}
theorem Yk (I:yB A G) (ok:A.Ok) {h x:Nat} {s:List Nat} (hR:G.R h=x::s) :
  (Ring (dB G x).nx (x::(kl (G.K x)++s))/\(∀z,z∈x::(kl (G.K x)++s)->z<A.cs.length))/\
  TT A.cs.length (fun y=>((aZ A x).c y).i) (bX A) h [] (kl (G.K x)++s) (oG h x (kl (G.K x)++s) G)/\
  (∀z,z<A.cs.length->((aZ A (x:Int)).c z).i=(h:Int)->bQ A (z:Int)=true)/\
  yT A.cs.length (fun y=>((aZ A x).c y).i) (bX A) h (FJ (rH A h x (kl (G.K x)++s) G).T) (rH A h x (kl (G.K x)++s) G).G/\(rH A h x (kl (G.K x)++s) G).G.R h=[]/\
  yB (aZ A x) (qU A h x (kl (G.K x)++s) G).1/\
  (rH A h x (kl (G.K x)++s) G).q+(qU A h x (kl (G.K x)++s) G).2<=(G.K x).length+s.length/\
  (rH A h x (kl (G.K x)++s) G).q+((qU A h x (kl (G.K x)++s) G).1.R h).length=(G.K x).length+s.length/\
  (((qU A h x (kl (G.K x)++s) G).1.R h).Pairwise (fun a b=>((qU A h x (kl (G.K x)++s) G).1.K a).length≠((qU A h x (kl (G.K x)++s) G).1.K b).length))/\
  (∀g,g≠h->(qU A h x (kl (G.K x)++s) G).1.R g=G.R g)/\(∀y,y∈(rH A h x (kl (G.K x)++s) G).T->y=-1\/0<=y)/\(rH A h x (kl (G.K x)++s) G).T.length<=A.cs.length+1/\(qU A h x (kl (G.K x)++s) G).1.mr=(rH A h x (kl (G.K x)++s) G).G.mr:=by
 obtain ⟨m1,h1,hx,ux,hxh⟩:=I.pK hR;obtain ⟨_,_,_,_,hin⟩:=I.out (h:=h) (z:=x) (by rw [hR];simp);have hc:=fun y=>xz hin y;have hcl:=eU A (x:Int);have h0:(0:Int)<(A.c x).i:=ω;obtain ⟨rF,r1,r2⟩:=I.ff.raise hx ux h0;have mx:=I.ff.free x hx ux;have up1:=Ii G ux;have K1:=Ej G x;obtain ⟨q1,q2,q3⟩:=I.fr.all h;rw [hR] at q1;have L8:∀z,G.up z=-1->z∉G.K x:=fun z hz=>I.ff.r9 hx hz;have QT:Ring (dB G x).nx (x::(kl (G.K x)++s)):=by
  have:=r2 [] s q1 (fun z hz=>L8 z (((q2 z).1 (by rw [hR];exact hz)).2.2.1));exact this
 have sr:∀z,z∈s->zf A.cs.length G (fun y=>(A.c y).i) h z:=fun z hz=>((q2 z).1 (by rw [hR];simp [hz])).2;have kr:∀z,z∈G.K x->z<A.cs.length/\G.up z=x/\(A.c z).i=h:=fun z hz=>by
  obtain ⟨k1,k2⟩:=I.ff.kid x z hx hz;have k3:(A.c z).i=(A.c x).i:=(I.ff.home z x k1 k2).1;exact ⟨k1,k2,ω⟩
 have rsm:∀z,z∈kl (G.K x)++s↔z∈G.K x\/z∈s:=fun z=>by simp [Yf]
 have XC:∀z,z∈x::(kl (G.K x)++s)->z<A.cs.length/\(dB G x).up z=-1/\0<(A.c z).i:=fun z hz=>by
  rw [up1];rcases ρ.1 hz with rfl|hz
  ·exact ⟨hx,by rw [ux];split<;>rfl,h0⟩
  ·rcases (rsm z).1 hz with hz|hz
   ·exact ⟨(kr z hz).1,by rw [Δ hz],by have:=(kr z hz).2.2;omega⟩
   ·have a:=sr z hz;have a3:(A.c z).i=h:=a.2.2;exact ⟨a.1,by rw [Γ (L8 z a.2.1)];exact a.2.1,ω⟩
 have hnd:=List.nodup_cons.1 QT.nd;obtain ⟨p1,p2,p3⟩:=LV (x::(kl (G.K x)++s)) (dB G x) rF QT XC;obtain ⟨e1,e2,e3,e4⟩:=xQ (x::(kl (G.K x)++s)) (dB G x);have up3:∀z,(oG h x (kl (G.K x)++s) G).up z=if z∈G.K x then -1 else G.up z:=fun z=>by
  show (uB (x::(kl (G.K x)++s)) (dB G x)).up z=_
  rw [e1,up1]
 have K3:(oG h x (kl (G.K x)++s) G).K=ai G.K x []:=by
  show (uB (x::(kl (G.K x)++s)) (dB G x)).K=_
  rw [e3,K1]
 have YO:(oG h x (kl (G.K x)++s) G).up x=-1:=by rw [up3,ux];split<;>rfl
 have vL:∀z,z≠x->((aZ A (x:Int)).c z).i=(A.c z).i:=fun z hz=>by rw [hc,Γ hz]
 have Bc:((aZ A (x:Int)).c x).i=0:=by rw [hc,Δ rfl];rfl
 have F3:FF A.cs.length (oG h x (kl (G.K x)++s) G) (fun y=>((aZ A (x:Int)).c y).i) (bX A) (fun _=>0):=by
  refine (p1.cz (ai G.R h [])).mono (fun y p hy hu ho=>?_) (fun y hy h2=>?_)
  ·have hu':(oG h x (kl (G.K x)++s) G).up y=p:=hu;have hyx:y≠x:=fun e=>by subst e;rw [YO] at hu';omega
   have hpx:p≠x:=fun e=>by
    have hk:=(p1.cz (ai G.R h [])).above hy hu;have hk2:y∈(oG h x (kl (G.K x)++s) G).K p:=hk.2;rw [K3,e,bN] at hk2;cases hk2
   have hh:=p1.home y p hy hu;have EO:(A.c y).i=(A.c p).i:=hh.1;have hh2:0<(A.c y).i:=hh.2;exact ⟨by simp only [vL y hyx,vL p hpx];exact EO,by simp only [vL y hyx];exact hh2,ho⟩
  ·by_cases e:y=x
   ·subst e;exact ⟨YO,by show (oG h y (kl (G.K y)++s) G).K y=[];rw [K3,bN],p2 y σ⟩
   ·have h3:¬0<(A.c y).i:=by simp only [vL y e] at h2;exact h2
    exact p1.alone y hy h3
 have rt3:∀g z,zf A.cs.length (oG h x (kl (G.K x)++s) G) (fun y=>((aZ A (x:Int)).c y).i) g z->1<=g->z≠x/\(A.c z).i=g/\(z∈G.K x\/G.up z=-1):=fun g z hz hg=>by
  obtain ⟨a1,a2,a3⟩:=hz;have hzx:z≠x:=fun e=>by subst e;simp only [Bc] at a3;omega
  simp only [vL z hzx] at a3;rw [up3] at a2;refine ⟨hzx,a3,?_⟩
  split at a2
  ·rename_i hk;exact Α hk
  ·exact Β a2
 have R3:∀g,g≠h->(oG h x (kl (G.K x)++s) G).R g=G.R g:=fun g hg=>aW _ _ hg;have fr3:FR A.cs.length (oG h x (kl (G.K x)++s) G) (fun y=>((aZ A (x:Int)).c y).i) (bX A) (some h):=by
  refine ⟨fun g hg=>?_,fun g z hg=>?_,fun g t s' hg hR'=>?_⟩
  all_goals have hgh:g≠h:=fun e=>hg (by rw [e])
  ·rw [R3 g hgh];obtain ⟨a1,a2,_⟩:=I.fr.all g;have hz:∀z,z∈G.R g->G.up z=-1/\(A.c z).i=g:=fun z hz=>⟨((a2 z).1 hz).2.2.1,((a2 z).1 hz).2.2.2⟩
   refine p3 _ (r1 _ a1 (fun hm=>hgh (by have:=(hz x hm).2;omega)) (fun z hm=>L8 z (hz z hm).1)) (fun z hm hm2=>?_);have hzg:=(hz z hm).2;rcases ρ.1 hm2 with e|hm2
   ·subst e;exact hgh ω
   ·rcases (rsm z).1 hm2 with hm2|hm2
    ·have:=(kr z hm2).2.2;exact hgh ω
    ·have:(A.c z).i=h:=(sr z hm2).2.2;exact hgh ω
  ·rw [R3 g hgh,(I.fr.all g).2.1 z];constructor
   ·rintro ⟨a0,a1,a2,a3⟩;have a3':(A.c z).i=g:=a3;have hzx:z≠x:=fun e=>by subst e;exact hgh ω
    exact ⟨a0,a1,by rw [up3,Γ (L8 z a2)];exact a2,by simp only [vL z hzx];exact a3'⟩
   ·rintro ⟨a0,a1,a2,a3⟩;obtain ⟨b1,b2,b3⟩:=rt3 g z ⟨a1,a2,a3⟩ a0;rcases b3 with b3|b3
    ·have:=(kr z b3).2.2;exact absurd (show g=h by omega) hgh
    ·exact ⟨a0,a1,b3,b2⟩
  ·rw [R3 g hgh] at hR';exact (I.fr.all g).2.2 t s' hR'
 have T3:TT A.cs.length (fun y=>((aZ A (x:Int)).c y).i) (bX A) h [] (kl (G.K x)++s) (oG h x (kl (G.K x)++s) G):=by
  refine ⟨F3,fr3,bN _ _ _,fun z hz=>?_,fun d y hy=>by simp at hy,hnd.2,fun z hz=>?_,fun z hz=>?_⟩
  ·obtain ⟨b1,b2,b3⟩:=rt3 h z hz h1;refine p2 z ?_;simp only [ρ,rsm];rcases b3 with b3|b3
   ·exact Β (Α b3)
   ·have:=(q2 z).2 ⟨h1,hz.1,b3,b2⟩;rw [hR] at this;rcases ρ.1 this with e|e
    ·exact absurd e b1
    ·exact Β (Β e)
  ·have hzx:z≠x:=fun e=>hnd.1 (e▸hz);have a:=XC z (by simp [hz]);refine ⟨a.1,by rw [up3,←up1];exact a.2.1,?_⟩;simp only [vL z hzx];rcases (rsm z).1 hz with b|b
   ·exact (kr z b).2.2
   ·exact (sr z b).2.2
  ·obtain ⟨b1,b2,b3⟩:=rt3 h z hz h1;left;rw [rsm];rcases b3 with b3|b3
   ·exact Α b3
   ·have:=(q2 z).2 ⟨h1,hz.1,b3,b2⟩;rw [hR] at this;rcases ρ.1 this with e|e
    ·exact absurd e b1
    ·exact Β e
 obtain ⟨t1,t2,t3,t4⟩:=Rb h1 (fun G=>Ah A A.cs.length G _ h) (kl (G.K x)++s) ⟨[],oG h x (kl (G.K x)++s) G,0⟩ T3 σ;have eD:tid (ow A) (kl (G.K x)++s) ⟨[],oG h x (kl (G.K x)++s) G,0⟩=rH A h x (kl (G.K x)++s) G:=rfl;rw [eD] at t1 t2 t3 t4;have YW:=t1.ri;obtain ⟨u1,u2,u3,u4⟩:=Kj h1 (fun G=>Ah A A.cs.length G _ h) (fun a b c=>bT) _ _ 0 YW;have e4':qD (ow A) h (rH A h x (kl (G.K x)++s) G).T (rH A h x (kl (G.K x)++s) G).G 0=qU A h x (kl (G.K x)++s) G:=rfl;rw [e4'] at u1 u2 u3 u4;rw [t1.zero,Ϛ] at u3;rw [t1.zero] at u4;have hlen:=u3.length_eq;rw [KW] at hlen
 have ho0:nS (TD.mk [] (oG h x (kl (G.K x)++s) G) 0).T=0:=rfl;have hl2:(kl (G.K x)++s).length=(G.K x).length+s.length:=by rw [υ,Xw]
 have hq0:(TD.mk [] (oG h x (kl (G.K x)++s) G) 0).q=0:=rfl;rw [ho0,hl2,hq0] at t2;simp only [List.length_nil] at u4;refine ⟨⟨QT,fun z hz=>(XC z hz).1⟩,T3,fun z hz hh=>?_,YW,t1.zero,⟨?_,?_⟩,?_,?_,?_,?_,fun y hy=>?_,t4,u2.2.1⟩
 ·have hzx:z≠x:=fun e=>by subst e;rw [Bc] at hh;omega
  rw [vL z hzx] at hh;exact (ae _ _).2 ⟨hz,ω⟩
 ·rw [hcl];refine u1.ff.mono (fun y p hy hu ho=>?_) (fun y hy h2=>u1.ff.alone y hy h2);have hh:=u1.ff.home y p hy hu;have EO:((aZ A (x:Int)).c y).i=((aZ A (x:Int)).c p).i:=hh.1;have hh2:0<((aZ A (x:Int)).c y).i:=hh.2;have hyx:y≠x:=fun e=>by rw [e,Bc] at hh2;omega
  have hpx:p≠x:=fun e=>by rw [e,Bc] at EO;omega
  exact ⟨hh.1,hh.2,(eZ (by rw [hc,Γ hpx]) (by rw [hc,Γ hyx])).2 ho⟩
 ·rw [hcl];have mm:∀g y,y∈(qU A h x (kl (G.K x)++s) G).1.R g↔1<=g/\y<A.cs.length/\(qU A h x (kl (G.K x)++s) G).1.up y=-1/\((aZ A (x:Int)).c y).i=g:=fun g y=>by
   by_cases e:g=h
   ·subst e;constructor
    ·intro hm;exact ⟨h1,u1.mem y hm⟩
    ·rintro ⟨_,a⟩;rcases u1.all y a with b|b
     ·exact b
     ·cases b
   ·exact u1.fr.mem g y (by simp;exact e)
  refine ⟨fun g _=>?_,fun g y _=>mm g y,fun g t s' _ hR' y hy=>?_⟩
  ·by_cases e:g=h
   ·subst e;exact u1.ring
   ·exact u1.fr.ring g (by simp;exact e)
  ·have hL:bX A t y:=by
    by_cases e:g=h
    ·subst e;exact u1.top t s' hR' y hy
    ·exact u1.fr.top g t s' (by simp;exact e) hR' y hy
   have ht:=(mm g t).1 (by rw [hR'];simp);have hy':=(mm g y).1 (by rw [hR'];simp [hy]);have htx:t≠x:=fun e=>by subst e;rw [Bc] at ht;omega
   have hyx:y≠x:=fun e=>by subst e;rw [Bc] at hy';omega
   exact (eZ (by rw [hc,Γ htx]) (by rw [hc,Γ hyx])).2 hL
 ·omega
 ·omega
 ·rw [u2.2.2.1];exact u3.symm.pairwise (l:=FJ _) t1.degs (fun {a b} h=>Ne.symm h)
 ·intro g hg;rw [u2.2.2.2 g hg,t3];exact R3 g hg
 ·obtain ⟨i,hi⟩:=List.mem_iff_getElem?.1 hy;rcases t1.tab i y hi with e|⟨z,e,_⟩
  ·exact Α e
  ·exact Β ω
end
end Go.Proofs.YtklibcncmbofpaaGreat
namespace Go.Proofs.YtklibcncmbofpaaGreat
open Go Go.RowKit
theorem Gs {w:World} {base g n cap:Nat} {l:List Int} (h:w.ownsRow base 3 1 (.slice (some ⟨g,0,none⟩) n cap) n (aP l)) (j:Nat) (x:Int):(w.setCell ⟨g,j,none⟩ (.int .i64 x)).ownsRow base 3 1 (.slice (some ⟨g,0,none⟩) n cap) n (aP (l.set j x)):=by
 have hl:l.length=n:=by have:=h.1;rw [fq] at this;omega
 rcases h.2 with ⟨h1,_⟩|⟨g',cap',cur,h1,hb,hg,hn,hc,hs,ht⟩
 ·cases h1
 ·cases h1;refine ⟨by rw [fq,Ι];omega,Β ⟨g,cap,cur.setIfInBounds j (.int .i64 x),rfl,by simpa using hb,?_,hn,hc,ζ,?_⟩⟩
  ·simp [World.setCell,Array.getElem?_modify,hg]
  ·rw [Array.toList_setIfInBounds]
   by_cases hj:j<n
   ·rw [List.take_set,ht];unfold aP;rw [List.map_set]
   ·rw [List.take_set_of_le ω,ht,List.set_eq_of_length_le ω]
section
variable {w:World} {B:FB} {F:List Nat} {gt ct:Nat} {A:NS} {st:Nat} {G:FG}
theorem dZ.own {w0 w1 w2:World} {e:TypeId} {size k:Nat} {v:Value} {xs:List Value} (h:dZ w1 B F gt ct A st G) (hb:∀x,x∈B.blk F gt->x<w0.heap.size) (ho:w1.ownsRow w0.heap.size e size v k xs) (hu:aa v.ownBlock.toList w1 w2):dZ w2 B F gt ct A st G:=
 h.upd hu (fun x hx hm=>by
  have h1:=(ho.lt x (by simpa using hx)).1;have h2:=hb x hm
  omega)
theorem Nr (M:dZ w B F gt ct A st G) {rs:List Nat} {v:Value} {h:Nat} {bJ:Nat->Int} (h1:1<=h) (hin:∀z,z<A.cs.length->bJ z=h->bQ A (z:Int)=true) (H:TT A.cs.length bJ (bX A) h [] rs G) (hv:iC w [B.c,B.bn,B.bp,B.bl] v (pU rs)) :
  Calls Tryz.prog 229 #[.pointer (some ⟨B.n0,0,none⟩),v] w fun e w'=>∃v',e=.returned v'/\w'.ownsRow w.heap.size 3 1 v' (tid (ow A) rs ⟨[],G,0⟩).T.length (aP (tid (ow A) rs ⟨[],G,0⟩).T)/\
   dZ w' B F gt ct A (bR st (tid (ow A) rs ⟨[],G,0⟩).q) (tid (ow A) rs ⟨[],G,0⟩).G/\aa [B.c,B.bn,B.bp,B.bl] w w':=by
 have hc1:=M.cells.ok.c1;have hz:=fO M.cells.ou;have hlr:rs.length<=A.cs.length:=jq _ _ H.nd (fun z hz=>(H.xr z hz).1);obtain ⟨a,cap,rfl,hcap,hcap2,hel⟩:=hv;rw [lV] at hcap ⊢;have hlt:=M.lt;obtain ⟨g1,g2,g3,g4,g5,g6,g7⟩:=M.d3;obtain ⟨e1,e2,e3,e4,e5⟩:=M.d2;have cn:=M.cn;obtain ⟨D,hD⟩:∃D,tid (ow A) rs ⟨[],G,0⟩=D:=⟨_,rfl⟩;rw [hD];have hbl:∀y,y∈[B.c,B.bn,B.bp,B.bl]->y<w.heap.size:=fun y hy=>by
  simp only [ρ,ς,or_false] at hy;rcases hy with rfl|rfl|rfl|rfl
  ·exact M.cells.lt _ M.cells.mem
  ·exact hlt _ (by simp [FB.blk])
  ·exact hlt _ (by simp [FB.blk])
  ·exact hlt _ (by simp [FB.blk])
 have WG:=χ hlt;have H0:=χ (ψ M (ψ H (ψ hD (ψ hel (ψ hbl hz)))));clear M H hD hel hbl hz hlt;generalize hrl:rs.length=len at *;have Tw:=χ hrl;clear hrl
 go_enter Tryz.func229,Tryz.ntmps229
 go_wp2
 go_loopw [5,12] (fun s5 s12 wr=>∃ (i:Nat) (T:List Int) (G':FG) (q:Nat),i<=len/\s12=.int .i64 (i:Int)/\tid (ow A) (rs.drop i) ⟨T,G',q⟩=D/\TT A.cs.length bJ (bX A) h T (rs.drop i) G'/\T.length<=A.cs.length+1/\
  wr.ownsRow w.heap.size 3 1 s5 T.length (aP T)/\dZ wr B F gt ct A (bR st q) G'/\aa [B.c,B.bn,B.bp,B.bl] w wr) (fun _ s12 _=>len-(intOf s12).toNat)
 case atStart=>
  obtain ⟨M,H,hD,hel,hbl,hz⟩:=H0.out;exact ⟨0,[],G,0,ω,rfl,hD,H,σ,World.ownsRow_nil _ _ _ _,by rw [hz];exact M,aa.refl _ _⟩
 case round=>
  obtain ⟨i,T,G',q,hi,rfl,hD,hT,Nq,ho,hM,hu⟩:=hrel;rename World=>wr
  by_cases hil:i<len
  ·obtain ⟨x,hx⟩:∃x,rs[i]?=some x:=⟨_,ε (by rw [Tw.out];exact hil)⟩;have hdr:rs.drop i=x::rs.drop (i+1):=by
    rw [ϛ (by rw [Tw.out];exact hil)]
    congr 1
    rw [ε (by rw [Tw.out];exact hil)] at hx
    injection hx
   rw [hdr] at hD hT;obtain ⟨gr,off,rfl,hgl,EU,hcx⟩:=H0.out.2.2.2.1 i (x:Int) (by unfold pU;rw [ϑ,hx];rfl);have hcx:=hu.kept hcx EU;have hiI:(i:Int)<(len:Int):=ω;have hw1:IntKind.i64.wrap ((i:Int)+1)=(i:Int)+1:=Μ _ ω;have HR:=χ (ψ hD (ψ hT (ψ ho (ψ hM hu))));clear hD hT ho hM hu hx hdr;go_wp2;obtain ⟨D1,hD1⟩:∃D1,Jp (ow A) (nS T+1) T x G' q=D1:=⟨_,rfl⟩;have HD1:=χ hD1;clear hD1
   go_loopg [5,7] (nS T+1) (fun fu s5 s7 wr2=>∃ (T1:List Int) (x1:Nat) (G1:FG) (q1:Nat),s7=.int .i64 (x1:Int)/\Jp (ow A) fu T1 x1 G1 q1=D1/\nS T1<fu/\TT A.cs.length bJ (bX A) h T1 (x1::rs.drop (i+1)) G1/\T1.length<=A.cs.length+1/\
    wr2.ownsRow w.heap.size 3 1 s5 T1.length (aP T1)/\dZ wr2 B F gt ct A (bR st q1) G1/\aa [B.c,B.bn,B.bp,B.bl] w wr2)
   case atStart=>exact ⟨T,x,G',q,rfl,HD1.out,ω,HR.out.2.1,Nq,HR.out.2.2.1,HR.out.2.2.2.1,HR.out.2.2.2.2⟩
   case round=>
    rename Nat=>fu;obtain ⟨T1,x1,G1,q1,rfl,hI,Bq,hT1,hTl1,ho1,hM1,hu1⟩:=hrel;rename World=>wr2;obtain ⟨fv,rfl⟩:∃fv,fu=fv+1:=⟨fu-1,ω⟩;have AZ:=hT1.xr x1 σ;have hx1:=AZ.1;have hx1I:(x1:Int)<(A.cs.length:Int):=ω;have hq2:=hM1.h2;have hp2:=hM1.p2 hx1;have hdn:=hT1.ff.ML hx1;obtain ⟨d,hd⟩:∃d,(G1.K x1).length=d:=⟨_,rfl⟩;rw [hd] at hp2 hdn;have hsz1:=hu1.size;have HI:=χ (ψ hI (ψ Bq (ψ hT1 (ψ hM1 (ψ hu1 (ψ ho1 (ψ hd AZ)))))));clear hI Bq hT1 hM1 hu1 hd AZ hx1;obtain ⟨a5,c5,rfl,hc5⟩:=aY ho1;clear ho1;go_wp2
    go_loopw [5] (fun s5 wr3=>∃m:Nat,T1.length+m<=max T1.length (d+1)/\wr3.ownsRow w.heap.size 3 1 s5 (T1.length+m) (aP (T1++List.replicate m (-1)))/\dZ wr3 B F gt ct A (bR st q1) G1/\aa [B.c,B.bn,B.bp,B.bl] w wr3) (fun s5 _=>match s5 with | .slice _ l _=>d+1-l|_=>0)
    case atStart=>
     obtain ⟨hI,Bq,hT1,hM1,hu1,ho1,hd,AZ⟩:=HI.out;exact ⟨0,ω,by simpa using ho1,hM1,hu1⟩
    case round=>
     obtain ⟨m,hm,ho,hM,hu⟩:=hrel;rename World=>wr3;obtain ⟨a,c,rfl,hc⟩:=aY ho
     by_cases hmd:T1.length+m<=d
     ·have hmdI:((T1.length+m:Nat):Int)<=(d:Int):=ω;have hsz3:=hu.size;have HU:=χ (ψ hM hu);clear hM hu
      go_wp2_with (first
       | (at_builtin;refine aV rfl _ _ 26 rfl w.heap.size 3 (.int .i64 0) 1 8 Tryz.underlying26 fE rfl δ _ _ _ rfl (ho) [.int .i64 (-1)] rfl (by simp [Value.oneCell']) (by first|rfl|(rw [Κ];rfl)) μ ω (ω) ?_;intro v2 w2 ho2 hu2 mG)
       | fail)
      obtain ⟨hM,hu⟩:=HU.out;obtain ⟨a2,c2,rfl,_⟩:=aY ho2;refine ⟨⟨m+1,ω,?_,hM.own WG.out ho hu2,hu.own ho (Θ _) hu2⟩,ζ⟩;rw [List.replicate_succ',←ϋ,bP];exact ho2
     ·have hm':m=d+1-T1.length:=ω;have hP:T1++List.replicate m (-1)=jN T1 d:=by unfold jN;rw [hm']
      rw [hP] at ho;obtain ⟨hI,Bq,hT1,hM1,hu1,ho1,hd,AZ⟩:=HI.out;obtain ⟨s0,s1,s2⟩:=hT1.step (Ah A A.cs.length G1 _ h) h1;rw [hd] at s0 s1 s2;unfold Jp at hI;rw [hd] at hI;have ZV:=DU T1 d;have hPn:T1.length+m=(jN T1 d).length:=ω;rw [hPn] at ho ⊢;obtain ⟨P,eP⟩:∃P,jN T1 d=P:=⟨_,rfl⟩;rw [eP] at ho s0 s1 s2 hI ZV ⊢;obtain ⟨g,cp,hv,hbg,hgs,hcp1,hcp2,hcell,U9⟩:=fM ho ω;have hcd:wr3.cell? ⟨g,d,none⟩=some (.int .i64 (P.getD d (-1))):=hcell d _ (by unfold aP;rw [ϑ,s0];rfl);have hfd:=U9 d;rw [hv] at ho ⊢;have hPlI:(d:Int)<(P.length:Int):=by clear s0 s1 s2 hI;omega
      have hPb:(P.length:Int)<=65537:=by clear s0 s1 s2 hI;omega
      have hni:¬ (P.length:Int)<=(d:Int):=by clear s0 s1 s2 hI;omega
      have YD:g∉B.blk F gt:=fun hm=>by have:=WG.out g hm;omega
      have HPL:=χ ZV;clear ZV
      by_cases hy:P.getD d (-1)=-1
      ·rw [Δ hy] at hI;rw [hy] at hcd;have HS:=χ (ψ hM (ψ hu (ψ ho (ψ (s1 hy) hI))));clear hI Bq hT1 hM1 hu1 ho1 hd AZ s0 s1 s2 hM hu ho hcell U9 hv eP hP hy HI hPn;go_wp2;obtain ⟨hM,hu,ho,hpl,hI⟩:=HS.out;obtain ⟨hD,hT,_,_,_⟩:=HR.out;have hD2:tid (ow A) (rs.drop (i+1)) ⟨P.set d x1,G1,q1⟩=D:=by
        have:tid (ow A) (x::rs.drop (i+1)) ⟨T,G',q⟩=tid (ow A) (rs.drop (i+1)) (Jp (ow A) (nS T+1) T x G' q):=rfl;rw [this,HD1.out,←hI] at hD;exact hD
       refine ⟨⟨i+1,P.set d x1,G1,q1,ω,by go_num,hD2,hpl.1,by rw [Ι];have:=HPL.out;omega,?_,hM.upd ((aa.refl [g] wr3).setCell (Α σ) _) (fun y hy=>by simp at hy;subst hy;exact YD),hu.setCell (Β hbg) _⟩,by simp [intOf];omega⟩;rw [Ι];exact Gs ho d x1
      ·rw [Γ hy] at hI;obtain ⟨z,ez,hzn,hzx,hzh,hoc,st1,st2⟩:=s2 hy;rw [ez] at hcd hI;rw [π] at hI;have uJ:=AZ.1;have hin1:bQ A (x1:Int)=true:=hin x1 uJ AZ.2.2;have hinz:bQ A (z:Int)=true:=hin z hzn hzh;have hzm:((z:Int) == -1)=false:=σ;have hu0:aa [g] wr3 (wr3.setCell ⟨g,d,none⟩ (.int .i64 (-1))):=(aa.refl [g] wr3).setCell (Α σ) _;have hgc:B.n0∉[g]:=by simp;intro e;exact YD (by rw [←e];simp [FB.blk])
       have hM2:=hM.upd hu0 (fun y hy=>by simp at hy;subst hy;exact YD);have ka:=dX hM2.cells z x1 hinz hin1;have hn0:(wr3.setCell ⟨g,d,none⟩ (.int .i64 (-1))).cell? ⟨B.n0,0,none⟩=some (.pointer (some ⟨B.c,0,none⟩)):=hM2.h0;have ho2:=Gs ho d (-1);obtain ⟨wq,hwq⟩:∃wq,wr3.setCell ⟨g,d,none⟩ (.int .i64 (-1))=wq:=⟨_,rfl⟩;rw [hwq] at hM2 ka hn0 ho2 hu0;have X7:aa [B.c,B.bn,B.bp,B.bl] w wq:=hwq▸hu.setCell (Β hbg) _;have HS:=χ (ψ hM2 (ψ X7 (ψ ho2 (ψ hI (ψ hoc (ψ st1 (ψ st2 (ψ hT1 Bq))))))));cases hb:decide (bX A z x1) with
       | true=>
        rw [hb] at ka;have kz:=fun W st' (hW:dZ W B F gt ct A st' G1)=>zS hW (x:=z) (y:=x1) hzn uJ (fun k t e=>(hT1.ff.kid z k hzn (by rw [e];simp)).1) (Χ (hT1.ff.ML hzn) hc1);have KZ:=χ kz;have HB:=χ hb;clear hI Bq hT1 hM1 hu1 ho1 hd AZ s0 s1 s2 hM hu ho hcell U9 hv eP hP hy HI hPn st1 st2 hoc hM2 X7 ho2 ez kz hb
        go_wp2_with (first
         | ((go_at_call 174;(with_reducible refine (ka).mono ?_));rintro e w5 ⟨rfl,Uc,bK⟩;(have k5:=KZ.out w5 _ (HS.out.1.setSt bK Uc));(have O9:=χ bK);clear Uc bK ka)
         | ((go_at_call 235;(with_reducible refine (k5).mono ?_));rintro e w6 ⟨rfl,tF,gF⟩;(have HU6:=χ (ψ tF gF));clear tF gF k5)
         | fail)
        go_roundg fv
        case measure=>omega
        case rel=>
         obtain ⟨hM2,X7,ho2,hI,hoc,st1,st2,hT1,Bq⟩:=HS.out;have hlt2:ow A z x1=true:=HB.out;rw [hlt2,Δ rfl] at hI;obtain ⟨tF,gF⟩:=HU6.out;have bK:=O9.out;have hg1:∀y,y∈[B.c,B.bn,B.bp,B.bl]->y≠g:=fun y hy e=>by have:=H0.out.2.2.2.2.1 y hy;omega
         rw [iN] at tF;refine ⟨P.set d (-1),z,dH G1 x1 z,q1+1,rfl,hI,ω,st1 hlt2,by rw [Ι];have:=HPL.out;omega,?_,tF,?_⟩
         ·rw [Ι];exact ay (ay ho2 bK (fun y hy hm=>by simp [Value.ownBlock] at hy hm;exact hg1 B.c σ ω)) gF (fun y hy hm=>by simp [Value.ownBlock] at hy;subst hy;exact hg1 g (by simp at hm;rcases hm with e|e|e<;>simp [e]) rfl)
         ·exact (X7.trans (bK.mono σ)).trans (gF.mono (fun y hy=>by simp at hy;rcases hy with e|e|e<;>simp [e]))
       | false=>
        rw [hb] at ka;have kz:=fun W st' (hW:dZ W B F gt ct A st' G1)=>zS hW (x:=x1) (y:=z) uJ hzn (fun k t e=>(hT1.ff.kid x1 k uJ (by rw [e];simp)).1) (Χ (hT1.ff.ML uJ) hc1);have KZ:=χ kz;have HB:=χ hb;clear hI Bq hT1 hM1 hu1 ho1 hd AZ s0 s1 s2 hM hu ho hcell U9 hv eP hP hy HI hPn st1 st2 hoc hM2 X7 ho2 ez kz hb
        go_wp2_with (first
         | ((go_at_call 174;(with_reducible refine (ka).mono ?_));rintro e w5 ⟨rfl,Uc,bK⟩;(have k5:=KZ.out w5 _ (HS.out.1.setSt bK Uc));(have O9:=χ bK);clear Uc bK ka)
         | ((go_at_call 235;(with_reducible refine (k5).mono ?_));rintro e w6 ⟨rfl,tF,gF⟩;(have HU6:=χ (ψ tF gF));clear tF gF k5)
         | fail)
        go_roundg fv
        case measure=>omega
        case rel=>
         obtain ⟨hM2,X7,ho2,hI,hoc,st1,st2,hT1,Bq⟩:=HS.out;have hlt2:ow A z x1=false:=HB.out;rw [hlt2,Γ σ] at hI;obtain ⟨tF,gF⟩:=HU6.out;have bK:=O9.out;have hg1:∀y,y∈[B.c,B.bn,B.bp,B.bl]->y≠g:=fun y hy e=>by have:=H0.out.2.2.2.2.1 y hy;omega
         rw [iN] at tF;refine ⟨P.set d (-1),x1,dH G1 z x1,q1+1,rfl,hI,ω,st2 hlt2,by rw [Ι];have:=HPL.out;omega,?_,tF,?_⟩
         ·rw [Ι];exact ay (ay ho2 bK (fun y hy hm=>by simp [Value.ownBlock] at hy hm;exact hg1 B.c σ ω)) gF (fun y hy hm=>by simp [Value.ownBlock] at hy;subst hy;exact hg1 g (by simp at hm;rcases hm with e|e|e<;>simp [e]) rfl)
         ·exact (X7.trans (bK.mono σ)).trans (gF.mono (fun y hy=>by simp at hy;rcases hy with e|e|e<;>simp [e]))
  ·obtain rfl:i=len:=ω;have hdr:rs.drop i=[]:=List.drop_eq_nil_of_le (by have:=Tw.out;omega);rw [hdr] at hD;have hD2:(⟨T,G',q⟩:TD)=D:=hD;subst hD2;have HR:=χ (ψ ho (ψ hM hu));clear hT ho hM hu hD hdr;go_wp2;go_ret;exact ⟨_,rfl,HR.out.1,HR.out.2.1,HR.out.2.2⟩
end
end Go.Proofs.YtklibcncmbofpaaGreat
namespace Go.Proofs.YtklibcncmbofpaaGreat
def zh (l:List Nat) (x:Nat):List Nat:=(l.dropWhile (fun z=>z != x)).tail++l.takeWhile (fun z=>z != x)
theorem OY {l:List Nat} {x:Nat} (hx:x∈l) (hn:l.Nodup):∃a b,l=a++x::b/\x∉a/\x∉b/\l.takeWhile (fun z=>z != x)=a/\(l.dropWhile (fun z=>z != x)).tail=b:=by
 obtain ⟨a,b,rfl⟩:=List.append_of_mem hx;rw [θ,Ζ] at hn;have h1:x∉a:=fun h=>hn.2.2 x h x σ rfl;have hp:∀z,z∈a->(z != x)=true:=fun z hz=>by simp;intro e;subst e;exact h1 hz
 refine ⟨a,b,rfl,h1,hn.2.1.1,?_,?_⟩
 ·rw [List.takeWhile_append_of_pos hp,List.takeWhile_cons_of_neg σ];simp
 ·rw [List.dropWhile_append_of_pos hp,List.dropWhile_cons_of_neg σ];rfl
theorem JF {l:List Nat} {x:Nat} (hx:x∈l) (hn:l.Nodup):∃a b,l=a++x::b/\zh l x=b++a/\x∉a/\x∉b:=by
 obtain ⟨a,b,h1,h2,h3,h4,h5⟩:=OY hx hn;exact ⟨a,b,h1,by unfold zh;rw [h4,h5],h2,h3⟩
def dV (h x:Nat) (G:FG):FG:=
 { (match G.R h with|[]=>prt G x|t::_=>Oe (prt G x) t x) with
  up:=ai G.up x (-1),mr:=ai G.mr x false,K:=ai G.K (G.up x).toNat (zh (G.K (G.up x).toNat) x),R:=match G.R h with|[]=>G.R|t::s=>ai G.R h (t::x::s) }
def qV:Nat->Nat->Nat->FG->FG
 | 0,_,_,G=>G
 | f+1,h,x,G=>if G.up x=-1 then G else if G.mr x=false then { G with mr:=ai G.mr x true } else qV f h (G.up x).toNat (dV h x G)
def marks (n:Nat) (G:FG):Nat:=((List.range n).filter G.mr).length
theorem Az {p:Nat->Bool} {x:Nat} {b:Bool}:∀l:List Nat,l.Nodup->x∈l->(l.filter (ai p x b)).length+(if p x then 1 else 0)=(l.filter p).length+(if b then 1 else 0)
 | [],_,h=>by cases h
 | y::t,hn,hx=>by
  rw [Ζ] at hn
  by_cases e:y=x
  ·subst e;have hc:t.filter (ai p y b)=t.filter p:=List.filter_congr (fun z hz=>aW _ _ (fun e=>hn.1 (e▸hz)));have h1:ai p y b y=b:=bN _ _ _;rw [List.filter_cons,List.filter_cons,h1,hc];cases b<;>cases p y<;>simp
  ·have ih:=Az (p:=p) (b:=b) t hn.2 (by rcases ρ.1 hx with h|h;exact absurd h.symm e;exact h);have h1:ai p x b y=p y:=aW _ _ e;rw [List.filter_cons,List.filter_cons,h1];cases p y<;>simp<;>omega
theorem uj {n:Nat} {G:FG} {x:Nat} {b:Bool} {mr:Nat->Bool} (hx:x<n) (hm:mr=ai G.mr x b) (G':FG) (e:G'.mr=mr):marks n G'+(if G.mr x then 1 else 0)=marks n G+(if b then 1 else 0):=by
 unfold marks;rw [e,hm];exact Az _ List.nodup_range (by simpa using hx)
section
variable {n:Nat} {G:FG} {bJ:Nat->Int} {L M:Nat->Nat->Prop} {ex:Nat->Nat}
theorem AU (H:FF n G bJ L ex) (R:FR n G bJ M none) {h x p t:Nat} {s:List Nat} (hR:G.R h=t::s) (hx:x<n) (ux:G.up x=p) (hpx:p≠x) (hh:bJ x=h) (hL:M t x) :
  FF n (dV h x G) bJ L (fun c=>if c=p then ex c+1 else ex c)/\FR n (dV h x G) bJ M none/\(dV h x G).up=ai G.up x (-1)/\(dV h x G).mr=ai G.mr x false/\(dV h x G).K=ai G.K p (zh (G.K p) x)/\
   (dV h x G).R=ai G.R h (t::x::s)/\(∃a b,G.K p=a++x::b/\zh (G.K p) x=b++a)/\G.nx x=(zh (G.K p) x).headD x:=by
 obtain ⟨hp,hxk⟩:=H.above hx ux;obtain ⟨q1,q2,q3⟩:=R.all h;obtain ⟨h1,ht,ut,htm⟩:=(q2 t).1 (by rw [hR];simp);have LG:=H.ring p hp;obtain ⟨a,b,eK,eA,xa,xb⟩:=JF hxk LG.nd;have hkp:∀z,z∈G.K p->z<n/\G.up z=p:=fun z hz=>H.kid p z hp hz;have QW:Ring G.nx (x::(b++a)):=by rw [eK] at LG;exact Ring.Wx (a:=a) (b:=x::b) LG
 have hmem:∀z,z∈x::(b++a)↔z∈G.K p:=fun z=>by rw [eK];simp;grind
 have hall:∀z,z∈x::(b++a)->z<n:=fun z hz=>(hkp z ((hmem z).1 hz)).1;obtain ⟨p1,p2⟩:=H.rg.part QW hall;have hpm:G.pv x∈G.K p:=by
  rw [←hmem];rcases List.eq_nil_or_concat (b++a) with e|⟨c,y,e⟩
  ·rw [e] at QW;have e1:=jf.1 QW;have:=H.rg.pn x hx;rw [e1] at this;rw [this];simp
  ·rw [List.concat_eq_append] at e;have:=H.rg.last (x:=x) (y:=y) (a:=c) (by rw [List.cons_append,←e];exact QW) (hall y (by rw [e];simp));rw [this,e];simp
 have hpv:=hkp _ hpm;have htx:t≠x:=fun e=>by subst e;omega
 have htp:t≠G.pv x:=fun e=>by rw [←e] at hpv;omega
 have ux':(dV h x G).up=ai G.up x (-1):=rfl;have mx':(dV h x G).mr=ai G.mr x false:=rfl;have K':(dV h x G).K=ai G.K p (b++a):=by show ai G.K (G.up x).toNat _=_;rw [ux,π,eA]
 have R':(dV h x G).R=ai G.R h (t::x::s):=by show (match G.R h with|[]=>G.R|t::s=>ai G.R h (t::x::s))=_;rw [hR]
 have nx':(dV h x G).nx=dA (dA G.nx x (G.pv x)) t x:=by unfold dV;rw [hR];rfl
 have pv':(dV h x G).pv=jr (dA G.nx x (G.pv x)) (jr G.nx G.pv x (G.pv x)) t x:=by unfold dV;rw [hR];rfl
 have far:∀l,Ring G.nx l->x∉l->G.pv x∉l->t∉l->Ring (dV h x G).nx l:=fun l hl e1 e2 e3=>by rw [nx'];exact (hl.nM e1 e2).nM e3 e1
 have OB:∀y,y≠x->(dV h x G).up y=G.up y:=fun y hy=>by rw [ux',aW _ _ hy]
 have YO:(dV h x G).up x=-1:=by rw [ux',bN]
 have Kp:(dV h x G).K p=b++a:=by rw [K',bN]
 have Kn:∀y,y≠p->(dV h x G).K y=G.K y:=fun y hy=>by rw [K',aW _ _ hy]
 have Zh:∀y,y<n->y≠p->x∉G.K y:=fun y hy hyp hm=>hyp (by have:=(H.kid y x hy hm).2;omega);have hpos:(0:Int)<bJ p/\(0:Int)<bJ x:=by
  have:=H.home x p hx ux;exact ⟨by rw [←this.1];exact this.2,this.2⟩
 have hlen:(G.K p).length=(b++a).length+1:=by rw [eK];simp;omega
 have mono:∀c,c≠x->(G.K c).length+(if G.mr c then 1 else 0)+ex c<=((dV h x G).K c).length+(if (dV h x G).mr c then 1 else 0)+(if c=p then ex c+1 else ex c):=fun c hc=>by
  rw [mx',aW _ _ hc]
  by_cases e:c=p
  ·rw [e,Kp,hlen,Δ rfl];omega
  ·rw [Kn c e,Γ e];omega
 refine ⟨⟨?_,fun y z hy hz=>?_,fun y hy=>?_,fun y hy=>?_,fun y q hy hu=>?_,fun y q hy hu=>?_,fun y hy h0=>?_,fun y hy hu=>?_,fun y d hy=>?_⟩,⟨fun g _=>?_,fun g y _=>?_,fun g t' s' _ hR'=>?_⟩,ux',mx',by rw [eA];exact K',R',⟨a,b,eK,eA⟩,by rw [eA];exact (iO.1 QW).2.1⟩
 ·rw [nx',pv'];exact (H.rg.swap hx hpv.1).swap ht hx
 ·by_cases e:y=p
  ·subst e;rw [Kp] at hz;have hzk:z∈G.K y:=(hmem z).1 (by simp at hz ⊢;exact Β hz);have hzx:z≠x:=fun e=>by subst e;simp at hz;rcases hz with h|h;exact xb h;exact xa h
   rw [OB z hzx];exact H.kid y z hy hzk
  ·rw [Kn y e] at hz;have hzx:z≠x:=fun e2=>Zh y hy e (e2▸hz);rw [OB z hzx];exact H.kid y z hy hz
 ·by_cases e:y=x
  ·subst e;exact Α YO
  ·rw [OB y e];rcases H.Ir y hy with e1|⟨q,hq,e1,e2⟩
   ·exact Α e1
   ·refine Β ⟨q,hq,e1,?_⟩
    by_cases e3:q=p
    ·subst e3;rw [Kp];rcases ρ.1 ((hmem y).2 e2) with e4|e4
     ·exact absurd e4 e
     ·exact e4
    ·rw [Kn q e3];exact e2
 ·by_cases e:y=p
  ·subst e;rw [Kp,nx'];exact p2.nM (fun hm=>by have:=(hkp t ((hmem t).1 (by simp at hm ⊢;exact Β hm))).2;omega) (fun hm=>by simp at hm;rcases hm with h|h;exact xb h;exact xa h)
  ·rw [Kn y e];exact far _ (H.ring y hy) (Zh y hy e) (fun hm=>e (by have:=(H.kid y _ hy hm).2;omega)) (H.r9 hy ut)
 ·have hyx:y≠x:=fun e=>by subst e;rw [YO] at hu;omega
  rw [OB y hyx] at hu;exact H.home y q hy hu
 ·have hyx:y≠x:=fun e=>by subst e;rw [YO] at hu;omega
  rw [OB y hyx] at hu;exact H.ord y q hy hu
 ·obtain ⟨a1,a2,a3⟩:=H.alone y hy h0;have hyx:y≠x:=fun e=>h0 (by rw [e];exact hpos.2);have hyp:y≠p:=fun e=>h0 (by rw [e];exact hpos.1);have hyv:y≠G.pv x:=fun e=>by rw [←e] at hpv;omega
  have YL:y≠t:=fun e=>h0 (by rw [e,htm];omega);exact ⟨by rw [OB y hyx];exact a1,by rw [Kn y hyp];exact a2,by rw [nx',iP YL hyx,iP hyx hyv];exact a3⟩
 ·rw [mx']
  by_cases e:y=x
  ·rw [e,bN]
  ·rw [OB y e] at hu;rw [aW _ _ e];exact H.free y hy hu
 ·by_cases e:y=p
  ·subst e;rw [Kp];have m1:few (dV h x G) (fun c=>if c=y then ex c+1 else ex c) (b++a) d<=few G ex (b++a) d:=Gm d (fun c hc=>mono c (fun e=>by subst e;simp at hc;rcases hc with h|h;exact xb h;exact xa h));have m2:few G ex (G.K y) d=few G ex (x::(b++a)) d:=Gc _ _ (by rw [eK];exact Φ (l₁:=a) (l₂:=x::b)) d;rw [Fz] at m2;have m3:=H.cnt y d hy;omega
  ·rw [Kn y e];exact Χ (Gm d (fun c hc=>mono c (fun e2=>Zh y hy e (e2▸hc)))) (H.cnt y d hy)
 ·obtain ⟨r1,r2,_⟩:=R.all g
  by_cases e:g=h
  ·subst e;rw [R',bN,nx'];have hs1:Ring (dA G.nx x (G.pv x)) (t::s):=by
    rw [←hR];exact r1.nM (fun hm=>by have:=((r2 x).1 hm).2.2.1;omega) (fun hm=>by have:=((r2 _).1 hm).2.2.1;omega)
   exact Ring.join hs1 p1 (fun z hz hm=>by
    simp at hm;subst hm;have:=((r2 z).1 (by rw [hR];exact hz)).2.2.1
    omega)
  ·rw [R',aW _ _ e];exact far _ r1 (fun hm=>by have:=((r2 x).1 hm).2.2.1;omega) (fun hm=>by have:=((r2 _).1 hm).2.2.1;omega) (fun hm=>e (by have:=((r2 t).1 hm).2.2.2;omega))
 ·rw [R'];have old:=(R.all g).2.1 y
  by_cases e:g=h
  ·subst e;rw [bN];have:y∈t::x::s↔y=x\/y∈G.R g:=by rw [hR];simp;grind
   rw [this,old]
   by_cases e2:y=x
   ·subst e2;simp [YO,h1,hx,hh]
   ·rw [OB y e2];simp [e2,zf]
  ·rw [aW _ _ e,old]
   by_cases e2:y=x
   ·subst e2;constructor
    ·rintro ⟨_,_,a2,_⟩;omega
    ·rintro ⟨_,_,_,a3⟩;exact absurd (show g=h by omega) e
   ·rw [OB y e2];exact Iff.rfl
 ·rw [R'] at hR'
  by_cases e:g=h
  ·subst e;rw [bN] at hR';have e1:t=t':=by injection hR'
   have e2:x::s=s':=by injection hR'
   subst e1 e2;intro y hy;rcases ρ.1 hy with rfl|hy
   ·exact hL
   ·exact q3 t s hR y hy
  ·rw [aW _ _ e] at hR';exact (R.all g).2.2 t' s' hR'
theorem RF (ZF:∀a,¬L a a) {h t:Nat}:∀ (f p:Nat) (s:List Nat) (G:FG),FF n G bJ L (fun c=>if c=p then 1 else 0)->FR n G bJ M none->G.R h=t::s->p<n->bJ p=h->1<=h->(∀y,y<n->bJ y=h->y≠t->M t y)->marks n G<f->
  FF n (qV f h p G) bJ L (fun _=>0)/\FR n (qV f h p G) bJ M none/\(∃s',(qV f h p G).R h=t::s')/\(∀g,g≠h->(qV f h p G).R g=G.R g)/\
   (G.R h).length<=((qV f h p G).R h).length/\((qV f h p G).R h).length+marks n (qV f h p G)<=(G.R h).length+marks n G+1/\marks n (qV f h p G)<=marks n G+1/\(∀y,G.up y=-1->(qV f h p G).up y=-1)
 | 0,p,s,G,H,R,hR,hp,hh,h1,hf,hm=>ω
 | f+1,p,s,G,H,R,hR,hp,hh,h1,hf,hm=>by
  unfold qV
  by_cases e:G.up p=-1
  ·rw [Δ e];refine ⟨⟨H.rg,H.kid,H.Ir,H.ring,H.home,H.ord,H.alone,H.free,fun x d hx=>?_⟩,R,⟨s,hR⟩,fun _ _=>rfl,Θ _,ω,ω,fun _ h=>h⟩
   rw [tK (G:=G) (ex:=fun c=>if c=p then 1 else 0) d (fun c hc=>by
    have hcp:c≠p:=fun e2=>H.r9 hx e (e2▸hc)
    rw [Γ hcp])]
   exact H.cnt x d hx
  ·rw [Γ e]
   by_cases e2:G.mr p=false
   ·rw [Δ e2];have hmk:=uj (G:=G) (b:=true) hp rfl { G with mr:=ai G.mr p true } rfl;rw [e2] at hmk;simp only [Ϟ,if_false,if_true] at hmk;refine ⟨⟨H.rg,H.kid,H.Ir,H.ring,H.home,H.ord,H.alone,fun y hy hu=>?_,fun x d hx=>?_⟩,⟨R.ring,R.mem,R.top⟩,⟨s,hR⟩,fun _ _=>rfl,Θ _,by show (G.R h).length+_<=_;omega,by omega,fun _ h=>h⟩
    ·have hyp:y≠p:=fun e3=>e (e3▸hu)
     show ai G.mr p true y=false
     rw [aW _ _ hyp];exact H.free y hy hu
    ·have:=tK (G:=G) (G':={ G with mr:=ai G.mr p true }) (ex:=fun c=>if c=p then 1 else 0) (YS:=fun _=>0) (l:=G.K x) d (fun c hc=>by
      by_cases e3:c=p
      ·subst e3
       show (G.K c).length+(if ai G.mr c true c=true then 1 else 0)+0=_
       rw [bN,e2];simp
      ·show (G.K c).length+(if ai G.mr p true c=true then 1 else 0)+0=_
       rw [aW _ _ e3,Γ e3])
     show few { G with mr:=ai G.mr p true } (fun _=>0) (G.K x) d<=d
     rw [this];exact H.cnt x d hx
   ·rw [Γ e2];obtain ⟨q,hq,uq,hpq⟩:=(H.Ir p hp).resolve_left e;rw [uq,π];have ZX:q≠p:=fun e3=>by subst e3;exact ZF _ (H.ord q q hp uq)
    have htp:p≠t:=fun e3=>by
     subst e3;have:=((R.all h).2.1 p).1 (by rw [hR];simp);exact e this.2.2.1
    obtain ⟨o1,o2,o3,o4,o5,o6,o7,_⟩:=AU H R hR hp uq ZX hh (hf p hp hh htp);have hqh:bJ q=h:=by have:=(H.home p q hp uq).1;omega
    have hmk:=uj (G:=G) (b:=false) hp rfl (dV h p G) o4;have e2':G.mr p=true:=by simpa using e2
    rw [e2'] at hmk;simp only [Ϟ,if_false,if_true] at hmk;have Yl:FF n (dV h p G) bJ L (fun c=>if c=q then 1 else 0):=by
     refine ⟨o1.rg,o1.kid,o1.Ir,o1.ring,o1.home,o1.ord,o1.alone,o1.free,fun x d hx=>?_⟩;have XE:(dV h p G).up p=-1:=by rw [o3,bN]
     rw [tK (G:=dV h p G) (ex:=fun c=>if c=q then (if c=p then 1 else 0)+1 else if c=p then 1 else 0) d (fun c hc=>by
      have hcp:c≠p:=fun e3=>o1.r9 hx XE (e3▸hc)
      rw [Γ hcp])]
     exact o1.cnt x d hx
    have oR:(dV h p G).R h=t::p::s:=by rw [o6,bN]
    obtain ⟨r1,r2,r3,r4,r5,r6,r7,r8⟩:=RF ZF f q (p::s) (dV h p G) Yl o2 oR hq hqh h1 hf ω;rw [oR] at r5 r6;rw [hR];simp only [Ω] at r5 r6 ⊢;refine ⟨r1,r2,r3,fun g hg=>by rw [r4 g hg,o6,aW _ _ hg],ω,ω,ω,fun y hy=>r8 y ?_⟩;have hyp:y≠p:=fun e3=>e (e3▸hy);rw [o3,aW _ _ hyp];exact hy
end
def jS (n h x:Nat) (G:FG):FG:=if G.up x=-1 then G else qV (marks n (dV h x G)+1) h (G.up x).toNat (dV h x G)
def JR (h x:Nat) (G:FG):FG:={ G with R:=ai G.R h (x::zh (G.R h) x) }
def fw (A':NS) (h x:Nat) (G:FG):FG:=if G.up x≠-1/\ow A' x (G.up x).toNat=true then jS A'.cs.length h x G else G
def kH (A':NS) (h x:Nat) (G:FG):FG:=if lW ((fw A' h x G).R h)≠x/\ow A' x (lW ((fw A' h x G).R h)).toNat=true then JR h x (fw A' h x G) else fw A' h x G
def wW (A':NS) (h x:Nat) (G:FG):Nat:=(if G.up x=-1 then 0 else 1)+(if lW ((fw A' h x G).R h)=x then 0 else 1)
def RS (A':NS) (h x:Nat) (G:FG):FG:=iG (ow A') h [x] G
section
variable {A:NS} {G:FG}
theorem FR.imp {n:Nat} {bJ:Nat->Int} {L M:Nat->Nat->Prop} {g:Option Nat} (R:FR n G bJ L g) (h:∀g t s,G.R g=t::s->∀y,y∈s->L t y->M t y):FR n G bJ M g:=
 ⟨R.ring,R.mem,fun g t s hg hR y hy=>h g t s hR y hy (R.top g t s hg hR y hy)⟩
theorem K8 (I:yB A G) {x h:Nat} {k s0:Int} (hB:iT A x k s0=true) (hx:x<A.cs.length) (hh:(A.c x).i=h) (h1:1<=h) :
  ∃t s,G.R h=t::s/\(∀p:Nat,G.up x=p->p≠x/\
   FF A.cs.length (dV h x G) (fun y=>(A.c y).i) (bX (ak A x k s0)) (fun c=>if c=p then 0+1 else 0)/\FR A.cs.length (dV h x G) (fun y=>(A.c y).i) (fun a y=>y≠x->bX (ak A x k s0) a y) none/\(dV h x G).R h=t::x::s/\
   (∀y,y<A.cs.length->(A.c y).i=h->y≠t->y≠x->bX (ak A x k s0) t y))/\
  FF A.cs.length (fw (ak A x k s0) h x G) (fun y=>(A.c y).i) (bX (ak A x k s0)) (fun _=>0)/\FR A.cs.length (fw (ak A x k s0) h x G) (fun y=>(A.c y).i) (fun a y=>y≠x->bX (ak A x k s0) a y) none/\
   (∃s',(fw (ak A x k s0) h x G).R h=t::s')/\(∀g,g≠h->(fw (ak A x k s0) h x G).R g=G.R g)/\((fw (ak A x k s0) h x G).up x=-1\/(t≠x/\bX (ak A x k s0) t x))/\
   (G.R h).length<=((fw (ak A x k s0) h x G).R h).length/\((fw (ak A x k s0) h x G).R h).length+marks A.cs.length (fw (ak A x k s0) h x G)<=(G.R h).length+marks A.cs.length G+2/\marks A.cs.length (fw (ak A x k s0) h x G)<=marks A.cs.length G+1:=by
 have hc:=qN hB hx;have hle:=sP hB;rw [π] at hle;have low:∀a y,y≠x->bX A a y->bX (ak A x k s0) a y:=fun a y hy hl=>by
  by_cases e:a=x
  ·subst e;exact lI hl (by rw [hc,Γ hy]) (by rw [hc,Δ rfl];exact hle)
  ·exact (eZ (by rw [hc,Γ e]) (by rw [hc,Γ hy])).2 hl
 obtain ⟨t,s,hR⟩:∃t s,G.R h=t::s:=by
  cases hRR:G.R h with
  | nil=>
   have h2:=I.Qf hRR;have h3:=(jB (A:=A) (h:=(h:Int)) ω).1 h2;have:0<dI A (h:Int):=eH.2 ⟨x,hx,hh,ω⟩;omega
  | cons t s=>exact ⟨t,s,rfl⟩
 have wY:∀y,y<A.cs.length->(A.c y).i=h->y≠t->y≠x->bX (ak A x k s0) t y:=fun y hy hyh YL hyx=>low t y hyx (I.first hR hy hyh YL);have F':FF A.cs.length G (fun y=>(A.c y).i) (fun a y=>y≠x->bX (ak A x k s0) a y) (fun _=>0):=I.ff.mono (fun y p hy hu ho=>⟨(I.ff.home y p hy hu).1,(I.ff.home y p hy hu).2,fun hyx=>low p y hyx ho⟩) I.ff.alone;have R':FR A.cs.length G (fun y=>(A.c y).i) (fun a y=>y≠x->bX (ak A x k s0) a y) none:=I.fr.imp (fun g t s hR y hy hl hyx=>low t y hyx hl)
 have off:∀p:Nat,G.up x=p->p≠x/\FF A.cs.length (dV h x G) (fun y=>(A.c y).i) (bX (ak A x k s0)) (fun c=>if c=p then 0+1 else 0)/\FR A.cs.length (dV h x G) (fun y=>(A.c y).i) (fun a y=>y≠x->bX (ak A x k s0) a y) none/\(dV h x G).R h=t::x::s/\
   ((dV h x G).up=ai G.up x (-1)/\(dV h x G).mr=ai G.mr x false/\∀g,g≠h->(dV h x G).R g=G.R g):=fun p hp=>by
  have hpx:p≠x:=fun e=>by subst e;exact vV (I.ff.ord p p hx hp)
  obtain ⟨o1,o2,o3,o4,o5,o6,_,_⟩:=AU F' R' hR hx hp hpx hh (fun h=>absurd rfl h);refine ⟨hpx,o1.mono (fun y q hy hu ho=>⟨(o1.home y q hy hu).1,(o1.home y q hy hu).2,ho (fun e=>?_)⟩) o1.alone,o2,by rw [o6,bN],o3,o4,fun g hg=>by rw [o6,aW _ _ hg]⟩;subst e;rw [o3,bN] at hu;omega
 refine ⟨t,s,hR,fun p hp=>⟨(off p hp).1,(off p hp).2.1,(off p hp).2.2.1,(off p hp).2.2.2.1,wY⟩,?_⟩
 by_cases hup:G.up x=-1
 ·have e:fw (ak A x k s0) h x G=G:=by unfold fw;rw [Γ (by simp [hup])]
  rw [e];exact ⟨F'.mono (fun y p hy hu ho=>⟨(F'.home y p hy hu).1,(F'.home y p hy hu).2,ho (fun e=>by subst e;omega)⟩) F'.alone,R',⟨s,hR⟩,fun _ _=>rfl,Α hup,Θ _,ω,ω⟩
 ·obtain ⟨p,hp,ux,_⟩:=(I.ff.Ir x hx).resolve_left hup;have ZM:(A.c p).i=h:=by have:(A.c x).i=(A.c p).i:=(I.ff.home x p hx ux).1;omega
  cases hl:ow (ak A x k s0) x (G.up x).toNat with
  | true=>
   have e:fw (ak A x k s0) h x G=jS A.cs.length h x G:=by unfold fw;rw [Δ ⟨hup,hl⟩,eB]
   rw [e];obtain ⟨o0,o1,o2,o3,o4,o5,o6⟩:=off p ux;have hL:bX (ak A x k s0) x p:=by rw [ux,π] at hl;unfold ow at hl;simpa using hl
   obtain ⟨r1,r2,r3,r4,r5,r6,r7,r8⟩:=by
    have e':jS A.cs.length h x G=qV (marks A.cs.length (dV h x G)+1) h p (dV h x G):=by unfold jS;rw [ux,Γ ω,π]
    have:=RF (M:=fun a y=>y≠x->bX (ak A x k s0) a y) (L:=bX (ak A x k s0)) (fun a=>vV) (marks A.cs.length (dV h x G)+1) p (x::s) (dV h x G) (by simpa using o1) o2 o3 hp ZM h1 (fun y hy hyh YL hyx=>wY y hy hyh YL hyx) ω;rw [←e'] at this;exact this
   have hmk:=uj (G:=G) (b:=false) hx rfl (dV h x G) o5;simp only [Ϟ,if_false] at hmk;rw [o3] at r5 r6;rw [hR];simp only [Ω] at r5 r6 ⊢;exact ⟨r1,r2,r3,fun g hg=>(r4 g hg).trans (o6 g hg),Α (r8 x (by rw [o4,bN])),ω,ω,ω⟩
  | false=>
   have e:fw (ak A x k s0) h x G=G:=by unfold fw;rw [Γ (by simp [hl])]
   rw [e];have hpx:p≠x:=(off p ux).1;have hnl:bX (ak A x k s0) p x:=by
    rw [ux,π] at hl;unfold ow at hl;have:¬bX (ak A x k s0) x p:=by simpa using hl
    exact (iQ hpx).resolve_right this
   have htx:t≠x:=fun e=>by
    subst e;have:=(I.pK hR).2.2.2.1;omega
   refine ⟨F'.mono (fun y q hy hu ho=>⟨(F'.home y q hy hu).1,(F'.home y q hy hu).2,?_⟩) F'.alone,R',⟨s,hR⟩,fun _ _=>rfl,Β ⟨htx,?_⟩,Θ _,ω,ω⟩
   ·by_cases e2:y=x
    ·subst e2;obtain rfl:q=p:=ω;exact hnl
    ·exact ho e2
   ·by_cases e2:p=t
    ·subst e2;exact hnl
    ·exact bT (wY p hp ZM e2 hpx) hnl
theorem Xq (I:yB A G) {x h:Nat} {k s0:Int} (hB:iT A x k s0=true) (hx:x<A.cs.length) (hh:(A.c x).i=h) (h1:1<=h) :
  yB (ak A x k s0) (kH (ak A x k s0) h x G)/\(∀g,g≠h->(kH (ak A x k s0) h x G).R g=G.R g)/\(G.R h).length<=((kH (ak A x k s0) h x G).R h).length/\
   ((kH (ak A x k s0) h x G).R h).length+marks A.cs.length (kH (ak A x k s0) h x G)<=(G.R h).length+marks A.cs.length G+2/\marks A.cs.length (kH (ak A x k s0) h x G)<=marks A.cs.length G+1:=by
 obtain ⟨t,s,hR,_,f1,f2,⟨s',Hw⟩,f4,f5,f6,f7,f8⟩:=K8 I hB hx hh h1;have hi:∀y,((ak A x k s0).c y).i=(A.c y).i:=iy hB hx;have hl:=eB A x k s0;obtain ⟨q1,q2,q3⟩:=f2.all h;rw [Hw] at q1;have hnd:=List.nodup_cons.1 q1.nd;have hF:∀G',FF A.cs.length G' (fun y=>(A.c y).i) (bX (ak A x k s0)) (fun _=>0)->FF (ak A x k s0).cs.length G' (fun y=>((ak A x k s0).c y).i) (bX (ak A x k s0)) (fun _=>0):=fun G' H=>by
  rw [hl,show (fun y=>((ak A x k s0).c y).i)=(fun y=>(A.c y).i) from funext hi];exact H
 have hRR:∀G',FR A.cs.length G' (fun y=>(A.c y).i) (bX (ak A x k s0)) none->FR (ak A x k s0).cs.length G' (fun y=>((ak A x k s0).c y).i) (bX (ak A x k s0)) none:=fun G' H=>by
  rw [hl,show (fun y=>((ak A x k s0).c y).i)=(fun y=>(A.c y).i) from funext hi];exact H
 have xg:∀g,g≠h->x∉(fw (ak A x k s0) h x G).R g:=fun g hg hm=>by
  have:=(((f2.all g).2.1 x).1 hm).2.2.2;simp only at this;omega
 by_cases hc:lW ((fw (ak A x k s0) h x G).R h)≠x/\ow (ak A x k s0) x (lW ((fw (ak A x k s0) h x G).R h)).toNat=true
 ·have e:kH (ak A x k s0) h x G=JR h x (fw (ak A x k s0) h x G):=by unfold kH;rw [Δ hc]
  rw [e];rw [Hw] at hc;have htx:t≠x:=fun e2=>hc.1 (by rw [e2];rfl);have hlt:bX (ak A x k s0) x t:=by
   have:=hc.2;unfold ow lW at this;simpa using this
  have ux:(fw (ak A x k s0) h x G).up x=-1:=f5.resolve_right (fun h'=>pI hlt h'.2);have hm:x∈t::s':=by rw [←Hw];exact (q2 x).2 ⟨h1,hx,ux,hh⟩
  obtain ⟨a,b,e1,e2,xa,xb⟩:=JF hm q1.nd;have eR:(JR h x (fw (ak A x k s0) h x G)).R h=x::(b++a):=by
   show ai _ h _ h=_
   rw [bN,Hw,e2]
  have eR':∀g,g≠h->(JR h x (fw (ak A x k s0) h x G)).R g=(fw (ak A x k s0) h x G).R g:=fun g hg=>aW _ _ hg;have hmm:∀z,z∈x::(b++a)↔z∈t::s':=fun z=>by rw [e1];simp;grind
  have hlen:(x::(b++a)).length=((fw (ak A x k s0) h x G).R h).length:=by rw [Hw,e1];simp;omega
  refine ⟨⟨hF _ (f1.cz _),hRR _ ⟨fun g _=>?_,fun g y _=>?_,fun g t' s'' _ hR' y hy=>?_⟩⟩,fun g hg=>by rw [eR' g hg,f4 g hg],by rw [eR,hlen];exact f6,by rw [eR,hlen];exact f7,f8⟩
  ·by_cases eg:g=h
   ·subst eg;rw [eR];rw [e1] at q1;exact Ring.Wx (a:=a) (b:=x::b) q1
   ·rw [eR' g eg];exact (f2.all g).1
  ·by_cases eg:g=h
   ·subst eg;rw [eR,hmm,←Hw];exact q2 y
   ·rw [eR' g eg];exact (f2.all g).2.1 y
  ·by_cases eg:g=h
   ·subst eg;rw [eR] at hR';have e3:x=t':=by injection hR'
    have e4:b++a=s'':=by injection hR'
    subst e3 e4;have hy2:=(hmm y).1 (by simp only [ρ];exact Β hy);have hyx:y≠x:=fun e=>by subst e;simp at hy;rcases hy with h|h;exact xb h;exact xa h
    rcases ρ.1 hy2 with rfl|hy2
    ·exact hlt
    ·exact bT hlt (q3 t s' Hw y hy2 hyx)
   ·rw [eR' g eg] at hR';have hyx:y≠x:=fun e=>xg g eg (by rw [hR',←e];simp [hy]);exact (f2.all g).2.2 t' s'' hR' y hy hyx
 ·have e:kH (ak A x k s0) h x G=fw (ak A x k s0) h x G:=by unfold kH;rw [Γ hc]
  rw [e];refine ⟨⟨hF _ f1,hRR _ (f2.imp (fun g t' s'' hR' y hy hl2=>?_))⟩,f4,f6,f7,f8⟩
  by_cases eyx:y=x
  ·by_cases eg:g=h
   ·subst eg;rw [Hw] at hR' hc;have e3:t=t':=by injection hR'
    have e4:s'=s'':=by injection hR'
    subst e3 e4 eyx;have hty:t≠y:=fun e=>hnd.1 (e▸hy);have:¬bX (ak A y k s0) y t:=fun hlt=>hc ⟨fun e=>hty (by have:(t:Int)=(y:Int):=e;omega),by unfold ow lW;simpa using hlt⟩;exact (iQ hty).resolve_right this
   ·subst eyx;exact absurd (by rw [hR'];simp [hy]) (xg g eg)
  ·exact hl2 eyx
end
theorem yT.done {n:Nat} {bJ:Nat->Int} {L:Nat->Nat->Prop} {h:Nat} {G:FG} (H:yT n bJ L h [] G) (h1:1<=h):FR n G bJ L none:=by
 refine ⟨fun g _=>?_,fun g y _=>?_,fun g t s _ hR=>?_⟩
 all_goals by_cases e:g=h
 ·subst e;exact H.ring
 ·exact H.fr.ring g (by simp;exact e)
 ·subst e;constructor
  ·intro hm;exact ⟨h1,H.mem y hm⟩
  ·rintro ⟨_,a⟩;rcases H.all y a with b|b
   ·exact b
   ·cases b
 ·exact H.fr.mem g y (by simp;exact e)
 ·subst e;exact H.top t s hR
 ·exact H.fr.top g t s (by simp;exact e) hR
section
variable {A:NS} {G:FG}
theorem YT (n:Nat):yB (NS.new n) FG.none:=by
 have hl:(NS.new n).cs.length=n:=by simp [NS.new]
 have hz:∀y,((NS.new n).c y).i=0:=fun y=>by rw [NS.xY];rfl
 refine ⟨⟨⟨fun x hx=>hx,fun x hx=>hx,fun _ _=>rfl,fun _ _=>rfl⟩,fun x y _ hy=>(by cases hy),fun y _=>Α rfl,fun x _=>Ring.nil _,fun y p _ hu=>?_,fun y p _ hu=>?_,fun y _ _=>⟨rfl,rfl,rfl⟩,fun y _ _=>rfl,fun x d _=>Nat.zero_le _⟩,⟨fun h _=>Ring.nil _,fun h y _=>?_,fun h t s _ e=>(by cases e)⟩⟩
 ·have:(-1:Int)=p:=hu;omega
 ·have:(-1:Int)=p:=hu;omega
 ·constructor
  ·intro hm;cases hm
  ·rintro ⟨h1,_,_,h2⟩;simp only [hz] at h2;omega
theorem VW (I:yB A G):yB (aN A) G:=by
 have e1:(aN A).cs=A.cs:=by unfold aN;split<;>rfl
 have e2:∀y,(aN A).c y=A.c y:=fun y=>by unfold NS.c;rw [e1]
 have e3:(fun y=>((aN A).c y).i)=(fun y=>(A.c y).i):=funext (fun y=>by rw [e2]);refine ⟨?_,?_⟩
 ·rw [e1,e3];exact I.ff.mono (fun y p hy hu ho=>⟨(I.ff.home y p hy hu).1,(I.ff.home y p hy hu).2,(eZ (e2 p) (e2 y)).2 ho⟩) I.ff.alone
 ·rw [e1,e3];exact I.fr.imp (fun g t s _ y _ hl=>(eZ (e2 t) (e2 y)).2 hl)
theorem Zg (I:yB A G) (ok:A.Ok) {h x:Nat} (k s:Int) (hB:nR A h x=true) :
  yB (aJ A h x k s) (RS (aJ A h x k s) h x G)/\((RS (aJ A h x k s) h x G).R h).length=(G.R h).length+1/\(∀g,g≠h->(RS (aJ A h x k s) h x G).R g=G.R g)/\(RS (aJ A h x k s) h x G).mr=G.mr/\1<=h/\x<A.cs.length/\
   bQ (aJ A h x k s) (x:Int)=true/\(∀t s',G.R h=t::s'->bQ (aJ A h x k s) (t:Int)=true)/\(aJ A h x k s).cs.length=A.cs.length:=by
 obtain ⟨b1,b2,b3⟩:=(dW _ _ _).1 hB;have b4:=(aO _ _).1 b1;have b5:=(gH _ _).1 b2;have hx:x<A.cs.length:=ω;have h1:1<=h:=ω;have eP:aJ A h x k s=iM A x ⟨h,k,s⟩:=by unfold aJ;rw [hB];rfl
 have hc:∀y,(aJ A h x k s).c y=if y=x then ⟨h,k,s⟩ else A.c y:=fun y=>by rw [eP,jQ];simp [hx]
 have hl:(aJ A h x k s).cs.length=A.cs.length:=by rw [eP,eY]
 have x0:¬0<(A.c x).i:=fun h'=>by
  have:bQ A (x:Int)=true:=(ae _ _).2 ⟨hx,h'⟩;rw [this] at b3;cases b3
 obtain ⟨ax,kx,nx⟩:=I.ff.alone x hx x0;have bJ:∀y,y≠x->((aJ A h x k s).c y).i=(A.c y).i:=fun y hy=>by rw [hc,Γ hy]
 have Bc:((aJ A h x k s).c x).i=h:=by rw [hc,Δ rfl]
 have ZG:∀y,0<(A.c y).i->y≠x:=fun y hy e=>x0 (e▸hy);have lts:∀a y,a≠x->y≠x->(bX (aJ A h x k s) a y↔bX A a y):=fun a y ha hy=>eZ (by rw [hc,Γ ha]) (by rw [hc,Γ hy])
 have F':FF A.cs.length G (fun y=>((aJ A h x k s).c y).i) (bX (aJ A h x k s)) (fun _=>0):=I.ff.mono (fun y p hy hu ho=>by
  have hh:=I.ff.home y p hy hu;have hy1:0<(A.c y).i:=hh.2;have hp1:0<(A.c p).i:=by have:(A.c y).i=(A.c p).i:=hh.1;omega
  have e1:=ZG y hy1;have e2:=ZG p hp1;exact ⟨by simp only [bJ y e1,bJ p e2];exact hh.1,by simp only [bJ y e1];exact hy1,(lts p y e2 e1).2 ho⟩) (fun y hy h0=>by
  by_cases e:y=x
  ·subst e;exact ⟨ax,kx,nx⟩
  ·simp only [bJ y e] at h0;exact I.ff.alone y hy h0)
 have mR:∀g z,z∈G.R g->z≠x/\(A.c z).i=g/\1<=g:=fun g z hz=>by
  have:=I.out hz;exact ⟨ZG z (by have:=this.2.2.2.1;omega),this.2.2.2.1,this.1⟩
 have mm:∀g z,z≠x->(z∈G.R g↔1<=g/\z<A.cs.length/\G.up z=-1/\((aJ A h x k s).c z).i=g):=fun g z hz=>by rw [bJ z hz];exact (I.fr.all g).2.1 z
 have H:yT A.cs.length (fun y=>((aJ A h x k s).c y).i) (bX (aJ A h x k s)) h [x] G:=by
  refine ⟨F',⟨fun g _=>(I.fr.all g).1,fun g z hg=>?_,fun g t s' _ hR y hy=>?_⟩,(I.fr.all h).1,fun t s' hR y hy=>?_,fun z hz=>?_,σ,fun z hz=>?_,fun z hz=>?_⟩
  ·by_cases e:z=x
   ·subst e;constructor
    ·intro hm;exact absurd rfl (mR g z hm).1
    ·rintro ⟨_,_,_,h2⟩;simp only [Bc] at h2;exact absurd (by congr 1;omega:some g=some h) hg
   ·exact mm g z e
  ·have e1:=(mR g t (by rw [hR];simp)).1;have e2:=(mR g y (by rw [hR];simp [hy])).1;exact (lts t y e1 e2).2 ((I.fr.all g).2.2 t s' hR y hy)
  ·have e1:=(mR h t (by rw [hR];simp)).1;have e2:=(mR h y (by rw [hR];simp [hy])).1;exact (lts t y e1 e2).2 ((I.fr.all h).2.2 t s' hR y hy)
  ·exact ((mm h z (mR h z hz).1).1 hz).2
  ·simp at hz;subst hz;exact ⟨⟨hx,ax,Bc⟩,nx,fun hm=>(mR h z hm).1 rfl⟩
  ·by_cases e:z=x
   ·exact Β (by simp [e])
   ·exact Α ((mm h z e).2 ⟨h1,hz⟩)
 obtain ⟨r1,r2⟩:=H.step h1 (fun G=>Ah _ _ _ _ _) (fun a b c=>bT);obtain ⟨s1,s2,s3,s4⟩:=uR (ow (aJ A h x k s)) h [x] G;refine ⟨⟨by rw [hl];exact r1.ff,by rw [hl];exact r1.done h1⟩,r2,s4,s2,h1,hx,(ae _ _).2 ⟨by rw [hl];exact hx,by rw [Bc];omega⟩,fun t s' hR=>?_,hl⟩;have:=I.out (h:=h) (z:=t) (by rw [hR];simp);exact (ae _ _).2 ⟨by rw [hl];exact this.2.1,by rw [bJ t (mR h t (by rw [hR];simp)).1];omega⟩
end
end Go.Proofs.YtklibcncmbofpaaGreat
namespace Go.Proofs.YtklibcncmbofpaaGreat
open Go Go.RowKit
section
variable {w:World} {B:FB} {F:List Nat} {gt ct:Nat} {A:NS} {st:Nat} {G:FG}
theorem KI {α:Type} (f:Nat->α) (x:Nat) (u v:α):ai (ai f x u) x v=ai f x v:=by
 funext z;unfold ai;split<;>rfl
theorem dZ.kids (M:dZ w B F gt ct A st G) (p:Nat) (l:List Nat) (d v:Int) (hd:d=(l.length:Int)) (hv:v=lW l) :
  dZ ((w.setCell ⟨B.bl,p*4+2,none⟩ (.int .i64 d)).setCell ⟨B.bl,p*4+1,none⟩ (.int .i64 v)) B F gt ct A st { G with K:=ai G.K p l }:=by
 refine M.JH (up:=G.up) (mr:=G.mr) ν ?_;unfold nz;simp only [DN,jM,←hv,←hd];exact oV (rR M.pl p d) p v
theorem dZ.aa0 (M:dZ w B F gt ct A st G) (p:Nat) (l:List Nat) (d v u:Int) (hd:d=(l.length:Int)) (hv:v=lW l) :
  dZ (((w.setCell ⟨B.bl,p*4+2,none⟩ (.int .i64 d)).setCell ⟨B.bl,p*4+1,none⟩ (.int .i64 u)).setCell ⟨B.bl,p*4+1,none⟩ (.int .i64 v)) B F gt ct A st { G with K:=ai G.K p l }:=by
 refine M.JH (up:=G.up) (mr:=G.mr) ν ?_;unfold nz;simp only [DN,jM,←hv,←hd];have:=oV (oV (rR M.pl p d) p u) p v;rw [KI] at this;exact this
theorem dZ.lone (M:dZ w B F gt ct A st G) (x:Nat):dZ ((w.setCell ⟨B.bl,x*4,none⟩ (.int .i64 (-1))).setCell ⟨B.bl,x*4+3,none⟩ (.bool false)) B F gt ct A st { G with up:=ai G.up x (-1),mr:=ai G.mr x false }:=by
 refine M.JH (K:=G.K) ν ?_;exact pO (sD M.pl x (-1)) x false
theorem rY {c:Code} {K:Exit->Act->World->Prop} {a:Act} {W:World} (R:World->Prop) (h:R W) (k:∀W',R W'->Code.wp Tryz.prog c K a W'):Code.wp Tryz.prog c K a W:=k W h
theorem Fy (M:dZ w B F gt ct A st G) {q x p t:Nat} {s:List Nat} (hq:q<A.hs.length) (hx:x<A.cs.length) (hp:p<A.cs.length) (ux:G.up x=p) (hR:G.R q=t::s) (ht:t<A.cs.length)
  (hl:(G.K p).length=(zh (G.K p) x).length+1) (hl2:(G.K p).length<=65536) (hn:G.nx x=(zh (G.K p) x).headD x) (hxa:x∉zh (G.K p) x) :
  Calls Tryz.prog 231 #[.pointer (some ⟨B.n0,0,none⟩),.int .i64 (q:Int),.int .i64 (x:Int)] w fun e w'=>e=.returned (.tuple #[])/\dZ w' B F gt ct A st (dV q x G)/\aa [B.bn,B.bp,B.bl] w w':=by
 have hc1:=M.cells.ok.c1;have h2:=M.h2;have h1:=M.h1;have Bl:(x:Int)<(A.cs.length:Int):=ω;have Ym:(p:Int)<(A.cs.length:Int):=ω;have px0:=M.p0 hx;rw [ux] at px0;have pp1:=M.p1 hp;have pp2:=M.p2 hp;have fp1:=M.pl.free (p*4+1);have fp2:=M.pl.free (p*4+2);have eg:dV q x G={ nx:=dA (dA G.nx x (G.pv x)) t x,pv:=jr (dA G.nx x (G.pv x)) (jr G.nx G.pv x (G.pv x)) t x,up:=ai G.up x (-1),mr:=ai G.mr x false,K:=ai G.K p (zh (G.K p) x),R:=ai G.R q (t::x::s) }:=by
  unfold dV;rw [hR,ux];rfl
 rw [eg];have hw1:IntKind.i64.wrap (((G.K p).length:Int)-1)=((zh (G.K p) x).length:Int):=by rw [Μ _ ω];omega
 obtain ⟨g1,g2,g3,g4,g5,g6,g7⟩:=M.d3;obtain ⟨e1,e2,e3,e4,e5⟩:=M.d2;have hlt:=M.lt;have lbl:=hlt B.bl (by simp [FB.blk]);have hkn:∀W,dZ W B F gt ct A st { G with K:=ai G.K p (zh (G.K p) x) }->Calls Tryz.prog 236 #[.pointer (some ⟨B.br,0,none⟩),.int .i64 (x:Int)] W fun e w'=>e=.returned (.tuple #[.int .i64 (G.nx x:Int),.bool true])/\w'=W:=fun W hW=>Cc hW.rings hx
 have BV:∀W,dZ W B F gt ct A st { G with K:=ai G.K p (zh (G.K p) x) }->Calls Tryz.prog 228 #[.pointer (some ⟨B.br,0,none⟩),.int .i64 (x:Int)] W fun e w'=>e=.returned (.bool true)/\xS w' B.br B.bn B.bp A.cs.length (dA G.nx x (G.pv x)) (jr G.nx G.pv x (G.pv x))/\aa [B.bn,B.bp] W w':=fun W hW=>CW hW.rings hx;cases hA:zh (G.K p) x with
 | nil=>
  rw [hA] at hn hw1 hl BV hkn;have hn':G.nx x=x:=hn;rw [hn'] at hkn;obtain ⟨W5,TZ⟩:∃W5,W5=(w.setCell ⟨B.bl,p*4+2,none⟩ (.int .i64 0)).setCell ⟨B.bl,p*4+1,none⟩ (.int .i64 (-1)):=⟨_,rfl⟩;have M5:dZ W5 B F gt ct A st { G with K:=ai G.K p [] }:=by rw [TZ];exact M.kids p [] 0 (-1) rfl rfl
  have bK:aa [B.bl] w W5:=by rw [TZ];exact ν
  go_enter Tryz.func231,Tryz.ntmps231
  go_wp2
  go_region
  have KP:=χ BV;have KN:=χ hkn;have H5:=χ (ψ M5 (ψ bK TZ));have HM:=χ (ψ M (ψ hlt hR));clear BV hkn M5 bK TZ M hlt hR eg hA hn hn' hl ux hxa;have Zt:=fun W (hW:aa [] W5 W)=>KN.out W (H5.out.1.aj hW);have Zr:=fun W (hW:aa [] W5 W)=>KP.out W (H5.out.1.aj hW);rw [H5.out.2.2] at Zt Zr
  go_wp2_with (first
   | ((go_at_call 236;(with_reducible refine (Zt _ β).mono ?_));rintro e w9 ⟨rfl,aI⟩;rw [aI];clear aI w9)
   | ((go_at_call 228;(with_reducible refine (Zr _ β).mono ?_));rintro e w6 ⟨rfl,Zn,gF⟩)
   | fail)
  have U6:aa [B.bn,B.bp] W5 w6:=by rw [H5.out.2.2];exact aa.trans β gF
  have M6:=((H5.out.1)).cz U6 Zn;have jC:aa [B.bn,B.bp,B.bl] w w6:=(H5.out.2.1.mono σ).trans ((U6).mono (fun z hz=>by simp at hz;rcases hz with e|e<;>simp [e]));have q2:=M6.h2;have q0:=M6.p0 hx;have q3:=M6.p3 hx;have f0:=M6.pl.free (x*4);have f3:=M6.pl.free (x*4+3);have H6:=χ (ψ M6 jC);clear M6 jC Zn gF Zt Zr
  go_region
  go_wp2;refine rY (fun W=>dZ W B F gt ct A st { nx:=dA G.nx x (G.pv x),pv:=jr G.nx G.pv x (G.pv x),up:=ai G.up x (-1),mr:=ai G.mr x false,K:=ai G.K p [],R:=G.R }/\aa [B.bn,B.bp,B.bl] w W) ?_ ?_
  ·have jC:=H6.out.2;exact ⟨(H6.out.1.lone x).drewN 1,ν⟩
  rintro w7 ⟨M7,jC⟩;have ks:=fun W (hW:aa [] w7 W)=>j6 (M7.rings.aj hW) ht hx;have m:∀x,x≠B.bn->x≠B.bp->x∉[B.bn,B.bp]:=fun x h1 h2=>by simp [h1,h2]
  have r1:∀W,aa [B.bn,B.bp] w7 W->W.cell? ⟨B.n0,1,none⟩=some (.pointer (some ⟨B.br,0,none⟩)):=fun W hW=>hW.kept M7.h1 (m _ e2 e3);have r3:∀W,aa [B.bn,B.bp] w7 W->W.cell? ⟨B.n0,3,none⟩=some (.slice (some ⟨gt,0,none⟩) A.hs.length ct):=fun W hW=>hW.kept M7.h3 (m _ e2 e3);have rt:∀W,aa [B.bn,B.bp] w7 W->W.cell? ⟨gt,q,none⟩=some (.int .i64 (t:Int)):=fun W hW=>by
   have:=hW.kept (M7.top hq) (m _ g6 g7);rw [show lW ((({ nx:=dA G.nx x (G.pv x),pv:=jr G.nx G.pv x (G.pv x),up:=ai G.up x (-1),mr:=ai G.mr x false,K:=ai G.K p [],R:=G.R }:FG)).R q)=t from by show lW (G.R q)=t;rw [HM.out.2.2];rfl] at this;exact this
  have hqI:(q:Int)<(A.hs.length:Int):=ω;have hcap:=M7.cap;have H7:=χ (ψ M7 jC);clear M7 jC q2 q0 q3 f0 f3
  go_region_held3 (aa [B.bn,B.bp] w7) (exact ν)
   (first
    | ((go_at_call 233;(with_reducible refine (ks _ β).mono ?_));rintro e w8 ⟨rfl,hR8,EF⟩;(have sO:aa [B.bn,B.bp] w7 w8:=aa.trans ν EF)))
  go_wp2;go_end0;refine ⟨rfl,((H7.out.1.cz sO hR8).PN q (t::x::s) (by show _=lW (G.R q);rw [HM.out.2.2];rfl)).drewN 0,H7.out.2.trans (sO.mono (fun z hz=>by simp at hz;rcases hz with e|e<;>simp [e]))⟩
 | cons y r=>
  rw [hA] at hn hw1 hl BV hkn;have hn':G.nx x=y:=hn;rw [hA] at hxa;have hyx:y≠x:=fun e=>hxa (by simp [e]);have hyxI:((y:Int) == (x:Int))=false:=ζ;rw [hn'] at hkn;have hrl:((r.length:Nat):Int)+1=(((y::r).length:Nat):Int):=σ;obtain ⟨W4,Ui⟩:∃W4,W4=(w.setCell ⟨B.bl,p*4+2,none⟩ (.int .i64 (((y::r).length:Nat):Int))).setCell ⟨B.bl,p*4+1,none⟩ (.int .i64 (-1)):=⟨_,rfl⟩;obtain ⟨W5,TZ⟩:∃W5,W5=((w.setCell ⟨B.bl,p*4+2,none⟩ (.int .i64 (((y::r).length:Nat):Int))).setCell ⟨B.bl,p*4+1,none⟩ (.int .i64 (-1))).setCell ⟨B.bl,p*4+1,none⟩ (.int .i64 (y:Int)):=⟨_,rfl⟩
  have M5:dZ W5 B F gt ct A st { G with K:=ai G.K p (y::r) }:=by rw [TZ];exact M.aa0 p (y::r) _ (y:Int) (-1) rfl rfl
  have bK:aa [B.bl] w W5:=by rw [TZ];exact ν
  have fZ:aa [B.bl] w W4:=by rw [Ui];exact ν
  have kn4:∀W,aa [] W4 W->Calls Tryz.prog 236 #[.pointer (some ⟨B.br,0,none⟩),.int .i64 (x:Int)] W fun e w'=>e=.returned (.tuple #[.int .i64 (y:Int),.bool true])/\w'=W:=fun W hW=>by
   have:=Cc (M.rings.upd (fZ.then hW) (by simp;exact Ne.symm g1) (by simp;exact Ne.symm g2) (by simp;exact Ne.symm g3)) hx;rw [hn'] at this;exact this
  have Zr:∀W,aa [] W5 W->Calls Tryz.prog 228 #[.pointer (some ⟨B.br,0,none⟩),.int .i64 (x:Int)] W fun e w'=>e=.returned (.bool true)/\xS w' B.br B.bn B.bp A.cs.length (dA G.nx x (G.pv x)) (jr G.nx G.pv x (G.pv x))/\aa [B.bn,B.bp] W w':=fun W hW=>BV W (M5.aj hW);rw [Ui] at kn4;rw [TZ] at Zr;have Zt:=kn4;have H5:=χ (ψ M5 (ψ bK TZ));have HM:=χ (ψ M (ψ hlt hR));clear BV hkn M5 bK TZ M hlt hR eg hA hn hn' hl ux hxa Ui fZ kn4 hrl;generalize (((y::r).length:Nat):Int)=dl at *
  go_enter Tryz.func231,Tryz.ntmps231
  go_wp2
  go_region
  go_wp2_with (first
   | ((go_at_call 236;(with_reducible refine (Zt _ β).mono ?_));rintro e w9 ⟨rfl,aI⟩;rw [aI];clear aI w9)
   | ((go_at_call 228;(with_reducible refine (Zr _ β).mono ?_));rintro e w6 ⟨rfl,Zn,gF⟩)
   | fail)
  have U6:aa [B.bn,B.bp] W5 w6:=by rw [H5.out.2.2];exact aa.trans β gF
  have M6:=((H5.out.1)).cz U6 Zn;have jC:aa [B.bn,B.bp,B.bl] w w6:=(H5.out.2.1.mono σ).trans ((U6).mono (fun z hz=>by simp at hz;rcases hz with e|e<;>simp [e]));have q2:=M6.h2;have q0:=M6.p0 hx;have q3:=M6.p3 hx;have f0:=M6.pl.free (x*4);have f3:=M6.pl.free (x*4+3);have H6:=χ (ψ M6 jC);clear M6 jC Zn gF Zt Zr
  go_region
  go_wp2;refine rY (fun W=>dZ W B F gt ct A st { nx:=dA G.nx x (G.pv x),pv:=jr G.nx G.pv x (G.pv x),up:=ai G.up x (-1),mr:=ai G.mr x false,K:=ai G.K p (y::r),R:=G.R }/\aa [B.bn,B.bp,B.bl] w W) ?_ ?_
  ·have jC:=H6.out.2;exact ⟨(H6.out.1.lone x).drewN 1,ν⟩
  rintro w7 ⟨M7,jC⟩;have ks:=fun W (hW:aa [] w7 W)=>j6 (M7.rings.aj hW) ht hx;have m:∀x,x≠B.bn->x≠B.bp->x∉[B.bn,B.bp]:=fun x h1 h2=>by simp [h1,h2]
  have r1:∀W,aa [B.bn,B.bp] w7 W->W.cell? ⟨B.n0,1,none⟩=some (.pointer (some ⟨B.br,0,none⟩)):=fun W hW=>hW.kept M7.h1 (m _ e2 e3);have r3:∀W,aa [B.bn,B.bp] w7 W->W.cell? ⟨B.n0,3,none⟩=some (.slice (some ⟨gt,0,none⟩) A.hs.length ct):=fun W hW=>hW.kept M7.h3 (m _ e2 e3);have rt:∀W,aa [B.bn,B.bp] w7 W->W.cell? ⟨gt,q,none⟩=some (.int .i64 (t:Int)):=fun W hW=>by
   have:=hW.kept (M7.top hq) (m _ g6 g7);rw [show lW ((({ nx:=dA G.nx x (G.pv x),pv:=jr G.nx G.pv x (G.pv x),up:=ai G.up x (-1),mr:=ai G.mr x false,K:=ai G.K p (y::r),R:=G.R }:FG)).R q)=t from by show lW (G.R q)=t;rw [HM.out.2.2];rfl] at this;exact this
  have hqI:(q:Int)<(A.hs.length:Int):=ω;have hcap:=M7.cap;have H7:=χ (ψ M7 jC);clear M7 jC q2 q0 q3 f0 f3
  go_region_held3 (aa [B.bn,B.bp] w7) (exact ν)
   (first
    | ((go_at_call 233;(with_reducible refine (ks _ β).mono ?_));rintro e w8 ⟨rfl,hR8,EF⟩;(have sO:aa [B.bn,B.bp] w7 w8:=aa.trans ν EF)))
  go_wp2;go_end0;refine ⟨rfl,((H7.out.1.cz sO hR8).PN q (t::x::s) (by show _=lW (G.R q);rw [HM.out.2.2];rfl)).drewN 0,H7.out.2.trans (sO.mono (fun z hz=>by simp at hz;rcases hz with e|e<;>simp [e]))⟩
theorem dZ.marked (M:dZ w B F gt ct A st G) (x:Nat):dZ (w.setCell ⟨B.bl,x*4+3,none⟩ (.bool true)) B F gt ct A st { G with mr:=ai G.mr x true }:=by
 refine M.JH (up:=G.up) (K:=G.K) ν ?_;exact pO M.pl x true
theorem EG {bJ:Nat->Int} {L Mx:Nat->Nat->Prop} (ZF:∀a,¬L a a) (M:dZ w B F gt ct A st G) {q p t:Nat} {s:List Nat} (hq:q<A.hs.length) (H:FF A.cs.length G bJ L (fun c=>if c=p then 1 else 0)) (R:FR A.cs.length G bJ Mx none) (hR:G.R q=t::s) (hp:p<A.cs.length) (hh:bJ p=q) (h1:1<=q)
  (hf:∀y,y<A.cs.length->bJ y=q->y≠t->Mx t y) :
  Calls Tryz.prog 232 #[.pointer (some ⟨B.n0,0,none⟩),.int .i64 (q:Int),.int .i64 (p:Int)] w fun e w'=>e=.returned (.tuple #[])/\dZ w' B F gt ct A st (qV (marks A.cs.length G+1) q p G)/\aa [B.bn,B.bp,B.bl] w w':=by
 have hc1:=M.cells.ok.c1;obtain ⟨D,hD⟩:∃D,qV (marks A.cs.length G+1) q p G=D:=⟨_,rfl⟩;rw [hD];have H0:=χ (ψ M (ψ H (ψ R (ψ hR (ψ hD hf)))));clear M H R hR hD hf
 go_enter Tryz.func232,Tryz.ntmps232
 go_wp2
 go_loopg [2] (marks A.cs.length G+1) (fun fu s2 wr=>∃ (p':Nat) (s':List Nat) (G':FG),s2=.int .i64 (p':Int)/\FF A.cs.length G' bJ L (fun c=>if c=p' then 1 else 0)/\FR A.cs.length G' bJ Mx none/\G'.R q=t::s'/\p'<A.cs.length/\bJ p'=q/\marks A.cs.length G'<fu/\qV fu q p' G'=D/\dZ wr B F gt ct A st G'/\aa [B.bn,B.bp,B.bl] w wr)
 case atStart=>exact ⟨p,s,G,rfl,H0.out.2.1,H0.out.2.2.1,H0.out.2.2.2.1,hp,hh,ω,H0.out.2.2.2.2.1,H0.out.1,aa.refl _ _⟩
 case round=>
  rename Nat=>fu;obtain ⟨p',s',G',rfl,H,R,hR,hp',hh',hm,hcas,hM,hu⟩:=hrel;rename World=>wr;obtain ⟨fv,rfl⟩:∃fv,fu=fv+1:=⟨fu-1,ω⟩;have Ym:(p':Int)<(A.cs.length:Int):=ω;have q2:=hM.h2;have p0:=hM.p0 hp';have p3:=hM.p3 hp';have f3:=hM.pl.free (p' * 4+3);unfold qV at hcas;have HR:=χ (ψ H (ψ R (ψ hR (ψ hM hu))))
  by_cases e:G'.up p'=-1
  ·rw [Δ e] at hcas;rw [e] at p0;subst hcas;clear H R hR hM hu e H0;go_wp2;go_end0;exact ⟨rfl,HR.out.2.2.2.1,HR.out.2.2.2.2⟩
  ·rw [Γ e] at hcas;obtain ⟨pp,Q5,Y6,_⟩:=(H.Ir p' hp').resolve_left e;have hne:((pp:Int) == -1)=false:=σ;rw [Y6] at p0 hcas;rw [π] at hcas;cases hb:G'.mr p' with
   | false=>
    rw [hb] at p3 hcas;rw [Δ rfl] at hcas;have HC:=χ hcas;clear H R hR hM hu e hcas hb Y6 H0;go_wp2;refine bodyPost_ret (v:=.tuple #[]) (by simp [results,Tryz.results232,go_sem]) rfl ?_;exact ⟨rfl,by rw [←HC.out];exact HR.out.2.2.2.1.marked p',HR.out.2.2.2.2.setCell (Α σ) _⟩
   | true=>
    rw [hb] at p3 hcas;rw [Γ σ] at hcas;have ZX:pp≠p':=fun e3=>by subst e3;exact ZF _ (H.ord pp pp hp' Y6)
    have htp:p'≠t:=fun e3=>by
     subst e3;have:=((R.all q).2.1 p').1 (by rw [hR];simp);exact e this.2.2.1
    obtain ⟨o1,o2,o3,o4,o5,o6,⟨a,b,eK,eA⟩,o8⟩:=AU H R hR hp' Y6 ZX hh' (H0.out.2.2.2.2.2 p' hp' hh' htp);have ht:=(((R.all q).2.1 t).1 (by rw [hR];simp)).2.1;have hnd:=(H.ring pp Q5).nd;have hka:(G'.K pp).length=(zh (G'.K pp) p').length+1:=by rw [eA,eK];simp;omega
    have hkb:(G'.K pp).length<=65536:=Χ (H.ML Q5) hc1;have hxa:p'∉zh (G'.K pp) p':=by
     rw [eA];rw [eK,θ,Ζ] at hnd;intro hm2;rcases τ.1 hm2 with h'|h'
     ·exact hnd.2.1.1 h'
     ·exact hnd.2.2 p' h' p' σ rfl
    have ko:=fun W (hW:aa [] wr W)=>Fy (hM.aj hW) hq hp' Q5 Y6 hR ht hka hkb o8 hxa;have hmk:=uj (G:=G') (b:=false) hp' rfl (dV q p' G') o4;rw [hb] at hmk;simp only [Ϟ,if_false,if_true] at hmk;have Yl:FF A.cs.length (dV q p' G') bJ L (fun c=>if c=pp then 1 else 0):=by
     refine ⟨o1.rg,o1.kid,o1.Ir,o1.ring,o1.home,o1.ord,o1.alone,o1.free,fun x d hx=>?_⟩;have XE:(dV q p' G').up p'=-1:=by rw [o3,bN]
     rw [tK (G:=dV q p' G') (ex:=fun c=>if c=pp then (if c=p' then 1 else 0)+1 else if c=p' then 1 else 0) d (fun c hc=>by
      have hcp:c≠p':=fun e3=>o1.r9 hx XE (e3▸hc)
      rw [Γ hcp])]
     exact o1.cnt x d hx
    have ZM:bJ pp=q:=by have:=(H.home p' pp hp' Y6).1;omega
    have HS:=χ (ψ Yl (ψ o2 (ψ o6 (ψ hcas hmk))));clear H R hR hM hu e hcas hb Y6 o1 Yl o2 o3 o4 o5 o6 o8 eK eA hnd hka hkb hxa hmk
    go_wp2_with (first
     | ((go_at_call 231;(with_reducible refine (ko _ β).mono ?_));rintro e w2 ⟨rfl,hM2,hu2⟩)
     | fail)
    go_roundg fv
    case measure=>omega
    case rel=>
     obtain ⟨o1,o2,o6,hcas,hmk⟩:=HS.out;exact ⟨pp,p'::s',dV q p' G',rfl,o1,o2,by rw [o6,bN],Q5,ZM,ω,hcas,hM2,HR.out.2.2.2.2.trans hu2⟩
theorem FO {bJ:Nat->Int} {L Mx:Nat->Nat->Prop} (ZF:∀a,¬L a a) (M:dZ w B F gt ct A st G) {q x t:Nat} {s:List Nat} (hq:q<A.hs.length) (hx:x<A.cs.length) (H0:FF A.cs.length G bJ (fun a y=>y≠x->L a y) (fun _=>0)) (hR:G.R q=t::s) (ht:t<A.cs.length) (h1:1<=q)
  (hp:∀p:Nat,G.up x=p->p≠x/\bJ p=q/\FF A.cs.length (dV q x G) bJ L (fun c=>if c=p then 0+1 else 0)/\FR A.cs.length (dV q x G) bJ Mx none/\(dV q x G).R q=t::x::s)
  (hf:∀y,y<A.cs.length->bJ y=q->y≠t->Mx t y) :
  Calls Tryz.prog 225 #[.pointer (some ⟨B.n0,0,none⟩),.int .i64 (q:Int),.int .i64 (x:Int)] w fun e w'=>e=.returned (.tuple #[])/\dZ w' B F gt ct A st (jS A.cs.length q x G)/\aa [B.bn,B.bp,B.bl] w w':=by
 have hc1:=M.cells.ok.c1;have q2:=M.h2;have p0:=M.p0 hx;have Bl:(x:Int)<(A.cs.length:Int):=ω
 by_cases e:G.up x=-1
 ·have eg:jS A.cs.length q x G=G:=by unfold jS;rw [Δ e]
  rw [eg];rw [e] at p0;have HM:=χ M;clear M H0 hR hp hf e eg
  go_enter Tryz.func225,Tryz.ntmps225
  go_wp2;go_end0;exact ⟨rfl,HM.out,aa.refl _ _⟩
 ·obtain ⟨p,hpn,ux,hxk⟩:=(H0.Ir x hx).resolve_left e;obtain ⟨hpx,ZM,o1,o2,o3⟩:=hp p ux;have eg:jS A.cs.length q x G=qV (marks A.cs.length (dV q x G)+1) q p (dV q x G):=by unfold jS;rw [ux,Γ ω,π]
  rw [eg];rw [ux] at p0;have hne:((p:Int) == -1)=false:=σ;have LG:=H0.ring p hpn;obtain ⟨a,b,eK,eA,xa,xb⟩:=JF hxk LG.nd;have hka:(G.K p).length=(zh (G.K p) x).length+1:=by rw [eA,eK];simp;omega
  have hkb:(G.K p).length<=65536:=Χ (H0.ML hpn) hc1;have hxa:x∉zh (G.K p) x:=by rw [eA];simp;exact ⟨xb,xa⟩
  have hnx:G.nx x=(zh (G.K p) x).headD x:=by
   rw [eK] at LG;have:=Ring.Wx (a:=a) (b:=x::b) LG;rw [eA];exact (iO.1 this).2.1
  have ko:=fun W (hW:aa [] w W)=>Fy (M.aj hW) hq hx hpn ux hR ht hka hkb hnx hxa;have Yl:FF A.cs.length (dV q x G) bJ L (fun c=>if c=p then 1 else 0):=by simpa using o1
  have kc:=fun W (hM:dZ W B F gt ct A st (dV q x G))=>EG ZF hM hq Yl o2 o3 hpn ZM h1 hf;have HM:=χ (ψ M kc);clear M H0 hR hp hf e eg kc o1 Yl o2 o3 eK eA hka hkb hxa hnx ux LG
  go_enter Tryz.func225,Tryz.ntmps225
  go_wp2_with (first
   | ((go_at_call 231;(with_reducible refine (ko _ β).mono ?_));rintro e w2 ⟨rfl,hM2,hu2⟩;(have MO:=HM.out.2 _ hM2);(have HU:=χ hu2);clear hM2 hu2 ko)
   | ((go_at_call 232;(with_reducible refine (MO).mono ?_));rintro e w3 ⟨rfl,jD,hu3⟩)
   | fail)
  go_end0;exact ⟨rfl,jD,HU.out.trans hu3⟩
end
def wT (w:World) (p:Nat) (FF:List Nat) (A:NS) (st:Nat) (G:FG):Prop:=(∃B F gt ct,p=B.n0/\FF=B.blk F gt/\dZ w B F gt ct A st G)/\yB A G
theorem jh {B:FB} {F:List Nat} {gt:Nat}:∀x,x∈F->x∈B.blk F gt:=fun x hx=>by simp [FB.blk,hx]
theorem UA {w:World} {B:FB} {F F':List Nat} {gt:Nat} (hF:∀x,x∈F'->x∈F\/w.heap.size<=x):∀x,x∈B.blk F' gt->x∈B.blk F gt\/w.heap.size<=x:=fun x hx=>by
 simp only [FB.blk,ρ] at hx ⊢;rcases hx with e|e|e|e|e|e|e
 ·exact Α (Α e)
 ·exact Α (Β (Α e))
 ·exact Α (Β (Β (Α e)))
 ·exact Α (Β (Β (Β (Α e))))
 ·exact Α (Β (Β (Β (Β (Α e)))))
 ·exact Α (Β (Β (Β (Β (Β (Α e))))))
 ·rcases hF x e with h|h
  ·exact Α (Β (Β (Β (Β (Β (Β h))))))
  ·exact Β h
section
variable {w:World} {p:Nat} {FF:List Nat} {A:NS} {st:Nat} {G:FG}
theorem wT.upd {w':World} {S:List Nat} (h:wT w p FF A st G) (hu:aa S w w') (hS:∀x,x∈S->x∉FF):wT w' p FF A st G:=by
 obtain ⟨⟨B,F,gt,ct,rfl,rfl,M⟩,I⟩:=h;exact ⟨⟨B,F,gt,ct,rfl,rfl,M.upd hu hS⟩,I⟩
theorem wT.lt (h:wT w p FF A st G):∀x,x∈FF->x<w.heap.size:=by
 obtain ⟨⟨B,F,gt,ct,rfl,rfl,M⟩,I⟩:=h;exact M.lt
theorem wT.ok (h:wT w p FF A st G):A.Ok:=by
 obtain ⟨⟨B,F,gt,ct,rfl,rfl,M⟩,I⟩:=h;exact M.cells.ok
theorem wT.ou (h:wT w p FF A st G):st<=4611686018427387904:=by
 obtain ⟨⟨B,F,gt,ct,rfl,rfl,M⟩,I⟩:=h;exact M.cells.ou
theorem wT.cl (h:wT w p FF A st G):∃c F1,w.cell? ⟨p,0,none⟩=some (.pointer (some ⟨c,0,none⟩))/\aC w c F1 A st/\c∈FF:=by
 obtain ⟨⟨B,F,gt,ct,rfl,rfl,M⟩,I⟩:=h;exact ⟨B.c,F,M.h0,M.cells,jh _ M.cells.mem⟩
theorem Lr (I:yB A G) (ok:A.Ok) {q:Int} {m:Nat} (hm:dF A q=some m):∃ (h:Nat) (s:List Nat),q=h/\1<=h/\h<A.hs.length/\G.R h=m::s/\0<dI A q:=by
 obtain ⟨m1,m2⟩:=I.rU hm;have hx:(A.c m).i=(q.toNat:Int):=m1.2.2;have hnat:=ok.nat m m1.1;refine ⟨q.toNat,?_⟩;have hmem:=((I.fr.all q.toNat).2.1 m).2 ⟨m2,m1⟩;cases hR:G.R q.toNat with
 | nil=>rw [hR] at hmem;cases hmem
 | cons t s=>
  have:=(I.pK hR).1;rw [show ((q.toNat:Nat):Int)=q by omega,hm] at this
  injection this with this
  subst this;exact ⟨s,ω,m2,ω,rfl,eH.2 ⟨m,m1.1,ω,ω⟩⟩
theorem Fx (h:wT w p FF A st G) (q:Int) (ZE:-9223372036854775808<=q/\q<=9223372036854775807) :
  Calls Tryz.prog 224 #[.pointer (some ⟨p,0,none⟩),.int .i64 q] w fun e w'=>e=.returned (.tuple #[.int .i64 (pQ (dF A q)),.bool (dF A q).isSome])/\w'=w:=by
 obtain ⟨⟨B,F,gt,ct,rfl,rfl,M⟩,I⟩:=h;have h0:=M.h0;have kl:=pW M.cells q ZE;cases hm:dF A q with
 | none=>
  rw [ic.1 hm] at kl;clear M I hm
  go_enter Tryz.func224,Tryz.ntmps224
  go_wp2_with ((go_at_call 142;(with_reducible refine (kl).mono ?_);rintro e w9 ⟨rfl,aI⟩;rw [aI];clear aI w9))
  go_ret2;exact ⟨rfl,rfl⟩
 | some m=>
  obtain ⟨hh,s,rfl,h1,hl,hR,hp⟩:=Lr I M.cells.ok hm;have h3:=M.h3;have ht:=M.top hl;rw [hR] at ht;have ht':w.cell? ⟨gt,hh,none⟩=some (.int .i64 (m:Int)):=ht;have hcap:=M.cap;have hlI:(hh:Int)<(A.hs.length:Int):=ω;have hne:(((dI A (hh:Int):Nat):Int) == 0)=false:=ζ;generalize dI A (hh:Int)=ln at *;clear M I hm hR ht
  go_enter Tryz.func224,Tryz.ntmps224
  go_wp2_with ((go_at_call 142;(with_reducible refine (kl).mono ?_);rintro e w9 ⟨rfl,aI⟩;rw [aI];clear aI w9))
  go_ret2;exact ⟨rfl,rfl⟩
theorem Fu (h:wT w p FF A st G) (q x:Nat) (k s:Int) (hk:-9223372036854775808<=k/\k<=9223372036854775807/\0<=s/\s<=18446744073709551615) (hB:nR A q x=true) :
  Calls Tryz.prog 221 #[.pointer (some ⟨p,0,none⟩),.int .i64 (q:Int),.int .i64 (x:Int),.agg #[.int .i64 k,.int .u64 s]] w fun e w'=>e=.returned (.bool true)/\
   Goes FF w w' (fun JY=>wT w' p JY (aJ A q x k s) (bR st (rJ q G)) (RS (aJ A q x k s) q x G)):=by
 obtain ⟨⟨B,F,gt,ct,rfl,rfl,M⟩,I⟩:=h;have ok:=M.cells.ok;obtain ⟨I2,_,_,_,h1,hx,hin,hti,hcs⟩:=Zg I ok k s hB;have kY:(aJ A q x k s).hs.length=A.hs.length:=by unfold aJ;split;rfl;rfl
 have hql:q<(aJ A q x k s).hs.length:=by
  rw [kY];have:=(aO _ _).1 ((dW _ _ _).1 hB).1;omega
 have u1:aa [] w (w.alloc (.cells #[.int .i64 k,.int .u64 s] 129)):=(aa.refl _ _).alloc _;have kp:=fun W (hW:aa [] (w.alloc (.cells #[.int .i64 k,.int .u64 s] 129)) W)=>nC (M.cells.aj (u1.trans hW)) q x k s hk hB;have h0:=M.h0;have uH:B.n0∉F:=M.d1.1;have hsz:w.heap.size∉F:=fun hm=>by have:=M.cells.lt _ hm;omega
 have r0:∀W,aa F (w.alloc (.cells #[.int .i64 k,.int .u64 s] 129)) W->W.cell? ⟨B.n0,0,none⟩=some (.pointer (some ⟨B.c,0,none⟩)):=fun W hW=>hW.kept (u1.was h0) uH;have r1:∀W,aa F (w.alloc (.cells #[.int .i64 k,.int .u64 s] 129)) W->W.cell? ⟨w.heap.size,0,none⟩=some (.int .i64 k):=fun W h=>h.kept σ hsz;have r2:∀W,aa F (w.alloc (.cells #[.int .i64 k,.int .u64 s] 129)) W->W.cell? ⟨w.heap.size,1,none⟩=some (.int .u64 s):=fun W h=>h.kept σ hsz;have ka:=fun (W:World) (hM:dZ W B F gt ct (aJ A q x k s) st G)=>BQ hM [] hql hin hti;have HM:=χ (ψ M (ψ kY hcs));have HI:=χ I2
 clear M I ok I2 hin hti hql hx hcs kY h0 hB
 go_enter Tryz.func221,Tryz.ntmps221
 go_wp2
 go_region_held3 (aa F (w.alloc (.cells #[.int .i64 k,.int .u64 s] 129))) (exact ν)
  (first
   | ((go_at_call 154;(with_reducible refine (kp _ β).mono ?_));rintro e w1 ⟨rfl,jd,hu1⟩;(have hu2:aa F (w.alloc (.cells #[.int .i64 k,.int .u64 s] 129)) w1:=ν)))
 have uF:aa F w w1:=(u1.mono σ).trans hu2;have hM1:=HM.out.1.bY uF jd (fun y hy=>Α hy) HM.out.2.2 HM.out.2.1;have Zv:=fun (W:World) (hW:aa [] w1 W)=>ka W (hM1.aj hW);have HU:=χ uF;have hcm:=HM.out.1.cells.mem;clear kp r0 r1 r2 hM1 ka uF hu2 jd hu1
 go_wp2_with (first
  | ((go_at_call 230;(with_reducible refine (Zv _ β).mono ?_));rintro e w2 ⟨rfl,hM2,hu3⟩)
  | fail)
 go_ret;refine ⟨rfl,B.blk F gt,⟨⟨B,F,gt,ct,rfl,rfl,hM2⟩,HI.out⟩,(HU.out.mono jh).trans ((β:aa _ w1 _).trans (hu3.mono (fun y hy=>?_))),fun y hy=>Α hy⟩;simp only [ρ,ς,or_false] at hy;rcases hy with e|e|e|e
 ·rw [e];exact jh _ hcm
 all_goals simp [FB.blk,e]
end
end Go.Proofs.YtklibcncmbofpaaGreat
