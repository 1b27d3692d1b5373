/-
  Lemmas for RankSplits: FbA, FbB, FbC, Fb, Fb2, FbI, FbT, FbP, FbQ, FbR, Fb3, FbU, FbV, Fb5, Fb6, Fb8, Fb9, FbN. Conditions: those of each lemma.
-/
import Derived.Deep.OwnRows
import Derived.Deep.RegionHeldLaw
import Derived.Outline
import Derived.Deep.LoopGhost
import Derived.Test.YtklibcncmbofpaaGreatC03
import Derived.Test.YtklibcncmbofpaaGreatC04
set_option linter.all false
set_option maxHeartbeats 8000000
set_option maxRecDepth 10000
namespace Go.Proofs.YtklibcncmbofpaaGreat
def zK (nx:Nat->Nat):List Nat->Nat->Prop
 | [],_=>True
 | x::t,z=>nx x=t.headD z/\zK nx t z
theorem wy (a b:List Nat) (z:Nat):(a++b).headD z=a.headD (b.headD z):=by cases a<;>rfl
theorem rq {nx:Nat->Nat}:∀ (a b:List Nat) (z:Nat),zK nx (a++b) z↔zK nx a (b.headD z)/\zK nx b z
 | [],b,z=>by simp [zK]
 | x::t,b,z=>by
  show (nx x=(t++b).headD z/\zK nx (t++b) z)↔(nx x=t.headD (b.headD z)/\zK nx t (b.headD z))/\zK nx b z
  rw [rq t b z,wy,and_assoc]
theorem zK.far {nx nx':Nat->Nat}:∀ {l:List Nat} {z:Nat},zK nx l z->(∀w,w∈l->nx' w=nx w)->zK nx' l z
 | [],_,_,_=>trivial
 | x::t,z,h,e=>⟨(e x σ).trans h.1,zK.far h.2 (fun w hw=>e w (by simp [hw]))⟩
def Ring (nx:Nat->Nat) (l:List Nat):Prop:=l.Nodup/\zK nx l (l.headD 0)
theorem Ring.nil (nx:Nat->Nat):Ring nx []:=⟨Ϩ,trivial⟩
theorem Ring.nd {nx:Nat->Nat} {l:List Nat} (h:Ring nx l):l.Nodup:=h.1
theorem jm {nx:Nat->Nat} {x:Nat} {t:List Nat}:Ring nx (x::t)↔(x::t).Nodup/\nx x=t.headD x/\zK nx t x:=Iff.rfl
theorem iT {nx:Nat->Nat} {x:Nat}:Ring nx [x]↔nx x=x:=by
 rw [jm];simp [zK]
theorem Ring.far {nx nx':Nat->Nat} {l:List Nat} (h:Ring nx l) (e:∀w,w∈l->nx' w=nx w):Ring nx' l:=⟨h.1,h.2.far e⟩
theorem LV {a b:List Nat} (h:(a++b).Nodup):(b++a).Nodup:=(Φ (l₁:=a) (l₂:=b)).nodup_iff.1 h
theorem Ring.Y8 {nx:Nat->Nat}:∀ {a b:List Nat},Ring nx (a++b)->Ring nx (b++a)
 | [],b,h=>by simpa using h
 | a0::a,[],h=>by simpa using h
 | a0::a,b0::b,h=>by
  refine ⟨LV h.1,?_⟩;have h2:=(rq _ _ _).1 h.2;exact (rq _ _ _).2 ⟨h2.2,h2.1⟩
def dU (nx:Nat->Nat) (x y:Nat):Nat->Nat:=fun z=>if z=x then nx y else if z=y then nx x else nx z
def oh (nx pv:Nat->Nat) (x y:Nat):Nat->Nat:=fun z=>if z=nx x then y else if z=nx y then x else pv z
theorem jf {nx:Nat->Nat} {x y z:Nat} (h1:z≠x) (h2:z≠y):dU nx x y z=nx z:=by unfold dU;rw [Γ h1,Γ h2]
theorem Ring.yX {nx:Nat->Nat} {l:List Nat} (h:Ring nx l) {x y:Nat} (h1:x∉l) (h2:y∉l):Ring (dU nx x y) l:=
 h.far (fun w hw=>jf (fun e=>h1 (e▸hw)) (fun e=>h2 (e▸hw)))
theorem Ring.join {nx:Nat->Nat} {x y:Nat} {s t:List Nat} (h:Ring nx (x::s)) (k:Ring nx (y::t)) (d:∀z,z∈x::s->z∉y::t):Ring (dU nx x y) (x::t++y::s):=by
 obtain ⟨n1,e1,r1⟩:=jm.1 h;obtain ⟨n2,e2,r2⟩:=jm.1 k;have n1':=List.nodup_cons.1 n1;have n2':=List.nodup_cons.1 n2;have hxy:y≠x:=fun e=>d x σ (by simp [e]);have sx:dU nx x y x=nx y:=by unfold dU;rw [Δ rfl]
 have sy:dU nx x y y=nx x:=by unfold dU;rw [Γ hxy,Δ rfl]
 refine jm.2 ⟨?_,?_,?_⟩
 ·have:(x::t++y::s).Perm ((x::s)++(y::t)):=by
   show (x::(t++y::s)).Perm (x::(s++y::t))
   refine List.Perm.cons x ?_;exact (Ϥ).trans ((List.Perm.cons y Φ).trans List.perm_middle.symm)
  refine this.nodup_iff.2 (θ.2 ⟨n1,n2,fun a ha b hb e=>?_⟩);subst e;exact d a ha hb
 ·show dU nx x y x=(t++y::s).headD x
  rw [sx,e2,wy];rfl
 ·show zK (dU nx x y) (t++y::s) x
  refine (rq _ _ _).2 ⟨?_,?_,?_⟩
  ·exact r2.far (fun w hw=>jf (fun e=>d x σ (by subst e;simp [hw])) (fun e=>n2'.1 (e▸hw)))
  ·rw [sy,e1]
  ·exact r1.far (fun w hw=>jf (fun e=>n1'.1 (e▸hw)) (fun e=>d w (by simp [hw]) (by subst e;simp)))
theorem Ring.cut {nx:Nat->Nat} {x y:Nat} {a b:List Nat} (h:Ring nx (x::a++y::b)):Ring (dU nx x y) (x::b)/\Ring (dU nx x y) (y::a):=by
 have h':Ring nx (x::(a++y::b)):=h;obtain ⟨n1,e1,r1⟩:=jm.1 h';have r2:=(rq _ _ _).1 r1;obtain ⟨r3,r4,r5⟩:zK nx a y/\nx y=b.headD x/\zK nx b x:=⟨r2.1,r2.2.1,r2.2.2⟩;have n2:=List.nodup_cons.1 n1;have n3:=θ.1 n2.2;have n4:=List.nodup_cons.1 n3.2.1;have hxy:y≠x:=fun e=>n2.1 (by subst e;simp);have sx:dU nx x y x=nx y:=by unfold dU;rw [Δ rfl]
 have sy:dU nx x y y=nx x:=by unfold dU;rw [Γ hxy,Δ rfl]
 have xb:x∉b:=fun hm=>n2.1 (by simp [hm]);have xa:x∉a:=fun hm=>n2.1 (by simp [hm]);have ya:y∉a:=fun hm=>n3.2.2 y hm y σ rfl
 refine ⟨jm.2 ⟨List.nodup_cons.2 ⟨xb,n4.2⟩,by rw [sx,r4],r5.far (fun w hw=>jf (fun e=>xb (e▸hw)) (fun e=>n4.1 (e▸hw)))⟩,
  jm.2 ⟨List.nodup_cons.2 ⟨ya,n3.1⟩,?_,r3.far (fun w hw=>jf (fun e=>xa (e▸hw)) (fun e=>ya (e▸hw)))⟩⟩
 rw [sy,e1,wy];rfl
structure Rg (n:Nat) (nx pv:Nat->Nat):Prop where
 nn:∀x,x<n->nx x<n
 pp:∀x,x<n->pv x<n
 pn:∀x,x<n->pv (nx x)=x
 np:∀x,x<n->nx (pv x)=x
section
variable {n:Nat} {nx pv:Nat->Nat}
theorem Rg.inj (h:Rg n nx pv) {x y:Nat} (hx:x<n) (hy:y<n) (e:nx x=nx y):x=y:=by
 rw [←h.pn x hx,←h.pn y hy,e]
theorem Rg.swap (h:Rg n nx pv) {x y:Nat} (hx:x<n) (hy:y<n):Rg n (dU nx x y) (oh nx pv x y):=by
 refine ⟨fun z hz=>?_,fun z hz=>?_,fun z hz=>?_,fun z hz=>?_⟩
 ·unfold dU
  split
  ·exact h.nn y hy
  ·split
   ·exact h.nn x hx
   ·exact h.nn z hz
 ·unfold oh
  split
  ·exact hy
  ·split
   ·exact hx
   ·exact h.pp z hz
 ·unfold dU oh
  by_cases e1:z=x
  ·rw [Δ e1]
   by_cases e2:nx y=nx x
   ·rw [Δ e2,e1];exact h.inj hy hx e2
   ·rw [Γ e2,Δ rfl,e1]
  ·rw [Γ e1]
   by_cases e2:z=y
   ·rw [Δ e2,Δ rfl,e2]
   ·rw [Γ e2,Γ (fun e=>e1 (h.inj hz hx e)),Γ (fun e=>e2 (h.inj hz hy e))];exact h.pn z hz
 ·unfold dU oh
  by_cases e1:z=nx x
  ·rw [Δ e1]
   by_cases e2:y=x
   ·rw [Δ e2,e2,e1]
   ·rw [Γ e2,Δ rfl,e1]
  ·rw [Γ e1]
   by_cases e2:z=nx y
   ·rw [Δ e2,Δ rfl,e2]
   ·rw [Γ e2,Γ (fun e=>e1 (by rw [←e,h.np z hz])),Γ (fun e=>e2 (by rw [←e,h.np z hz]))];exact h.np z hz
theorem Rg.last (h:Rg n nx pv) {x y:Nat} {a:List Nat} (hr:Ring nx (x::a++[y])) (hy:y<n):pv x=y:=by
 have h':Ring nx (x::(a++[y])):=hr;have r2:=(rq _ _ _).1 (jm.1 h').2.2;have:nx y=x:=r2.2.1;rw [←this];exact h.pn y hy
theorem Rg.part (h:Rg n nx pv) {x:Nat} {l:List Nat} (hr:Ring nx (x::l)) (hl:∀z,z∈x::l->z<n):Ring (dU nx x (pv x)) [x]/\Ring (dU nx x (pv x)) l:=by
 have hx:x<n:=hl x σ;rcases List.eq_nil_or_concat l with rfl|⟨a,y,e⟩
 ·have e1:=iT.1 hr;have e2:pv x=x:=by have:=h.pn x hx;rw [e1] at this;exact this
  rw [e2];refine ⟨iT.2 ?_,Ring.nil _⟩;unfold dU;rw [Δ rfl];exact e1
 ·have e':l=a++[y]:=by rw [e,List.concat_eq_append]
  subst e';have hy:y<n:=hl y σ;rw [h.last hr hy];have:=Ring.cut (b:=[]) hr;exact ⟨this.1,Ring.Y8 (a:=[y]) (b:=a) this.2⟩
end
theorem Lb (t:List Nat) (z:Nat):t.headD z=t.getD 0 z:=by cases t<;>rfl
theorem zK.at {nx:Nat->Nat}:∀ {l:List Nat} {z:Nat},zK nx l z->∀k (hk:k<l.length),nx l[k]=l.getD (k+1) z
 | [],_,_,k,hk=>by simp at hk
 | x::t,z,h,0,hk=>by
  show nx x=(x::t).getD 1 z
  rw [h.1,Lb];simp [φ]
 | x::t,z,h,k+1,hk=>by
  have:=zK.at h.2 k (by simpa using hk)
  show nx (t[k]'(by simpa using hk))=(x::t).getD (k+1+1) z
  rw [this];simp [φ]
theorem Ring.at {nx:Nat->Nat} {x:Nat} {t:List Nat} (h:Ring nx (x::t)) (k:Nat) (hk:k<(x::t).length):nx (x::t)[k]=(x::t).getD (k+1) x:=zK.at h.2 k hk
theorem iF:∀ (n:Nat) (l:List Nat),l.Nodup->(∀x,x∈l->x<n)->l.length<=n
 | 0,l,_,h=>by
  cases l with
  | nil=>simp
  | cons x t=>have:=h x σ;omega
 | n+1,l,hd,h=>by
  by_cases hm:n∈l
  ·have h1:=iF n (l.erase n) (hd.erase n) (fun x hx=>by
    have h2:=(List.Nodup.mem_erase_iff hd).1 hx;have:=h x h2.2
    omega)
   rw [List.length_erase_of_mem hm] at h1;omega
  ·have:=iF n l hd (fun x hx=>by
    have:=h x hx;have:x≠n:=fun e=>hm (e▸hx)
    omega)
   omega
def nI (l:List Nat):List Int:=l.map (fun x:Nat=>(x:Int))
theorem kK (l:List Nat):(nI l).length=l.length:=by unfold nI;simp
theorem Qc (a b:List Nat):nI (a++b)=nI a++nI b:=by unfold nI;simp
end Go.Proofs.YtklibcncmbofpaaGreat
namespace Go.Proofs.YtklibcncmbofpaaGreat
open Go Go.RowKit
structure y5 (w:World) (br bn bp n:Nat) (nx pv:Nat->Nat):Prop where
 head:aG w br 254 2 (fun j=>[Value.slice (some ⟨bn,0,none⟩) n n,.slice (some ⟨bp,0,none⟩) n n].getD j undef)
 nr:aG w bn 3 n (fun j=>.int .i64 (nx j:Int))
 pr:aG w bp 3 n (fun j=>.int .i64 (pv j:Int))
 ne:br≠bn/\br≠bp/\bn≠bp
 le:n<=65536
 rg:Rg n nx pv
section
variable {w:World} {br bn bp n:Nat} {nx pv:Nat->Nat}
theorem y5.upd {w':World} {F:List Nat} (h:y5 w br bn bp n nx pv) (hu:aa F w w') (h1:br∉F) (h2:bn∉F) (h3:bp∉F):y5 w' br bn bp n nx pv:=
 ⟨h.head.upd hu h1,h.nr.upd hu h2,h.pr.upd hu h3,h.ne,h.le,h.rg⟩
theorem y5.ae {w':World} (h:y5 w br bn bp n nx pv) (hu:aa [] w w'):y5 w' br bn bp n nx pv:=h.upd hu σ σ σ
theorem y5.h0 (h:y5 w br bn bp n nx pv):w.cell? ⟨br,0,none⟩=some (.slice (some ⟨bn,0,none⟩) n n):=h.head.cellAt 0 ω rfl
theorem y5.h1 (h:y5 w br bn bp n nx pv):w.cell? ⟨br,1,none⟩=some (.slice (some ⟨bp,0,none⟩) n n):=h.head.cellAt 1 ω rfl
theorem y5.lt (h:y5 w br bn bp n nx pv):br<w.heap.size/\bn<w.heap.size/\bp<w.heap.size:=⟨h.head.lt,h.nr.lt,h.pr.lt⟩
end
theorem Ke:(Tryz.prog.info? 3).map (fun i=>(i.zero,i.size,i.bytes))=some (some (.int .i64 0),1,8):=by kernel_rfl
theorem ET (w:World) (n:Nat):aG (w.alloc (.cells (madeCells #[.int .i64 0] n) 3)) w.heap.size 3 n (fun j=>(madeCells #[.int .i64 0] n).toList.getD j undef):=by
 refine ⟨madeCells #[.int .i64 0] n,?_,by simp [madeCells],fun j hj=>?_⟩
 ·show (w.heap.push _)[w.heap.size]?=_;simp
 ·simp [madeCells,φ,hj]
theorem Ex (n:Nat) (w:World) (h:n<=65536) :
  Calls Tryz.prog 110 #[.int .i64 (n:Int)] w fun e w'=>∃br bn bp,e=.returned (.tuple #[.pointer (some ⟨br,0,none⟩),.int .i64 0])/\y5 w' br bn bp n id id/\aa [] w w'/\w.heap.size<=br/\w.heap.size<=bn/\w.heap.size<=bp:=by
 have hmk:=run_make_row' (P:=Tryz.prog) 26 3 (.int .i64 0) 8 Tryz.underlying26 Ke rfl .i64 .i64 n ω ω
 go_enter Tryz.func110,Tryz.ntmps110
 go_wp2
 go_region
 all_goals
  go_wp2
  go_loopw [19] (fun i wr=>∃ (bn bp k:Nat) (f g:Nat->Value),k<=n/\i=.int .i64 k/\aG wr (w.heap.size+1+1) 254 2 (fun j=>[Value.slice (some ⟨bn,0,none⟩) n n,.slice (some ⟨bp,0,none⟩) n n].getD j undef)/\
   aG wr bn 3 n f/\aG wr bp 3 n g/\(∀j,j<k->f j=.int .i64 (j:Int)/\g j=.int .i64 (j:Int))/\(w.heap.size<=bn/\w.heap.size<=bp/\bn≠bp/\bn<w.heap.size+1+1/\bp<w.heap.size+1+1)/\aa [] w wr) (fun i _=>n-(intOf i).toNat)
  case atStart=>
   have r0:=ET w n;have r1:=ET (w.alloc (.cells (madeCells #[.int .i64 0] n) 3)) n;rw [Κ] at r1;have rh:=fun v1 v2=>dC ((w.alloc (.cells (madeCells #[.int .i64 0] n) 3)).alloc (.cells (madeCells #[.int .i64 0] n) 3)) [v1,v2] 254;simp only [Κ] at rh
   first
    | exact ⟨w.heap.size,w.heap.size+1,0,_,_,ω,rfl,(rh _ _).drew,((r0.alloc _).alloc _).drew,(r1.alloc _).drew,ω,ω,β⟩
    | exact ⟨w.heap.size+1,w.heap.size,0,_,_,ω,rfl,(rh _ _).drew,(r1.alloc _).drew,((r0.alloc _).alloc _).drew,ω,ω,β⟩
  case round=>
   obtain ⟨bn,bp,k,f,g,hk,rfl,hH,hN,hP,hf,hb,hu⟩:=hrel;rename World=>wr
   by_cases hkn:k<n
   ·have c0:=hH.cellAt 0 ω rfl;have c1:=hH.cellAt 1 ω rfl;have d0:=hN.cell k hkn;have d1:=hP.cell k hkn;have e0:=hN.free k;have e1:=hP.free k;have Gd:(k:Int)<(n:Int):=ω;obtain ⟨b1,b2,b3,b4,b5⟩:=hb;have HF:=χ (ψ hf (ψ hH (ψ hN (ψ hP hu))));clear hf hH hN hP hu hmk;go_wp2
    go_region
    all_goals
     go_wp2
     go_roundw
     case rel=>
      obtain ⟨hf,hH,hN,hP,hu⟩:=HF.out;refine ⟨bn,bp,k+1,_,_,ω,by go_num,(hH.far _ _ ζ).far _ _ ζ,(hN.set _ _).far _ _ ζ,(hP.far _ _ ζ).set _ _,fun j hj=>?_,⟨b1,b2,b3,b4,b5⟩,((hu.setCell (Β (by simpa using b1)) _).setCell (Β (by simpa using b2)) _).drew⟩
      by_cases e:j=k
      ·subst e;simp
      ·simp only [Γ e];exact hf j ω
     case measure=>simp [intOf];omega
   ·obtain rfl:k=n:=ω;go_wp2;go_ret2;exact ⟨_,bn,bp,rfl,⟨hH,hN.ext (fun j hj=>(hf j hj).1),hP.ext (fun j hj=>(hf j hj).2),ω,h,⟨fun x hx=>hx,fun x hx=>hx,fun _ _=>rfl,fun _ _=>rfl⟩⟩,hu,ω,ω,ω⟩
theorem NP {w:World} {br bn bp n:Nat} {nx pv:Nat->Nat} (h:y5 w br bn bp n nx pv) (x:Int) (b:Bool) (hb:b=decide (0<=x/\x<n)) :
  Calls Tryz.prog 234 #[.pointer (some ⟨br,0,none⟩),.int .i64 x] w fun e w'=>e=.returned (.bool b)/\w'=w:=by
 have hle:=h.le;have c0:=h.h0;clear h;rw [hb]
 by_cases h0:0<=x
 ·by_cases h1:x<n
  ·go_enter Tryz.func234,Tryz.ntmps234
   go_wp2;go_ret;exact ⟨bA (by simp [h0,h1]),rfl⟩
  ·go_enter Tryz.func234,Tryz.ntmps234
   go_wp2;go_ret;exact ⟨bA (by simp [h0,h1]),rfl⟩
 ·go_enter Tryz.func234,Tryz.ntmps234
  go_wp2;go_ret;exact ⟨bA ζ,rfl⟩
section
variable {w:World} {br bn bp n:Nat} {nx pv:Nat->Nat}
theorem uW (h:y5 w br bn bp n nx pv) {x:Nat} (hx:x<n):Calls Tryz.prog 234 #[.pointer (some ⟨br,0,none⟩),.int .i64 (x:Int)] w fun e w'=>e=.returned (.bool true)/\w'=w:=
 NP h x true ζ
theorem yu (nx:Nat->Nat) (x y j:Nat):(if j=y then Value.int .i64 (nx x:Int) else if j=x then Value.int .i64 (nx y:Int) else Value.int .i64 (nx j:Int))=.int .i64 (dU nx x y j:Int):=by
 unfold dU
 by_cases e1:j=y
 ·rw [Δ e1]
  by_cases e2:j=x
  ·rw [Δ e2,←e1,e2]
  ·rw [Γ e2,Δ e1]
 ·rw [Γ e1]
  by_cases e2:j=x
  ·rw [Δ e2,Δ e2]
  ·rw [Γ e2,Γ e2,Γ e1]
theorem yV (nx pv:Nat->Nat) (x y j:Nat):(if j=nx x then Value.int .i64 (y:Int) else if j=nx y then Value.int .i64 (x:Int) else Value.int .i64 (pv j:Int))=.int .i64 (oh nx pv x y j:Int):=by
 unfold oh
 split
 ·rfl
 ·split<;>rfl
theorem mI (h:y5 w br bn bp n nx pv) {x y:Nat} (hx:x<n) (hy:y<n):Calls Tryz.prog 233 #[.pointer (some ⟨br,0,none⟩),.int .i64 (x:Int),.int .i64 (y:Int)] w fun e w'=>
  e=.returned (.bool true)/\y5 w' br bn bp n (dU nx x y) (oh nx pv x y)/\aa [bn,bp] w w':=by
 have hle:=h.le;have c0:=h.h0;have c1:=h.h1;have d0:=h.nr.cell x hx;have d1:=h.nr.cell y hy;have f0:=h.nr.free x;have f1:=h.nr.free y;have ha:=h.rg.nn x hx;have hb:=h.rg.nn y hy;have e0:=h.pr.cell (nx x) ha;have e1:=h.pr.cell (nx y) hb;have g0:=h.pr.free (nx x);have g1:=h.pr.free (nx y);have kx:=uW h hx;have ky:=uW h hy;obtain ⟨n1,n2,n3⟩:=h.ne;obtain ⟨l1,l2,l3⟩:=h.lt;have i1:(x:Int)<(n:Int):=ω;have i2:(y:Int)<(n:Int):=ω;have i3:(nx x:Int)<(n:Int):=ω;have i4:(nx y:Int)<(n:Int):=ω;have H:=χ h;clear h;generalize ea:nx x=a at *;generalize eb:nx y=b at *
 by_cases hxy:x=y
 ·subst hxy;rw [ea] at eb;subst eb
  go_enter Tryz.func233,Tryz.ntmps233
  go_wp2_with (first
   | (go_at_call 234;(with_reducible refine (kx).mono ?_);rintro e w9 ⟨rfl,aS⟩;rw [aS];clear aS w9)
   | fail)
  go_region
  go_wp2
  go_region
  go_wp2
  go_region
  go_wp2;go_ret;have h:=H.out;refine ⟨rfl,⟨((((h.head.far _ _ n1).far _ _ n1).far _ _ n2).far _ _ n2),((((h.nr.set _ _).set _ _).far _ _ n3).far _ _ n3).ext (fun j hj=>?_),((((h.pr.far _ _ (Ne.symm n3)).far _ _ (Ne.symm n3)).set _ _).set _ _).ext (fun j hj=>?_),h.ne,h.le,h.rg.swap hx hy⟩,ν⟩
  ·have:=yu nx x x j;rw [ea] at this;exact this
  ·have:=yV nx pv x x j;rw [ea] at this;exact this
 ·have hyx:y≠x:=fun e=>hxy e.symm;have hab:a≠b:=fun e=>hxy (H.out.rg.inj hx hy (by rw [ea,eb,e]))
  go_enter Tryz.func233,Tryz.ntmps233
  go_wp2_with (first
   | (go_at_call 234;(with_reducible refine (kx).mono ?_);rintro e w9 ⟨rfl,aS⟩;rw [aS];clear aS w9)
   | (go_at_call 234;(with_reducible refine (ky).mono ?_);rintro e w9 ⟨rfl,aS⟩;rw [aS];clear aS w9)
   | fail)
  go_region
  go_wp2
  go_region
  go_wp2
  go_region
  go_wp2;go_ret;have h:=H.out;refine ⟨rfl,⟨((((h.head.far _ _ n1).far _ _ n1).far _ _ n2).far _ _ n2),((((h.nr.set _ _).set _ _).far _ _ n3).far _ _ n3).ext (fun j hj=>?_),((((h.pr.far _ _ (Ne.symm n3)).far _ _ (Ne.symm n3)).set _ _).set _ _).ext (fun j hj=>?_),h.ne,h.le,h.rg.swap hx hy⟩,ν⟩
  ·have:=yu nx x y j;rw [ea,eb] at this;exact this
  ·have:=yV nx pv x y j;rw [ea,eb] at this;exact this
theorem KP (h:y5 w br bn bp n nx pv) {x:Nat} (hx:x<n):Calls Tryz.prog 228 #[.pointer (some ⟨br,0,none⟩),.int .i64 (x:Int)] w fun e w'=>
  e=.returned (.bool true)/\y5 w' br bn bp n (dU nx x (pv x)) (oh nx pv x (pv x))/\aa [bn,bp] w w':=by
 have hle:=h.le;have c1:=h.h1;have d0:=h.pr.cell x hx;have kx:=uW h hx;have ks:=mI h hx (h.rg.pp x hx);have FX:(x:Int)<(n:Int):=ω;clear h
 go_enter Tryz.func228,Tryz.ntmps228
 go_wp2_with (first
  | (go_at_call 234;(with_reducible refine (kx).mono ?_);rintro e w9 ⟨rfl,aS⟩;rw [aS];clear aS w9)
  | ((go_at_call 233;(with_reducible refine (ks).mono ?_));rintro e w1 ⟨rfl,hR,hu⟩)
  | fail)
 go_ret;exact ⟨rfl,hR,hu⟩
theorem EL (h:y5 w br bn bp n nx pv) {x:Nat} {t:List Nat} (hr:Ring nx (x::t)) (hl:∀z,z∈x::t->z<n):Calls Tryz.prog 227 #[.pointer (some ⟨br,0,none⟩),.int .i64 (x:Int)] w fun e w'=>
  ∃v,e=.returned v/\w'.ownsRow w.heap.size 3 1 v (x::t).length (aM (nI (x::t)))/\aa [] w w':=by
 have hx:x<n:=hl x σ;have hlen:(x::t).length<=n:=iF n (x::t) hr.nd hl;have hle:=h.le;obtain ⟨l1,l2,l3⟩:=h.lt;have c0:=h.h0;have d0:=h.nr.cell x hx;have kx:=uW h hx;have FX:(x:Int)<(n:Int):=ω;have e0:=hr.at 0 σ;have hcell:∀ (W:World) (y:Nat),aa [] w W->y<n->W.cell? ⟨bn,y,none⟩=some (.int .i64 (nx y:Int)):=fun W y hW hy=>hW.was (h.nr.cell y hy);have hc0:∀ (W:World),aa [] w W->W.cell? ⟨br,0,none⟩=some (.slice (some ⟨bn,0,none⟩) n n):=fun W hW=>hW.was h.h0;have HR:=χ (ψ hr (ψ hl hcell))
 have ho0:(w.alloc (.cells #[.int .i64 (x:Int)] 3)).ownsRow w.heap.size 3 1 (.slice (some ⟨w.heap.size,0,none⟩) 1 1) 1 [.int .i64 (x:Int)]:=mU w [.int .i64 (x:Int)] 3 w.heap.size 1 1 rfl (Θ _) μ;have HO:=χ ho0;clear h hr hl hcell ho0
 go_enter Tryz.func227,Tryz.ntmps227
 go_wp2_with (first
  | (go_at_call 234;(with_reducible refine (kx).mono ?_);rintro e w9 ⟨rfl,aS⟩;rw [aS];clear aS w9)
  | fail)
 go_loopw [5,6] (fun s5 s6 wr=>∃k:Nat,k<(x::t).length/\s6=.int .i64 ((nx ((x::t).getD k 0):Nat):Int)/\wr.ownsRow w.heap.size 3 1 s5 (k+1) (aM (nI ((x::t).take (k+1))))/\aa [] w wr) (fun s5 _ _=>match s5 with | .slice _ l _=>n-l|_=>0)
 case atStart=>exact ⟨0,σ,rfl,HO.out,β⟩
 case round=>
  obtain ⟨k,hk,rfl,ho,hu⟩:=hrel;rename World=>wr;obtain ⟨a,c,rfl,hc⟩:=aU ho;have hat:=HR.out.1.at k hk;have hgk:(x::t).getD k 0=(x::t)[k]:=by rw [φ,ε hk];rfl
  rw [hgk,hat];have h0:=hc0 wr hu
  by_cases hk1:k+1<(x::t).length
  ·obtain ⟨y,hy⟩:∃y,(x::t)[k+1]?=some y:=⟨_,ε hk1⟩;have hg1:(x::t).getD (k+1) x=y:=by rw [φ,hy];rfl
   have hne:y≠x:=fun e=>by
    have hp:=List.pairwise_iff_getElem.1 (List.nodup_iff_pairwise_ne.1 HR.out.1.nd) 0 (k+1) σ hk1 ω;rw [ε hk1] at hy;have h2:(x::t)[k+1]=y:=by injection hy
    exact hp (by rw [h2,e];rfl)
   have hyn:y<n:=HR.out.2.1 _ (Η hy);have e2:(x::t).take (k+1+1)=(x::t).take (k+1)++[y]:=by rw [ϐ,hy];rfl
   have e3:(x::t).getD (k+1) 0=y:=by rw [φ,hy];rfl
   rw [hg1];have HE:=χ (ψ hk1 (ψ e2 (ψ e3 hu)));have hsz:=hu.size;have hkn:k+1<n:=ω;clear hat hgk hg1 e2 e3 hk1 hk hy hlen;have Xa:(y:Int)<(n:Int):=ω;have hyx:((y:Int) == (x:Int))=false:=ζ;have d1:=fun W hW=>HR.out.2.2 W y hW hyn;have HU:=χ hu
   go_wp2_with (first
    | ((at_builtin;refine aI rfl _ _ 26 rfl w.heap.size 3 (.int .i64 0) 1 8 Tryz.underlying26 dX rfl δ _ _ _ rfl (ho) [.int .i64 (y:Int)] rfl (by simp [Value.oneCell']) (by first|rfl|(rw [Κ];rfl)) μ ω (ω) ?_;intro v2 w2 ho2 hu2 lF);(have hw2:aa [] w w2:=HU.out.own ho (Θ _) hu2);(have q0:=hc0 w2 hw2);(have q1:=d1 w2 hw2))
    | fail)
   obtain ⟨hk1,e2,e3,_⟩:=HE.out;obtain ⟨a2,c2,rfl,_⟩:=aU ho2;refine ⟨⟨k+1,hk1,by rw [e3],?_,hw2⟩,ζ⟩;rw [e2,Qc,bz];exact ho2
  ·have hkl:k+1=(x::t).length:=ω;have hg1:(x::t).getD (k+1) x=x:=by rw [φ,List.getElem?_eq_none ω];rfl
   rw [hg1];have e2:(x::t).take (k+1)=x::t:=List.take_of_length_le ω;rw [e2] at ho;have HO2:=χ (ψ ho (ψ hu hkl));clear hat hgk hg1 e2 hk1 hk ho hkl hlen;go_wp2;go_ret;obtain ⟨ho,hu,hkl⟩:=HO2.out;exact ⟨_,rfl,hkl▸ho,hu⟩
end
end Go.Proofs.YtklibcncmbofpaaGreat
namespace Go.Proofs.YtklibcncmbofpaaGreat
structure FG where
 nx:Nat->Nat
 pv:Nat->Nat
 up:Nat->Int
 mr:Nat->Bool
 K:Nat->List Nat
 R:Nat->List Nat
def FG.none:FG:=⟨id,id,fun _=>-1,fun _=>false,fun _=>[],fun _=>[]⟩
def xD (l:List Nat):Int:=match l with|[]=>-1|x::_=>(x:Int)
def aF {α:Type} (f:Nat->α) (x:Nat) (v:α):Nat->α:=fun z=>if z=x then v else f z
def MQ (G:FG) (x y:Nat):FG:={ G with nx:=dU G.nx x y,pv:=oh G.nx G.pv x y }
def prt (G:FG) (x:Nat):FG:=MQ G x (G.pv x)
def uo (lt:Bool) (R l:List Nat):List Nat:=match R with
 | []=>l
 | t::s=>match l with
  | []=>t::s
  | x::r=>if lt then x::s++t::r else t::r++x::s
def gV (lt:Nat->Nat->Bool) (h:Nat) (l:List Nat) (G:FG):FG:=match G.R h,l with
 | t::s,x::r=>{ MQ G t x with R:=aF G.R h (uo (lt x t) (t::s) (x::r)) }
 | _,l=>{ G with R:=aF G.R h l }
def qH (h:Nat) (G:FG):Nat:=if G.R h=[] then 0 else 1
def cB (G:FG) (y x:Nat):FG:=
 let G1:=match G.K x with|[]=>G|k::_=>MQ G k y
 { G1 with up:=aF G.up y x,mr:=aF G.mr y false,K:=aF G.K x (match G.K x with|[]=>[y]|k::t=>y::(t++[k])) }
def bR (G:FG) (x:Nat):FG:=match G.K x with
 | []=>G
 | k::t=>{ MQ G x k with up:=aF (fun z=>if z∈k::t then -1 else G.up z) x (-1),mr:=aF (fun z=>if z∈k::t then false else G.mr z) x false,K:=aF G.K x [] }
end Go.Proofs.YtklibcncmbofpaaGreat
namespace Go.Proofs.YtklibcncmbofpaaGreat
open Go Go.RowKit
def zO (u k d:Nat->Int) (m:Nat->Bool) (j:Nat):Value:=if j % 4=0 then .int .i64 (u (j / 4)) else if j % 4=1 then .int .i64 (k (j / 4)) else if j % 4=2 then .int .i64 (d (j / 4)) else .bool (m (j / 4))
theorem wQ (u k d:Nat->Int) (m:Nat->Bool) (x:Nat):zO u k d m (x*4)=.int .i64 (u x):=by unfold zO;rw [Δ ω,show x*4 / 4=x by omega]
theorem wR (u k d:Nat->Int) (m:Nat->Bool) (x:Nat):zO u k d m (x*4+1)=.int .i64 (k x):=by unfold zO;rw [Γ ω,Δ ω,show (x*4+1) / 4=x by omega]
theorem wP (u k d:Nat->Int) (m:Nat->Bool) (x:Nat):zO u k d m (x*4+2)=.int .i64 (d x):=by unfold zO;rw [Γ ω,Γ ω,Δ ω,show (x*4+2) / 4=x by omega]
theorem wV (u k d:Nat->Int) (m:Nat->Bool) (x:Nat):zO u k d m (x*4+3)=.bool (m x):=by unfold zO;rw [Γ ω,Γ ω,Γ ω,show (x*4+3) / 4=x by omega]
theorem four (j:Nat):∃a,j=a*4\/j=a*4+1\/j=a*4+2\/j=a*4+3:=⟨j / 4,ω⟩
section
variable {w:World} {b m:Nat} {e:TypeId} {u k d:Nat->Int} {mr:Nat->Bool}
theorem uR (h:aG w b e m (zO u k d mr)) (x:Nat) (v:Int):aG (w.setCell ⟨b,x*4,none⟩ (.int .i64 v)) b e m (zO (aF u x v) k d mr):=by
 refine (h.set _ _).ext (fun j _=>?_);obtain ⟨a,rfl|rfl|rfl|rfl⟩:=four j
 ·rw [wQ,wQ];unfold aF
  by_cases e:a=x
  ·rw [e,Δ rfl,Δ rfl]
  ·rw [Γ ω,Γ e]
 ·rw [wR,wR,Γ ω]
 ·rw [wP,wP,Γ ω]
 ·rw [wV,wV,Γ ω]
theorem xW (h:aG w b e m (zO u k d mr)) (x:Nat) (v:Int):aG (w.setCell ⟨b,x*4+1,none⟩ (.int .i64 v)) b e m (zO u (aF k x v) d mr):=by
 refine (h.set _ _).ext (fun j _=>?_);obtain ⟨a,rfl|rfl|rfl|rfl⟩:=four j
 ·rw [wQ,wQ,Γ ω]
 ·rw [wR,wR];unfold aF
  by_cases e:a=x
  ·rw [e,Δ rfl,Δ rfl]
  ·rw [Γ ω,Γ e]
 ·rw [wP,wP,Γ ω]
 ·rw [wV,wV,Γ ω]
theorem yx (h:aG w b e m (zO u k d mr)) (x:Nat) (v:Int):aG (w.setCell ⟨b,x*4+2,none⟩ (.int .i64 v)) b e m (zO u k (aF d x v) mr):=by
 refine (h.set _ _).ext (fun j _=>?_);obtain ⟨a,rfl|rfl|rfl|rfl⟩:=four j
 ·rw [wQ,wQ,Γ ω]
 ·rw [wR,wR,Γ ω]
 ·rw [wP,wP];unfold aF
  by_cases e:a=x
  ·rw [e,Δ rfl,Δ rfl]
  ·rw [Γ ω,Γ e]
 ·rw [wV,wV,Γ ω]
theorem uO (h:aG w b e m (zO u k d mr)) (x:Nat) (v:Bool):aG (w.setCell ⟨b,x*4+3,none⟩ (.bool v)) b e m (zO u k d (aF mr x v)):=by
 refine (h.set _ _).ext (fun j _=>?_);obtain ⟨a,rfl|rfl|rfl|rfl⟩:=four j
 ·rw [wQ,wQ,Γ ω]
 ·rw [wR,wR,Γ ω]
 ·rw [wP,wP,Γ ω]
 ·rw [wV,wV];unfold aF
  by_cases e:a=x
  ·rw [e,Δ rfl,Δ rfl]
  ·rw [Γ ω,Γ e]
end
theorem OZ (K:Nat->List Nat) (x:Nat) (l:List Nat):(fun z=>xD (aF K x l z))=aF (fun z=>xD (K z)) x (xD l):=by
 funext z;unfold aF;split<;>rfl
theorem j6 (K:Nat->List Nat) (x:Nat) (l:List Nat):(fun z=>((aF K x l z).length:Int))=aF (fun z=>((K z).length:Int)) x (l.length:Int):=by
 funext z;unfold aF;split<;>rfl
def oM (G:FG):Nat->Value:=zO G.up (fun x=>xD (G.K x)) (fun x=>((G.K x).length:Int)) G.mr
theorem Tv (G:FG) (x:Nat):oM G (x*4)=.int .i64 (G.up x):=wQ _ _ _ _ x
theorem Rz (G:FG) (x:Nat):oM G (x*4+1)=.int .i64 (xD (G.K x)):=wR _ _ _ _ x
theorem TG (G:FG) (x:Nat):oM G (x*4+2)=.int .i64 ((G.K x).length:Int):=wP _ _ _ _ x
theorem Ty (G:FG) (x:Nat):oM G (x*4+3)=.bool (G.mr x):=wV _ _ _ _ x
def ik (R:Nat->List Nat) (m:Nat):List Int:=(List.range m).map (fun h=>xD (R h))
theorem qJ (R:Nat->List Nat) (m:Nat):(ik R m).length=m:=by unfold ik;simp
theorem Kn (R:Nat->List Nat) {m h:Nat} (hh:h<m):(ik R m).getD h 0=xD (R h):=by unfold ik;simp [φ,hh]
theorem KY (R:Nat->List Nat) (m h:Nat) (l:List Nat):(ik R m).set h (xD l)=ik (aF R h l) m:=by
 unfold ik aF;apply List.ext_getElem σ;intro i h1 h2;simp only [List.getElem_set,List.getElem_map,List.getElem_range]
 by_cases e:h=i
 ·subst e;rw [Δ rfl,Δ rfl]
 ·rw [Γ e,Γ (fun e2=>e e2.symm)]
structure FB where
 n0:Nat
 c:Nat
 br:Nat
 bn:Nat
 bp:Nat
 bl:Nat
structure gT (w:World) (B:FB) (F:List Nat) (gt ct:Nat) (A:NS) (st:Nat) (G:FG):Prop where
 head:aG w B.n0 223 4 (fun j=>[Value.pointer (some ⟨B.c,0,none⟩),.pointer (some ⟨B.br,0,none⟩),.slice (some ⟨B.bl,0,none⟩) A.cs.length A.cs.length,.slice (some ⟨gt,0,none⟩) A.hs.length ct].getD j undef)
 cells:aD w B.c F A st
 rings:y5 w B.br B.bn B.bp A.cs.length G.nx G.pv
 pl:aG w B.bl 225 (A.cs.length*4) (oM G)
 af:IZ w gt ct (ik G.R A.hs.length)
 d1:B.n0∉F/\B.br∉F/\B.bn∉F/\B.bp∉F/\B.bl∉F/\gt∉F
 d2:B.n0≠B.br/\B.n0≠B.bn/\B.n0≠B.bp/\B.n0≠B.bl/\B.n0≠gt
 d3:B.bl≠B.br/\B.bl≠B.bn/\B.bl≠B.bp/\B.bl≠gt/\gt≠B.br/\gt≠B.bn/\gt≠B.bp
def FB.blk (B:FB) (F:List Nat) (gt:Nat):List Nat:=B.n0::B.br::B.bn::B.bp::B.bl::gt::F
section
variable {w:World} {B:FB} {F:List Nat} {gt ct:Nat} {A:NS} {st:Nat} {G:FG}
theorem gT.lt (h:gT w B F gt ct A st G):∀x,x∈B.blk F gt->x<w.heap.size:=by
 intro x hx;have h1:=h.head.lt;have h2:=h.rings.lt;have h3:=h.pl.lt;have h4:=h.af.lt;simp only [FB.blk,ρ] at hx;rcases hx with rfl|rfl|rfl|rfl|rfl|rfl|hx
 ·exact h1
 ·exact h2.1
 ·exact h2.2.1
 ·exact h2.2.2
 ·exact h3
 ·exact h4
 ·exact h.cells.lt x hx
theorem gT.h0 (h:gT w B F gt ct A st G):w.cell? ⟨B.n0,0,none⟩=some (.pointer (some ⟨B.c,0,none⟩)):=h.head.cellAt 0 ω rfl
theorem gT.h1 (h:gT w B F gt ct A st G):w.cell? ⟨B.n0,1,none⟩=some (.pointer (some ⟨B.br,0,none⟩)):=h.head.cellAt 1 ω rfl
theorem gT.h2 (h:gT w B F gt ct A st G):w.cell? ⟨B.n0,2,none⟩=some (.slice (some ⟨B.bl,0,none⟩) A.cs.length A.cs.length):=h.head.cellAt 2 ω rfl
theorem gT.h3 (h:gT w B F gt ct A st G):w.cell? ⟨B.n0,3,none⟩=some (.slice (some ⟨gt,0,none⟩) A.hs.length ct):=h.head.cellAt 3 ω rfl
theorem gT.p0 (h:gT w B F gt ct A st G) {x:Nat} (hx:x<A.cs.length):w.cell? ⟨B.bl,x*4,none⟩=some (.int .i64 (G.up x)):=h.pl.cellAt _ ω (Tv G x)
theorem gT.p1 (h:gT w B F gt ct A st G) {x:Nat} (hx:x<A.cs.length):w.cell? ⟨B.bl,x*4+1,none⟩=some (.int .i64 (xD (G.K x))):=h.pl.cellAt _ ω (Rz G x)
theorem gT.p2 (h:gT w B F gt ct A st G) {x:Nat} (hx:x<A.cs.length):w.cell? ⟨B.bl,x*4+2,none⟩=some (.int .i64 ((G.K x).length:Int)):=h.pl.cellAt _ ω (TG G x)
theorem gT.p3 (h:gT w B F gt ct A st G) {x:Nat} (hx:x<A.cs.length):w.cell? ⟨B.bl,x*4+3,none⟩=some (.bool (G.mr x)):=h.pl.cellAt _ ω (Ty G x)
theorem gT.top (h:gT w B F gt ct A st G) {q:Nat} (hq:q<A.hs.length):w.cell? ⟨gt,q,none⟩=some (.int .i64 (xD (G.R q))):=by
 rw [h.af.cell q (by rw [qJ];exact hq),Kn _ hq]
theorem gT.cap (h:gT w B F gt ct A st G):A.hs.length<=ct/\ct<=9223372036854775807:=by have:=h.af.cap;rwa [qJ] at this
theorem gT.cn (h:gT w B F gt ct A st G):B.n0≠B.c/\B.br≠B.c/\B.bn≠B.c/\B.bp≠B.c/\B.bl≠B.c/\gt≠B.c:=by
 have hm:=h.cells.mem;exact ⟨fun e=>h.d1.1 (e▸hm),fun e=>h.d1.2.1 (e▸hm),fun e=>h.d1.2.2.1 (e▸hm),fun e=>h.d1.2.2.2.1 (e▸hm),fun e=>h.d1.2.2.2.2.1 (e▸hm),fun e=>h.d1.2.2.2.2.2 (e▸hm)⟩
theorem gT.upd {w':World} {S:List Nat} (h:gT w B F gt ct A st G) (hu:aa S w w') (hS:∀x,x∈S->x∉B.blk F gt):gT w' B F gt ct A st G:=by
 have k:∀x,x∈B.blk F gt->x∉S:=fun x hx hs=>hS x hs hx;exact ⟨h.head.upd hu (k _ (by simp [FB.blk])),h.cells.upd hu (fun x hx hm=>hS x hx (by simp [FB.blk,hm])),h.rings.upd hu (k _ (by simp [FB.blk])) (k _ (by simp [FB.blk])) (k _ (by simp [FB.blk])),h.pl.upd hu (k _ (by simp [FB.blk])),h.af.upd hu (k _ (by simp [FB.blk])),h.d1,h.d2,h.d3⟩
theorem gT.ae {w':World} (h:gT w B F gt ct A st G) (hu:aa [] w w'):gT w' B F gt ct A st G:=h.upd hu σ
theorem gT.fH {w':World} {F':List Nat} {A':NS} {st':Nat} (h:gT w B F gt ct A st G) (hu:aa F w w') (hC:aD w' B.c F' A' st') (hF:∀x,x∈F'->x∈F\/w.heap.size<=x) (e1:A'.cs.length=A.cs.length) (e2:A'.hs.length=A.hs.length):gT w' B F' gt ct A' st' G:=by
 have f:=h.d1;have g:=h.lt;have hf:∀x,x<w.heap.size->x∉F->x∉F':=fun x hx hn hm=>by rcases hF x hm with h'|h';exact hn h';omega
 have l0:=g B.n0 (by simp [FB.blk]);have l1:=g B.br (by simp [FB.blk]);have l2:=g B.bn (by simp [FB.blk]);have l3:=g B.bp (by simp [FB.blk]);have l4:=g B.bl (by simp [FB.blk]);have l5:=g gt (by simp [FB.blk]);exact ⟨by rw [e1,e2];exact h.head.upd hu f.1,hC,by rw [e1];exact h.rings.upd hu f.2.1 f.2.2.1 f.2.2.2.1,by rw [e1];exact h.pl.upd hu f.2.2.2.2.1,by rw [e2];exact h.af.upd hu f.2.2.2.2.2,⟨hf _ l0 f.1,hf _ l1 f.2.1,hf _ l2 f.2.2.1,hf _ l3 f.2.2.2.1,hf _ l4 f.2.2.2.2.1,hf _ l5 f.2.2.2.2.2⟩,h.d2,h.d3⟩
theorem gT.setSt {w':World} {st':Nat} (h:gT w B F gt ct A st G) (hu:aa [B.c] w w') (hC:aD w' B.c F A st'):gT w' B F gt ct A st' G:=
 h.fH (hu.mono (fun x hx=>by simp at hx;rw [hx];exact h.cells.mem)) hC (fun x hx=>Α hx) rfl rfl
theorem gT.dw {w':World} {nx pv:Nat->Nat} (h:gT w B F gt ct A st G) (hu:aa [B.bn,B.bp] w w') (hR:y5 w' B.br B.bn B.bp A.cs.length nx pv):gT w' B F gt ct A st { G with nx:=nx,pv:=pv }:=by
 obtain ⟨f1,f2,f3,f4,f5,f6⟩:=h.d1;obtain ⟨e1,e2,e3,e4,e5⟩:=h.d2;obtain ⟨g1,g2,g3,g4,g5,g6,g7⟩:=h.d3;have m:∀x,x≠B.bn->x≠B.bp->x∉[B.bn,B.bp]:=fun x h1 h2=>by simp [h1,h2]
 exact ⟨h.head.upd hu (m _ e2 e3),h.cells.upd hu (fun x hx hm=>by simp at hx;rcases hx with rfl|rfl;exact f3 hm;exact f4 hm),hR,h.pl.upd hu (m _ g2 g3),h.af.upd hu (m _ g6 g7),h.d1,h.d2,h.d3⟩
theorem gT.Dx {w':World} {up:Nat->Int} {mr:Nat->Bool} {K:Nat->List Nat} (h:gT w B F gt ct A st G) (hu:aa [B.bl] w w') (hP:aG w' B.bl 225 (A.cs.length*4) (oM { G with up:=up,mr:=mr,K:=K })):gT w' B F gt ct A st { G with up:=up,mr:=mr,K:=K }:=by
 obtain ⟨f1,f2,f3,f4,f5,f6⟩:=h.d1;obtain ⟨e1,e2,e3,e4,e5⟩:=h.d2;obtain ⟨g1,g2,g3,g4,g5,g6,g7⟩:=h.d3;have m:∀x,x≠B.bl->x∉[B.bl]:=fun x h1=>by simp [h1]
 exact ⟨h.head.upd hu (m _ e4),h.cells.upd hu (fun x hx hm=>by simp at hx;subst hx;exact f5 hm),h.rings.upd hu (m _ (Ne.symm g1)) (m _ (Ne.symm g2)) (m _ (Ne.symm g3)),hP,h.af.upd hu (m _ (Ne.symm g4)),h.d1,h.d2,h.d3⟩
theorem gT.il (h:gT w B F gt ct A st G) (q:Nat) (l:List Nat):gT (w.setCell ⟨gt,q,none⟩ (.int .i64 (xD l))) B F gt ct A st { G with R:=aF G.R q l }:=by
 obtain ⟨f1,f2,f3,f4,f5,f6⟩:=h.d1;obtain ⟨e1,e2,e3,e4,e5⟩:=h.d2;obtain ⟨g1,g2,g3,g4,g5,g6,g7⟩:=h.d3;have hu:aa [gt] w (w.setCell ⟨gt,q,none⟩ (.int .i64 (xD l))):=(aa.refl _ _).setCell (Α σ) _;have m:∀x,x≠gt->x∉[gt]:=fun x h1=>by simp [h1]
 refine ⟨h.head.upd hu (m _ e5),h.cells.upd hu (fun x hx hm=>by simp at hx;subst hx;exact f6 hm),h.rings.upd hu (m _ (Ne.symm g5)) (m _ (Ne.symm g6)) (m _ (Ne.symm g7)),h.pl.upd hu (m _ g4),?_,h.d1,h.d2,h.d3⟩;have:=h.af.set q (xD l);rwa [KY] at this
theorem gT.drewN (h:gT w B F gt ct A st G) (k:Nat):gT (w.drewN k) B F gt ct A st G:=h.ae ((aa.refl [] w).drewN k)
end
theorem x8 (w:World):Calls Tryz.prog 111 #[] w fun e w'=>e=.returned (.agg #[.int .i64 (-1),.int .i64 (-1),.int .i64 0,.bool false])/\aa [] w w':=by
 go_enter Tryz.func111,Tryz.ntmps111
 go_wp2;exact bodyPost_ret (v:=.agg #[.int .i64 (-1),.int .i64 (-1),.int .i64 0,.bool false]) (by simp [results,Tryz.results111,go_sem]) rfl ⟨rfl,(aa.refl _ _).alloc _⟩
section
variable {w:World} {B:FB} {F:List Nat} {gt ct:Nat} {A:NS} {st:Nat} {G:FG}
theorem Ga (R:Nat->List Nat) (m h:Nat) (l:List Nat) (e:xD l=xD (R h)):ik (aF R h l) m=ik R m:=by
 unfold ik aF;refine List.map_congr_left (fun i _=>?_)
 by_cases hi:i=h
 ·rw [Δ hi,e,hi]
 ·rw [Γ hi]
theorem gT.XH (h:gT w B F gt ct A st G) (q:Nat) (l:List Nat) (e:xD l=xD (G.R q)):gT w B F gt ct A st { G with R:=aF G.R q l }:=
 ⟨h.head,h.cells,h.rings,h.pl,by rw [Ga G.R _ q l e];exact h.af,h.d1,h.d2,h.d3⟩
theorem BF (M:gT w B F gt ct A st G) {q x:Nat} (r:List Nat) (hq:q<A.hs.length) (hx:bV A (x:Int)=true) (ht:∀t s,G.R q=t::s->bV A (t:Int)=true) :
  Calls Tryz.prog 230 #[.pointer (some ⟨B.n0,0,none⟩),.int .i64 (q:Int),.int .i64 (x:Int)] w fun e w'=>e=.returned (.tuple #[])/\
   gT w' B F gt ct A (dF st (qH q G)) (gV (fun a b=>decide (eU A a b)) q (x::r) G)/\aa [B.c,B.bn,B.bp,gt] w w':=by
 have hst:=M.cells.qp;have h3:=M.h3;have ht0:=M.top hq;have hf0:=M.af.free q;have hcap:=M.cap;have hqI:(q:Int)<(A.hs.length:Int):=ω;have WJ:q<65537:=by have:=M.cells.ok.h1;omega
 have hlb:=M.cells.ok.h1;cases hR:G.R q with
 | nil=>
  rw [hR] at ht0;have eq:qH q G=0:=by unfold qH;rw [Δ hR]
  have eg:gV (fun a b=>decide (eU A a b)) q (x::r) G={ G with R:=aF G.R q (x::r) }:=by unfold gV;rw [hR]
  rw [eq,eg,ig hst];have HM:=χ (M.il q (x::r));have hgl:=M.lt gt (by simp [FB.blk]);clear M hR eq eg hx ht;unfold xD at ht0;generalize hhl:A.hs.length=hl at *
  go_enter Tryz.func230,Tryz.ntmps230
  go_wp2;refine bodyPost_ret (v:=.tuple #[]) (by simp [results,Tryz.results230,go_sem]) rfl ?_;exact ⟨rfl,HM.out,(aa.refl _ _).setCell (Α σ) _⟩
 | cons t s=>
  have htt:=ht t s hR;obtain ⟨hx1,hx2⟩:=(aj _ _).1 hx;obtain ⟨ht1,ht2⟩:=(aj _ _).1 htt;rw [hR] at ht0;have eq:qH q G=1:=by unfold qH;rw [Γ (by rw [hR];simp)]
  have eg:gV (fun a b=>decide (eU A a b)) q (x::r) G={ MQ G t x with R:=aF G.R q (uo (decide (eU A x t)) (t::s) (x::r)) }:=by unfold gV;rw [hR]
  rw [eq,eg];have ks:=fun W (hW:aa [] w W)=>mI (M.rings.ae hW) ht1 hx1;obtain ⟨g1,g2,g3,g4,g5,g6,g7⟩:=M.d3;obtain ⟨e1,e2,e3,e4,e5⟩:=M.d2;have m:∀x,x≠B.bn->x≠B.bp->x∉[B.bn,B.bp]:=fun x h1 h2=>by simp [h1,h2]
  have r1:∀W,aa [B.bn,B.bp] w W->W.cell? ⟨B.n0,1,none⟩=some (.pointer (some ⟨B.br,0,none⟩)):=fun W hW=>hW.kept M.h1 (m _ e2 e3);have r3:∀W,aa [B.bn,B.bp] w W->W.cell? ⟨B.n0,3,none⟩=some (.slice (some ⟨gt,0,none⟩) A.hs.length ct):=fun W hW=>hW.kept M.h3 (m _ e2 e3);have rt:∀W,aa [B.bn,B.bp] w W->W.cell? ⟨gt,q,none⟩=some (.int .i64 (t:Int)):=fun W hW=>hW.kept ht0 (m _ g6 g7);have ht0':w.cell? ⟨gt,q,none⟩=some (.int .i64 (t:Int)):=ht0;have htn:((t:Int) == -1)=false:=σ;have HM:=χ M;have HR:=χ hR;clear M hR eq eg ht ht0;generalize hhl:A.hs.length=hl at *
  go_enter Tryz.func230,Tryz.ntmps230
  go_wp2
  go_region_held3 (aa [B.bn,B.bp] w) (exact ν)
   (first
    | ((go_at_call 233;(with_reducible refine (ks _ β).mono ?_));rintro e w1 ⟨rfl,AQ,hu1⟩;(have hu2:aa [B.bn,B.bp] w w1:=aa.trans ν hu1)))
  have hM1:=HM.out.dw hu2 AQ;have kc:=fun W (hW:aa [] w1 W)=>gZ (hM1.cells.ae hW) x t hx htt;have c1:=hM1.cn;have mc:∀x,x≠B.c->x∉[B.c]:=fun x h1=>by simp [h1]
  have r0:∀W,aa [B.c] w1 W->W.cell? ⟨B.n0,0,none⟩=some (.pointer (some ⟨B.c,0,none⟩)):=fun W hW=>hW.kept hM1.h0 (mc _ c1.1);have r3':∀W,aa [B.c] w1 W->W.cell? ⟨B.n0,3,none⟩=some (.slice (some ⟨gt,0,none⟩) hl ct):=fun W hW=>by rw [←hhl];exact hW.kept hM1.h3 (mc _ c1.1)
  have rt':∀W,aa [B.c] w1 W->W.cell? ⟨gt,q,none⟩=some (.int .i64 (t:Int)):=fun W hW=>hW.kept (rt _ hu2) (mc _ c1.2.2.2.2.2);have rf':∀W,aa [B.c] w1 W->W.frozen? ⟨gt,q,none⟩=false:=fun W hW=>hW.aP (rt _ hu2) (mc _ c1.2.2.2.2.2) (hu2.aP ht0' (m _ g6 g7) hf0);have pR:=χ (ψ hM1 hu2);clear hM1 ks r1 r3 rt ht0' hu2 AQ hu1 HM hf0;obtain ⟨b,hb⟩:∃b,decide (eU A x t)=b:=⟨_,rfl⟩;rw [hb] at kc;have HBB:=χ hb;clear hb;go_wp2
  go_region_held3 (aa [B.c] w1) (exact ν)
   (first
    | ((go_at_call 174;(with_reducible refine (kc _ β).mono ?_));rintro e w2 ⟨rfl,hC2,hu3⟩;(have om:aa [B.c] w1 w2:=aa.trans ν hu3)))
  have d0:=r0 _ om;have d3:=r3' _ om;have dt:=rt' _ om;have df:=rf' _ om;have hM2:=pR.out.1.setSt om hC2;have hU:aa [B.c,B.bn,B.bp,gt] w w2:=(pR.out.2.mono σ).trans (om.mono σ);cases b with
  | false=>
   have HF:=χ (ψ hM2 hU);clear hM2 hU r0 r3' rt' rf' kc om hC2 hu3;go_wp2;go_end0;rw [HBB.out];exact ⟨rfl,HF.out.1.XH q (t::r++x::s) (by rw [show ({ G with nx:=dU G.nx t x,pv:=oh G.nx G.pv t x }:FG).R q=t::s from HR.out];rfl),HF.out.2⟩
  | true=>
   have HF:=χ (ψ hM2 hU);clear hM2 hU r0 r3' rt' rf' kc om hC2 hu3;go_wp2;go_end0;rw [HBB.out];exact ⟨rfl,HF.out.1.il q (x::s++t::r),HF.out.2.setCell (Α σ) _⟩
theorem gT.under (M:gT w B F gt ct A st G) (x y:Nat) (l:List Nat) (v d:Int) (hv:v=xD l) (hd:d=(l.length:Int)) :
  gT ((((w.setCell ⟨B.bl,x*4+1,none⟩ (.int .i64 v)).setCell ⟨B.bl,x*4+2,none⟩ (.int .i64 d)).setCell ⟨B.bl,y*4,none⟩ (.int .i64 (x:Int))).setCell ⟨B.bl,y*4+3,none⟩ (.bool false)) B F gt ct A st { G with up:=aF G.up y x,mr:=aF G.mr y false,K:=aF G.K x l }:=by
 refine M.Dx ν ?_;unfold oM;simp only [OZ,j6,←hv,←hd];exact uO (uR (yx (xW M.pl x v) x d) y x) y false
theorem xV (M:gT w B F gt ct A st G) {x y:Nat} (hx:x<A.cs.length) (hy:y<A.cs.length) (hk:∀k t,G.K x=k::t->k<A.cs.length) (hl:(G.K x).length<=65536) :
  Calls Tryz.prog 235 #[.pointer (some ⟨B.n0,0,none⟩),.int .i64 (y:Int),.int .i64 (x:Int)] w fun e w'=>e=.returned (.tuple #[])/\
   gT w' B F gt ct A st (cB G y x)/\aa [B.bn,B.bp,B.bl] w w':=by
 have hc1:=M.cells.ok.c1;have h2:=M.h2;have FX:(x:Int)<(A.cs.length:Int):=ω;have Xa:(y:Int)<(A.cs.length:Int):=ω;have IM:=M.p1 hx;have Wy:=M.p2 hx;have py0:=M.p0 hy;have py3:=M.p3 hy;have fx1:=M.pl.free (x*4+1);have fx2:=M.pl.free (x*4+2);have fy0:=M.pl.free (y*4);have fy3:=M.pl.free (y*4+3);have hw1:IntKind.i64.wrap (((G.K x).length:Int)+1)=((G.K x).length:Int)+1:=Μ _ ω;cases hK:G.K x with
 | nil=>
  rw [hK] at IM Wy hw1;unfold xD at IM;have eg:cB G y x={ G with up:=aF G.up y x,mr:=aF G.mr y false,K:=aF G.K x [y] }:=by unfold cB;rw [hK]
  rw [eg];have HM:=χ M;clear M eg hK hk;generalize hcl:A.cs.length=n at *;simp only [List.length_nil] at Wy hw1
  go_enter Tryz.func235,Tryz.ntmps235
  go_wp2
  go_region
  go_wp2;go_end0;exact ⟨rfl,(HM.out.under x y [y] y 1 rfl rfl).drewN 1,ν⟩
 | cons k t=>
  have hkn:=hk k t hK;rw [hK] at IM Wy hw1 hl;simp only [Ω] at Wy hw1 hl;unfold xD at IM;have eg:cB G y x={ MQ G k y with up:=aF G.up y x,mr:=aF G.mr y false,K:=aF G.K x (y::(t++[k])) }:=by unfold cB;rw [hK]
  rw [eg];have ks:=fun W (hW:aa [] w W)=>mI (M.rings.ae hW) hkn hy;obtain ⟨g1,g2,g3,g4,g5,g6,g7⟩:=M.d3;obtain ⟨e1,e2,e3,e4,e5⟩:=M.d2;have m:∀x,x≠B.bn->x≠B.bp->x∉[B.bn,B.bp]:=fun x h1 h2=>by simp [h1,h2]
  have r1:∀W,aa [B.bn,B.bp] w W->W.cell? ⟨B.n0,1,none⟩=some (.pointer (some ⟨B.br,0,none⟩)):=fun W hW=>hW.kept M.h1 (m _ e2 e3);have rx:∀W,aa [B.bn,B.bp] w W->W.cell? ⟨B.bl,x*4+1,none⟩=some (.int .i64 (k:Int)):=fun W hW=>hW.kept IM (m _ g2 g3);have hkk:((k:Int) == -1)=false:=σ;have HM:=χ M;have hx2:=fun W (hW:aa [B.bn,B.bp] w W)=>hW.kept Wy (m _ g2 g3);have hy0:=fun W (hW:aa [B.bn,B.bp] w W)=>hW.kept py0 (m _ g2 g3);have hy3:=fun W (hW:aa [B.bn,B.bp] w W)=>hW.kept py3 (m _ g2 g3);have hf1:=fun W (hW:aa [B.bn,B.bp] w W)=>hW.aP IM (m _ g2 g3) fx1
  have hf2:=fun W (hW:aa [B.bn,B.bp] w W)=>hW.aP Wy (m _ g2 g3) fx2;have hg0:=fun W (hW:aa [B.bn,B.bp] w W)=>hW.aP py0 (m _ g2 g3) fy0;have hg3:=fun W (hW:aa [B.bn,B.bp] w W)=>hW.aP py3 (m _ g2 g3) fy3;have YY:w.cell? ⟨B.bl,x*4+1,none⟩=some (.int .i64 (k:Int)):=IM;have H2:=χ (ψ hx2 (ψ hy0 (ψ hy3 (ψ hf1 (ψ hf2 (ψ hg0 hg3))))));clear M eg hK hk hx2 hy0 hy3 hf1 hf2 hg0 hg3 IM Wy py0 py3 fx1 fx2 fy0 fy3;generalize hcl:A.cs.length=n at *;generalize htl:t.length=tl at *;have hdz:((tl:Int)+1+1)=(((y::(t++[k])).length:Nat):Int):=by first|(simp [htl];done)|(simp [htl];omega)
  have HDZ:=χ hdz;clear hdz htl
  go_enter Tryz.func235,Tryz.ntmps235
  go_wp2
  go_region
  go_wp2
  go_region_held3 (aa [B.bn,B.bp] w) (exact ν)
   (first
    | ((go_at_call 233;(with_reducible refine (ks _ β).mono ?_));rintro e w1 ⟨rfl,AQ,hu1⟩;(have hu2:aa [B.bn,B.bp] w w1:=aa.trans ν hu1)))
  have q1:=rx _ hu2;obtain ⟨q2,q3,q4,q5,q6,q7,q8⟩:=H2.out;have q2:=q2 _ hu2;have q3:=q3 _ hu2;have q4:=q4 _ hu2;have q5:=q5 _ hu2;have q6:=q6 _ hu2;have q7:=q7 _ hu2;have q8:=q8 _ hu2;have YC:y5 w1 B.br B.bn B.bp A.cs.length (dU G.nx k y) (oh G.nx G.pv k y):=by rw [hcl];exact AQ
  have hM1:=HM.out.dw hu2 YC;have HF:=χ (ψ hM1 hu2);clear hM1 hu2 AQ YC hu1 ks r1 rx YY HM H2;go_wp2;go_end0;have hU:aa [B.bn,B.bp,B.bl] w w1:=HF.out.2.mono (fun z hz=>by simp at hz;rcases hz with rfl|rfl<;>simp);exact ⟨rfl,HF.out.1.under x y (y::(t++[k])) y _ rfl HDZ.out,ν⟩
theorem gT.Vz (M:gT w B F gt ct A st G) (x:Nat) :
  gT ((((w.setCell ⟨B.bl,x*4,none⟩ (.int .i64 (-1))).setCell ⟨B.bl,x*4+1,none⟩ (.int .i64 (-1))).setCell ⟨B.bl,x*4+2,none⟩ (.int .i64 0)).setCell ⟨B.bl,x*4+3,none⟩ (.bool false)) B F gt ct A st { G with up:=aF G.up x (-1),mr:=aF G.mr x false,K:=aF G.K x [] }:=by
 refine M.Dx ν ?_;unfold oM;simp only [OZ,j6];exact uO (yx (xW (uR M.pl x (-1)) x (-1)) x 0) x false
def Cq (l:List Nat) (up:Nat->Int):Nat->Int:=fun z=>if z∈l then -1 else up z
def Cw (l:List Nat) (mr:Nat->Bool):Nat->Bool:=fun z=>if z∈l then false else mr z
theorem P6 (l:List Nat) (x:Nat) (up:Nat->Int):aF (Cq l up) x (-1)=Cq (l++[x]) up:=by
 funext z;unfold aF Cq
 by_cases e:z=x
 ·rw [Δ e,Δ (by simp [e])]
 ·rw [Γ e];simp [e]
theorem Qy (l:List Nat) (x:Nat) (mr:Nat->Bool):aF (Cw l mr) x false=Cw (l++[x]) mr:=by
 funext z;unfold aF Cw
 by_cases e:z=x
 ·rw [Δ e,Δ (by simp [e])]
 ·rw [Γ e];simp [e]
theorem Pn (up:Nat->Int):Cq [] up=up:=by funext z;unfold Cq;simp
theorem Pv (mr:Nat->Bool):Cw [] mr=mr:=by funext z;unfold Cw;simp
theorem GQ (M:gT w B F gt ct A st G) {x:Nat} (hx:x<A.cs.length) (hr:Ring G.nx (G.K x)) (hk:∀z,z∈G.K x->z<A.cs.length) :
  Calls Tryz.prog 226 #[.pointer (some ⟨B.n0,0,none⟩),.int .i64 (x:Int)] w fun e w'=>e=.returned (.tuple #[])/\
   gT w' B F gt ct A st (bR G x)/\aa [B.bn,B.bp,B.bl] w w':=by
 have hc1:=M.cells.ok.c1;have h2:=M.h2;have FX:(x:Int)<(A.cs.length:Int):=ω;have IM:=M.p1 hx;cases hK:G.K x with
 | nil=>
  rw [hK] at IM;unfold xD at IM;have eg:bR G x=G:=by unfold bR;rw [hK]
  rw [eg];have HM:=χ M;clear M eg hK hk hr;generalize hcl:A.cs.length=n at *
  go_enter Tryz.func226,Tryz.ntmps226
  go_wp2;refine bodyPost_ret (v:=.tuple #[]) (by simp [results,Tryz.results226,go_sem]) rfl ?_;exact ⟨rfl,HM.out,aa.refl _ _⟩
 | cons k t=>
  rw [hK] at IM hr hk;have YY:w.cell? ⟨B.bl,x*4+1,none⟩=some (.int .i64 (k:Int)):=IM;have eg:bR G x={ MQ G x k with up:=aF (Cq (k::t) G.up) x (-1),mr:=aF (Cw (k::t) G.mr) x false,K:=aF G.K x [] }:=by unfold bR;rw [hK];rfl
  rw [eg];have hkk:((k:Int) == -1)=false:=σ;have h1:=M.h1;have ZK:=EL M.rings hr hk;have hlen:(k::t).length<=A.cs.length:=iF A.cs.length (k::t) hr.nd hk;have hkn:k<A.cs.length:=hk k σ;have HM:=χ (ψ M hk);clear M eg hK hk IM hr;generalize hcl:A.cs.length=n at *
  go_enter Tryz.func226,Tryz.ntmps226
  go_wp2_with (first
   | ((go_at_call 227;(with_reducible refine (ZK).mono ?_));rintro e w1 ⟨v1,rfl,ho1,hu1⟩;rw [←kK] at ho1;obtain ⟨g,cap,rfl,hZ,hb⟩:=IZ.fQ ho1 (by simp [nI]);rw [kK] at *)
   | fail)
  obtain ⟨g1,g2,g3,g4,g5,g6,g7⟩:=HM.out.1.d3;obtain ⟨e1,e2,e3,e4,e5⟩:=HM.out.1.d2;have hlt:=HM.out.1.lt;have lbl:=hlt B.bl (by simp [FB.blk]);have hM1:=HM.out.1.ae hu1;have Xr:gT w1 B F gt ct A st { G with up:=Cq ((k::t).take 0) G.up,mr:=Cw ((k::t).take 0) G.mr,K:=G.K }:=by rw [List.take_zero,Pn,Pv];exact hM1
  have pR:=χ (ψ Xr (ψ hu1 hZ));have hgl:=hZ.lt;have hgb:g≠B.bl:=ω;clear hM1 Xr hu1 hZ ho1 hlt ZK h1 h2;have hll:(k::t).length=t.length+1:=rfl;rw [hll] at hlen;generalize htl:t.length=tl at *;obtain ⟨len,Uz⟩:∃len,tl+1=len:=⟨_,rfl⟩;have WL:(tl:Int)+1=(len:Int):=ω;rw [Uz] at hll hlen ⊢;rw [WL];clear WL htl Uz
  go_loopw [24] (fun s24 wr=>∃j:Nat,j<=len/\s24=.int .i64 (j:Int)/\gT wr B F gt ct A st { G with up:=Cq ((k::t).take j) G.up,mr:=Cw ((k::t).take j) G.mr,K:=G.K }/\IZ wr g cap (nI (k::t))/\aa [B.bl] w wr) (fun s24 _=>len-(intOf s24).toNat)
  case atStart=>exact ⟨0,ω,rfl,pR.out.1,pR.out.2.2,pR.out.2.1.mono σ⟩
  case round=>
   obtain ⟨j,hj,rfl,vw,WU,hur⟩:=hrel;rename World=>wr
   by_cases hjl:j<len
   ·obtain ⟨z,hz⟩:∃z,(k::t)[j]?=some z:=⟨_,ε ω⟩;have hzn:z<n:=hcl▸HM.out.2 z (Η hz);have hc:=WU.cell j (by rw [kK];omega);have hgz:(nI (k::t)).getD j 0=(z:Int):=by unfold nI;rw [φ,ϔ,hz];rfl
    rw [hgz] at hc;have q2:=vw.h2;rw [hcl] at q2;have p0:=vw.p0 (x:=z) (by rw [hcl];exact hzn);have p3:=vw.p3 (x:=z) (by rw [hcl];exact hzn);have f0:=vw.pl.free (z*4);have f3:=vw.pl.free (z*4+3);have hzI:(z:Int)<(n:Int):=ω;have J3:(j:Int)<(len:Int):=ω;have hw1:IntKind.i64.wrap ((j:Int)+1)=(j:Int)+1:=Μ _ ω;have et:(k::t).take (j+1)=(k::t).take j++[z]:=by rw [ϐ,hz];rfl
    have HR:=χ (ψ vw (ψ WU (ψ hur et)));clear vw WU hur et hz hgz;go_wp2
    go_region
    go_wp2;obtain ⟨vw,WU,hur,et⟩:=HR.out;refine ⟨⟨j+1,ω,by go_num,?_,(WU.upd ((aa.refl [B.bl] wr).setCell (Α σ) _) (by simpa using hgb)).upd (((aa.refl [B.bl] _).setCell (Α σ) _).drew) (by simpa using hgb),ν⟩,by simp [intOf];omega⟩;rw [et,←P6,←Qy];refine (vw.Dx (up:=aF (Cq ((k::t).take j) G.up) z (-1)) (mr:=aF (Cw ((k::t).take j) G.mr) z false) (K:=G.K) ν ?_).drewN 1;exact uO (uR vw.pl z (-1)) z false
   ·obtain rfl:j=len:=ω;have et:(k::t).take j=k::t:=List.take_of_length_le ω;rw [et] at vw;have ks:=fun W (hW:aa [] wr W)=>mI (vw.rings.ae hW) (x:=x) (y:=k) (by rw [hcl];exact hx) (by rw [hcl];exact hkn);have q1:=vw.h1;have q2:∀W,aa [B.bn,B.bp] wr W->W.cell? ⟨B.n0,2,none⟩=some (.slice (some ⟨B.bl,0,none⟩) n n):=fun W hW=>by
     have:=hW.kept vw.h2 (by simp;exact ⟨e2,e3⟩);rwa [hcl] at this
    have p0:=fun W (hW:aa [B.bn,B.bp] wr W)=>hW.kept (vw.p0 (x:=x) (by rw [hcl];exact hx)) (by simp;exact ⟨g2,g3⟩);have p1:=fun W (hW:aa [B.bn,B.bp] wr W)=>hW.kept (vw.p1 (x:=x) (by rw [hcl];exact hx)) (by simp;exact ⟨g2,g3⟩);have p2:=fun W (hW:aa [B.bn,B.bp] wr W)=>hW.kept (vw.p2 (x:=x) (by rw [hcl];exact hx)) (by simp;exact ⟨g2,g3⟩);have p3:=fun W (hW:aa [B.bn,B.bp] wr W)=>hW.kept (vw.p3 (x:=x) (by rw [hcl];exact hx)) (by simp;exact ⟨g2,g3⟩);have HR:=χ (ψ vw (ψ hur (ψ p0 (ψ p1 (ψ p2 p3)))));clear vw WU hur et p0 p1 p2 p3 HM pR
    go_wp2_with (first
     | ((go_at_call 233;(with_reducible refine (ks _ β).mono ?_));rintro e w2 ⟨rfl,hR2,hu2⟩;(have q3:=q2 _ hu2))
     | fail)
    obtain ⟨vw,hur,p0,p1,p2,p3⟩:=HR.out;have p0:=p0 _ hu2;have p1:=p1 _ hu2;have p2:=p2 _ hu2;have p3:=p3 _ hu2;have f0:=(vw.dw hu2 hR2).pl.free (x*4);have f1:=(vw.dw hu2 hR2).pl.free (x*4+1);have f2:=(vw.dw hu2 hR2).pl.free (x*4+2);have f3:=(vw.dw hu2 hR2).pl.free (x*4+3);have hb2:B.bl<w2.heap.size:=(vw.dw hu2 hR2).lt _ (by simp [FB.blk]);have vv:=χ (vw.dw hu2 hR2);have HU:=χ (ψ hur hu2);clear vw hR2 hur hu2 ks q1 q2 HR
    go_region_with (first
     | ((go_at_call 111;(with_reducible refine (x8 _).mono ?_));rintro e w3 ⟨rfl,hu3⟩;(have hv:aa [] w2 w3:=aa.trans β hu3);(have v0:=hv.was p0);(have v1:=hv.was p1);(have v2:=hv.was p2);(have v3:=hv.was p3);(have v4:=hv.was q3);(have z0:=hv.aP p0 σ f0);(have z1:=hv.aP p1 σ f1);(have z2:=hv.aP p2 σ f2);(have z3:=hv.aP p3 σ f3))
     | fail)
    all_goals
     go_wp2;go_end0;have hU:aa [B.bn,B.bp,B.bl] w w3:=((HU.out.1.mono σ).trans (HU.out.2.mono (fun z hz=>by simp at hz;rcases hz with rfl|rfl<;>simp))).trans (hv.mono σ);exact ⟨rfl,(vv.out.ae hv).Vz x,ν⟩
end
end Go.Proofs.YtklibcncmbofpaaGreat
namespace Go.Proofs.YtklibcncmbofpaaGreat
def few (G:FG) (ex:Nat->Nat) (l:List Nat) (d:Nat):Nat:=(l.filter (fun c=>decide ((G.K c).length+(if G.mr c then 1 else 0)+ex c<d))).length
structure FF (n:Nat) (G:FG) (bZ:Nat->Int) (L:Nat->Nat->Prop) (ex:Nat->Nat):Prop where
 rg:Rg n G.nx G.pv
 kid:∀x y,x<n->y∈G.K x->y<n/\G.up y=x
 Wd:∀y,y<n->G.up y=-1\/∃p:Nat,p<n/\G.up y=p/\y∈G.K p
 ring:∀x,x<n->Ring G.nx (G.K x)
 home:∀y p:Nat,y<n->G.up y=p->bZ y=bZ p/\0<bZ y
 ord:∀y p:Nat,y<n->G.up y=p->L p y
 alone:∀y,y<n->¬0<bZ y->G.up y=-1/\G.K y=[]/\G.nx y=y
 free:∀y,y<n->G.up y=-1->G.mr y=false
 cnt:∀x d,x<n->few G ex (G.K x) d<=d
structure FR (n:Nat) (G:FG) (bZ:Nat->Int) (L:Nat->Nat->Prop) (g:Option Nat):Prop where
 ring:∀h,some h≠g->Ring G.nx (G.R h)
 mem:∀h y:Nat,some h≠g->(y∈G.R h↔1<=h/\y<n/\G.up y=-1/\bZ y=h)
 top:∀h t s,some h≠g->G.R h=t::s->∀y,y∈s->L t y
section
variable {n:Nat} {G:FG} {bZ:Nat->Int} {L:Nat->Nat->Prop} {ex:Nat->Nat}
theorem FF.TA (H:FF n G bZ L ex) {x:Nat} (hx:x<n):(G.K x).length<=n:=iF n _ (H.ring x hx).nd (fun y hy=>(H.kid x y hx hy).1)
theorem FF.above (H:FF n G bZ L ex) {y p:Nat} (hy:y<n) (h:G.up y=p):p<n/\y∈G.K p:=by
 rcases H.Wd y hy with h1|⟨q,hq,h1,h2⟩
 ·omega
 ·obtain rfl:p=q:=ω;exact ⟨hq,h2⟩
theorem UR (G:FG) (ex:Nat->Nat) (l:List Nat) (d:Nat):few G ex l d<=l.length:=List.length_filter_le _ _
theorem PW (G:FG) (ex:Nat->Nat) {l l':List Nat} (h:l.Perm l') (d:Nat):few G ex l d=few G ex l' d:=(h.filter _).length_eq
theorem JV {G G':FG} {ex ex':Nat->Nat} {l:List Nat} (d:Nat) (h:∀c,c∈l->(G'.K c).length+(if G'.mr c then 1 else 0)+ex' c=(G.K c).length+(if G.mr c then 1 else 0)+ex c):few G' ex' l d=few G ex l d:=by
 unfold few
 congr 1
 exact List.filter_congr (fun c hc=>by rw [h c hc])
theorem PL (G:FG) (ex:Nat->Nat) (c:Nat) (l:List Nat) (d:Nat):few G ex (c::l) d=(if (G.K c).length+(if G.mr c then 1 else 0)+ex c<d then 1 else 0)+few G ex l d:=by
 unfold few;rw [List.filter_cons]
 by_cases h:(G.K c).length+(if G.mr c then 1 else 0)+ex c<d
 ·rw [Δ (by simpa using h),Δ h];simp;omega
 ·rw [Γ (by simpa using h),Γ h];omega
theorem fI {α:Type} (f:Nat->α) (x:Nat) (v:α):aF f x v x=v:=by unfold aF;rw [Δ rfl]
theorem bN {α:Type} (f:Nat->α) {x z:Nat} (v:α) (h:z≠x):aF f x v z=f z:=by unfold aF;rw [Γ h]
def Ry (l:List Nat) (y:Nat):List Nat:=match l with|[]=>[y]|k::t=>y::(t++[k])
theorem Ak (l:List Nat) (y:Nat):(Ry l y).Perm (y::l):=by
 cases l with
 | nil=>exact ό _
 | cons k t=>exact List.Perm.cons y (Φ (l₁:=t) (l₂:=[k]))
theorem kT (G:FG) (y x:Nat):(cB G y x).up=aF G.up y x:=rfl
theorem x9 (G:FG) (y x:Nat):(cB G y x).mr=aF G.mr y false:=rfl
theorem o5 (G:FG) (y x:Nat):(cB G y x).K=aF G.K x (Ry (G.K x) y):=rfl
theorem rA (G:FG) (y x:Nat):(cB G y x).R=G.R:=by unfold cB;cases G.K x<;>rfl
theorem zf (G:FG) (y x:Nat):(cB G y x).nx=match G.K x with|[]=>G.nx|k::_=>dU G.nx k y:=by unfold cB;cases G.K x<;>rfl
theorem Qi (G:FG) (y x:Nat):(cB G y x).pv=match G.K x with|[]=>G.pv|k::_=>oh G.nx G.pv k y:=by unfold cB;cases G.K x<;>rfl
theorem FF.under (H:FF n G bZ L ex) {x y:Nat} (hx:x<n) (hy:y<n) (ux:G.up x=-1) (uy:G.up y=-1) (hne:x≠y) (hh:bZ y=bZ x) (h0:0<bZ x) (hL:L x y) (sy:G.nx y=y) (hd:(G.K y).length=(G.K x).length) (hex:ex y=0) :
  FF n (cB G y x) bZ L ex/\(∀z,z<n->z≠y->G.up z=-1->(cB G y x).nx z=G.nx z)/\(∀l:List Nat,Ring G.nx l->y∉l->(∀z,z∈l->z∉G.K x)->Ring (cB G y x).nx l):=by
 have kx:∀a z,a<n->z∈G.K a->z≠x/\z≠y:=fun a z ha hz=>by
  have:=(H.kid a z ha hz).2;exact ⟨fun e=>by subst e;omega,fun e=>by subst e;omega⟩
 have far:∀z,z≠y->z∉G.K x->(cB G y x).nx z=G.nx z:=fun z h1 h2=>by
  rw [zf];cases hK:G.K x with
  | nil=>rfl
  | cons k t=>exact jf (fun e=>h2 (by rw [hK,e];simp)) h1
 have nk:∀z,G.up z=-1->z∉G.K x:=fun z hu hm=>by
  have:=(H.kid x z hx hm).2;omega
 have rl:∀l:List Nat,Ring G.nx l->y∉l->(∀z,z∈l->z∉G.K x)->Ring (cB G y x).nx l:=fun l hr h1 h2=>hr.far (fun z hz=>far z (fun e=>h1 (e▸hz)) (h2 z hz));have mem:∀z,z∈Ry (G.K x) y↔z=y\/z∈G.K x:=fun z=>by rw [(Ak _ _).mem_iff];simp
 refine ⟨⟨?_,fun a z ha hz=>?_,fun z hz=>?_,fun a ha=>?_,fun z p hz hu=>?_,fun z p hz hu=>?_,fun z hz h1=>?_,fun z hz hu=>?_,fun a d ha=>?_⟩,fun z hz h1 h2=>far z h1 (nk z h2),rl⟩
 ·rw [zf,Qi];cases hK:G.K x with
  | nil=>exact H.rg
  | cons k t=>exact H.rg.swap (H.kid x k hx (by rw [hK];simp)).1 hy
 ·rw [o5] at hz;rw [kT]
  by_cases e:a=x
  ·subst e;rw [fI,mem] at hz;rcases hz with rfl|hz
   ·exact ⟨hy,fI _ _ _⟩
   ·exact ⟨(H.kid a z ha hz).1,by rw [bN _ _ (kx a z ha hz).2];exact (H.kid a z ha hz).2⟩
  ·rw [bN _ _ e] at hz;exact ⟨(H.kid a z ha hz).1,by rw [bN _ _ (kx a z ha hz).2];exact (H.kid a z ha hz).2⟩
 ·rw [kT,o5]
  by_cases e:z=y
  ·subst e;exact Β ⟨x,hx,fI _ _ _,by rw [fI,mem];exact Α rfl⟩
  ·rw [bN _ _ e];rcases H.Wd z hz with h1|⟨p,hp,h1,h2⟩
   ·exact Α h1
   ·refine Β ⟨p,hp,h1,?_⟩
    by_cases e2:p=x
    ·rw [e2,fI,mem];rw [e2] at h2;exact Β h2
    ·rw [bN _ _ e2];exact h2
 ·rw [o5]
  by_cases e:a=x
  ·subst e;rw [fI,zf];have hr:=H.ring a ha;cases hK:G.K a with
   | nil=>exact iT.2 sy
   | cons k t=>
    rw [hK] at hr
    have hj:=Ring.join hr (iT.2 sy) (fun z hz hm=>by
     simp at hm;subst hm
     exact (kx a z ha (by rw [hK];exact hz)).2 rfl)
    exact Ring.Y8 (a:=[k]) (b:=y::t) hj
  ·rw [bN _ _ e]
   exact rl _ (H.ring a ha) (fun hm=>(kx a y ha hm).2 rfl) (fun z hz hm=>e (by
    have:=(H.kid a z ha hz).2;have:=(H.kid x z hx hm).2
    omega))
 ·rw [kT] at hu
  by_cases e:z=y
  ·subst e;rw [fI] at hu;obtain rfl:p=x:=ω;exact ⟨hh,ω⟩
  ·rw [bN _ _ e] at hu;exact H.home z p hz hu
 ·rw [kT] at hu
  by_cases e:z=y
  ·subst e;rw [fI] at hu;obtain rfl:p=x:=ω;exact hL
  ·rw [bN _ _ e] at hu;exact H.ord z p hz hu
 ·have e1:z≠y:=fun e=>h1 (by rw [e,hh];exact h0);have e2:z≠x:=fun e=>h1 (by rw [e];exact h0);obtain ⟨a1,a2,a3⟩:=H.alone z hz h1;exact ⟨by rw [kT,bN _ _ e1];exact a1,by rw [o5,bN _ _ e2];exact a2,by rw [far z e1 (nk z a1)];exact a3⟩
 ·rw [kT] at hu;rw [x9]
  by_cases e:z=y
  ·subst e;rw [fI]
  ·rw [bN _ _ e] at hu ⊢;exact H.free z hz hu
 ·have old:∀b:Nat,b<n->few (cB G y x) ex (G.K b) d=few G ex (G.K b) d:=fun b hb=>JV d (fun c hc=>by
   have:=kx b c hb hc
   rw [o5,x9,bN _ _ this.1,bN _ _ this.2])
  by_cases e:a=x
  ·subst e;rw [show (cB G y a).K a=Ry (G.K a) y from fI _ _ _,PW _ _ (Ak _ _),PL,old a ha,o5,x9,fI,bN _ _ (Ne.symm hne),hex];have h1:=H.cnt a d ha;have h2:=UR G ex (G.K a) d;simp only [ϥ,if_false,ϗ]
   split<;>omega
  ·rw [show (cB G y x).K a=G.K a from bN _ _ e,old a ha];exact H.cnt a d ha
end
def jd (T:List Int) (d:Nat):List Int:=T++List.replicate (d+1-T.length) (-1)
def mG (T:List Int):Nat:=(T.filter (fun y=>decide (y≠-1))).length
structure TD where
 T:List Int
 G:FG
 q:Nat
def Gc (lt:Nat->Nat->Bool):Nat->List Int->Nat->FG->Nat->TD
 | 0,T,x,G,q=>⟨T,G,q⟩
 | f+1,T,x,G,q=>
  if (jd T (G.K x).length).getD (G.K x).length (-1)=-1 then ⟨(jd T (G.K x).length).set (G.K x).length x,G,q⟩
  else if lt ((jd T (G.K x).length).getD (G.K x).length (-1)).toNat x then Gc lt f ((jd T (G.K x).length).set (G.K x).length (-1)) ((jd T (G.K x).length).getD (G.K x).length (-1)).toNat (cB G x ((jd T (G.K x).length).getD (G.K x).length (-1)).toNat) (q+1)
  else Gc lt f ((jd T (G.K x).length).set (G.K x).length (-1)) x (cB G ((jd T (G.K x).length).getD (G.K x).length (-1)).toNat x) (q+1)
def tid (lt:Nat->Nat->Bool):List Nat->TD->TD
 | [],D=>D
 | x::rs,D=>tid lt rs (Gc lt (mG D.T+1) D.T x D.G D.q)
theorem Dn (T:List Int) (d:Nat):(jd T d).length=max T.length (d+1):=by unfold jd;simp;omega
theorem RV (a b:List Int):mG (a++b)=mG a+mG b:=by unfold mG;simp
theorem Sb (k:Nat):mG (List.replicate k (-1))=0:=by
 unfold mG;rw [List.length_eq_zero_iff,List.filter_eq_nil_iff];intro a ha;have:=List.eq_of_mem_replicate ha;simp [this]
theorem Rx (T:List Int) (d:Nat):mG (jd T d)=mG T:=by unfold jd;rw [RV,Sb];omega
theorem CP:∀ (T:List Int) (d:Nat) (v u:Int),T[d]?=some u->mG (T.set d v)+(if u=-1 then 0 else 1)=mG T+(if v=-1 then 0 else 1)
 | [],d,v,u,h=>by simp at h
 | a::t,0,v,u,h=>by
  have e:a=u:=by simpa using h
  subst e;have c:∀z:Int,mG (z::t)=(if z=-1 then 0 else 1)+mG t:=fun z=>by
   unfold mG
   by_cases hz:z=-1
   ·rw [List.filter_cons_of_neg (by simpa using hz),Δ hz];omega
   ·rw [List.filter_cons_of_pos (by simpa using hz),Γ hz];simp;omega
  show mG (v::t)+_=_
  rw [c,c];omega
 | a::t,d+1,v,u,h=>by
  have ih:=CP t d v u (by simpa using h);have c:∀l:List Int,mG (a::l)=(if a=-1 then 0 else 1)+mG l:=fun l=>by
   unfold mG
   by_cases hz:a=-1
   ·rw [List.filter_cons_of_neg (by simpa using hz),Δ hz];omega
   ·rw [List.filter_cons_of_pos (by simpa using hz),Γ hz];simp;omega
  show mG (a::t.set d v)+_=_
  rw [c,c];omega
def zD (n:Nat) (G:FG) (bZ:Nat->Int) (h:Nat) (z:Nat):Prop:=z<n/\G.up z=-1/\bZ z=h
structure TT (n:Nat) (bZ:Nat->Int) (L:Nat->Nat->Prop) (h:Nat) (T:List Int) (xs:List Nat) (G:FG):Prop where
 ff:FF n G bZ L (fun _=>0)
 fr:FR n G bZ L (some h)
 zero:G.R h=[]
 one:∀y,zD n G bZ h y->G.nx y=y
 tab:∀ (d:Nat) (y:Int),T[d]?=some y->y=-1\/∃z:Nat,y=z/\zD n G bZ h z/\(G.K z).length=d/\z∉xs
 nd:xs.Nodup
 xr:∀z,z∈xs->zD n G bZ h z
 all:∀z,zD n G bZ h z->z∈xs\/(z:Int)∈T
section
variable {n:Nat} {bZ:Nat->Int} {L:Nat->Nat->Prop} {h:Nat} {T:List Int} {xs:List Nat} {G:FG}
theorem TT.pad (H:TT n bZ L h T xs G) (d:Nat):TT n bZ L h (jd T d) xs G:=by
 refine ⟨H.ff,H.fr,H.zero,H.one,fun e y hy=>?_,H.nd,H.xr,fun z hz=>(H.all z hz).imp id (fun hm=>by unfold jd;simp [hm])⟩;unfold jd at hy
 by_cases he:e<T.length
 ·rw [Ρ he] at hy;exact H.tab e y hy
 ·rw [ϊ ω] at hy;exact Α (List.eq_of_mem_replicate (Η hy))
theorem p9 (T:List Int) (d:Nat) (v z:Int):z∈T.set d v↔(z=v/\d<T.length)\/∃e,e≠d/\T[e]?=some z:=by
 rw [List.mem_iff_getElem?];constructor
 ·rintro ⟨e,he⟩;rw [ύ] at he
  by_cases hd:d=e
  ·rw [Δ hd] at he
   by_cases hl:d<T.length
   ·rw [Δ hl] at he;injection he with he;exact Α ⟨he.symm,ω⟩
   ·rw [Γ hl] at he;cases he
  ·rw [Γ hd] at he;exact Β ⟨e,fun h'=>hd h'.symm,he⟩
 ·rintro (⟨rfl,hl⟩|⟨e,hne,he⟩)
  ·exact ⟨d,by rw [ύ,Δ rfl,Δ hl]⟩
  ·exact ⟨e,by rw [ύ,Γ (Ne.symm hne)];exact he⟩
theorem TT.place {x:Nat} {rs:List Nat} (H:TT n bZ L h T (x::rs) G) {d:Nat} (hd:(G.K x).length=d) (hT:T[d]?=some (-1)):TT n bZ L h (T.set d x) rs G:=by
 have hnd:=List.nodup_cons.1 H.nd;have hdl:d<T.length:=(List.getElem?_eq_some_iff.1 hT).1;refine ⟨H.ff,H.fr,H.zero,H.one,fun e y hy=>?_,hnd.2,fun z hz=>H.xr z (by simp [hz]),fun z hz=>?_⟩
 ·rw [ύ] at hy
  by_cases he:d=e
  ·rw [Δ he,Δ ω] at hy
   injection hy with hy
   exact Β ⟨x,hy.symm,H.xr x σ,ω,hnd.1⟩
  ·rw [Γ he] at hy;rcases H.tab e y hy with h1|⟨z,h1,h2,h3,h4⟩
   ·exact Α h1
   ·exact Β ⟨z,h1,h2,h3,fun hm=>h4 (by simp [hm])⟩
 ·rcases H.all z hz with h1|h1
  ·rcases ρ.1 h1 with rfl|h1
   ·exact Β ((p9 _ _ _ _).2 (Α ⟨rfl,hdl⟩))
   ·exact Α h1
  ·obtain ⟨e,he⟩:=List.mem_iff_getElem?.1 h1;refine Β ((p9 _ _ _ _).2 (Β ⟨e,fun e2=>?_,he⟩));subst e2;rw [hT] at he
   injection he with he
   omega
theorem TT.link {x z hi lo:Nat} {rs:List Nat} (H:TT n bZ L h T (x::rs) G) {d:Nat} (hd:(G.K x).length=d) (hT:T[d]?=some (z:Int)) (hl:(hi=x/\lo=z)\/(hi=z/\lo=x)) (hL:L hi lo) (h1:1<=h) :
  TT n bZ L h (T.set d (-1)) (hi::rs) (cB G lo hi):=by
 have hnd:=List.nodup_cons.1 H.nd;have A8:=H.xr x σ;obtain ⟨z',e,Ju,hzd,hzx⟩:∃z':Nat,(z:Int)=z'/\zD n G bZ h z'/\(G.K z').length=d/\z'∉x::rs:=by
  rcases H.tab d z hT with h2|h2
  ·omega
  ·exact h2
 obtain rfl:z=z':=ω;have hzne:z≠x:=fun e=>hzx (by simp [e]);have Zd:z∉rs:=fun hm=>hzx (by simp [hm]);have hir:zD n G bZ h hi:=by rcases hl with ⟨e,_⟩|⟨e,_⟩<;>subst e<;>assumption
 have lor:zD n G bZ h lo:=by rcases hl with ⟨_,e⟩|⟨_,e⟩<;>subst e<;>assumption
 have hid:(G.K hi).length=d:=by rcases hl with ⟨e,_⟩|⟨e,_⟩<;>subst e<;>assumption
 have lod:(G.K lo).length=d:=by rcases hl with ⟨_,e⟩|⟨_,e⟩<;>subst e<;>assumption
 have hne:hi≠lo:=by rcases hl with ⟨e1,e2⟩|⟨e1,e2⟩<;>subst e1 e2<;>omega
 have hirs:hi∉rs:=by rcases hl with ⟨e,_⟩|⟨e,_⟩<;>subst e;exact hnd.1;exact Zd
 have lors:lo∉rs:=by rcases hl with ⟨_,e⟩|⟨_,e⟩<;>subst e;exact Zd;exact hnd.1
 have hs:=H.one lo lor;have hh:(0:Int)<bZ hi:=by rw [hir.2.2];omega
 obtain ⟨hF,hnx,hrl⟩:=H.ff.under hir.1 lor.1 hir.2.1 lor.2.1 hne (by rw [lor.2.2,hir.2.2]) hh hL hs ω rfl;have upn:∀w,w≠lo->(cB G lo hi).up w=G.up w:=fun w hw=>by rw [kT,bN _ _ hw]
 have upl:(cB G lo hi).up lo=hi:=by rw [kT,fI]
 have rt:∀g w,zD n (cB G lo hi) bZ g w↔zD n G bZ g w/\w≠lo:=fun g w=>by
  unfold zD
  by_cases e:w=lo
  ·subst e;rw [upl];constructor
   ·rintro ⟨_,h2,_⟩;omega
   ·rintro ⟨_,h2⟩;exact absurd rfl h2
  ·rw [upn w e];simp [e]
 have kn:∀w,w≠hi->(cB G lo hi).K w=G.K w:=fun w hw=>by rw [o5,bN _ _ hw]
 have Rf:∀g,some g≠some h->∀w,w∈G.R g->w≠lo/\w∉G.K hi:=fun g hg w hw=>by
  have hm:=(H.fr.mem g w hg).1 hw;refine ⟨fun e=>hg ?_,fun hk=>?_⟩
  ·subst e;have:=lor.2.2;have:=hm.2.2.2;congr 1;omega
  ·have:=(H.ff.kid hi w hir.1 hk).2;omega
 refine ⟨hF,⟨fun g hg=>?_,fun g w hg=>?_,fun g t s hg hR=>?_⟩,by rw [rA];exact H.zero,fun w hw=>?_,fun e y hy=>?_,List.nodup_cons.2 ⟨hirs,hnd.2⟩,fun w hw=>?_,fun w hw=>?_⟩
 ·rw [rA];exact hrl _ (H.fr.ring g hg) (fun hm=>(Rf g hg lo hm).1 rfl) (fun w hw=>(Rf g hg w hw).2)
 ·rw [rA,H.fr.mem g w hg];constructor
  ·rintro ⟨a1,a2,a3,a4⟩;have hw:w≠lo:=fun e=>hg (by subst e;have:=lor.2.2;congr 1;omega);exact ⟨a1,a2,by rw [upn w hw];exact a3,a4⟩
  ·rintro ⟨a1,a2,a3,a4⟩;have hw:w≠lo:=fun e=>by subst e;rw [upl] at a3;omega
   exact ⟨a1,a2,by rw [upn w hw] at a3;exact a3,a4⟩
 ·rw [rA] at hR;exact H.fr.top g t s hg hR
 ·obtain ⟨hw1,hwl⟩:=(rt h w).1 hw;rw [hnx w hw1.1 hwl hw1.2.1];exact H.one w hw1
 ·rw [ύ] at hy
  by_cases he:d=e
  ·rw [Δ he] at hy
   by_cases hl2:d<T.length
   ·rw [Δ hl2] at hy;injection hy with hy;exact Α hy.symm
   ·rw [Γ hl2] at hy;cases hy
  ·rw [Γ he] at hy;rcases H.tab e y hy with a1|⟨w,a1,a2,a3,a4⟩
   ·exact Α a1
   ·have w1:w≠x:=fun e2=>a4 (by simp [e2]);have w2:w≠z:=fun e2=>by subst e2;omega
    have whi:w≠hi:=by rcases hl with ⟨e2,_⟩|⟨e2,_⟩<;>subst e2<;>assumption
    have wlo:w≠lo:=by rcases hl with ⟨_,e2⟩|⟨_,e2⟩<;>subst e2<;>assumption
    refine Β ⟨w,a1,(rt h w).2 ⟨a2,wlo⟩,by rw [kn w whi];exact a3,fun hm=>?_⟩;rcases ρ.1 hm with e2|hm
    ·exact whi e2
    ·exact a4 (by simp [hm])
 ·rcases ρ.1 hw with rfl|hw
  ·exact (rt h w).2 ⟨hir,hne⟩
  ·exact (rt h w).2 ⟨H.xr w (by simp [hw]),fun e=>lors (e▸hw)⟩
 ·obtain ⟨hw,hwl⟩:=(rt h w).1 hw;have fin:w=x\/w=z->w∈hi::rs:=fun hc=>by
   rcases hl with ⟨e1,e2⟩|⟨e1,e2⟩
   ·rcases hc with hc|hc
    ·simp [e1,hc]
    ·exact absurd (hc.trans e2.symm) hwl
   ·rcases hc with hc|hc
    ·exact absurd (hc.trans e2.symm) hwl
    ·simp [e1,hc]
  rcases H.all w hw with a|a
  ·rcases ρ.1 a with a|a
   ·exact Α (fin (Α a))
   ·exact Α (by simp [a])
  ·obtain ⟨e,he⟩:=List.mem_iff_getElem?.1 a
   by_cases hed:e=d
   ·subst hed;rw [hT] at he
    injection he with he
    exact Α (fin (Β ω))
   ·exact Β ((p9 _ _ _ _).2 (Β ⟨e,hed,he⟩))
theorem getD_some {T:List Int} {d:Nat} (hd:d<T.length):T[d]?=some (T.getD d (-1)):=by
 rw [φ,ε hd];rfl
def Im (n:Nat) (G:FG) (bZ:Nat->Int) (h:Nat) (L:Nat->Nat->Prop) (lt:Nat->Nat->Bool):Prop:=∀a b,a<n->b<n->bZ a=h->bZ b=h->a≠b->(lt a b=true->L a b)/\(lt a b=false->L b a)
theorem TT.step {lt:Nat->Nat->Bool} {x:Nat} {rs:List Nat} (H:TT n bZ L h T (x::rs) G) (hl:Im n G bZ h L lt) (h1:1<=h) :
  (jd T (G.K x).length)[(G.K x).length]?=some ((jd T (G.K x).length).getD (G.K x).length (-1))/\
  ((jd T (G.K x).length).getD (G.K x).length (-1)=-1->TT n bZ L h ((jd T (G.K x).length).set (G.K x).length x) rs G/\mG ((jd T (G.K x).length).set (G.K x).length x)=mG T+1)/\
  ((jd T (G.K x).length).getD (G.K x).length (-1)≠-1->∃z:Nat,(jd T (G.K x).length).getD (G.K x).length (-1)=z/\z<n/\z≠x/\bZ z=h/\mG ((jd T (G.K x).length).set (G.K x).length (-1))+1=mG T/\
   (lt z x=true->TT n bZ L h ((jd T (G.K x).length).set (G.K x).length (-1)) (z::rs) (cB G x z))/\(lt z x=false->TT n bZ L h ((jd T (G.K x).length).set (G.K x).length (-1)) (x::rs) (cB G z x))):=by
 have hp:=H.pad (G.K x).length;have ho:=Rx T (G.K x).length;have hlen:=Dn T (G.K x).length;generalize jd T (G.K x).length=P at *;have hg:P[(G.K x).length]?=some (P.getD (G.K x).length (-1)):=getD_some ω;refine ⟨hg,fun e=>?_,fun e=>?_⟩
 ·rw [e] at hg;refine ⟨hp.place rfl hg,?_⟩;have:=CP P (G.K x).length x (-1) hg;rw [Δ rfl,Γ ω] at this;omega
 ·rcases hp.tab _ _ hg with e1|⟨z,e1,e2,e3,e4⟩
  ·exact absurd e1 e
  ·rw [e1] at hg;have hzx:z≠x:=fun e=>e4 (by simp [e]);have A8:=hp.xr x σ;have hk:=hl z x e2.1 A8.1 e2.2.2 A8.2.2 hzx;have:=CP P (G.K x).length (-1) z hg;rw [Δ rfl,Γ ω] at this;exact ⟨z,e1,e2.1,hzx,e2.2.2,ω,fun ht=>hp.link rfl hg (Β ⟨rfl,rfl⟩) (hk.1 ht) h1,fun ht=>hp.link rfl hg (Α ⟨rfl,rfl⟩) (hk.2 ht) h1⟩
theorem GD {lt:Nat->Nat->Bool} {rs:List Nat} (h1:1<=h) (hl:∀G,Im n G bZ h L lt):∀ (f:Nat) (T:List Int) (x:Nat) (G:FG) (q:Nat),TT n bZ L h T (x::rs) G->mG T<f->
  TT n bZ L h (Gc lt f T x G q).T rs (Gc lt f T x G q).G/\mG (Gc lt f T x G q).T+(Gc lt f T x G q).q=mG T+1+q/\(Gc lt f T x G q).G.R=G.R/\(Gc lt f T x G q).T.length<=max T.length (n+1)
 | 0,T,x,G,q,H,hf=>ω
 | f+1,T,x,G,q,H,hf=>by
  obtain ⟨s0,s1,s2⟩:=H.step (hl G) h1;have hkn:=H.ff.TA (H.xr x σ).1;have hpl:=Dn T (G.K x).length;unfold Gc
  by_cases e:(jd T (G.K x).length).getD (G.K x).length (-1)=-1
  ·rw [Δ e];obtain ⟨a,b⟩:=s1 e;exact ⟨a,by simp only;omega,rfl,by simp only [Ι];omega⟩
  ·rw [Γ e];obtain ⟨z,e1,_,_,_,e3,e4,e5⟩:=s2 e;rw [e1,π];cases ht:lt z x with
   | true=>
    rw [Δ rfl];obtain ⟨r1,r2,r3,r4⟩:=GD h1 hl f _ z _ (q+1) (e4 ht) ω;exact ⟨r1,ω,r3.trans (rA _ _ _),by rw [Ι] at r4;omega⟩
   | false=>
    rw [Γ σ];obtain ⟨r1,r2,r3,r4⟩:=GD h1 hl f _ x _ (q+1) (e5 ht) ω;exact ⟨r1,ω,r3.trans (rA _ _ _),by rw [Ι] at r4;omega⟩
theorem Oj {lt:Nat->Nat->Bool} (h1:1<=h) (hl:∀G,Im n G bZ h L lt):∀ (rs:List Nat) (D:TD),TT n bZ L h D.T rs D.G->D.T.length<=n+1->
  TT n bZ L h (tid lt rs D).T [] (tid lt rs D).G/\mG (tid lt rs D).T+(tid lt rs D).q=mG D.T+rs.length+D.q/\(tid lt rs D).G.R=D.G.R/\(tid lt rs D).T.length<=n+1
 | [],D,H,hlen=>⟨H,by simp [tid],rfl,hlen⟩
 | x::rs,D,H,hlen=>by
  obtain ⟨r1,r2,r3,r4⟩:=GD h1 hl (mG D.T+1) D.T x D.G D.q H ω;obtain ⟨t1,t2,t3,t4⟩:=Oj h1 hl rs _ r1 ω;have e:tid lt (x::rs) D=tid lt rs (Gc lt (mG D.T+1) D.T x D.G D.q):=rfl;rw [e];exact ⟨t1,by rw [t2,Ω];omega,t3.trans r3,t4⟩
end
section
variable {n:Nat} {G:FG} {bZ:Nat->Int} {L:Nat->Nat->Prop} {ex:Nat->Nat}
theorem FF.Dg (H:FF n G bZ L ex) {a x:Nat} (hx:x<n) (ua:G.up a=-1):a∉G.K x:=fun hm=>by
 have:=(H.kid x a hx hm).2;omega
theorem FF.MQ (H:FF n G bZ L ex) {a b:Nat} (ha:a<n) (hb:b<n) (ua:G.up a=-1) (ub:G.up b=-1) (h0a:0<bZ a) (h0b:0<bZ b):FF n (MQ G a b) bZ L ex:=
 ⟨H.rg.swap ha hb,H.kid,H.Wd,fun x hx=>(H.ring x hx).yX (H.Dg hx ua) (H.Dg hx ub),H.home,H.ord,fun y hy h0=>by
  obtain ⟨h1,h2,h3⟩:=H.alone y hy h0
  exact ⟨h1,h2,by show dU G.nx a b y=y;rw [jf (fun e=>h0 (by rw [e];exact h0a)) (fun e=>h0 (by rw [e];exact h0b))];exact h3⟩,H.free,H.cnt⟩
theorem FF.dw (H:FF n G bZ L ex) (R:Nat->List Nat):FF n { G with R:=R } bZ L ex:=⟨H.rg,H.kid,H.Wd,H.ring,H.home,H.ord,H.alone,H.free,H.cnt⟩
theorem FF.mono {L':Nat->Nat->Prop} {uD:Nat->Int} (H:FF n G bZ L ex) (hL:∀y p:Nat,y<n->G.up y=p->L p y->uD y=uD p/\0<uD y/\L' p y) (ha:∀y,y<n->¬0<uD y->G.up y=-1/\G.K y=[]/\G.nx y=y):FF n G uD L' ex:=
 ⟨H.rg,H.kid,H.Wd,H.ring,fun y p hy hu=>⟨(hL y p hy hu (H.ord y p hy hu)).1,(hL y p hy hu (H.ord y p hy hu)).2.1⟩,fun y p hy hu=>(hL y p hy hu (H.ord y p hy hu)).2.2,ha,H.free,H.cnt⟩
def kl (l:List Nat):List Nat:=match l with|[]=>[]|k::t=>t++[k]
theorem Jt (l:List Nat):(kl l).Perm l:=by
 cases l with
 | nil=>exact ό _
 | cons k t=>exact Φ (l₁:=t) (l₂:=[k])
theorem Vw {l:List Nat} {z:Nat}:z∈kl l↔z∈l:=(Jt l).mem_iff
theorem V6 (l:List Nat):(kl l).length=l.length:=(Jt l).length_eq
theorem Sr (G:FG) (x:Nat):(bR G x).R=G.R:=by unfold bR;cases G.K x<;>rfl
theorem Ck (G:FG) (x:Nat):(bR G x).K=aF G.K x []:=by
 unfold bR;cases hK:G.K x with
 | nil=>funext z;unfold aF;by_cases e:z=x<;>simp [e,hK]
 | cons k t=>rfl
theorem DF (G:FG) {x:Nat} (ux:G.up x=-1) (z:Nat):(bR G x).up z=if z∈G.K x then -1 else G.up z:=by
 unfold bR;cases hK:G.K x with
 | nil=>simp
 | cons k t=>
  show aF (fun z=>if z∈k::t then (-1:Int) else G.up z) x (-1) z=_
  unfold aF
  by_cases e:z=x
  ·rw [Δ e];split;rfl;rw [e,ux]
  ·rw [Γ e]
theorem PG (G:FG) {x:Nat} (mx:G.mr x=false) (z:Nat):(bR G x).mr z=if z∈G.K x then false else G.mr z:=by
 unfold bR;cases hK:G.K x with
 | nil=>simp
 | cons k t=>
  show aF (fun z=>if z∈k::t then false else G.mr z) x false z=_
  unfold aF
  by_cases e:z=x
  ·rw [Δ e];split;rfl;rw [e,mx]
  ·rw [Γ e]
theorem xP (G:FG) (x:Nat):(bR G x).nx=match G.K x with|[]=>G.nx|k::_=>dU G.nx x k:=by unfold bR;cases G.K x<;>rfl
theorem PS (G:FG) (x:Nat):(bR G x).pv=match G.K x with|[]=>G.pv|k::_=>oh G.nx G.pv x k:=by unfold bR;cases G.K x<;>rfl
theorem FF.raise (H:FF n G bZ L ex) {x:Nat} (hx:x<n) (ux:G.up x=-1) (h0:0<bZ x) :
  FF n (bR G x) bZ L ex/\(∀l,Ring G.nx l->x∉l->(∀z,z∈l->z∉G.K x)->Ring (bR G x).nx l)/\
   (∀a b,Ring G.nx (a++x::b)->(∀z,z∈a++x::b->z∉G.K x)->Ring (bR G x).nx (a++x::(kl (G.K x)++b))):=by
 have mx:=H.free x hx ux;have up:=DF G ux;have mr:=PG G mx;have far:∀z,z≠x->z∉G.K x->(bR G x).nx z=G.nx z:=fun z h1 h2=>by
  rw [xP];cases hK:G.K x with
  | nil=>rfl
  | cons k t=>exact jf h1 (fun e=>h2 (by rw [hK,e];simp))
 have rl:∀l,Ring G.nx l->x∉l->(∀z,z∈l->z∉G.K x)->Ring (bR G x).nx l:=fun l hl h1 h2=>hl.far (fun z hz=>far z (fun e=>h1 (e▸hz)) (h2 z hz));have oth:∀a,a<n->a≠x->∀z,z∈G.K a->z≠x/\z∉G.K x:=fun a ha hne z hz=>by
  have:=(H.kid a z ha hz).2;exact ⟨fun e=>by subst e;omega,fun hm=>by have:=(H.kid x z hx hm).2;omega⟩
 have kn:∀a,a≠x->(bR G x).K a=G.K a:=fun a ha=>by rw [Ck,bN _ _ ha]
 have kx:(bR G x).K x=[]:=by rw [Ck,fI]
 refine ⟨⟨?_,fun a y ha hy=>?_,fun y hy=>?_,fun a ha=>?_,fun y p hy hu=>?_,fun y p hy hu=>?_,fun y hy h1=>?_,fun y hy hu=>?_,fun a d ha=>?_⟩,rl,fun a b hr hd=>?_⟩
 ·rw [xP,PS];cases hK:G.K x with
  | nil=>exact H.rg
  | cons k t=>exact H.rg.swap hx (H.kid x k hx (by rw [hK];simp)).1
 ·by_cases e:a=x
  ·subst e;rw [kx] at hy;cases hy
  ·rw [kn a e] at hy;have:=oth a ha e y hy;exact ⟨(H.kid a y ha hy).1,by rw [up,Γ this.2];exact (H.kid a y ha hy).2⟩
 ·rw [up]
  by_cases e:y∈G.K x
  ·rw [Δ e];exact Α rfl
  ·rw [Γ e];rcases H.Wd y hy with h1|⟨p,hp,h1,h2⟩
   ·exact Α h1
   ·have hpx:p≠x:=fun e2=>e (e2▸h2);exact Β ⟨p,hp,h1,by rw [kn p hpx];exact h2⟩
 ·by_cases e:a=x
  ·subst e;rw [kx];exact Ring.nil _
  ·rw [kn a e];exact rl _ (H.ring a ha) (fun hm=>(oth a ha e x hm).1 rfl) (fun z hz=>(oth a ha e z hz).2)
 ·rw [up] at hu
  split at hu
  ·omega
  ·exact H.home y p hy hu
 ·rw [up] at hu
  split at hu
  ·omega
  ·exact H.ord y p hy hu
 ·obtain ⟨a1,a2,a3⟩:=H.alone y hy h1;have hyx:y≠x:=fun e=>h1 (by rw [e];exact h0);have hyk:y∉G.K x:=H.Dg hx a1;exact ⟨by rw [up,Γ hyk];exact a1,by rw [kn y hyx];exact a2,by rw [far y hyx hyk];exact a3⟩
 ·rw [up] at hu;rw [mr]
  split
  ·rfl
  ·rename_i hk
   rw [Γ hk] at hu;exact H.free y hy hu
 ·by_cases e:a=x
  ·subst e;rw [kx];exact Nat.zero_le _
  ·rw [kn a e,JV (G:=G) (ex:=ex) d (fun c hc=>by
    have:=oth a ha e c hc
    rw [kn c this.1,mr,Γ this.2])]
   exact H.cnt a d ha
 ·have hk:=H.ring x hx;rw [xP];cases hK:G.K x with
  | nil=>simpa [kl] using hr
  | cons k t=>
   rw [hK] at hk hd;have h1:Ring G.nx (x::(b++a)):=Ring.Y8 (a:=a) (b:=x::b) hr;have h2:=Ring.join h1 hk (fun z hz=>hd z (by simp only [ρ,τ] at hz ⊢;rcases hz with h|h|h<;>simp [h]));have h3:Ring (dU G.nx x k) ((x::(t++k::b))++a):=by simpa using h2
   have h4:=Ring.Y8 h3;simpa [kl] using h4
def rV (l:List Nat) (G:FG):FG:=l.foldl prt G
theorem vQ:∀ (l:List Nat) (G:FG),(rV l G).up=G.up/\(rV l G).mr=G.mr/\(rV l G).K=G.K/\(rV l G).R=G.R
 | [],G=>⟨rfl,rfl,rfl,rfl⟩
 | x::t,G=>by
  obtain ⟨h1,h2,h3,h4⟩:=vQ t (prt G x);exact ⟨h1,h2,h3,h4⟩
theorem JP:∀ (l:List Nat) (G:FG),FF n G bZ L ex->Ring G.nx l->(∀z,z∈l->z<n/\G.up z=-1/\0<bZ z)->
  FF n (rV l G) bZ L ex/\(∀z,z∈l->(rV l G).nx z=z)/\(∀l',Ring G.nx l'->(∀z,z∈l'->z∉l)->Ring (rV l G).nx l')
 | [],G,H,hr,hl=>⟨H,fun z hz=>(by cases hz),fun l' h _=>h⟩
 | x::t,G,H,hr,hl=>by
  have hx:=hl x σ;obtain ⟨p1,p2⟩:=H.rg.part hr (fun z hz=>(hl z hz).1);have hpm:G.pv x∈x::t:=by
   rcases List.eq_nil_or_concat t with rfl|⟨a,y,e⟩
   ·have e1:=iT.1 hr;have:=H.rg.pn x hx.1;rw [e1] at this;simp [this]
   ·rw [List.concat_eq_append] at e;subst e;have:=H.rg.last (x:=x) (y:=y) (a:=a) hr (hl y σ).1;rw [this];simp
  have hp:=hl _ hpm;have H1:FF n (prt G x) bZ L ex:=H.MQ hx.1 hp.1 hx.2.1 hp.2.1 hx.2.2 hp.2.2;have hnd:=List.nodup_cons.1 hr.nd;obtain ⟨r1,r2,r3⟩:=JP t (prt G x) H1 p2 (fun z hz=>hl z (by simp [hz]));refine ⟨r1,fun z hz=>?_,fun l' h' hd=>r3 l' (h'.yX (fun hm=>hd x hm σ) (fun hm=>hd _ hm hpm)) (fun z hz hm=>hd z hz (by simp [hm]))⟩;rcases ρ.1 hz with rfl|hz
  ·exact iT.1 (r3 [z] p1 (fun y hy=>by simp at hy;subst hy;exact hnd.1))
  ·exact r2 z hz
theorem Gj (b:Bool) (R l:List Nat):(uo b R l).Perm (R++l):=by
 unfold uo;cases R with
 | nil=>exact ό _
 | cons t s=>
  cases l with
  | nil=>simp
  | cons x r=>
   simp only
   split
   ·exact Φ (l₁:=x::s) (l₂:=t::r) |>.trans (by
     show (t::(r++x::s)).Perm (t::(s++x::r))
     refine List.Perm.cons t ?_
     exact List.perm_middle.trans ((List.Perm.cons x Φ).trans List.perm_middle.symm))
   ·show (t::(r++x::s)).Perm (t::(s++x::r))
    refine List.Perm.cons t ?_;exact List.perm_middle.trans ((List.Perm.cons x Φ).trans List.perm_middle.symm)
theorem sO (lt:Nat->Nat->Bool) (h:Nat) (l:List Nat) (G:FG):(gV lt h l G).up=G.up/\(gV lt h l G).mr=G.mr/\(gV lt h l G).K=G.K/\∀g,g≠h->(gV lt h l G).R g=G.R g:=by
 unfold gV
 split
 ·exact ⟨rfl,rfl,rfl,fun g hg=>bN _ _ hg⟩
 ·exact ⟨rfl,rfl,rfl,fun g hg=>bN _ _ hg⟩
theorem xZ {lt:Nat->Nat->Bool} {h x:Nat} {r:List Nat} (H:FF n G bZ L ex) (h1:1<=h) (hl:Im n G bZ h L lt) (tr:∀a b c,L a b->L b c->L a c) (hR:Ring G.nx (G.R h)) (hx:Ring G.nx (x::r)) (hd:∀z,z∈G.R h->z∉x::r)
  (mR:∀z,z∈G.R h->zD n G bZ h z) (mx:∀z,z∈x::r->zD n G bZ h z) (tR:∀t s,G.R h=t::s->∀y,y∈s->L t y) (tx:∀y,y∈r->L x y) :
  FF n (gV lt h (x::r) G) bZ L ex/\Ring (gV lt h (x::r) G).nx ((gV lt h (x::r) G).R h)/\((gV lt h (x::r) G).R h).Perm (G.R h++x::r)/\
   (∀t s,(gV lt h (x::r) G).R h=t::s->∀y,y∈s->L t y)/\(∀l',Ring G.nx l'->(∀z,z∈l'->z∉G.R h/\z∉x::r)->Ring (gV lt h (x::r) G).nx l'):=by
 cases hRR:G.R h with
 | nil=>
  have e:gV lt h (x::r) G={ G with R:=aF G.R h (x::r) }:=by unfold gV;rw [hRR]
  rw [e];have eR:aF G.R h (x::r) h=x::r:=fI _ _ _;simp only [eR];exact ⟨H.dw _,hx,ό _,fun t s e y hy=>by injection e with e1 e2;subst e1 e2;exact tx y hy,fun l' h _=>h⟩
 | cons t s=>
  have e:gV lt h (x::r) G={ MQ G t x with R:=aF G.R h (uo (lt x t) (t::s) (x::r)) }:=by unfold gV;rw [hRR]
  rw [e];rw [hRR] at hR hd mR;have ht:=mR t σ;have A8:=mx x σ;have hne:x≠t:=fun e=>hd t σ (by simp [e]);have h0:(0:Int)<bZ t/\(0:Int)<bZ x:=⟨by rw [ht.2.2];omega,by rw [A8.2.2];omega⟩;have hk:=hl x t A8.1 ht.1 A8.2.2 ht.2.2 hne;have eR:aF G.R h (uo (lt x t) (t::s) (x::r)) h=uo (lt x t) (t::s) (x::r):=fI _ _ _;have hj:Ring (dU G.nx t x) (t::r++x::s):=Ring.join hR hx hd;have hts:=tR t s hRR;simp only [eR];refine ⟨(H.MQ ht.1 A8.1 ht.2.1 A8.2.1 h0.1 h0.2).dw _,?_,Gj _ _ _,fun t' s' e' y hy=>?_,fun l' hl' hd'=>hl'.yX (fun hm=>(hd' t hm).1 σ) (fun hm=>(hd' x hm).2 σ)⟩
  ·show Ring (dU G.nx t x) _
   unfold uo;simp only;cases hb:lt x t with
   | true=>exact Ring.Y8 (a:=t::r) (b:=x::s) hj
   | false=>exact hj
  ·unfold uo at e';simp only at e';cases hb:lt x t with
   | true=>
    rw [hb] at hk;rw [hb,Δ rfl] at e';have hxt:=hk.1 rfl;have e1:x=t':=by injection e'
    have e2:s++t::r=s':=by injection e'
    subst e1 e2;simp only [τ,ρ] at hy;rcases hy with hy|rfl|hy
    ·exact tr _ _ _ hxt (hts y hy)
    ·exact hxt
    ·exact tx y hy
   | false=>
    rw [hb] at hk;rw [hb,Γ σ] at e';have htx:=hk.2 rfl;have e1:t=t':=by injection e'
    have e2:r++x::s=s':=by injection e'
    subst e1 e2;simp only [τ,ρ] at hy;rcases hy with hy|rfl|hy
    ·exact tr _ _ _ htx (tx y hy)
    ·exact htx
    ·exact hts y hy
end
def o7 (lt:Nat->Nat->Bool) (h:Nat):List Int->FG->Nat->FG×Nat
 | [],G,q=>(G,q)
 | y::t,G,q=>if y=-1 then o7 lt h t G q else o7 lt h t (gV lt h [y.toNat] G) (q+qH h G)
def EW (T:List Int):List Nat:=T.filterMap (fun y=>if y=-1 then none else some y.toNat)
theorem qc (y:Int) (t:List Int):EW (y::t)=if y=-1 then EW t else y.toNat::EW t:=by
 unfold EW;rw [List.filterMap_cons];split<;>rename_i h<;>by_cases e:y=-1<;>simp_all
theorem JS:∀T:List Int,(EW T).length=mG T
 | []=>rfl
 | y::t=>by
  rw [qc];have ih:=JS t;unfold mG at *
  by_cases e:y=-1
  ·rw [Δ e,List.filter_cons_of_neg (by simpa using e)];exact ih
  ·rw [Γ e,List.filter_cons_of_pos (by simpa using e)];simp [ih]
structure zo (n:Nat) (bZ:Nat->Int) (L:Nat->Nat->Prop) (h:Nat) (ps:List Nat) (G:FG):Prop where
 ff:FF n G bZ L (fun _=>0)
 fr:FR n G bZ L (some h)
 ring:Ring G.nx (G.R h)
 top:∀t s,G.R h=t::s->∀y,y∈s->L t y
 mem:∀y,y∈G.R h->zD n G bZ h y
 nd:ps.Nodup
 pr:∀z,z∈ps->zD n G bZ h z/\G.nx z=z/\z∉G.R h
 all:∀z,zD n G bZ h z->z∈G.R h\/z∈ps
section
variable {n:Nat} {bZ:Nat->Int} {L:Nat->Nat->Prop} {h:Nat} {G:FG}
theorem zo.step {lt:Nat->Nat->Bool} {z:Nat} {ps:List Nat} (H:zo n bZ L h (z::ps) G) (h1:1<=h) (hl:∀G,Im n G bZ h L lt) (tr:∀a b c,L a b->L b c->L a c) :
  zo n bZ L h ps (gV lt h [z] G)/\((gV lt h [z] G).R h).length=(G.R h).length+1:=by
 obtain ⟨z1,z2,z3⟩:=H.pr z σ;have hnd:=List.nodup_cons.1 H.nd;obtain ⟨c1,c2,c3,c4,c5⟩:=xZ H.ff h1 (hl G) tr H.ring (iT.2 z2) (fun y hy hm=>by simp at hm;subst hm;exact z3 hy) H.mem (fun y hy=>by simp at hy;subst hy;exact z1) H.top (fun y hy=>by cases hy);obtain ⟨s1,s2,s3,s4⟩:=sO lt h [z] G;have rt:∀g y,zD n (gV lt h [z] G) bZ g y↔zD n G bZ g y:=fun g y=>by unfold zD;rw [s1]
 have mem':∀y,y∈(gV lt h [z] G).R h↔y∈G.R h\/y=z:=fun y=>by rw [c3.mem_iff];simp
 refine ⟨⟨c1,⟨fun g hg=>?_,fun g y hg=>?_,fun g t s hg hR=>?_⟩,c2,c4,fun y hy=>?_,hnd.2,fun y hy=>?_,fun y hy=>?_⟩,by rw [c3.length_eq];simp⟩
 ·have hgh:g≠h:=fun e=>hg (by rw [e]);rw [s4 g hgh];refine c5 _ (H.fr.ring g hg) (fun y hy=>?_);have hm:=(H.fr.mem g y hg).1 hy;refine ⟨fun hm2=>hgh ?_,fun hm2=>hgh ?_⟩
  ·have:=(H.mem y hm2).2.2;have:=hm.2.2.2;omega
  ·simp at hm2;subst hm2;have:=z1.2.2;have:=hm.2.2.2;omega
 ·have hgh:g≠h:=fun e=>hg (by rw [e]);rw [s4 g hgh,s1];exact H.fr.mem g y hg
 ·have hgh:g≠h:=fun e=>hg (by rw [e]);rw [s4 g hgh] at hR;exact H.fr.top g t s hg hR
 ·rw [rt];rcases (mem' y).1 hy with hy|rfl
  ·exact H.mem y hy
  ·exact z1
 ·obtain ⟨y1,y2,y3⟩:=H.pr y (by simp [hy]);have Wu:y≠z:=fun e=>hnd.1 (e▸hy);refine ⟨(rt h y).2 y1,iT.1 (c5 [y] (iT.2 y2) (fun w hw=>by simp at hw;subst hw;exact ⟨y3,by simpa using Wu⟩)),fun hm=>?_⟩;rcases (mem' y).1 hm with hm|hm
  ·exact y3 hm
  ·exact Wu hm
 ·rcases H.all y ((rt h y).1 hy) with a|a
  ·exact Α ((mem' y).2 (Α a))
  ·rcases ρ.1 a with a|a
   ·exact Α ((mem' y).2 (Β a))
   ·exact Β a
theorem Bc (h:Nat) (G:FG):qH h G=min 1 (G.R h).length:=by
 unfold qH;cases G.R h with
 | nil=>simp
 | cons t s=>simp
theorem Gs {lt:Nat->Nat->Bool} (h1:1<=h) (hl:∀G,Im n G bZ h L lt) (tr:∀a b c,L a b->L b c->L a c):∀ (T:List Int) (G:FG) (q:Nat),zo n bZ L h (EW T) G->
  zo n bZ L h [] (o7 lt h T G q).1/\((o7 lt h T G q).1.up=G.up/\(o7 lt h T G q).1.mr=G.mr/\(o7 lt h T G q).1.K=G.K/\∀g,g≠h->(o7 lt h T G q).1.R g=G.R g)/\
   ((o7 lt h T G q).1.R h).Perm (G.R h++EW T)/\(o7 lt h T G q).2+min 1 ((o7 lt h T G q).1.R h).length=q+mG T+min 1 (G.R h).length
 | [],G,q,H=>⟨H,⟨rfl,rfl,rfl,fun _ _=>rfl⟩,by simp [EW,o7],by simp [o7,mG]⟩
 | y::t,G,q,H=>by
  rw [qc] at H;unfold o7
  by_cases e:y=-1
  ·rw [Δ e] at H ⊢;obtain ⟨r1,r2,r3,r4⟩:=Gs h1 hl tr t G q H;refine ⟨r1,r2,by rw [qc,Δ e];exact r3,?_⟩;have:mG (y::t)=mG t:=by unfold mG;rw [List.filter_cons_of_neg (by simpa using e)]
   rw [this];exact r4
  ·rw [Γ e] at H ⊢;obtain ⟨k1,k2⟩:=H.step h1 hl tr;obtain ⟨s1,s2,s3,s4⟩:=sO lt h [y.toNat] G;obtain ⟨r1,r2,r3,r4⟩:=Gs h1 hl tr t _ (q+qH h G) k1;have hp:((gV lt h [y.toNat] G).R h).Perm (G.R h++[y.toNat]):=by
    obtain ⟨z1,z2,z3⟩:=H.pr y.toNat σ;exact (xZ H.ff h1 (hl G) tr H.ring (iT.2 z2) (fun w hw hm=>by simp at hm;subst hm;exact z3 hw) H.mem (fun w hw=>by simp at hw;subst hw;exact z1) H.top (fun w hw=>by cases hw)).2.2.1
   refine ⟨r1,⟨r2.1.trans s1,r2.2.1.trans s2,r2.2.2.1.trans s3,fun g hg=>(r2.2.2.2 g hg).trans (s4 g hg)⟩,?_,?_⟩
   ·rw [qc,Γ e];exact r3.trans ((hp.append_right (EW t)).trans σ)
   ·have:mG (y::t)=mG t+1:=by unfold mG;rw [List.filter_cons_of_pos (by simpa using e)];rfl
    rw [this];rw [Bc] at r4;rw [Bc];omega
theorem TT.Yi {T:List Int} (H:TT n bZ L h T [] G):(EW T).Pairwise (fun a b=>(G.K a).length≠(G.K b).length):=by
 unfold EW;rw [List.pairwise_filterMap,List.pairwise_iff_getElem];intro i j hi hj hij a ha b hb;have f:∀ (i:Nat) (hi:i<T.length) (a:Nat),(if T[i]=-1 then none else some T[i].toNat)=some a->(G.K a).length=i:=fun i hi a ha=>by
  rcases H.tab i T[i] (ε hi) with e|⟨z,e1,_,e2,_⟩
  ·rw [Δ e] at ha;cases ha
  ·rw [Γ ω] at ha;have:T[i].toNat=a:=by injection ha
   obtain rfl:z=a:=ω;exact e2
 rw [f i hi a ha,f j hj b hb];omega
theorem TT.ri {T:List Int} (H:TT n bZ L h T [] G):zo n bZ L h (EW T) G:=by
 have hm:∀z,z∈EW T↔(z:Int)∈T:=fun z=>by
  unfold EW;rw [List.mem_filterMap];constructor
  ·rintro ⟨y,hy,e⟩
   by_cases e1:y=-1
   ·rw [Δ e1] at e;cases e
   ·rw [Γ e1] at e;have e2:y.toNat=z:=by injection e
    obtain ⟨i,hi⟩:=List.mem_iff_getElem?.1 hy;rcases H.tab i y hi with e3|⟨w,e3,_⟩
    ·exact absurd e3 e1
    ·rw [show (z:Int)=y by omega];exact hy
  ·intro hz;exact ⟨z,hz,by rw [Γ ω];simp⟩
 refine ⟨H.ff,H.fr,by rw [H.zero];exact Ring.nil _,fun t s e=>(by rw [H.zero] at e;cases e),fun y hy=>(by rw [H.zero] at hy;cases hy),H.Yi.imp (fun {a b} hab e=>hab (by rw [e])),fun z hz=>?_,fun z hz=>?_⟩
 ·obtain ⟨i,hi⟩:=List.mem_iff_getElem?.1 ((hm z).1 hz);rcases H.tab i z hi with e3|⟨w,e3,e4,_⟩
  ·omega
  ·obtain rfl:z=w:=ω;exact ⟨e4,H.one z e4,by rw [H.zero];simp⟩
 ·rcases H.all z hz with a|a
  ·cases a
  ·exact Β ((hm z).2 a)
end
structure EK (A:NS) (G:FG):Prop where
 ff:FF A.cs.length G (fun y=>(A.c y).i) (eU A) (fun _=>0)
 fr:FR A.cs.length G (fun y=>(A.c y).i) (eU A) none
theorem FR.all {n:Nat} {G:FG} {bZ:Nat->Int} {L:Nat->Nat->Prop} (H:FR n G bZ L none) (h:Nat):Ring G.nx (G.R h)/\(∀y,y∈G.R h↔1<=h/\zD n G bZ h y)/\∀t s,G.R h=t::s->∀y,y∈s->L t y:=
 ⟨H.ring h σ,fun y=>H.mem h y σ,fun t s e=>H.top h t s σ e⟩
section
variable {A:NS} {G:FG}
theorem EK.wD (I:EK A G) {h:Int} {m:Nat} (hm:bB A h=some m):zD A.cs.length G (fun y=>(A.c y).i) h.toNat m/\1<=h.toNat:=by
 have h0:0<h:=by
  apply ϝ;intro hn;rw [nV hn] at hm;cases hm
 obtain ⟨h1,h2,h3⟩:=(dD h0).1 hm;refine ⟨⟨h1,?_,by show (A.c m).i=_;rw [h2];omega⟩,by omega⟩;rcases I.ff.Wd m h1 with e|⟨p,hp,e,_⟩
 ·exact e
 ·have ho:=I.ff.ord m p h1 e;have hh:=(I.ff.home m p h1 e).1;have hh':(A.c m).i=(A.c p).i:=hh;rcases h3 p hp (by rw [←hh',h2]) with e2|e2
  ·subst e2;exact absurd ho Jp
  ·exact absurd ho (qy e2)
theorem EK.FJ (I:EK A G) {h:Nat} {t:Nat} {s:List Nat} (hR:G.R h=t::s):bB A (h:Int)=some t/\1<=h/\t<A.cs.length/\G.up t=-1/\(A.c t).i=h:=by
 obtain ⟨r1,r2,r3⟩:=I.fr.all h;obtain ⟨h1,t1,t2,t3⟩:=(r2 t).1 (by rw [hR];simp);have YN:(A.c t).i=(h:Int):=t3;refine ⟨?_,h1,t1,t2,YN⟩;cases hm:bB A (h:Int) with
 | none=>
  have:=(iJ ω).1 hm;have hp:0<dG A (h:Int):=dL.2 ⟨t,t1,YN,ω⟩;omega
 | some m=>
  obtain ⟨m1,m2⟩:=I.wD hm;rw [π] at m1;have hmem:=(r2 m).2 ⟨h1,m1⟩;rw [hR] at hmem;rcases ρ.1 hmem with e|e
  ·rw [e]
  ·have a1:=r3 t s hR m e;obtain ⟨_,_,h3⟩:=(dD ω).1 hm;rcases h3 t t1 YN with e2|e2
   ·rw [e2]
   ·exact absurd a1 (qy e2)
theorem EK.out (I:EK A G) {h:Nat} {z:Nat} (hz:z∈G.R h):1<=h/\z<A.cs.length/\G.up z=-1/\(A.c z).i=h/\bV A (z:Int)=true:=by
 obtain ⟨h1,t1,t2,t3⟩:=((I.fr.all h).2.1 z).1 hz;have YN:(A.c z).i=(h:Int):=t3;exact ⟨h1,t1,t2,YN,(aj _ _).2 ⟨t1,ω⟩⟩
end
def vR (A:NS) (a b:Nat):Bool:=decide (eU A a b)
theorem yD (A:NS) (n:Nat) (G:FG) (bZ:Nat->Int) (h:Nat):Im n G bZ h (eU A) (vR A):=fun a b _ _ _ _ hne=>
 ⟨fun e=>by unfold vR at e;simpa using e,fun e=>by
  unfold vR at e;have e':¬eU A a b:=by simpa using e
  exact (jQ hne).resolve_left e'⟩
def nz (h x:Nat) (rs:List Nat) (G:FG):FG:={ rV (x::rs) (bR G x) with R:=aF G.R h [] }
def qh (A:NS) (h x:Nat) (rs:List Nat) (G:FG):TD:=tid (vR A) rs ⟨[],nz h x rs G,0⟩
def pQ (A:NS) (h x:Nat) (rs:List Nat) (G:FG):FG×Nat:=o7 (vR A) h (qh A h x rs G).T (qh A h x rs G).G 0
section
variable {A:NS} {G:FG}
theorem UG (I:EK A G) (ok:A.Ok) {h x:Nat} {s:List Nat} (hR:G.R h=x::s) :
  (Ring (bR G x).nx (x::(kl (G.K x)++s))/\(∀z,z∈x::(kl (G.K x)++s)->z<A.cs.length))/\
  TT A.cs.length (fun y=>((aN A x).c y).i) (eU A) h [] (kl (G.K x)++s) (nz h x (kl (G.K x)++s) G)/\
  (∀z,z<A.cs.length->((aN A (x:Int)).c z).i=(h:Int)->bV A (z:Int)=true)/\
  zo A.cs.length (fun y=>((aN A x).c y).i) (eU A) h (EW (qh A h x (kl (G.K x)++s) G).T) (qh A h x (kl (G.K x)++s) G).G/\(qh A h x (kl (G.K x)++s) G).G.R h=[]/\
  EK (aN A x) (pQ A h x (kl (G.K x)++s) G).1/\
  (qh A h x (kl (G.K x)++s) G).q+(pQ A h x (kl (G.K x)++s) G).2<=(G.K x).length+s.length/\
  (qh A h x (kl (G.K x)++s) G).q+((pQ A h x (kl (G.K x)++s) G).1.R h).length=(G.K x).length+s.length/\
  (((pQ A h x (kl (G.K x)++s) G).1.R h).Pairwise (fun a b=>((pQ A h x (kl (G.K x)++s) G).1.K a).length≠((pQ A h x (kl (G.K x)++s) G).1.K b).length))/\
  (∀g,g≠h->(pQ A h x (kl (G.K x)++s) G).1.R g=G.R g)/\(∀y,y∈(qh A h x (kl (G.K x)++s) G).T->y=-1\/0<=y)/\(qh A h x (kl (G.K x)++s) G).T.length<=A.cs.length+1/\(pQ A h x (kl (G.K x)++s) G).1.mr=(qh A h x (kl (G.K x)++s) G).G.mr:=by
 obtain ⟨m1,h1,hx,ux,hxh⟩:=I.FJ hR;obtain ⟨_,_,_,_,hin⟩:=I.out (h:=h) (z:=x) (by rw [hR];simp);have hc:=fun y=>pY hin y;have hcl:=dm A (x:Int);have h0:(0:Int)<(A.c x).i:=ω;obtain ⟨rF,r1,r2⟩:=I.ff.raise hx ux h0;have mx:=I.ff.free x hx ux;have up1:=DF G ux;have K1:=Ck G x;obtain ⟨q1,q2,q3⟩:=I.fr.all h;rw [hR] at q1;have IL:∀z,G.up z=-1->z∉G.K x:=fun z hz=>I.ff.Dg hx hz;have Qe:Ring (bR G x).nx (x::(kl (G.K x)++s)):=by
  have:=r2 [] s q1 (fun z hz=>IL z (((q2 z).1 (by rw [hR];exact hz)).2.2.1));exact this
 have sr:∀z,z∈s->zD A.cs.length G (fun y=>(A.c y).i) h z:=fun z hz=>((q2 z).1 (by rw [hR];simp [hz])).2;have kr:∀z,z∈G.K x->z<A.cs.length/\G.up z=x/\(A.c z).i=h:=fun z hz=>by
  obtain ⟨k1,k2⟩:=I.ff.kid x z hx hz;have k3:(A.c z).i=(A.c x).i:=(I.ff.home z x k1 k2).1;exact ⟨k1,k2,ω⟩
 have ZO:∀z,z∈kl (G.K x)++s↔z∈G.K x\/z∈s:=fun z=>by simp [Vw]
 have VX:∀z,z∈x::(kl (G.K x)++s)->z<A.cs.length/\(bR G x).up z=-1/\0<(A.c z).i:=fun z hz=>by
  rw [up1];rcases ρ.1 hz with rfl|hz
  ·exact ⟨hx,by rw [ux];split<;>rfl,h0⟩
  ·rcases (ZO z).1 hz with hz|hz
   ·exact ⟨(kr z hz).1,by rw [Δ hz],by have:=(kr z hz).2.2;omega⟩
   ·have a:=sr z hz;have a3:(A.c z).i=h:=a.2.2;exact ⟨a.1,by rw [Γ (IL z a.2.1)];exact a.2.1,ω⟩
 have hnd:=List.nodup_cons.1 Qe.nd;obtain ⟨p1,p2,p3⟩:=JP (x::(kl (G.K x)++s)) (bR G x) rF Qe VX;obtain ⟨e1,e2,e3,e4⟩:=vQ (x::(kl (G.K x)++s)) (bR G x);have up3:∀z,(nz h x (kl (G.K x)++s) G).up z=if z∈G.K x then -1 else G.up z:=fun z=>by
  show (rV (x::(kl (G.K x)++s)) (bR G x)).up z=_
  rw [e1,up1]
 have K3:(nz h x (kl (G.K x)++s) G).K=aF G.K x []:=by
  show (rV (x::(kl (G.K x)++s)) (bR G x)).K=_
  rw [e3,K1]
 have upx:(nz h x (kl (G.K x)++s) G).up x=-1:=by rw [up3,ux];split<;>rfl
 have uD:∀z,z≠x->((aN A (x:Int)).c z).i=(A.c z).i:=fun z hz=>by rw [hc,Γ hz]
 have zZ:((aN A (x:Int)).c x).i=0:=by rw [hc,Δ rfl];rfl
 have F3:FF A.cs.length (nz h x (kl (G.K x)++s) G) (fun y=>((aN A (x:Int)).c y).i) (eU A) (fun _=>0):=by
  refine (p1.dw (aF G.R h [])).mono (fun y p hy hu ho=>?_) (fun y hy h2=>?_)
  ·have hu':(nz h x (kl (G.K x)++s) G).up y=p:=hu;have hyx:y≠x:=fun e=>by subst e;rw [upx] at hu';omega
   have hpx:p≠x:=fun e=>by
    have hk:=(p1.dw (aF G.R h [])).above hy hu;have hk2:y∈(nz h x (kl (G.K x)++s) G).K p:=hk.2;rw [K3,e,fI] at hk2;cases hk2
   have hh:=p1.home y p hy hu;have zH:(A.c y).i=(A.c p).i:=hh.1;have Vr:0<(A.c y).i:=hh.2;exact ⟨by simp only [uD y hyx,uD p hpx];exact zH,by simp only [uD y hyx];exact Vr,ho⟩
  ·by_cases e:y=x
   ·subst e;exact ⟨upx,by show (nz h y (kl (G.K y)++s) G).K y=[];rw [K3,fI],p2 y σ⟩
   ·have h3:¬0<(A.c y).i:=by simp only [uD y e] at h2;exact h2
    exact p1.alone y hy h3
 have rt3:∀g z,zD A.cs.length (nz h x (kl (G.K x)++s) G) (fun y=>((aN A (x:Int)).c y).i) g z->1<=g->z≠x/\(A.c z).i=g/\(z∈G.K x\/G.up z=-1):=fun g z hz hg=>by
  obtain ⟨a1,a2,a3⟩:=hz;have hzx:z≠x:=fun e=>by subst e;simp only [zZ] at a3;omega
  simp only [uD z hzx] at a3;rw [up3] at a2;refine ⟨hzx,a3,?_⟩
  split at a2
  ·rename_i hk;exact Α hk
  ·exact Β a2
 have R3:∀g,g≠h->(nz h x (kl (G.K x)++s) G).R g=G.R g:=fun g hg=>bN _ _ hg;have fr3:FR A.cs.length (nz h x (kl (G.K x)++s) G) (fun y=>((aN A (x:Int)).c y).i) (eU A) (some h):=by
  refine ⟨fun g hg=>?_,fun g z hg=>?_,fun g t s' hg hR'=>?_⟩
  all_goals have hgh:g≠h:=fun e=>hg (by rw [e])
  ·rw [R3 g hgh];obtain ⟨a1,a2,_⟩:=I.fr.all g;have hz:∀z,z∈G.R g->G.up z=-1/\(A.c z).i=g:=fun z hz=>⟨((a2 z).1 hz).2.2.1,((a2 z).1 hz).2.2.2⟩
   refine p3 _ (r1 _ a1 (fun hm=>hgh (by have:=(hz x hm).2;omega)) (fun z hm=>IL z (hz z hm).1)) (fun z hm hm2=>?_);have hzg:=(hz z hm).2;rcases ρ.1 hm2 with e|hm2
   ·subst e;exact hgh ω
   ·rcases (ZO z).1 hm2 with hm2|hm2
    ·have:=(kr z hm2).2.2;exact hgh ω
    ·have:(A.c z).i=h:=(sr z hm2).2.2;exact hgh ω
  ·rw [R3 g hgh,(I.fr.all g).2.1 z];constructor
   ·rintro ⟨a0,a1,a2,a3⟩;have a3':(A.c z).i=g:=a3;have hzx:z≠x:=fun e=>by subst e;exact hgh ω
    exact ⟨a0,a1,by rw [up3,Γ (IL z a2)];exact a2,by simp only [uD z hzx];exact a3'⟩
   ·rintro ⟨a0,a1,a2,a3⟩;obtain ⟨b1,b2,b3⟩:=rt3 g z ⟨a1,a2,a3⟩ a0;rcases b3 with b3|b3
    ·have:=(kr z b3).2.2;exact absurd (show g=h by omega) hgh
    ·exact ⟨a0,a1,b3,b2⟩
  ·rw [R3 g hgh] at hR';exact (I.fr.all g).2.2 t s' hR'
 have T3:TT A.cs.length (fun y=>((aN A (x:Int)).c y).i) (eU A) h [] (kl (G.K x)++s) (nz h x (kl (G.K x)++s) G):=by
  refine ⟨F3,fr3,fI _ _ _,fun z hz=>?_,fun d y hy=>by simp at hy,hnd.2,fun z hz=>?_,fun z hz=>?_⟩
  ·obtain ⟨b1,b2,b3⟩:=rt3 h z hz h1;refine p2 z ?_;simp only [ρ,ZO];rcases b3 with b3|b3
   ·exact Β (Α b3)
   ·have:=(q2 z).2 ⟨h1,hz.1,b3,b2⟩;rw [hR] at this;rcases ρ.1 this with e|e
    ·exact absurd e b1
    ·exact Β (Β e)
  ·have hzx:z≠x:=fun e=>hnd.1 (e▸hz);have a:=VX z (by simp [hz]);refine ⟨a.1,by rw [up3,←up1];exact a.2.1,?_⟩;simp only [uD z hzx];rcases (ZO z).1 hz with b|b
   ·exact (kr z b).2.2
   ·exact (sr z b).2.2
  ·obtain ⟨b1,b2,b3⟩:=rt3 h z hz h1;left;rw [ZO];rcases b3 with b3|b3
   ·exact Α b3
   ·have:=(q2 z).2 ⟨h1,hz.1,b3,b2⟩;rw [hR] at this;rcases ρ.1 this with e|e
    ·exact absurd e b1
    ·exact Β e
 obtain ⟨t1,t2,t3,t4⟩:=Oj h1 (fun G=>yD A A.cs.length G _ h) (kl (G.K x)++s) ⟨[],nz h x (kl (G.K x)++s) G,0⟩ T3 σ;have eD:tid (vR A) (kl (G.K x)++s) ⟨[],nz h x (kl (G.K x)++s) G,0⟩=qh A h x (kl (G.K x)++s) G:=rfl;rw [eD] at t1 t2 t3 t4;have U9:=t1.ri;obtain ⟨u1,u2,u3,u4⟩:=Gs h1 (fun G=>yD A A.cs.length G _ h) (fun a b c=>dB) _ _ 0 U9;have e4':o7 (vR A) h (qh A h x (kl (G.K x)++s) G).T (qh A h x (kl (G.K x)++s) G).G 0=pQ A h x (kl (G.K x)++s) G:=rfl;rw [e4'] at u1 u2 u3 u4;rw [t1.zero,Ϡ] at u3;rw [t1.zero] at u4;have hlen:=u3.length_eq;rw [JS] at hlen
 have ho0:mG (TD.mk [] (nz h x (kl (G.K x)++s) G) 0).T=0:=rfl;have hl2:(kl (G.K x)++s).length=(G.K x).length+s.length:=by rw [υ,V6]
 have hq0:(TD.mk [] (nz h x (kl (G.K x)++s) G) 0).q=0:=rfl;rw [ho0,hl2,hq0] at t2;simp only [List.length_nil] at u4;refine ⟨⟨Qe,fun z hz=>(VX z hz).1⟩,T3,fun z hz hh=>?_,U9,t1.zero,⟨?_,?_⟩,?_,?_,?_,?_,fun y hy=>?_,t4,u2.2.1⟩
 ·have hzx:z≠x:=fun e=>by subst e;rw [zZ] at hh;omega
  rw [uD z hzx] at hh;exact (aj _ _).2 ⟨hz,ω⟩
 ·rw [hcl];refine u1.ff.mono (fun y p hy hu ho=>?_) (fun y hy h2=>u1.ff.alone y hy h2);have hh:=u1.ff.home y p hy hu;have zH:((aN A (x:Int)).c y).i=((aN A (x:Int)).c p).i:=hh.1;have Vr:0<((aN A (x:Int)).c y).i:=hh.2;have hyx:y≠x:=fun e=>by rw [e,zZ] at Vr;omega
  have hpx:p≠x:=fun e=>by rw [e,zZ] at zH;omega
  exact ⟨hh.1,hh.2,(gB (by rw [hc,Γ hpx]) (by rw [hc,Γ hyx])).2 ho⟩
 ·rw [hcl];have mm:∀g y,y∈(pQ A h x (kl (G.K x)++s) G).1.R g↔1<=g/\y<A.cs.length/\(pQ A h x (kl (G.K x)++s) G).1.up y=-1/\((aN A (x:Int)).c y).i=g:=fun g y=>by
   by_cases e:g=h
   ·subst e;constructor
    ·intro hm;exact ⟨h1,u1.mem y hm⟩
    ·rintro ⟨_,a⟩;rcases u1.all y a with b|b
     ·exact b
     ·cases b
   ·exact u1.fr.mem g y (by simp;exact e)
  refine ⟨fun g _=>?_,fun g y _=>mm g y,fun g t s' _ hR' y hy=>?_⟩
  ·by_cases e:g=h
   ·subst e;exact u1.ring
   ·exact u1.fr.ring g (by simp;exact e)
  ·have hL:eU A t y:=by
    by_cases e:g=h
    ·subst e;exact u1.top t s' hR' y hy
    ·exact u1.fr.top g t s' (by simp;exact e) hR' y hy
   have ht:=(mm g t).1 (by rw [hR'];simp);have hy':=(mm g y).1 (by rw [hR'];simp [hy]);have htx:t≠x:=fun e=>by subst e;rw [zZ] at ht;omega
   have hyx:y≠x:=fun e=>by subst e;rw [zZ] at hy';omega
   exact (gB (by rw [hc,Γ htx]) (by rw [hc,Γ hyx])).2 hL
 ·omega
 ·omega
 ·rw [u2.2.2.1];exact u3.symm.pairwise (l:=EW _) t1.Yi (fun {a b} h=>Ne.symm h)
 ·intro g hg;rw [u2.2.2.2 g hg,t3];exact R3 g hg
 ·obtain ⟨i,hi⟩:=List.mem_iff_getElem?.1 hy;rcases t1.tab i y hi with e|⟨z,e,_⟩
  ·exact Α e
  ·exact Β ω
end
end Go.Proofs.YtklibcncmbofpaaGreat
namespace Go.Proofs.YtklibcncmbofpaaGreat
open Go Go.RowKit
theorem Fy {w:World} {base g n cap:Nat} {l:List Int} (h:w.ownsRow base 3 1 (.slice (some ⟨g,0,none⟩) n cap) n (aM l)) (j:Nat) (x:Int):(w.setCell ⟨g,j,none⟩ (.int .i64 x)).ownsRow base 3 1 (.slice (some ⟨g,0,none⟩) n cap) n (aM (l.set j x)):=by
 have hl:l.length=n:=by have:=h.1;rw [dO] at this;omega
 rcases h.2 with ⟨h1,_⟩|⟨g',cap',cur,h1,hb,hg,hn,hc,hs,ht⟩
 ·cases h1
 ·cases h1;refine ⟨by rw [dO,Ι];omega,Β ⟨g,cap,cur.setIfInBounds j (.int .i64 x),rfl,by simpa using hb,?_,hn,hc,ζ,?_⟩⟩
  ·simp [World.setCell,Array.getElem?_modify,hg]
  ·rw [Array.toList_setIfInBounds]
   by_cases hj:j<n
   ·rw [List.take_set,ht];unfold aM;rw [List.map_set]
   ·rw [List.take_set_of_le ω,ht,List.set_eq_of_length_le ω]
section
variable {w:World} {B:FB} {F:List Nat} {gt ct:Nat} {A:NS} {st:Nat} {G:FG}
theorem gT.own {w0 w1 w2:World} {e:TypeId} {size k:Nat} {v:Value} {xs:List Value} (h:gT w1 B F gt ct A st G) (hb:∀x,x∈B.blk F gt->x<w0.heap.size) (ho:w1.ownsRow w0.heap.size e size v k xs) (hu:aa v.ownBlock.toList w1 w2):gT w2 B F gt ct A st G:=
 h.upd hu (fun x hx hm=>by
  have h1:=(ho.lt x (by simpa using hx)).1;have h2:=hb x hm
  omega)
theorem LY (M:gT w B F gt ct A st G) {rs:List Nat} {v:Value} {h:Nat} {bZ:Nat->Int} (h1:1<=h) (hin:∀z,z<A.cs.length->bZ z=h->bV A (z:Int)=true) (H:TT A.cs.length bZ (eU A) h [] rs G) (hv:fO w [B.c,B.bn,B.bp,B.bl] v (nI rs)) :
  Calls Tryz.prog 229 #[.pointer (some ⟨B.n0,0,none⟩),v] w fun e w'=>∃v',e=.returned v'/\w'.ownsRow w.heap.size 3 1 v' (tid (vR A) rs ⟨[],G,0⟩).T.length (aM (tid (vR A) rs ⟨[],G,0⟩).T)/\
   gT w' B F gt ct A (dF st (tid (vR A) rs ⟨[],G,0⟩).q) (tid (vR A) rs ⟨[],G,0⟩).G/\aa [B.c,B.bn,B.bp,B.bl] w w':=by
 have hc1:=M.cells.ok.c1;have hz:=ig M.cells.qp;have hlr:rs.length<=A.cs.length:=iF _ _ H.nd (fun z hz=>(H.xr z hz).1);obtain ⟨a,cap,rfl,hcap,hcap2,hel⟩:=hv;rw [kK] at hcap ⊢;have hlt:=M.lt;obtain ⟨g1,g2,g3,g4,g5,g6,g7⟩:=M.d3;obtain ⟨e1,e2,e3,e4,e5⟩:=M.d2;have cn:=M.cn;obtain ⟨D,hD⟩:∃D,tid (vR A) rs ⟨[],G,0⟩=D:=⟨_,rfl⟩;rw [hD];have hbl:∀y,y∈[B.c,B.bn,B.bp,B.bl]->y<w.heap.size:=fun y hy=>by
  simp only [ρ,ς,or_false] at hy;rcases hy with rfl|rfl|rfl|rfl
  ·exact M.cells.lt _ M.cells.mem
  ·exact hlt _ (by simp [FB.blk])
  ·exact hlt _ (by simp [FB.blk])
  ·exact hlt _ (by simp [FB.blk])
 have Ur:=χ hlt;have H0:=χ (ψ M (ψ H (ψ hD (ψ hel (ψ hbl hz)))));clear M H hD hel hbl hz hlt;generalize hrl:rs.length=len at *;have Xi:=χ hrl;clear hrl
 go_enter Tryz.func229,Tryz.ntmps229
 go_wp2
 go_loopw [5,12] (fun s5 s12 wr=>∃ (i:Nat) (T:List Int) (G':FG) (q:Nat),i<=len/\s12=.int .i64 (i:Int)/\tid (vR A) (rs.drop i) ⟨T,G',q⟩=D/\TT A.cs.length bZ (eU A) h T (rs.drop i) G'/\T.length<=A.cs.length+1/\
  wr.ownsRow w.heap.size 3 1 s5 T.length (aM T)/\gT wr B F gt ct A (dF st q) G'/\aa [B.c,B.bn,B.bp,B.bl] w wr) (fun _ s12 _=>len-(intOf s12).toNat)
 case atStart=>
  obtain ⟨M,H,hD,hel,hbl,hz⟩:=H0.out;exact ⟨0,[],G,0,ω,rfl,hD,H,σ,World.ownsRow_nil _ _ _ _,by rw [hz];exact M,aa.refl _ _⟩
 case round=>
  obtain ⟨i,T,G',q,hi,rfl,hD,hT,Ko,ho,hM,hu⟩:=hrel;rename World=>wr
  by_cases hil:i<len
  ·obtain ⟨x,hx⟩:∃x,rs[i]?=some x:=⟨_,ε (by rw [Xi.out];exact hil)⟩;have hdr:rs.drop i=x::rs.drop (i+1):=by
    rw [Ϣ (by rw [Xi.out];exact hil)]
    congr 1
    rw [ε (by rw [Xi.out];exact hil)] at hx
    injection hx
   rw [hdr] at hD hT;obtain ⟨gr,off,rfl,hgl,xB,hcx⟩:=H0.out.2.2.2.1 i (x:Int) (by unfold nI;rw [ϔ,hx];rfl);have hcx:=hu.kept hcx xB;have NH:(i:Int)<(len:Int):=ω;have hw1:IntKind.i64.wrap ((i:Int)+1)=(i:Int)+1:=Μ _ ω;have HR:=χ (ψ hD (ψ hT (ψ ho (ψ hM hu))));clear hD hT ho hM hu hx hdr;go_wp2;obtain ⟨D1,hD1⟩:∃D1,Gc (vR A) (mG T+1) T x G' q=D1:=⟨_,rfl⟩;have HD1:=χ hD1;clear hD1
   go_loopg [5,7] (mG T+1) (fun fu s5 s7 wr2=>∃ (T1:List Int) (x1:Nat) (G1:FG) (q1:Nat),s7=.int .i64 (x1:Int)/\Gc (vR A) fu T1 x1 G1 q1=D1/\mG T1<fu/\TT A.cs.length bZ (eU A) h T1 (x1::rs.drop (i+1)) G1/\T1.length<=A.cs.length+1/\
    wr2.ownsRow w.heap.size 3 1 s5 T1.length (aM T1)/\gT wr2 B F gt ct A (dF st q1) G1/\aa [B.c,B.bn,B.bp,B.bl] w wr2)
   case atStart=>exact ⟨T,x,G',q,rfl,HD1.out,ω,HR.out.2.1,Ko,HR.out.2.2.1,HR.out.2.2.2.1,HR.out.2.2.2.2⟩
   case round=>
    rename Nat=>fu;obtain ⟨T1,x1,G1,q1,rfl,hI,zL,hT1,hTl1,ho1,hM1,hu1⟩:=hrel;rename World=>wr2;obtain ⟨fv,rfl⟩:∃fv,fu=fv+1:=⟨fu-1,ω⟩;have A8:=hT1.xr x1 σ;have hx1:=A8.1;have hx1I:(x1:Int)<(A.cs.length:Int):=ω;have hq2:=hM1.h2;have hp2:=hM1.p2 hx1;have hdn:=hT1.ff.TA hx1;obtain ⟨d,hd⟩:∃d,(G1.K x1).length=d:=⟨_,rfl⟩;rw [hd] at hp2 hdn;have hsz1:=hu1.size;have HI:=χ (ψ hI (ψ zL (ψ hT1 (ψ hM1 (ψ hu1 (ψ ho1 (ψ hd A8)))))));clear hI zL hT1 hM1 hu1 hd A8 hx1;obtain ⟨a5,c5,rfl,Z4⟩:=aU ho1;clear ho1;go_wp2
    go_loopw [5] (fun s5 wr3=>∃m:Nat,T1.length+m<=max T1.length (d+1)/\wr3.ownsRow w.heap.size 3 1 s5 (T1.length+m) (aM (T1++List.replicate m (-1)))/\gT wr3 B F gt ct A (dF st q1) G1/\aa [B.c,B.bn,B.bp,B.bl] w wr3) (fun s5 _=>match s5 with | .slice _ l _=>d+1-l|_=>0)
    case atStart=>
     obtain ⟨hI,zL,hT1,hM1,hu1,ho1,hd,A8⟩:=HI.out;exact ⟨0,ω,by simpa using ho1,hM1,hu1⟩
    case round=>
     obtain ⟨m,hm,ho,hM,hu⟩:=hrel;rename World=>wr3;obtain ⟨a,c,rfl,hc⟩:=aU ho
     by_cases hmd:T1.length+m<=d
     ·have hmdI:((T1.length+m:Nat):Int)<=(d:Int):=ω;have hsz3:=hu.size;have HU:=χ (ψ hM hu);clear hM hu
      go_wp2_with (first
       | (at_builtin;refine aI rfl _ _ 26 rfl w.heap.size 3 (.int .i64 0) 1 8 Tryz.underlying26 dX rfl δ _ _ _ rfl (ho) [.int .i64 (-1)] rfl (by simp [Value.oneCell']) (by first|rfl|(rw [Κ];rfl)) μ ω (ω) ?_;intro v2 w2 ho2 hu2 lF)
       | fail)
      obtain ⟨hM,hu⟩:=HU.out;obtain ⟨a2,c2,rfl,_⟩:=aU ho2;refine ⟨⟨m+1,ω,?_,hM.own Ur.out ho hu2,hu.own ho (Θ _) hu2⟩,ζ⟩;rw [List.replicate_succ',←ϋ,bz];exact ho2
     ·have hm':m=d+1-T1.length:=ω;have hP:T1++List.replicate m (-1)=jd T1 d:=by unfold jd;rw [hm']
      rw [hP] at ho;obtain ⟨hI,zL,hT1,hM1,hu1,ho1,hd,A8⟩:=HI.out;obtain ⟨s0,s1,s2⟩:=hT1.step (yD A A.cs.length G1 _ h) h1;rw [hd] at s0 s1 s2;unfold Gc at hI;rw [hd] at hI;have xS:=Dn T1 d;have Rh:T1.length+m=(jd T1 d).length:=ω;rw [Rh] at ho ⊢;obtain ⟨P,eP⟩:∃P,jd T1 d=P:=⟨_,rfl⟩;rw [eP] at ho s0 s1 s2 hI xS ⊢;obtain ⟨g,cp,hv,hbg,hgs,hcp1,hcp2,hcell,R9⟩:=dH ho ω;have hcd:wr3.cell? ⟨g,d,none⟩=some (.int .i64 (P.getD d (-1))):=hcell d _ (by unfold aM;rw [ϔ,s0];rfl);have hfd:=R9 d;rw [hv] at ho ⊢;have hPlI:(d:Int)<(P.length:Int):=by clear s0 s1 s2 hI;omega
      have hPb:(P.length:Int)<=65537:=by clear s0 s1 s2 hI;omega
      have hni:¬ (P.length:Int)<=(d:Int):=by clear s0 s1 s2 hI;omega
      have UO:g∉B.blk F gt:=fun hm=>by have:=Ur.out g hm;omega
      have HPL:=χ xS;clear xS
      by_cases hy:P.getD d (-1)=-1
      ·rw [Δ hy] at hI;rw [hy] at hcd;have HS:=χ (ψ hM (ψ hu (ψ ho (ψ (s1 hy) hI))));clear hI zL hT1 hM1 hu1 ho1 hd A8 s0 s1 s2 hM hu ho hcell R9 hv eP hP hy HI Rh;go_wp2;obtain ⟨hM,hu,ho,hpl,hI⟩:=HS.out;obtain ⟨hD,hT,_,_,_⟩:=HR.out;have hD2:tid (vR A) (rs.drop (i+1)) ⟨P.set d x1,G1,q1⟩=D:=by
        have:tid (vR A) (x::rs.drop (i+1)) ⟨T,G',q⟩=tid (vR A) (rs.drop (i+1)) (Gc (vR A) (mG T+1) T x G' q):=rfl;rw [this,HD1.out,←hI] at hD;exact hD
       refine ⟨⟨i+1,P.set d x1,G1,q1,ω,by go_num,hD2,hpl.1,by rw [Ι];have:=HPL.out;omega,?_,hM.upd ((aa.refl [g] wr3).setCell (Α σ) _) (fun y hy=>by simp at hy;subst hy;exact UO),hu.setCell (Β hbg) _⟩,by simp [intOf];omega⟩;rw [Ι];exact Fy ho d x1
      ·rw [Γ hy] at hI;obtain ⟨z,ez,hzn,hzx,hzh,hoc,st1,st2⟩:=s2 hy;rw [ez] at hcd hI;rw [π] at hI;have tY:=A8.1;have hin1:bV A (x1:Int)=true:=hin x1 tY A8.2.2;have hinz:bV A (z:Int)=true:=hin z hzn hzh;have hzm:((z:Int) == -1)=false:=σ;have hu0:aa [g] wr3 (wr3.setCell ⟨g,d,none⟩ (.int .i64 (-1))):=(aa.refl [g] wr3).setCell (Α σ) _;have hgc:B.n0∉[g]:=by simp;intro e;exact UO (by rw [←e];simp [FB.blk])
       have hM2:=hM.upd hu0 (fun y hy=>by simp at hy;subst hy;exact UO);have ka:=gZ hM2.cells z x1 hinz hin1;have hn0:(wr3.setCell ⟨g,d,none⟩ (.int .i64 (-1))).cell? ⟨B.n0,0,none⟩=some (.pointer (some ⟨B.c,0,none⟩)):=hM2.h0;have ho2:=Fy ho d (-1);obtain ⟨wq,hwq⟩:∃wq,wr3.setCell ⟨g,d,none⟩ (.int .i64 (-1))=wq:=⟨_,rfl⟩;rw [hwq] at hM2 ka hn0 ho2 hu0;have Vd:aa [B.c,B.bn,B.bp,B.bl] w wq:=hwq▸hu.setCell (Β hbg) _;have HS:=χ (ψ hM2 (ψ Vd (ψ ho2 (ψ hI (ψ hoc (ψ st1 (ψ st2 (ψ hT1 zL))))))));cases hb:decide (eU A z x1) with
       | true=>
        rw [hb] at ka;have kz:=fun W st' (hW:gT W B F gt ct A st' G1)=>xV hW (x:=z) (y:=x1) hzn tY (fun k t e=>(hT1.ff.kid z k hzn (by rw [e];simp)).1) (Χ (hT1.ff.TA hzn) hc1);have KZ:=χ kz;have HB:=χ hb;clear hI zL hT1 hM1 hu1 ho1 hd A8 s0 s1 s2 hM hu ho hcell R9 hv eP hP hy HI Rh st1 st2 hoc hM2 Vd ho2 ez kz hb
        go_wp2_with (first
         | ((go_at_call 174;(with_reducible refine (ka).mono ?_));rintro e w5 ⟨rfl,VW,dJ⟩;(have k5:=KZ.out w5 _ (HS.out.1.setSt dJ VW));(have Ki:=χ dJ);clear VW dJ ka)
         | ((go_at_call 235;(with_reducible refine (k5).mono ?_));rintro e w6 ⟨rfl,sF,gX⟩;(have HU6:=χ (ψ sF gX));clear sF gX k5)
         | fail)
        go_roundg fv
        case measure=>omega
        case rel=>
         obtain ⟨hM2,Vd,ho2,hI,hoc,st1,st2,hT1,zL⟩:=HS.out;have hlt2:vR A z x1=true:=HB.out;rw [hlt2,Δ rfl] at hI;obtain ⟨sF,gX⟩:=HU6.out;have dJ:=Ki.out;have hg1:∀y,y∈[B.c,B.bn,B.bp,B.bl]->y≠g:=fun y hy e=>by have:=H0.out.2.2.2.2.1 y hy;omega
         rw [kG] at sF;refine ⟨P.set d (-1),z,cB G1 x1 z,q1+1,rfl,hI,ω,st1 hlt2,by rw [Ι];have:=HPL.out;omega,?_,sF,?_⟩
         ·rw [Ι];exact ay (ay ho2 dJ (fun y hy hm=>by simp [Value.ownBlock] at hy hm;exact hg1 B.c σ ω)) gX (fun y hy hm=>by simp [Value.ownBlock] at hy;subst hy;exact hg1 g (by simp at hm;rcases hm with e|e|e<;>simp [e]) rfl)
         ·exact (Vd.trans (dJ.mono σ)).trans (gX.mono (fun y hy=>by simp at hy;rcases hy with e|e|e<;>simp [e]))
       | false=>
        rw [hb] at ka;have kz:=fun W st' (hW:gT W B F gt ct A st' G1)=>xV hW (x:=x1) (y:=z) tY hzn (fun k t e=>(hT1.ff.kid x1 k tY (by rw [e];simp)).1) (Χ (hT1.ff.TA tY) hc1);have KZ:=χ kz;have HB:=χ hb;clear hI zL hT1 hM1 hu1 ho1 hd A8 s0 s1 s2 hM hu ho hcell R9 hv eP hP hy HI Rh st1 st2 hoc hM2 Vd ho2 ez kz hb
        go_wp2_with (first
         | ((go_at_call 174;(with_reducible refine (ka).mono ?_));rintro e w5 ⟨rfl,VW,dJ⟩;(have k5:=KZ.out w5 _ (HS.out.1.setSt dJ VW));(have Ki:=χ dJ);clear VW dJ ka)
         | ((go_at_call 235;(with_reducible refine (k5).mono ?_));rintro e w6 ⟨rfl,sF,gX⟩;(have HU6:=χ (ψ sF gX));clear sF gX k5)
         | fail)
        go_roundg fv
        case measure=>omega
        case rel=>
         obtain ⟨hM2,Vd,ho2,hI,hoc,st1,st2,hT1,zL⟩:=HS.out;have hlt2:vR A z x1=false:=HB.out;rw [hlt2,Γ σ] at hI;obtain ⟨sF,gX⟩:=HU6.out;have dJ:=Ki.out;have hg1:∀y,y∈[B.c,B.bn,B.bp,B.bl]->y≠g:=fun y hy e=>by have:=H0.out.2.2.2.2.1 y hy;omega
         rw [kG] at sF;refine ⟨P.set d (-1),x1,cB G1 z x1,q1+1,rfl,hI,ω,st2 hlt2,by rw [Ι];have:=HPL.out;omega,?_,sF,?_⟩
         ·rw [Ι];exact ay (ay ho2 dJ (fun y hy hm=>by simp [Value.ownBlock] at hy hm;exact hg1 B.c σ ω)) gX (fun y hy hm=>by simp [Value.ownBlock] at hy;subst hy;exact hg1 g (by simp at hm;rcases hm with e|e|e<;>simp [e]) rfl)
         ·exact (Vd.trans (dJ.mono σ)).trans (gX.mono (fun y hy=>by simp at hy;rcases hy with e|e|e<;>simp [e]))
  ·obtain rfl:i=len:=ω;have hdr:rs.drop i=[]:=List.drop_eq_nil_of_le (by have:=Xi.out;omega);rw [hdr] at hD;have hD2:(⟨T,G',q⟩:TD)=D:=hD;subst hD2;have HR:=χ (ψ ho (ψ hM hu));clear hT ho hM hu hD hdr;go_wp2;go_ret;exact ⟨_,rfl,HR.out.1,HR.out.2.1,HR.out.2.2⟩
end
end Go.Proofs.YtklibcncmbofpaaGreat
namespace Go.Proofs.YtklibcncmbofpaaGreat
def QH (A':NS) (h x:Nat) (G:FG):FG:=gV (vR A') h [x] G
section
variable {A:NS} {G:FG}
theorem FR.imp {n:Nat} {bZ:Nat->Int} {L M:Nat->Nat->Prop} {g:Option Nat} (R:FR n G bZ L g) (h:∀g t s,G.R g=t::s->∀y,y∈s->L t y->M t y):FR n G bZ M g:=
 ⟨R.ring,R.mem,fun g t s hg hR y hy=>h g t s hR y hy (R.top g t s hg hR y hy)⟩
end
theorem zo.done {n:Nat} {bZ:Nat->Int} {L:Nat->Nat->Prop} {h:Nat} {G:FG} (H:zo n bZ L h [] G) (h1:1<=h):FR n G bZ L none:=by
 refine ⟨fun g _=>?_,fun g y _=>?_,fun g t s _ hR=>?_⟩
 all_goals by_cases e:g=h
 ·subst e;exact H.ring
 ·exact H.fr.ring g (by simp;exact e)
 ·subst e;constructor
  ·intro hm;exact ⟨h1,H.mem y hm⟩
  ·rintro ⟨_,a⟩;rcases H.all y a with b|b
   ·exact b
   ·cases b
 ·exact H.fr.mem g y (by simp;exact e)
 ·subst e;exact H.top t s hR
 ·exact H.fr.top g t s (by simp;exact e) hR
section
variable {A:NS} {G:FG}
theorem Vg (n:Nat):EK (NS.new n) FG.none:=by
 have hl:(NS.new n).cs.length=n:=by simp [NS.new]
 have hz:∀y,((NS.new n).c y).i=0:=fun y=>by rw [NS.wL];rfl
 refine ⟨⟨⟨fun x hx=>hx,fun x hx=>hx,fun _ _=>rfl,fun _ _=>rfl⟩,fun x y _ hy=>(by cases hy),fun y _=>Α rfl,fun x _=>Ring.nil _,fun y p _ hu=>?_,fun y p _ hu=>?_,fun y _ _=>⟨rfl,rfl,rfl⟩,fun y _ _=>rfl,fun x d _=>Nat.zero_le _⟩,⟨fun h _=>Ring.nil _,fun h y _=>?_,fun h t s _ e=>(by cases e)⟩⟩
 ·have:(-1:Int)=p:=hu;omega
 ·have:(-1:Int)=p:=hu;omega
 ·constructor
  ·intro hm;cases hm
  ·rintro ⟨h1,_,_,h2⟩;simp only [hz] at h2;omega
theorem Tn (I:EK A G):EK (aC A) G:=by
 have e1:(aC A).cs=A.cs:=by unfold aC;split<;>rfl
 have e2:∀y,(aC A).c y=A.c y:=fun y=>by unfold NS.c;rw [e1]
 have e3:(fun y=>((aC A).c y).i)=(fun y=>(A.c y).i):=funext (fun y=>by rw [e2]);refine ⟨?_,?_⟩
 ·rw [e1,e3];exact I.ff.mono (fun y p hy hu ho=>⟨(I.ff.home y p hy hu).1,(I.ff.home y p hy hu).2,(gB (e2 p) (e2 y)).2 ho⟩) I.ff.alone
 ·rw [e1,e3];exact I.fr.imp (fun g t s _ y _ hl=>(gB (e2 t) (e2 y)).2 hl)
theorem Wo (I:EK A G) (ok:A.Ok) {h x:Nat} (k s:Int) (hB:iM A h x=true) :
  EK (az A h x k s) (QH (az A h x k s) h x G)/\((QH (az A h x k s) h x G).R h).length=(G.R h).length+1/\(∀g,g≠h->(QH (az A h x k s) h x G).R g=G.R g)/\(QH (az A h x k s) h x G).mr=G.mr/\1<=h/\x<A.cs.length/\
   bV (az A h x k s) (x:Int)=true/\(∀t s',G.R h=t::s'->bV (az A h x k s) (t:Int)=true)/\(az A h x k s).cs.length=A.cs.length:=by
 obtain ⟨b1,b2,b3⟩:=(bX _ _ _).1 hB;have b4:=(aQ _ _).1 b1;have b5:=(dE _ _).1 b2;have hx:x<A.cs.length:=ω;have h1:1<=h:=ω;have eP:az A h x k s=iD A x ⟨h,k,s⟩:=by unfold az;rw [hB];rfl
 have hc:∀y,(az A h x k s).c y=if y=x then ⟨h,k,s⟩ else A.c y:=fun y=>by rw [eP,iN];simp [hx]
 have hl:(az A h x k s).cs.length=A.cs.length:=by rw [eP,fq]
 have x0:¬0<(A.c x).i:=fun h'=>by
  have:bV A (x:Int)=true:=(aj _ _).2 ⟨hx,h'⟩;rw [this] at b3;cases b3
 obtain ⟨ax,kx,nx⟩:=I.ff.alone x hx x0;have bZ:∀y,y≠x->((az A h x k s).c y).i=(A.c y).i:=fun y hy=>by rw [hc,Γ hy]
 have zZ:((az A h x k s).c x).i=h:=by rw [hc,Δ rfl]
 have WY:∀y,0<(A.c y).i->y≠x:=fun y hy e=>x0 (e▸hy);have lts:∀a y,a≠x->y≠x->(eU (az A h x k s) a y↔eU A a y):=fun a y ha hy=>gB (by rw [hc,Γ ha]) (by rw [hc,Γ hy])
 have F':FF A.cs.length G (fun y=>((az A h x k s).c y).i) (eU (az A h x k s)) (fun _=>0):=I.ff.mono (fun y p hy hu ho=>by
  have hh:=I.ff.home y p hy hu;have hy1:0<(A.c y).i:=hh.2;have hp1:0<(A.c p).i:=by have:(A.c y).i=(A.c p).i:=hh.1;omega
  have e1:=WY y hy1;have e2:=WY p hp1;exact ⟨by simp only [bZ y e1,bZ p e2];exact hh.1,by simp only [bZ y e1];exact hy1,(lts p y e2 e1).2 ho⟩) (fun y hy h0=>by
  by_cases e:y=x
  ·subst e;exact ⟨ax,kx,nx⟩
  ·simp only [bZ y e] at h0;exact I.ff.alone y hy h0)
 have mR:∀g z,z∈G.R g->z≠x/\(A.c z).i=g/\1<=g:=fun g z hz=>by
  have:=I.out hz;exact ⟨WY z (by have:=this.2.2.2.1;omega),this.2.2.2.1,this.1⟩
 have mm:∀g z,z≠x->(z∈G.R g↔1<=g/\z<A.cs.length/\G.up z=-1/\((az A h x k s).c z).i=g):=fun g z hz=>by rw [bZ z hz];exact (I.fr.all g).2.1 z
 have H:zo A.cs.length (fun y=>((az A h x k s).c y).i) (eU (az A h x k s)) h [x] G:=by
  refine ⟨F',⟨fun g _=>(I.fr.all g).1,fun g z hg=>?_,fun g t s' _ hR y hy=>?_⟩,(I.fr.all h).1,fun t s' hR y hy=>?_,fun z hz=>?_,σ,fun z hz=>?_,fun z hz=>?_⟩
  ·by_cases e:z=x
   ·subst e;constructor
    ·intro hm;exact absurd rfl (mR g z hm).1
    ·rintro ⟨_,_,_,h2⟩;simp only [zZ] at h2;exact absurd (by congr 1;omega:some g=some h) hg
   ·exact mm g z e
  ·have e1:=(mR g t (by rw [hR];simp)).1;have e2:=(mR g y (by rw [hR];simp [hy])).1;exact (lts t y e1 e2).2 ((I.fr.all g).2.2 t s' hR y hy)
  ·have e1:=(mR h t (by rw [hR];simp)).1;have e2:=(mR h y (by rw [hR];simp [hy])).1;exact (lts t y e1 e2).2 ((I.fr.all h).2.2 t s' hR y hy)
  ·exact ((mm h z (mR h z hz).1).1 hz).2
  ·simp at hz;subst hz;exact ⟨⟨hx,ax,zZ⟩,nx,fun hm=>(mR h z hm).1 rfl⟩
  ·by_cases e:z=x
   ·exact Β (by simp [e])
   ·exact Α ((mm h z e).2 ⟨h1,hz⟩)
 obtain ⟨r1,r2⟩:=H.step h1 (fun G=>yD _ _ _ _ _) (fun a b c=>dB);obtain ⟨s1,s2,s3,s4⟩:=sO (vR (az A h x k s)) h [x] G;refine ⟨⟨by rw [hl];exact r1.ff,by rw [hl];exact r1.done h1⟩,r2,s4,s2,h1,hx,(aj _ _).2 ⟨by rw [hl];exact hx,by rw [zZ];omega⟩,fun t s' hR=>?_,hl⟩;have:=I.out (h:=h) (z:=t) (by rw [hR];simp);exact (aj _ _).2 ⟨by rw [hl];exact this.2.1,by rw [bZ t (mR h t (by rw [hR];simp)).1];omega⟩
end
end Go.Proofs.YtklibcncmbofpaaGreat
namespace Go.Proofs.YtklibcncmbofpaaGreat
open Go Go.RowKit
def wF (w:World) (p:Nat) (FF:List Nat) (A:NS) (st:Nat) (G:FG):Prop:=(∃B F gt ct,p=B.n0/\FF=B.blk F gt/\gT w B F gt ct A st G)/\EK A G
theorem oV {B:FB} {F:List Nat} {gt:Nat}:∀x,x∈F->x∈B.blk F gt:=fun x hx=>by simp [FB.blk,hx]
theorem TB {w:World} {B:FB} {F F':List Nat} {gt:Nat} (hF:∀x,x∈F'->x∈F\/w.heap.size<=x):∀x,x∈B.blk F' gt->x∈B.blk F gt\/w.heap.size<=x:=fun x hx=>by
 simp only [FB.blk,ρ] at hx ⊢;rcases hx with e|e|e|e|e|e|e
 ·exact Α (Α e)
 ·exact Α (Β (Α e))
 ·exact Α (Β (Β (Α e)))
 ·exact Α (Β (Β (Β (Α e))))
 ·exact Α (Β (Β (Β (Β (Α e)))))
 ·exact Α (Β (Β (Β (Β (Β (Α e))))))
 ·rcases hF x e with h|h
  ·exact Α (Β (Β (Β (Β (Β (Β h))))))
  ·exact Β h
section
variable {w:World} {p:Nat} {FF:List Nat} {A:NS} {st:Nat} {G:FG}
theorem wF.upd {w':World} {S:List Nat} (h:wF w p FF A st G) (hu:aa S w w') (hS:∀x,x∈S->x∉FF):wF w' p FF A st G:=by
 obtain ⟨⟨B,F,gt,ct,rfl,rfl,M⟩,I⟩:=h;exact ⟨⟨B,F,gt,ct,rfl,rfl,M.upd hu hS⟩,I⟩
theorem wF.lt (h:wF w p FF A st G):∀x,x∈FF->x<w.heap.size:=by
 obtain ⟨⟨B,F,gt,ct,rfl,rfl,M⟩,I⟩:=h;exact M.lt
theorem wF.ok (h:wF w p FF A st G):A.Ok:=by
 obtain ⟨⟨B,F,gt,ct,rfl,rfl,M⟩,I⟩:=h;exact M.cells.ok
theorem wF.qp (h:wF w p FF A st G):st<=4611686018427387904:=by
 obtain ⟨⟨B,F,gt,ct,rfl,rfl,M⟩,I⟩:=h;exact M.cells.qp
theorem wF.cl (h:wF w p FF A st G):∃c F1,w.cell? ⟨p,0,none⟩=some (.pointer (some ⟨c,0,none⟩))/\aD w c F1 A st/\c∈FF:=by
 obtain ⟨⟨B,F,gt,ct,rfl,rfl,M⟩,I⟩:=h;exact ⟨B.c,F,M.h0,M.cells,oV _ M.cells.mem⟩
theorem IY (I:EK A G) (ok:A.Ok) {q:Int} {m:Nat} (hm:bB A q=some m):∃ (h:Nat) (s:List Nat),q=h/\1<=h/\h<A.hs.length/\G.R h=m::s/\0<dG A q:=by
 obtain ⟨m1,m2⟩:=I.wD hm;have hx:(A.c m).i=(q.toNat:Int):=m1.2.2;have hnat:=ok.nat m m1.1;refine ⟨q.toNat,?_⟩;have hmem:=((I.fr.all q.toNat).2.1 m).2 ⟨m2,m1⟩;cases hR:G.R q.toNat with
 | nil=>rw [hR] at hmem;cases hmem
 | cons t s=>
  have:=(I.FJ hR).1;rw [show ((q.toNat:Nat):Int)=q by omega,hm] at this
  injection this with this
  subst this;exact ⟨s,ω,m2,ω,rfl,dL.2 ⟨m,m1.1,ω,ω⟩⟩
theorem EZ (h:wF w p FF A st G) (q:Int) (WJ:-9223372036854775808<=q/\q<=9223372036854775807) :
  Calls Tryz.prog 224 #[.pointer (some ⟨p,0,none⟩),.int .i64 q] w fun e w'=>e=.returned (.tuple #[.int .i64 (nO (bB A q)),.bool (bB A q).isSome])/\w'=w:=by
 obtain ⟨⟨B,F,gt,ct,rfl,rfl,M⟩,I⟩:=h;have h0:=M.h0;have kl:=nZ M.cells q WJ;cases hm:bB A q with
 | none=>
  rw [gJ.1 hm] at kl;clear M I hm
  go_enter Tryz.func224,Tryz.ntmps224
  go_wp2_with ((go_at_call 142;(with_reducible refine (kl).mono ?_);rintro e w9 ⟨rfl,aS⟩;rw [aS];clear aS w9))
  go_ret2;exact ⟨rfl,rfl⟩
 | some m=>
  obtain ⟨hh,s,rfl,h1,hl,hR,hp⟩:=IY I M.cells.ok hm;have h3:=M.h3;have ht:=M.top hl;rw [hR] at ht;have ht':w.cell? ⟨gt,hh,none⟩=some (.int .i64 (m:Int)):=ht;have hcap:=M.cap;have WL:(hh:Int)<(A.hs.length:Int):=ω;have hne:(((dG A (hh:Int):Nat):Int) == 0)=false:=ζ;generalize dG A (hh:Int)=ln at *;clear M I hm hR ht
  go_enter Tryz.func224,Tryz.ntmps224
  go_wp2_with ((go_at_call 142;(with_reducible refine (kl).mono ?_);rintro e w9 ⟨rfl,aS⟩;rw [aS];clear aS w9))
  go_ret2;exact ⟨rfl,rfl⟩
theorem Ee (h:wF w p FF A st G) (q x:Nat) (k s:Int) (hk:-9223372036854775808<=k/\k<=9223372036854775807/\0<=s/\s<=18446744073709551615) (hB:iM A q x=true) :
  Calls Tryz.prog 221 #[.pointer (some ⟨p,0,none⟩),.int .i64 (q:Int),.int .i64 (x:Int),.agg #[.int .i64 k,.int .u64 s]] w fun e w'=>e=.returned (.bool true)/\
   Goes FF w w' (fun O5=>wF w' p O5 (az A q x k s) (dF st (qH q G)) (QH (az A q x k s) q x G)):=by
 obtain ⟨⟨B,F,gt,ct,rfl,rfl,M⟩,I⟩:=h;have ok:=M.cells.ok;obtain ⟨I2,_,_,_,h1,hx,hin,hti,hcs⟩:=Wo I ok k s hB;have nG:(az A q x k s).hs.length=A.hs.length:=by unfold az;split;rfl;rfl
 have Z9:q<(az A q x k s).hs.length:=by
  rw [nG];have:=(aQ _ _).1 ((bX _ _ _).1 hB).1;omega
 have u1:aa [] w (w.alloc (.cells #[.int .i64 k,.int .u64 s] 129)):=(aa.refl _ _).alloc _;have kp:=fun W (hW:aa [] (w.alloc (.cells #[.int .i64 k,.int .u64 s] 129)) W)=>l9 (M.cells.ae (u1.trans hW)) q x k s hk hB;have h0:=M.h0;have wC:B.n0∉F:=M.d1.1;have hsz:w.heap.size∉F:=fun hm=>by have:=M.cells.lt _ hm;omega
 have r0:∀W,aa F (w.alloc (.cells #[.int .i64 k,.int .u64 s] 129)) W->W.cell? ⟨B.n0,0,none⟩=some (.pointer (some ⟨B.c,0,none⟩)):=fun W hW=>hW.kept (u1.was h0) wC;have r1:∀W,aa F (w.alloc (.cells #[.int .i64 k,.int .u64 s] 129)) W->W.cell? ⟨w.heap.size,0,none⟩=some (.int .i64 k):=fun W h=>h.kept σ hsz;have r2:∀W,aa F (w.alloc (.cells #[.int .i64 k,.int .u64 s] 129)) W->W.cell? ⟨w.heap.size,1,none⟩=some (.int .u64 s):=fun W h=>h.kept σ hsz;have ka:=fun (W:World) (hM:gT W B F gt ct (az A q x k s) st G)=>BF hM [] Z9 hin hti;have HM:=χ (ψ M (ψ nG hcs));have HI:=χ I2
 clear M I ok I2 hin hti Z9 hx hcs nG h0 hB
 go_enter Tryz.func221,Tryz.ntmps221
 go_wp2
 go_region_held3 (aa F (w.alloc (.cells #[.int .i64 k,.int .u64 s] 129))) (exact ν)
  (first
   | ((go_at_call 154;(with_reducible refine (kp _ β).mono ?_));rintro e w1 ⟨rfl,jN,hu1⟩;(have hu2:aa F (w.alloc (.cells #[.int .i64 k,.int .u64 s] 129)) w1:=ν)))
 have uF:aa F w w1:=(u1.mono σ).trans hu2;have hM1:=HM.out.1.fH uF jN (fun y hy=>Α hy) HM.out.2.2 HM.out.2.1;have Xl:=fun (W:World) (hW:aa [] w1 W)=>ka W (hM1.ae hW);have HU:=χ uF;have hcm:=HM.out.1.cells.mem;clear kp r0 r1 r2 hM1 ka uF hu2 jN hu1
 go_wp2_with (first
  | ((go_at_call 230;(with_reducible refine (Xl _ β).mono ?_));rintro e w2 ⟨rfl,hM2,hu3⟩)
  | fail)
 go_ret;refine ⟨rfl,B.blk F gt,⟨⟨B,F,gt,ct,rfl,rfl,hM2⟩,HI.out⟩,(HU.out.mono oV).trans ((β:aa _ w1 _).trans (hu3.mono (fun y hy=>?_))),fun y hy=>Α hy⟩;simp only [ρ,ς,or_false] at hy;rcases hy with e|e|e|e
 ·rw [e];exact oV _ hcm
 all_goals simp [FB.blk,e]
end
def tailW (a:Option Addr) (n c:Nat):Value:=.slice (if c=1 then a else a.map (·.add 1)) (n-1) (c-1)
theorem Mt (w:World) (a:Option Addr) (n c:Nat) (h1:1<=n) (h2:n<=9223372036854775807) :
  (Instr.slice 26 (.slice a n c) (some (.int .i64 1)) none none).run Tryz.prog w=.ok (tailW a n c) w:=by
 have hs:(sizeOf 3).run Tryz.prog w=.ok 1 w:=by kernel_rfl
 unfold Instr.slice Instr.sliceBounds;simp [run_underlying Tryz.underlying26,go_sem,hs,tailW];intro h;omega
theorem OL {w:World} {F:List Nat} {a:Option Addr} {n c:Nat} {x:Int} {xs:List Int} (h:fO w F (.slice a n c) (x::xs)):fO w F (tailW a n c) xs:=by
 obtain ⟨a',cap,e,h1,h2,h3⟩:=h;cases e;obtain ⟨g,off,rfl,hg,hF,_⟩:=h3 0 x rfl;simp only [Ω] at h1 ⊢;unfold tailW;simp only [Nat.add_sub_cancel];refine ⟨_,_,rfl,ω,ω,fun j u hj=>?_⟩;have hjl:j<xs.length:=(List.getElem?_eq_some_iff.1 hj).1;rw [Γ ω];obtain ⟨g2,Yw,he,hg2,hF2,hc⟩:=h3 (j+1) u (by simpa using hj);simp only [ϙ,Addr.mk.injEq,and_true] at he;obtain ⟨rfl,rfl⟩:=he;exact ⟨g,off+1,by simp [Addr.add_lit],hg,hF,by rw [show off+1+j=off+(j+1) by omega];exact hc⟩
theorem fO.turned {w w':World} {F G:List Nat} {v:Value} {xs:List Int} (h:fO w F v xs) (hu:aa G w w') (hG:∀g,g∈G->g∈F\/w.heap.size<=g):fO w' F v xs:=by
 obtain ⟨a,cap,rfl,h1,h2,h3⟩:=h;refine ⟨a,cap,rfl,h1,h2,fun j u hj=>?_⟩;obtain ⟨g,off,rfl,hg,hF,hc⟩:=h3 j u hj;exact ⟨g,off,rfl,Ψ hg hu.size,hF,by rw [hu.cell hg (fun hm=>(hG _ hm).elim hF (fun h'=>by have h2:w.heap.size<=g:=h';omega))];exact hc⟩
theorem fO.fewer {w:World} {F G:List Nat} {v:Value} {xs:List Int} (h:fO w F v xs) (hG:∀g,g∈G->g∈F):fO w G v xs:=by
 obtain ⟨a,cap,rfl,h1,h2,h3⟩:=h;refine ⟨a,cap,rfl,h1,h2,fun j u hj=>?_⟩;obtain ⟨g,off,rfl,hg,hF,hc⟩:=h3 j u hj;exact ⟨g,off,rfl,hg,fun hm=>hF (hG _ hm),hc⟩
def DU (A:NS) (q:Int) (G:FG):FG:=match bB A q with|some m=>(pQ A q.toNat m (kl (G.K m)++(G.R q.toNat).tail) G).1|none=>G
def El (A:NS) (q:Int) (G:FG):Nat:=match bB A q with|some m=>(qh A q.toNat m (kl (G.K m)++(G.R q.toNat).tail) G).q+(pQ A q.toNat m (kl (G.K m)++(G.R q.toNat).tail) G).2|none=>0
theorem LH (l:List Nat) (x:Nat) (G:FG):rV (l++[x]) G=prt (rV l G) x:=by unfold rV;rw [List.foldl_append];rfl
section
variable {w:World} {p:Nat} {FF:List Nat} {A:NS} {st:Nat} {G:FG}
theorem CX (h:wF w p FF A st G) (q:Int) (WJ:-9223372036854775808<=q/\q<=9223372036854775807) :
  Calls Tryz.prog 220 #[.pointer (some ⟨p,0,none⟩),.int .i64 q] w fun e w'=>e=.returned (.tuple #[.int .i64 (nO (bB A q)),.bool (bB A q).isSome])/\
   Goes FF w w' (fun O5=>wF w' p O5 (rZ A q) (dF st (El A q G)) (DU A q G)):=by
 have km:=EZ h q WJ;have hst:=h.qp;have HK:=χ h;cases hm:bB A q with
 | none=>
  rw [hm] at km;have e1:rZ A q=A:=by unfold rZ;rw [hm]
  have e2:DU A q G=G:=by unfold DU;rw [hm]
  have e3:El A q G=0:=by unfold El;rw [hm]
  rw [e1,e2,e3,ig hst];clear h hm e1 e2 e3
  go_enter Tryz.func220,Tryz.ntmps220
  go_wp2_with ((go_at_call 224;(with_reducible refine (km).mono ?_);rintro e w9 ⟨rfl,aS⟩;rw [aS];clear aS w9))
  go_ret2;exact ⟨rfl,Goes.stay HK.out (aa.refl _ _)⟩
 | some m=>
  rw [hm,show nO (some m)=(m:Int) from rfl,show (some m:Option Nat).isSome=true from rfl] at km;have e1:rZ A q=aN A m:=by unfold rZ;rw [hm]
  have e2:DU A q G=(pQ A q.toNat m (kl (G.K m)++(G.R q.toNat).tail) G).1:=by unfold DU;rw [hm]
  have e3:El A q G=(qh A q.toNat m (kl (G.K m)++(G.R q.toNat).tail) G).q+(pQ A q.toNat m (kl (G.K m)++(G.R q.toNat).tail) G).2:=by unfold El;rw [hm]
  rw [e1,e2,e3];obtain ⟨hh,s,rfl,h1,hl,hR,hp⟩:=IY h.2 h.ok hm;rw [π,hR,List.tail_cons];obtain ⟨⟨Zp,Zu⟩,T3,Ae,U9,hDR,I4,_,_,_,_,hTy,Ko,_⟩:=UG h.2 h.ok hR;obtain ⟨_,hmx,um,hmh,hmin⟩:=h.2.out (h:=hh) (z:=m) (by rw [hR];simp);have Ud:=fun W F c (hC:aD W c F A (dF st ((qh A hh m (kl (G.K m)++s) G).q+(pQ A hh m (kl (G.K m)++s) G).2)))=>fU hC m hmin;obtain ⟨⟨B,F,gt,ct,rfl,rfl,M⟩,I⟩:=h;have kra:=fun W (hW:aa [] w W)=>GQ (M.ae hW) hmx (I.ff.ring m hmx) (fun z hz=>(I.ff.kid m z hmx hz).1);have hlen:(m::(kl (G.K m)++s)).length<=A.cs.length:=iF A.cs.length _ Zp.nd Zu;have hc1:=M.cells.ok.c1
  have hlt:=M.lt;have hcap:=M.cap;have hhI:(hh:Int)<(A.hs.length:Int):=ω;have nG:=M.cells.ok.h1;have hd:=M.d1;have hd2:=M.d2;have hd3:=M.d3;have hcm:=M.cells.mem;obtain ⟨rs,hrs⟩:∃rs,kl (G.K m)++s=rs:=⟨_,rfl⟩;rw [hrs] at Zp Zu T3 U9 hDR I4 Ud hlen hTy Ko ⊢;obtain ⟨D,hD⟩:∃D,qh A hh m rs G=D:=⟨_,rfl⟩;have hD2:tid (vR A) rs ⟨[],nz hh m rs G,0⟩=D:=hD;have e4:pQ A hh m rs G=o7 (vR A) hh D.T D.G 0:=by unfold pQ;rw [hD]
  rw [hD] at U9 hDR hTy Ko Ud ⊢;rw [e4] at I4 Ud ⊢;obtain ⟨R4,hR4⟩:∃R4,o7 (vR A) hh D.T D.G 0=R4:=⟨_,rfl⟩;rw [hR4] at I4 Ud ⊢;have Xl:=fun W (hW:gT W B F gt ct A st (bR G m))=>EL hW.rings Zp Zu;have H0:=χ (ψ Zp (ψ Zu (ψ T3 (ψ Ae (ψ U9 (ψ hDR (ψ I4 (ψ hTy (ψ Ko (ψ hD2 hR4))))))))));have HD:=χ (ψ hlt (ψ hd (ψ hd2 (ψ hd3 hcm))));have KD:=χ Ud;clear M I Zp Zu T3 Ae U9 hDR I4 hR hm e1 e2 e3 hrs hlt hd hd2 hd3 hcm Ud hTy Ko hD hD2 e4 hR4;have HA:=χ Xl;clear Xl;rw [Ω] at hlen
  go_enter Tryz.func220,Tryz.ntmps220
  go_wp2_with (first
   | (go_at_call 224;(with_reducible refine (km).mono ?_);rintro e w9 ⟨rfl,aS⟩;rw [aS];clear aS w9)
   | ((go_at_call 226;(with_reducible refine (kra _ β).mono ?_));rintro e w1 ⟨rfl,M1,hu1⟩;(have a1:=HA.out _ M1);(have b1:=M1.h1);(have pR:=χ (ψ M1 hu1));clear M1 hu1 kra)
   | ((go_at_call 227;(with_reducible refine (a1).mono ?_));rintro e w2 ⟨v2,rfl,ho2,hu2⟩;(have hs2:fO w2 (B.blk F gt) v2 (nI (m::rs)):=fO.fQ (base:=w1.heap.size) (by rw [kK];exact ho2) (fun g hg=>Ψ (HD.out.1 g hg) pR.out.2.size));obtain ⟨x2,c2,hv2,_⟩:=aU ho2;subst hv2;(have b2:=hu2.was b1);obtain ⟨a2',ha2⟩:∃a',tailW x2 (rs.length+1) c2=.slice a' rs.length (c2-1):=⟨_,rfl⟩;(have htl:=fun W=>Mt W x2 (rs.length+1) c2 ω ω);rw [ha2] at htl;(have hs3:fO w2 (B.blk F gt) (.slice a2' rs.length (c2-1)) (nI rs):=by (rw [←ha2];exact OL hs2));(have HS2:=χ (ψ hs3 hu2));clear hs3 ha2;(have a2:=HA.out _ (pR.out.1.ae hu2));clear hs2 hu2 ho2 a1 b1)
   | ((go_at_call 227;(with_reducible refine (a2).mono ?_));rintro e w3 ⟨v3,rfl,ho3,hu3⟩;rw [←kK] at ho3;obtain ⟨g3,c3,hv3,hZ3,hb3⟩:=IZ.fQ ho3 (by simp [nI]);rw [kK,Ω] at hv3;subst hv3;(have HZ3:=χ (ψ hZ3 (ψ hb3 hu3)));clear ho3 hZ3 hb3 hu3 a2 b2)
   | fail)
  have hlt:=HD.out.1
  go_loopw [38] (fun s38 wr=>∃j:Nat,j<=rs.length+1/\s38=.int .i64 (j:Int)/\gT wr B F gt ct A st (rV ((m::rs).take j) (bR G m))/\aa [B.bn,B.bp] w3 wr) (fun s38 _=>rs.length+1-(intOf s38).toNat)
  case atStart=>exact ⟨0,ω,rfl,(pR.out.1.ae HS2.out.2).ae HZ3.out.2.2,aa.refl _ _⟩
  case round=>
   obtain ⟨j,hj,rfl,hM,hu⟩:=hrel;rename World=>wr
   by_cases hjl:j<rs.length+1
   ·obtain ⟨y,hy⟩:∃y,(m::rs)[j]?=some y:=⟨_,ε (by simpa using hjl)⟩;have hyn:y<A.cs.length:=H0.out.2.1 y (Η hy);have hg3:g3∉[B.bn,B.bp]:=fun hm=>by
     have h3:=HZ3.out.2.1;have h2:=HS2.out.2.size;have h1:=pR.out.2.size;simp at hm;rcases hm with e|e
     ·have:=hlt B.bn (by simp [FB.blk]);omega
     ·have:=hlt B.bp (by simp [FB.blk]);omega
    have hc:=hu.kept (HZ3.out.1.cell j (by rw [kK];simpa using hjl)) hg3;have XT:(nI (m::rs)).getD j 0=(y:Int):=by unfold nI;rw [φ,ϔ,hy];rfl
    rw [XT] at hc;have b1:=hM.h1;have kp:=KP hM.rings hyn;have J3:(j:Int)<(rs.length:Int)+1:=ω;have hw1:IntKind.i64.wrap ((j:Int)+1)=(j:Int)+1:=Μ _ ω;have et:(m::rs).take (j+1)=(m::rs).take j++[y]:=by rw [ϐ,hy];rfl
    have HR:=χ (ψ hM (ψ hu et));clear hM hu et hy XT hlt
    go_wp2_with (first
     | ((go_at_call 228;(with_reducible refine (kp).mono ?_));rintro e w5 ⟨rfl,M7,dJ⟩)
     | fail)
    obtain ⟨hM,hu,et⟩:=HR.out;refine ⟨⟨j+1,ω,by go_num,?_,hu.trans dJ⟩,by simp [intOf];omega⟩;rw [et,LH];exact hM.dw dJ M7
   ·obtain rfl:j=rs.length+1:=ω;have et:(m::rs).take (rs.length+1)=m::rs:=List.take_of_length_le σ;rw [et] at hM;have q3:=hM.h3;have qt:=hM.top (q:=hh) hl;have qf:=hM.af.free hh;have hgtn:B.n0≠gt:=HD.out.2.2.1.2.2.2.2;obtain ⟨w4,hw4⟩:∃w4,w4=wr.setCell ⟨gt,hh,none⟩ (.int .i64 (-1)):=⟨_,rfl⟩;have e3':({ rV (m::rs) (bR G m) with R:=aF (rV (m::rs) (bR G m)).R hh [] }:FG)=nz hh m rs G:=by
     unfold nz;rw [(vQ _ _).2.2.2,Sr]
    have M4:gT w4 B F gt ct A st (nz hh m rs G):=by rw [hw4,←e3'];exact hM.il hh []
    have om:aa [gt] wr w4:=by rw [hw4];exact ν
    have hw3:aa (B.blk F gt) w3 w4:=(hu.mono (fun z hz=>by simp at hz;rcases hz with e|e<;>simp [FB.blk,e])).trans (om.mono (fun z hz=>by simp at hz;simp [FB.blk,hz]));have hs4:fO w4 (B.blk F gt) (.slice a2' rs.length (c2-1)) (nI rs):=(HS2.out.1.turned HZ3.out.2.2 σ).turned hw3 (fun g hg=>Α hg)
    have kt:=LY M4 h1 H0.out.2.2.2.1 H0.out.2.2.1 (hs4.fewer (fun g hg=>by
     simp only [ρ,ς,or_false] at hg;rcases hg with e|e|e|e
     ·rw [e];exact oV _ HD.out.2.2.2.2
     all_goals simp [FB.blk,e]))
    rw [H0.out.2.2.2.2.2.2.2.2.2.1] at kt;have Xj:aa (B.blk F gt) w w4:=(((pR.out.2.mono (fun z hz=>by simp at hz;rcases hz with e|e|e<;>simp [FB.blk,e])).then HS2.out.2).then HZ3.out.2.2).trans hw3;have H4:=χ (ψ Xj (ψ hw4 hl));rw [hw4] at kt;clear hM hu et M4 om hw3 hs4 Xj hw4 e3' hlt
    go_wp2_with (first
     | ((go_at_call 229;(with_reducible refine (kt).mono ?_));rintro e w5 ⟨v5,rfl,V7,M5,dJ⟩;obtain ⟨a5,c5,hv5,_⟩:=aU V7;subst hv5)
     | fail)
    obtain ⟨Xj,hw4,hl⟩:=H4.out;rw [←hw4] at dJ;have hz0:=ig hst;rw [←hw4] at V7;have hs5:fO w5 (B.blk F gt) (.slice a5 D.T.length c5) D.T:=fO.fQ (base:=w4.heap.size) V7 (fun g hg=>Ψ (HD.out.1 g hg) Xj.size)
    have sK:aa (B.blk F gt) w4 w5:=dJ.mono (fun z hz=>by
     simp only [ρ,ς,or_false] at hz;rcases hz with e|e|e|e
     ·rw [e];exact oV _ HD.out.2.2.2.2
     all_goals simp [FB.blk,e])
    have TQ:=Xj.trans sK;have H5:=χ (ψ M5 (ψ hs5 TQ));have Ko:D.T.length<=65537:=by have:=H0.out.2.2.2.2.2.2.2.2.1;omega
    clear M5 hs5 TQ dJ sK V7 Xj hw4 q3 qt qf kt H4
    go_loopw [59] (fun s59 wr2=>∃ (i:Nat) (G':FG) (q':Nat),i<=D.T.length/\s59=.int .i64 (i:Int)/\o7 (vR A) hh (D.T.drop i) G' q'=R4/\zo A.cs.length (fun y=>((aN A (m:Int)).c y).i) (eU A) hh (EW (D.T.drop i)) G'/\gT wr2 B F gt ct A (dF st (D.q+q')) G'/\aa (B.blk F gt) w5 wr2) (fun s59 _=>D.T.length-(intOf s59).toNat)
    case atStart=>exact ⟨0,D.G,0,ω,rfl,H0.out.2.2.2.2.2.2.2.2.2.2,H0.out.2.2.2.2.1,H5.out.1,aa.refl _ _⟩
    case round=>
     obtain ⟨i,G',q',hi,rfl,MS,MW,hM,hu⟩:=hrel;rename World=>wr2
     by_cases hil:i<D.T.length
     ·obtain ⟨y,hy⟩:∃y,D.T[i]?=some y:=⟨_,ε hil⟩;have hdr:D.T.drop i=y::D.T.drop (i+1):=by
       rw [Ϣ hil]
       congr 1
       rw [ε hil] at hy
       injection hy
      rw [hdr] at MS MW;unfold o7 at MS;rw [qc] at MW;obtain ⟨a6,c6,e6,_,_,hel⟩:=H5.out.2.1;have e7:a5=a6:=by injection e6
      subst e7;obtain ⟨g6,o6,rfl,hg6,hF6,hc6⟩:=hel i y hy;have hc7:=hu.kept hc6 hF6;have NH:(i:Int)<(D.T.length:Int):=ω;have hw1:IntKind.i64.wrap ((i:Int)+1)=(i:Int)+1:=Μ _ ω;have hTy:=H0.out.2.2.2.2.2.2.2.1 y (Η hy)
      by_cases e:y=-1
      ·rw [Δ e] at MS MW;rw [e] at hc7;have HR:=χ (ψ MS (ψ MW (ψ hM hu)));clear MS MW hM hu hy hdr hel e6 hc6 e;go_wp2;exact ⟨⟨i+1,G',q',ω,by go_num,HR.out.1,HR.out.2.1,HR.out.2.2.1,HR.out.2.2.2⟩,by simp [intOf];omega⟩
      ·rw [Γ e] at MS MW;obtain ⟨z,rfl⟩:∃z:Nat,y=z:=⟨y.toNat,ω⟩;rw [π] at MS MW;have hzn:((z:Int) == -1)=false:=σ;have Ju:=(MW.pr z σ).1;have YF:=H0.out.2.2.2.1 z Ju.1 Ju.2.2
       have kr:=fun W (hW:aa [] wr2 W)=>BF (hM.ae hW) [] hl YF (fun t s' et=>by
        have hm:=MW.mem t (by rw [et];simp)
        exact H0.out.2.2.2.1 t hm.1 hm.2.2)
       obtain ⟨Zq,_⟩:=MW.step h1 (fun G=>yD _ _ _ _ _) (fun a b c=>dB);have HR:=χ (ψ MS (ψ Zq hu));clear MS MW hM hu hy hdr hel e6 hc6 e Zq Ju YF hTy
       go_wp2_with (first
        | ((go_at_call 230;(with_reducible refine (kr _ β).mono ?_));rintro e w6 ⟨rfl,sF,gX⟩)
        | fail)
       rw [kG] at sF;refine ⟨⟨i+1,_,q'+qH hh G',ω,by go_num,HR.out.1,HR.out.2.1,by rw [←Nat.add_assoc];exact sF,HR.out.2.2.trans (gX.mono (fun z hz=>?_))⟩,by simp [intOf];omega⟩;simp only [ρ,ς,or_false] at hz;rcases hz with e|e|e|e
       ·rw [e];exact oV _ HD.out.2.2.2.2
       all_goals simp [FB.blk,e]
     ·obtain rfl:i=D.T.length:=ω;have hdr:D.T.drop D.T.length=[]:=List.drop_eq_nil_of_le (Θ _);rw [hdr] at MS;have hRt':(G',q')=R4:=MS;subst hRt';have q0:=hM.h0;have kd:=KD.out wr2 F B.c hM.cells;have HR:=χ (ψ hM hu);clear MS MW hM hu hdr
      go_wp2_with (first
       | ((go_at_call 151;(with_reducible refine (kd).mono ?_));rintro e w7 ⟨rfl,YR,pV⟩)
       | fail)
      go_ret2;refine ⟨rfl,B.blk F gt,⟨⟨B,F,gt,ct,rfl,rfl,HR.out.1.fH pV YR (fun y hy=>Α hy) (dm A m) (by rw [fJ])⟩,H0.out.2.2.2.2.2.2.1⟩,(H5.out.2.2.trans HR.out.2).trans (pV.mono oV),fun y hy=>Α hy⟩
end
section
variable {w:World} {p:Nat} {FF:List Nat} {A:NS} {st:Nat} {G:FG}
theorem VC (I:EK A G) (ok:A.Ok):G.R A.hs.length=[]:=by
 cases e:G.R A.hs.length with
 | nil=>rfl
 | cons x t=>
  have:=I.out (h:=A.hs.length) (z:=x) (by rw [e];simp);have:=ok.nat x this.2.1;omega
theorem KT (h:wF w p FF A st G) :
  Calls Tryz.prog 222 #[.pointer (some ⟨p,0,none⟩)] w fun e w'=>e=.returned (.int .i64 (bS A))/\Goes FF w w' (fun O5=>wF w' p O5 (aC A) st G):=by
 obtain ⟨⟨B,F,gt,ct,rfl,rfl,M⟩,I⟩:=h;have k:=gQ M.cells;have h0:=M.h0;have I2:=Tn I
 by_cases hl:65536<A.hs.length
 ·have e1:bS A=0:=by unfold bS;rw [Δ hl]
  have e2:aC A=A:=by unfold aC;rw [Δ hl]
  rw [e1,e2] at k;rw [e1,e2];have HM:=χ M;have HI:=χ I;clear M I e1 e2 I2
  go_enter Tryz.func222,Tryz.ntmps222
  go_wp2_with ((go_at_call 156;(with_reducible refine (k).mono ?_));rintro e w1 ⟨rfl,F1,hC,hu,hF⟩)
  go_ret;exact ⟨rfl,B.blk F1 gt,⟨⟨B,F1,gt,ct,rfl,rfl,HM.out.fH hu hC hF rfl rfl⟩,HI.out⟩,hu.mono oV,TB hF⟩
 ·have e1:bS A=A.hs.length:=by unfold bS;rw [Γ hl]
  rw [e1] at k;rw [e1];have hcs:(aC A).cs.length=A.cs.length:=by unfold aC;rw [Γ hl]
  have nG:(aC A).hs.length=A.hs.length+1:=by unfold aC;rw [Γ hl];simp
  have hh0:=M.cells.ok.h0;have hpos:(0:Int)<(A.hs.length:Int):=ω;have BL:=VC I M.cells.ok;have HM:=χ M;have HI:=χ (ψ I2 BL);have hlb:A.hs.length<=65536:=ω;clear M I e1 I2 BL
  go_enter Tryz.func222,Tryz.ntmps222
  go_wp2_with (first
   | ((go_at_call 156;(with_reducible refine (k).mono ?_));rintro e w1 ⟨rfl,F1,hC,hu,hF⟩;(have d3:=hu.kept HM.out.h3 HM.out.d1.1);(have f3:=hu.aP HM.out.h3 HM.out.d1.1 (HM.out.head.free 3));(have ho1:=ay HM.out.af.own hu (fun g hg=>by simp [Value.ownBlock] at hg;subst hg;exact HM.out.d1.2.2.2.2.2));rw [qJ] at ho1;(have g0:B.n0≠gt:=HM.out.d2.2.2.2.2);(have gl:=Ψ (HM.out.lt gt (by simp [FB.blk])) hu.size))
   | ((at_builtin;refine aI rfl _ _ 26 rfl 0 3 (.int .i64 0) 1 8 Tryz.underlying26 dX rfl δ _ _ _ rfl (ho1) [.int .i64 (-1)] rfl (by simp [Value.oneCell']) (by first|rfl|(rw [Κ];rfl)) μ ω ω ?_;intro v2 w2 ho2 hu2 lF);(have hu2:aa [gt] w1 w2:=hu2);obtain ⟨nH,DK,ev,_⟩:=dH ho2 ω;subst ev;(have d4:=hu2.kept d3 ζ);(have f4:=hu2.aP d3 ζ f3)))
  go_ret;have hM:=HM.out;have hlt:=hM.lt;have f:=hM.d1;have q:=hM.d2;have r:=hM.d3;have hws:=hu.size;have hw3:aa [B.n0] w2 (w2.setCell ⟨B.n0,3,none⟩ (.slice (some ⟨nH,0,none⟩) (A.hs.length+1) DK)):=β;have hg1:nH=gt\/w1.heap.size<nH:=by
   rcases lF with h|h
   ·exact Α (Option.some.inj h)
   ·exact Β (h nH rfl)
  have jN:=hC.lt;have l0:=hlt B.n0 (by simp [FB.blk]);have l1:=hlt B.br (by simp [FB.blk]);have l2:=hlt B.bn (by simp [FB.blk]);have l3:=hlt B.bp (by simp [FB.blk]);have l4:=hlt B.bl (by simp [FB.blk]);have l5:=hlt gt (by simp [FB.blk]);have hnF:∀y,y<w.heap.size->y∉F->y∉F1:=fun y hy hn hm=>by rcases hF y hm with h'|h';exact hn h';omega
  have xB:nH∉F1:=by
   rcases hg1 with e|e
   ·rw [e];exact hnF gt l5 f.2.2.2.2.2
   ·exact fun hm=>by have:=jN nH hm;omega
  have hgn:∀y,y<w.heap.size->y≠gt->y≠nH:=fun y hy hn e=>by
   rcases hg1 with e2|e2
   ·exact hn (e.trans e2)
   ·omega
  have hhd:=((hM.head.upd hu f.1).upd hu2 ζ).set 3 (.slice (some ⟨nH,0,none⟩) (A.hs.length+1) DK);have n2:∀y,y≠gt->y∉[gt]:=fun y h=>by simpa using h
  have n3:∀y,y≠B.n0->y∉[B.n0]:=fun y h=>by simpa using h
  have eT:ik G.R (A.hs.length+1)=ik G.R A.hs.length++[-1]:=by
   unfold ik;rw [List.range_succ,List.map_append];simp [HI.out.2,xD]
  have Yh:gT (w2.setCell ⟨B.n0,3,none⟩ (.slice (some ⟨nH,0,none⟩) (A.hs.length+1) DK)) B F1 nH DK (aC A) st G:=by
   refine ⟨?_,?_,?_,?_,⟨?_⟩,⟨hnF _ l0 f.1,hnF _ l1 f.2.1,hnF _ l2 f.2.2.1,hnF _ l3 f.2.2.2.1,hnF _ l4 f.2.2.2.2.1,xB⟩,⟨q.1,q.2.1,q.2.2.1,q.2.2.2.1,hgn _ l0 q.2.2.2.2⟩,⟨r.1,r.2.1,r.2.2.1,hgn _ l4 r.2.2.2.1,(hgn _ l1 (Ne.symm r.2.2.2.2.1)).symm,(hgn _ l2 (Ne.symm r.2.2.2.2.2.1)).symm,(hgn _ l3 (Ne.symm r.2.2.2.2.2.2)).symm⟩⟩
   ·rw [hcs,nG];refine hhd.ext (fun j hj=>?_);rcases (ω:j=0\/j=1\/j=2\/j=3) with rfl|rfl|rfl|rfl<;>rfl
   ·exact (hC.upd hu2 (fun y hy=>by simp at hy;rw [hy];exact hnF gt l5 f.2.2.2.2.2)).upd hw3 (fun y hy=>by simp at hy;rw [hy];exact hnF _ l0 f.1)
   ·rw [hcs];exact ((hM.rings.upd hu f.2.1 f.2.2.1 f.2.2.2.1).upd hu2 (n2 _ (Ne.symm r.2.2.2.2.1)) (n2 _ (Ne.symm r.2.2.2.2.2.1)) (n2 _ (Ne.symm r.2.2.2.2.2.2))).upd hw3 (n3 _ (Ne.symm q.1)) (n3 _ (Ne.symm q.2.1)) (n3 _ (Ne.symm q.2.2.1))
   ·rw [hcs];exact ((hM.pl.upd hu f.2.2.2.2.1).upd hu2 (n2 _ r.2.2.2.1)).upd hw3 (n3 _ (Ne.symm q.2.2.2.1))
   ·rw [nG,qJ,eT,bz];refine ay (jT ho2 (Nat.zero_le _)) hw3 (fun g hg hm=>?_);simp [Value.ownBlock] at hg hm;exact hgn _ l0 q.2.2.2.2 ω
  refine ⟨rfl,B.blk F1 nH,⟨⟨B,F1,nH,DK,rfl,rfl,Yh⟩,HI.out.1⟩,((hu.mono oV).trans (hu2.mono (fun z hz=>by simp at hz;simp [FB.blk,hz]))).trans (hw3.mono (fun z hz=>by simp at hz;simp [FB.blk,hz])),fun y hy=>?_⟩;simp only [FB.blk,ρ] at hy ⊢;rcases hy with e|e|e|e|e|e|e
  ·exact Α (Α e)
  ·exact Α (Β (Α e))
  ·exact Α (Β (Β (Α e)))
  ·exact Α (Β (Β (Β (Α e))))
  ·exact Α (Β (Β (Β (Β (Α e)))))
  ·rcases hg1 with e2|e2
   ·exact Α (Β (Β (Β (Β (Β (Α (e.trans e2)))))))
   ·exact Β ω
  ·rcases hF y e with h'|h'
   ·exact Α (Β (Β (Β (Β (Β (Β h'))))))
   ·exact Β h'
end
theorem MF:(Tryz.prog.info? 225).map (fun i=>(i.zero,i.size,i.bytes))=some (some (.agg #[.int .i64 0,.int .i64 0,.int .i64 0,.bool false]),4,32):=by kernel_rfl
theorem Hq (n j:Nat) (hj:j<n*4):(madeCells #[Value.int .i64 0,.int .i64 0,.int .i64 0,.bool false] (n*4)).toList.getD j undef=zO (fun _=>0) (fun _=>0) (fun _=>0) (fun _=>false) j:=by
 rw [φ,ε (by simp [size_madeCells];omega)];simp only [Option.getD_some,madeCells,Array.getElem_toList,Array.getElem_map,Array.getElem_range];unfold zO;rcases (ω:j % 4=0\/j % 4=1\/j % 4=2\/j % 4=3) with e|e|e|e<;>simp [e]
def upTo (k:Nat) (v:Int):Nat->Int:=fun i=>if i<k then v else 0
theorem PZ (k:Nat) (v:Int):aF (upTo k v) k v=upTo (k+1) v:=by
 funext i;unfold aF upTo
 by_cases e:i=k
 ·rw [Δ e,Δ ω]
 ·rw [Γ e]
  by_cases h:i<k
  ·rw [Δ h,Δ ω]
  ·rw [Γ h,Γ ω]
theorem Qr (n:Nat) (w:World) (h:n<=65536):Calls Tryz.prog 98 #[.int .i64 (n:Int)] w fun e w'=>∃p FF,e=.returned (.tuple #[.pointer (some ⟨p,0,none⟩),.int .i64 0])/\wF w' p FF (NS.new n) 0 FG.none/\aa [] w w'/\∀x,x∈FF->w.heap.size<=x:=by
 have kc:=lV n w h;have kr:=fun W=>Ex n W h;have hI:=χ (Vg n)
 go_enter Tryz.func98,Tryz.ntmps98
 go_wp2_with (first
  | ((go_at_call 107;(with_reducible refine (kc).mono ?_));rintro e w1 ⟨c,F,rfl,hC,hu1,hF⟩;(have HC:=χ (ψ hC (ψ hu1 hF)));clear hC hu1 hF)
  | ((go_at_call 110;(with_reducible refine (kr _).mono ?_));rintro e w2 ⟨br,bn,bp,rfl,hR,hu2,hb1,hb2,hb3⟩;(have HR:=χ (ψ hR (ψ hu2 (ψ hb1 (ψ hb2 hb3)))));clear hR hu2 hb1 hb2 hb3 kr)
  | (at_make;refine wpList_make_row rfl _ 221 rfl 225 (.agg #[.int .i64 0,.int .i64 0,.int .i64 0,.bool false]) 4 32 Tryz.underlying221 MF n rfl ω μ ?_;intro w3 hr3 hu3))
 obtain ⟨W0,hW0⟩:∃W0,W0=(w3.alloc (.cells #[.int .i64 (-1)] 3)).alloc (.cells #[.pointer (some ⟨c,0,none⟩),.pointer (some ⟨br,0,none⟩),.slice (some ⟨w2.heap.size,0,none⟩) n n,.slice (some ⟨w3.heap.size,0,none⟩) 1 1] 223):=⟨_,rfl⟩;have hu0:aa [] w3 W0:=by rw [hW0];exact β
 have hhead:=dC (w3.alloc (.cells #[.int .i64 (-1)] 3)) [.pointer (some ⟨c,0,none⟩),.pointer (some ⟨br,0,none⟩),.slice (some ⟨w2.heap.size,0,none⟩) n n,.slice (some ⟨w3.heap.size,0,none⟩) 1 1] 223;rw [Κ] at hhead;have hz1:IZ (w3.alloc (.cells #[.int .i64 (-1)] 3)) w3.heap.size 1 [-1]:=IZ.lit w3 [-1] σ;have hz0:IZ W0 w3.heap.size 1 [-1]:=by rw [hW0];exact hz1.upd ((aa.refl [] _).alloc _) σ
 have hhd:aG W0 (w3.heap.size+1) 223 4 (fun j=>[Value.pointer (some ⟨c,0,none⟩),.pointer (some ⟨br,0,none⟩),.slice (some ⟨w2.heap.size,0,none⟩) n n,.slice (some ⟨w3.heap.size,0,none⟩) 1 1].getD j undef):=by rw [hW0];exact hhead
 have hzz:(Value.agg #[.int .i64 0,.int .i64 0,.int .i64 0,.bool false]).cells=#[.int .i64 0,.int .i64 0,.int .i64 0,.bool false]:=rfl;rw [hzz] at hr3;have hr0:aG W0 w2.heap.size 225 (n*4) (zO (upTo 0 (-1)) (upTo 0 (-1)) (fun _=>0) (fun _=>false)):=by
  refine ((hr3.upd hu0 σ).ext (fun j hj=>?_));rw [Hq n j hj];unfold upTo;simp
 have hl3:=hr3.lt;have hs3:=hu3.size;have H0:=χ (ψ hu0 (ψ hz0 (ψ hhd (ψ hr0 (ψ hu3 hW0)))));have hne:w3.heap.size+1≠w2.heap.size:=ω;clear hu0 hz0 hhd hr0 hz1 hhead hr3 hu3;rw [←hW0];clear hW0
 go_loopw [34] (fun s34 wr=>∃k:Nat,k<=n/\s34=.int .i64 (k:Int)/\aG wr w2.heap.size 225 (n*4) (zO (upTo k (-1)) (upTo k (-1)) (fun _=>0) (fun _=>false))/\aa [w2.heap.size] W0 wr) (fun s34 _=>n-(intOf s34).toNat)
 case atStart=>exact ⟨0,ω,rfl,H0.out.2.2.2.1,aa.refl _ _⟩
 case round=>
  obtain ⟨k,hk,rfl,hr,hu⟩:=hrel;rename World=>wr
  by_cases hkn:k<n
  ·have Gd:(k:Int)<(n:Int):=ω;have hw1:IntKind.i64.wrap ((k:Int)+1)=(k:Int)+1:=Μ _ ω;have d2:wr.cell? ⟨w3.heap.size+1,2,none⟩=some (.slice (some ⟨w2.heap.size,0,none⟩) n n):=hu.kept (H0.out.2.2.1.cellAt 2 ω rfl) (by simpa using hne);have p0:=hr.cellAt (k*4) ω (wQ _ _ _ _ k);have p1:=hr.cellAt (k*4+1) ω (wR _ _ _ _ k);have p2:=hr.cellAt (k*4+2) ω (wP _ _ _ _ k);have p3:=hr.cellAt (k*4+3) ω (wV _ _ _ _ k);have f0:=hr.free (k*4);have f1:=hr.free (k*4+1);have f2:=hr.free (k*4+2);have f3:=hr.free (k*4+3);have hlr:=hr.lt;have HR2:=χ (ψ hr hu);clear hr hu;go_wp2
   go_region_with (first
    | ((go_at_call 111;(with_reducible refine (x8 _).mono ?_));rintro e w5 ⟨rfl,dJ⟩;(have hv:aa [] wr w5:=aa.trans β dJ);(have v0:=hv.was p0);(have v1:=hv.was p1);(have v2:=hv.was p2);(have v3:=hv.was p3);(have v4:=hv.was d2);(have z0:=hv.aP p0 σ f0);(have z1:=hv.aP p1 σ f1);(have z2:=hv.aP p2 σ f2);(have z3:=hv.aP p3 σ f3))
    | fail)
   all_goals
    go_wp2;have hr:=HR2.out.1.upd hv σ;have gX:aa [w2.heap.size] W0 w5:=HR2.out.2.then hv;refine ⟨⟨k+1,ω,by go_num,?_,ν⟩,by simp [intOf];omega⟩;have:=uO (yx (xW (uR hr k (-1)) k (-1)) k 0) k false;rw [PZ] at this;refine this.ext (fun j _=>?_);rw [show aF (fun _=>(0:Int)) k 0=(fun _=>0) from by funext z;unfold aF;split<;>rfl,show aF (fun _=>false) k false=(fun _=>false) from by funext z;unfold aF;split<;>rfl]
  ·obtain rfl:k=n:=ω;have HR2:=χ (ψ hr hu);clear hr hu;go_wp2;go_ret2;obtain ⟨hr,hu⟩:=HR2.out;obtain ⟨hu0,hz0,hhd,_,hu3,_⟩:=H0.out;obtain ⟨hC,hu1,hF⟩:=HC.out;obtain ⟨hR,hu2,hb1,hb2,hb3⟩:=HR.out;have hcs:(NS.new k).cs.length=k:=by simp [NS.new]
   have nG:(NS.new k).hs.length=1:=rfl;have IU:=hC.lt;have hRl:=hR.lt;have s1:=hu1.size;have s2:=hu2.size;have s3:=hu3.size;have s0:=hu0.size;have hFn:∀y,w1.heap.size<=y->y∉F:=fun y hy hm=>by have:=IU y hm;omega
   have hM:gT wr ⟨w3.heap.size+1,c,br,bn,bp,w2.heap.size⟩ F w3.heap.size 1 (NS.new k) 0 FG.none:=by
    refine ⟨?_,?_,?_,?_,?_,⟨hFn _ ζ,hFn _ hb1,hFn _ hb2,hFn _ hb3,hFn _ s2,hFn _ ω⟩,⟨ζ,ζ,ζ,ζ,σ⟩,⟨ζ,ζ,ζ,ζ,ζ,ζ,ζ⟩⟩
    ·rw [hcs,nG];exact hhd.upd hu (by simpa using hne)
    ·exact ((hC.ae ((hu2.trans hu3).trans hu0))).upd hu (fun y hy=>by simp at hy;rw [hy];exact hFn _ s2)
    ·rw [hcs];exact (hR.ae (hu3.trans hu0)).upd hu ζ ζ ζ
    ·rw [hcs];refine hr.ext (fun j hj=>?_);unfold oM;obtain ⟨a,e⟩:=four j;have ha:a<k:=ω;rcases e with rfl|rfl|rfl|rfl
     ·rw [wQ,wQ];unfold upTo;rw [Δ ha];rfl
     ·rw [wR,wR];unfold upTo;rw [Δ ha];rfl
     ·rw [wP,wP];rfl
     ·rw [wV,wV];rfl
    ·exact hz0.upd hu ζ
   refine ⟨_,_,rfl,⟨⟨⟨w3.heap.size+1,c,br,bn,bp,w2.heap.size⟩,F,w3.heap.size,1,rfl,rfl,hM⟩,hI.out⟩,(((hu1.trans hu2).trans hu3).trans hu0).joined hu (fun y hy=>by simp at hy;rw [hy];right;omega),fun y hy=>?_⟩;simp only [FB.blk,ρ] at hy;rcases hy with e|e|e|e|e|e|e
   ·omega
   ·omega
   ·omega
   ·omega
   ·omega
   ·omega
   ·exact hF y e
theorem EG (p c:Nat):∀W:World,W.cell? ⟨p,0,none⟩=some (.pointer (some ⟨c,0,none⟩))->(method 429 182 (.pointer (some ⟨p,0,none⟩)) "Has").run Tryz.prog W=.ok (139,.pointer (some ⟨c,0,none⟩)) W:=(by intro W h;unfold method;have hm:∃m,(Array.find? (fun x=>x.name == "Has") Tryz.t182.methods)=some m/\m.path.toList=[⟨223,0,true⟩]/\m.func=some (139,true)/\m.path.isEmpty=false:=⟨(Array.find? (fun x=>x.name == "Has") Tryz.t182.methods).get!,by kernel_rfl,by kernel_rfl,by kernel_rfl,by kernel_rfl⟩;obtain ⟨m,h1,h2,h3,h4⟩:=hm;go_simp;simp only [follow,Place.get];go_simp;(try unfold receiverAt);(try simp only [Place.get]);(try go_simp))
theorem zR (p c:Nat):∀W:World,W.cell? ⟨p,0,none⟩=some (.pointer (some ⟨c,0,none⟩))->(method 429 182 (.pointer (some ⟨p,0,none⟩)) "Entry").run Tryz.prog W=.ok (137,.pointer (some ⟨c,0,none⟩)) W:=(by intro W h;unfold method;have hm:∃m,(Array.find? (fun x=>x.name == "Entry") Tryz.t182.methods)=some m/\m.path.toList=[⟨223,0,true⟩]/\m.func=some (137,true)/\m.path.isEmpty=false:=⟨(Array.find? (fun x=>x.name == "Entry") Tryz.t182.methods).get!,by kernel_rfl,by kernel_rfl,by kernel_rfl,by kernel_rfl⟩;obtain ⟨m,h1,h2,h3,h4⟩:=hm;go_simp;simp only [follow,Place.get];go_simp;(try unfold receiverAt);(try simp only [Place.get]);(try go_simp))
theorem PM (p:Nat):∀W:World,(method 429 182 (.pointer (some ⟨p,0,none⟩)) "Make").run Tryz.prog W=.ok (222,.pointer (some ⟨p,0,none⟩)) W:=fun _=>by kernel_rfl
theorem Hd (p:Nat):∀W:World,(method 429 182 (.pointer (some ⟨p,0,none⟩)) "Insert").run Tryz.prog W=.ok (221,.pointer (some ⟨p,0,none⟩)) W:=fun _=>by kernel_rfl
theorem SI (p:Nat):∀W:World,(method 429 182 (.pointer (some ⟨p,0,none⟩)) "Min").run Tryz.prog W=.ok (224,.pointer (some ⟨p,0,none⟩)) W:=fun _=>by kernel_rfl
theorem EO (p:Nat):∀W:World,(method 429 182 (.pointer (some ⟨p,0,none⟩)) "Extract").run Tryz.prog W=.ok (220,.pointer (some ⟨p,0,none⟩)) W:=fun _=>by kernel_rfl
theorem yY {w w':World} {p:Nat} {F S:List Nat} {A:NS} {st:Nat} {G:FG} (h:wF w p F A st G) (hu:aa S w w') (hS:∀x,x∈S->x∉F):wF w' p F A st G:=h.upd hu hS
theorem XL {w:World} {p:Nat} {F:List Nat} {A:NS} {st:Nat} {G:FG} (h:wF w p F A st G):∀x,x∈F->x<w.heap.size:=h.lt
theorem Ql {w:World} {p:Nat} {F:List Nat} {A:NS} {st:Nat} {G:FG} (h:wF w p F A st G):A.Ok:=h.ok
theorem Ub {w:World} {p:Nat} {F:List Nat} {A:NS} {st:Nat} {G:FG} (h:wF w p F A st G):∃c F1,w.cell? ⟨p,0,none⟩=some (.pointer (some ⟨c,0,none⟩))/\aD w c F1 A st:=by
 obtain ⟨c,F1,h0,hC, -⟩:=h.cl;exact ⟨c,F1,h0,hC⟩
def FbQ (w:World) (p:Nat) (F:List Nat) (A:NS):Prop:=∃st G,wF w p F A st G
noncomputable def xG:dV where
 ty:=182
 at_:=FbQ
 upd:=fun h hu hS=>by
  obtain ⟨st,G,hL⟩:=h;exact ⟨st,G,yY hL hu hS⟩
 lt:=fun h=>by
  obtain ⟨st,G,hL⟩:=h;exact XL hL
 ok:=fun h=>by
  obtain ⟨st,G,hL⟩:=h;exact Ql hL
 make:=fun {w p F A} h=>by
  obtain ⟨st,G,hL⟩:=h;refine aX 222 (fun _ _=>by kernel_rfl) (PM _) (fun W hW=>?_);refine (KT (yY hL hW σ)).mono ?_;rintro e w' ⟨rfl,F',hA,hu,hf⟩;exact ⟨rfl,F',⟨_,_,hA⟩,hu,hf⟩
 insert:=fun {w p F A} g y k s hk hB h=>by
  obtain ⟨st,G,hL⟩:=h;refine aX 221 (fun _ _=>by kernel_rfl) (Hd _) (fun W hW=>?_);refine (Ee (yY hL hW σ) g y k s hk hB).mono ?_;rintro e w' ⟨rfl,F',hA,hu,hf⟩;exact ⟨rfl,F',⟨_,_,hA⟩,hu,hf⟩
 min:=fun {w p F A} y hB h=>by
  obtain ⟨st,G,hL⟩:=h;refine aX 224 (fun _ _=>by kernel_rfl) (SI _) (fun W hW=>?_);have pg:=yY hL hW σ;have hok:=Ql hL;have h4:=(aQ _ _).1 hB;have h5:=hok.h1;refine (EZ pg (y:Int) ω).mono ?_;rintro e w' ⟨rfl,rfl⟩;exact ⟨rfl,Goes.stay ⟨_,_,pg⟩ (aa.refl _ _)⟩
 extract:=fun {w p F A} y m hm h=>by
  obtain ⟨st,G,hL⟩:=h;refine aX 220 (fun _ _=>by kernel_rfl) (EO _) (fun W hW=>?_);have pg:=yY hL hW σ;have e2:rZ A (y:Int)=aN A (m:Int):=by unfold rZ;rw [hm]
  have hok:=Ql hL;obtain ⟨m1,m2,m3,m4⟩:=j5 hm;have hB:bq A (y:Int)=true:=by rw [←m3];have:=jH hok m4;simpa using this
  have h4:=(aQ _ _).1 hB;have h5:=hok.h1;have k:=CX pg (y:Int) ω;rw [e2,hm] at k;refine k.mono ?_;rintro e w' ⟨rfl,F',hA,hu,hf⟩;exact ⟨rfl,F',⟨_,_,hA⟩,hu,hf⟩
 has:=fun x h=>by
  obtain ⟨st,G,hL⟩:=h;obtain ⟨c,F1,h0,hC⟩:=Ub hL;exact gN 139 (fun _ _=>by kernel_rfl) h0 (EG _ _) (fun W hW=>iw (hC.ae hW) x)
 entry:=fun {w p F A} x h=>by
  obtain ⟨st,G,hL⟩:=h;obtain ⟨c,F1,h0,hC⟩:=Ub hL;refine gN 137 (fun _ _=>by kernel_rfl) h0 (zR _ _) (fun W hW=>?_);cases hin:bV A x with
  | false=>simpa using jR (hC.ae hW) x hin
  | true=>
   obtain ⟨y,rfl⟩:=oZ hin;simpa using iY (hC.ae hW) y hin
theorem IB (p:Nat) (w:World):Calls Tryz.prog 97 #[.pointer (some ⟨p,0,none⟩),.int .i64 0] w fun e w'=>e=.returned (.tuple #[.iface 182 (.pointer (some ⟨p,0,none⟩)),.int .i64 0])/\w'=w:=by
 go_enter Tryz.func97,Tryz.ntmps97
 go_wp2;go_ret2;exact ⟨rfl,rfl⟩
theorem Qw (n:Nat) (hn:n<=65536):lG xG 5 0 n:=by
 intro w;have kn:=fun W=>Qr n W hn;have km:=IB;have hty:xG.ty=182:=rfl;have hat:∀w' p FF,wF w' p FF (NS.new n) 0 FG.none->xG.at_ w' p FF (NS.new n):=fun w' p FF h=>⟨_,_,h⟩
 generalize xG=K at *;rw [hty]
 go_enter Tryz.func81,Tryz.ntmps81
 go_wp2_with (first
  | ((go_at_call 98;(with_reducible refine (kn _).mono ?_));rintro e w1 ⟨pn,FF,rfl,hS,hu1,hf⟩)
  | ((go_at_call 97;(with_reducible refine (km _ _).mono ?_));rintro e w2 ⟨rfl,rfl⟩)
  | fail)
 go_ret2;exact ⟨pn,FF,rfl,hat _ _ _ hS,aa.trans β hu1,fun x hx=>by have:=hf x hx;simp at this;omega⟩
end Go.Proofs.YtklibcncmbofpaaGreat
