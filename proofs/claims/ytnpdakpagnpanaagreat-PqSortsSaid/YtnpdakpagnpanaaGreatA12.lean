/-
  Lemmas for PqSorts: FbA, FbB, FbC, Fb, Fb2, FbI, FbT, FbP, FbQ, FbR, Fb3, FbS, FbU, FbV, FbW, Fb4. Conditions: those of each lemma.
-/
import Derived.Deep.OwnRows
import Derived.Deep.RegionHeldLaw
import Derived.Deep.RegionLaw
import Derived.Deep.DeepCutAuto
import Derived.Outline
import Derived.Deep.LoopGhost
import Derived.Test.YtnpdakpagnpanaaGreatA01
set_option linter.all false
set_option maxHeartbeats 8000000
set_option maxRecDepth 10000
namespace Go.Proofs.YtnpdakpagnpanaaGreat
def yU (nx:Nat->Nat):List Nat->Nat->Prop
 | [],_=>True
 | x::t,z=>nx x=t.headD z/\yU nx t z
theorem vW (a b:List Nat) (z:Nat):(a++b).headD z=a.headD (b.headD z):=by cases a<;>rfl
theorem qR {nx:Nat->Nat}:∀ (a b:List Nat) (z:Nat),yU nx (a++b) z↔yU nx a (b.headD z)/\yU nx b z
 | [],b,z=>by simp [yU]
 | x::t,b,z=>by
  show (nx x=(t++b).headD z/\yU nx (t++b) z)↔(nx x=t.headD (b.headD z)/\yU nx t (b.headD z))/\yU nx b z
  rw [qR t b z,vW,and_assoc]
theorem yU.far {nx nx':Nat->Nat}:∀ {l:List Nat} {z:Nat},yU nx l z->(∀w,w∈l->nx' w=nx w)->yU nx' l z
 | [],_,_,_=>trivial
 | x::t,z,h,e=>⟨(e x σ).trans h.1,yU.far h.2 (λw hw=>e w (by simp [hw]))⟩
def Ring (nx:Nat->Nat) (l:List Nat):Prop:=l.Nodup/\yU nx l (l.headD 0)
theorem Ring.nil (nx:Nat->Nat):Ring nx []:=⟨ϡ,trivial⟩
theorem Ring.nd {nx:Nat->Nat} {l:List Nat} (h:Ring nx l):l.Nodup:=h.1
theorem ik {nx:Nat->Nat} {x:Nat} {t:List Nat}:Ring nx (x::t)↔(x::t).Nodup/\nx x=t.headD x/\yU nx t x:=Iff.rfl
theorem gU {nx:Nat->Nat} {x:Nat}:Ring nx [x]↔nx x=x:=by
 rw [ik];simp [yU]
theorem Ring.far {nx nx':Nat->Nat} {l:List Nat} (h:Ring nx l) (e:∀w,w∈l->nx' w=nx w):Ring nx' l:=⟨h.1,h.2.far e⟩
theorem LA {a b:List Nat} (h:(a++b).Nodup):(b++a).Nodup:=(Φ (l₁:=a) (l₂:=b)).nodup_iff.1 h
theorem Ring.Qj {nx:Nat->Nat}:∀ {a b:List Nat},Ring nx (a++b)->Ring nx (b++a)
 | [],b,h=>by simpa using h
 | a0::a,[],h=>by simpa using h
 | a0::a,b0::b,h=>by
  refine ⟨LA h.1,?_⟩;have h2:=(qR _ _ _).1 h.2;exact (qR _ _ _).2 ⟨h2.2,h2.1⟩
def bT (nx:Nat->Nat) (x y:Nat):Nat->Nat:=λz=>if z=x then nx y else if z=y then nx x else nx z
def iH (nx pv:Nat->Nat) (x y:Nat):Nat->Nat:=λz=>if z=nx x then y else if z=nx y then x else pv z
theorem ig {nx:Nat->Nat} {x y z:Nat} (h1:z≠x) (h2:z≠y):bT nx x y z=nx z:=by unfold bT;rw [Γ h1,Γ h2]
theorem Ring.jZ {nx:Nat->Nat} {l:List Nat} (h:Ring nx l) {x y:Nat} (h1:x∉l) (h2:y∉l):Ring (bT nx x y) l:=
 h.far (λw hw=>ig (λe=>h1 (e▸hw)) (λe=>h2 (e▸hw)))
theorem Ring.join {nx:Nat->Nat} {x y:Nat} {s t:List Nat} (h:Ring nx (x::s)) (k:Ring nx (y::t)) (d:∀z,z∈x::s->z∉y::t):Ring (bT nx x y) (x::t++y::s):=by
 obtain ⟨n1,e1,r1⟩:=ik.1 h;obtain ⟨n2,e2,r2⟩:=ik.1 k;have n1':=Ζ.1 n1;have n2':=Ζ.1 n2;have hxy:y≠x:=λe=>d x σ (by simp [e]);have sx:bT nx x y x=nx y:=by unfold bT;rw [Δ rfl]
 have sy:bT nx x y y=nx x:=by unfold bT;rw [Γ hxy,Δ rfl]
 refine ik.2 ⟨?_,?_,?_⟩
 ·have:(x::t++y::s).Perm ((x::s)++(y::t)):=by
   show (x::(t++y::s)).Perm (x::(s++y::t))
   refine List.Perm.cons x ?_;exact (Ϟ).trans ((List.Perm.cons y Φ).trans List.perm_middle.symm)
  refine this.nodup_iff.2 (θ.2 ⟨n1,n2,λa ha b hb e=>?_⟩);subst e;exact d a ha hb
 ·show bT nx x y x=(t++y::s).headD x
  rw [sx,e2,vW];rfl
 ·show yU (bT nx x y) (t++y::s) x
  refine (qR _ _ _).2 ⟨?_,?_,?_⟩
  ·exact r2.far (λw hw=>ig (λe=>d x σ (by subst e;simp [hw])) (λe=>n2'.1 (e▸hw)))
  ·rw [sy,e1]
  ·exact r1.far (λw hw=>ig (λe=>n1'.1 (e▸hw)) (λe=>d w (by simp [hw]) (by subst e;simp)))
theorem Ring.cut {nx:Nat->Nat} {x y:Nat} {a b:List Nat} (h:Ring nx (x::a++y::b)):Ring (bT nx x y) (x::b)/\Ring (bT nx x y) (y::a):=by
 have h':Ring nx (x::(a++y::b)):=h;obtain ⟨n1,e1,r1⟩:=ik.1 h';have r2:=(qR _ _ _).1 r1;obtain ⟨r3,r4,r5⟩:yU nx a y/\nx y=b.headD x/\yU nx b x:=⟨r2.1,r2.2.1,r2.2.2⟩;have n2:=Ζ.1 n1;have n3:=θ.1 n2.2;have n4:=Ζ.1 n3.2.1;have hxy:y≠x:=λe=>n2.1 (by subst e;simp);have sx:bT nx x y x=nx y:=by unfold bT;rw [Δ rfl]
 have sy:bT nx x y y=nx x:=by unfold bT;rw [Γ hxy,Δ rfl]
 have xb:x∉b:=λhm=>n2.1 (by simp [hm]);have xa:x∉a:=λhm=>n2.1 (by simp [hm]);have ya:y∉a:=λhm=>n3.2.2 y hm y σ rfl
 refine ⟨ik.2 ⟨Ζ.2 ⟨xb,n4.2⟩,by rw [sx,r4],r5.far (λw hw=>ig (λe=>xb (e▸hw)) (λe=>n4.1 (e▸hw)))⟩,
  ik.2 ⟨Ζ.2 ⟨ya,n3.1⟩,?_,r3.far (λw hw=>ig (λe=>xa (e▸hw)) (λe=>ya (e▸hw)))⟩⟩
 rw [sy,e1,vW];rfl
structure Rg (n:Nat) (nx pv:Nat->Nat):Prop where
 nn:∀x,x<n->nx x<n
 pp:∀x,x<n->pv x<n
 pn:∀x,x<n->pv (nx x)=x
 np:∀x,x<n->nx (pv x)=x
section
variable {n:Nat} {nx pv:Nat->Nat}
theorem Rg.inj (h:Rg n nx pv) {x y:Nat} (hx:x<n) (hy:y<n) (e:nx x=nx y):x=y:=by
 rw [←h.pn x hx,←h.pn y hy,e]
theorem Rg.swap (h:Rg n nx pv) {x y:Nat} (hx:x<n) (hy:y<n):Rg n (bT nx x y) (iH nx pv x y):=by
 refine ⟨λz hz=>?_,λz hz=>?_,λz hz=>?_,λz hz=>?_⟩
 ·unfold bT
  split
  ·exact h.nn y hy
  ·split
   ·exact h.nn x hx
   ·exact h.nn z hz
 ·unfold iH
  split
  ·exact hy
  ·split
   ·exact hx
   ·exact h.pp z hz
 ·unfold bT iH
  by_cases e1:z=x
  ·rw [Δ e1]
   by_cases e2:nx y=nx x
   ·rw [Δ e2,e1];exact h.inj hy hx e2
   ·rw [Γ e2,Δ rfl,e1]
  ·rw [Γ e1]
   by_cases e2:z=y
   ·rw [Δ e2,Δ rfl,e2]
   ·rw [Γ e2,Γ (λe=>e1 (h.inj hz hx e)),Γ (λe=>e2 (h.inj hz hy e))];exact h.pn z hz
 ·unfold bT iH
  by_cases e1:z=nx x
  ·rw [Δ e1]
   by_cases e2:y=x
   ·rw [Δ e2,e2,e1]
   ·rw [Γ e2,Δ rfl,e1]
  ·rw [Γ e1]
   by_cases e2:z=nx y
   ·rw [Δ e2,Δ rfl,e2]
   ·rw [Γ e2,Γ (λe=>e1 (by rw [←e,h.np z hz])),Γ (λe=>e2 (by rw [←e,h.np z hz]))];exact h.np z hz
theorem Rg.last (h:Rg n nx pv) {x y:Nat} {a:List Nat} (hr:Ring nx (x::a++[y])) (hy:y<n):pv x=y:=by
 have h':Ring nx (x::(a++[y])):=hr;have r2:=(qR _ _ _).1 (ik.1 h').2.2;have:nx y=x:=r2.2.1;rw [←this];exact h.pn y hy
theorem Rg.part (h:Rg n nx pv) {x:Nat} {l:List Nat} (hr:Ring nx (x::l)) (hl:∀z,z∈x::l->z<n):Ring (bT nx x (pv x)) [x]/\Ring (bT nx x (pv x)) l:=by
 have hx:x<n:=hl x σ;rcases List.eq_nil_or_concat l with rfl|⟨a,y,e⟩
 ·have e1:=gU.1 hr;have e2:pv x=x:=by have:=h.pn x hx;rw [e1] at this;exact this
  rw [e2];refine ⟨gU.2 ?_,Ring.nil _⟩;unfold bT;rw [Δ rfl];exact e1
 ·have e':l=a++[y]:=by rw [e,List.concat_eq_append]
  subst e';have hy:y<n:=hl y σ;rw [h.last hr hy];have:=Ring.cut (b:=[]) hr;exact ⟨this.1,Ring.Qj (a:=[y]) (b:=a) this.2⟩
end
theorem JJ (t:List Nat) (z:Nat):t.headD z=t.getD 0 z:=by cases t<;>rfl
theorem yU.at {nx:Nat->Nat}:∀ {l:List Nat} {z:Nat},yU nx l z->∀k (hk:k<l.length),nx l[k]=l.getD (k+1) z
 | [],_,_,k,hk=>by simp at hk
 | x::t,z,h,0,hk=>by
  show nx x=(x::t).getD 1 z
  rw [h.1,JJ];simp [φ]
 | x::t,z,h,k+1,hk=>by
  have:=yU.at h.2 k (by simpa using hk)
  show nx (t[k]'(by simpa using hk))=(x::t).getD (k+1+1) z
  rw [this];simp [φ]
theorem Ring.at {nx:Nat->Nat} {x:Nat} {t:List Nat} (h:Ring nx (x::t)) (k:Nat) (hk:k<(x::t).length):nx (x::t)[k]=(x::t).getD (k+1) x:=yU.at h.2 k hk
theorem iC:∀ (n:Nat) (l:List Nat),l.Nodup->(∀x,x∈l->x<n)->l.length<=n
 | 0,l,_,h=>by
  cases l with
  | nil=>simp
  | cons x t=>have:=h x σ;omega
 | n+1,l,hd,h=>by
  by_cases hm:n∈l
  ·have h1:=iC n (l.erase n) (hd.erase n) (λx hx=>by
    have h2:=(List.Nodup.mem_erase_iff hd).1 hx;have:=h x h2.2
    omega)
   rw [List.length_erase_of_mem hm] at h1;omega
  ·have:=iC n l hd (λx hx=>by
    have:=h x hx;have:x≠n:=λe=>hm (e▸hx)
    omega)
   omega
def nM (l:List Nat):List Int:=l.map (λx:Nat=>(x:Int))
theorem j6 (l:List Nat):(nM l).length=l.length:=by unfold nM;simp
theorem Me (a b:List Nat):nM (a++b)=nM a++nM b:=by unfold nM;simp
end Go.Proofs.YtnpdakpagnpanaaGreat
namespace Go.Proofs.YtnpdakpagnpanaaGreat
open Go Go.RowKit
structure wK (w:World) (br bn bp n:Nat) (nx pv:Nat->Nat):Prop where
 head:aJ w br 235 2 (λj=>[Value.slice (some ⟨bn,0,none⟩) n n,.slice (some ⟨bp,0,none⟩) n n].getD j undef)
 nr:aJ w bn 3 n (λj=>.int .i64 (nx j:Int))
 pr:aJ w bp 3 n (λj=>.int .i64 (pv j:Int))
 ne:br≠bn/\br≠bp/\bn≠bp
 le:n<=65536
 rg:Rg n nx pv
section
variable {w:World} {br bn bp n:Nat} {nx pv:Nat->Nat}
theorem wK.upd {w':World} {F:List Nat} (h:wK w br bn bp n nx pv) (hu:aa F w w') (h1:br∉F) (h2:bn∉F) (h3:bp∉F):wK w' br bn bp n nx pv:=
 ⟨h.head.upd hu h1,h.nr.upd hu h2,h.pr.upd hu h3,h.ne,h.le,h.rg⟩
theorem wK.ai {w':World} (h:wK w br bn bp n nx pv) (hu:aa [] w w'):wK w' br bn bp n nx pv:=h.upd hu σ σ σ
theorem wK.h0 (h:wK w br bn bp n nx pv):w.cell? ⟨br,0,none⟩=some (.slice (some ⟨bn,0,none⟩) n n):=h.head.cellAt 0 ω rfl
theorem wK.h1 (h:wK w br bn bp n nx pv):w.cell? ⟨br,1,none⟩=some (.slice (some ⟨bp,0,none⟩) n n):=h.head.cellAt 1 ω rfl
theorem wK.lt (h:wK w br bn bp n nx pv):br<w.heap.size/\bn<w.heap.size/\bp<w.heap.size:=⟨h.head.lt,h.nr.lt,h.pr.lt⟩
end
theorem Kv:(Tryz.prog.info? 3).map (λi=>(i.zero,i.size,i.bytes))=some (some (.int .i64 0),1,8):=by kernel_rfl
theorem Dc (w:World) (n:Nat):aJ (w.alloc (.cells (madeCells #[.int .i64 0] n) 3)) w.heap.size 3 n (λj=>(madeCells #[.int .i64 0] n).toList.getD j undef):=by
 refine ⟨madeCells #[.int .i64 0] n,?_,by simp [madeCells],λj hj=>?_⟩
 ·show (w.heap.push _)[w.heap.size]?=_;simp
 ·simp [madeCells,φ,hj]
theorem DV (n:Nat) (w:World) (h:n<=65536) :
  Calls Tryz.prog 87 #[.int .i64 (n:Int)] w λe w'=>∃br bn bp,e=.returned (.tuple #[.pointer (some ⟨br,0,none⟩),.int .i64 0])/\wK w' br bn bp n id id/\aa [] w w'/\w.heap.size<=br/\w.heap.size<=bn/\w.heap.size<=bp:=by
 have hmk:=run_make_row' (P:=Tryz.prog) 77 3 (.int .i64 0) 8 Tryz.underlying77 Kv rfl .i64 .i64 n ω ω
 go_enter Tryz.func87,Tryz.ntmps87
 go_wp2
 go_region
 all_goals
  go_wp2
  go_loopw [19] (λi wr=>∃ (bn bp k:Nat) (f g:Nat->Value),k<=n/\i=.int .i64 k/\aJ wr (w.heap.size+1+1) 235 2 (λj=>[Value.slice (some ⟨bn,0,none⟩) n n,.slice (some ⟨bp,0,none⟩) n n].getD j undef)/\
   aJ wr bn 3 n f/\aJ wr bp 3 n g/\(∀j,j<k->f j=.int .i64 (j:Int)/\g j=.int .i64 (j:Int))/\(w.heap.size<=bn/\w.heap.size<=bp/\bn≠bp/\bn<w.heap.size+1+1/\bp<w.heap.size+1+1)/\aa [] w wr) (λi _=>n-(intOf i).toNat)
  case atStart=>
   have r0:=Dc w n;have r1:=Dc (w.alloc (.cells (madeCells #[.int .i64 0] n) 3)) n;rw [Κ] at r1;have rh:=λv1 v2=>dL ((w.alloc (.cells (madeCells #[.int .i64 0] n) 3)).alloc (.cells (madeCells #[.int .i64 0] n) 3)) [v1,v2] 235;simp only [Κ] at rh
   first
    | exact ⟨w.heap.size,w.heap.size+1,0,_,_,ω,rfl,(rh _ _).drew,((r0.alloc _).alloc _).drew,(r1.alloc _).drew,ω,ω,β⟩
    | exact ⟨w.heap.size+1,w.heap.size,0,_,_,ω,rfl,(rh _ _).drew,(r1.alloc _).drew,((r0.alloc _).alloc _).drew,ω,ω,β⟩
  case round=>
   obtain ⟨bn,bp,k,f,g,hk,rfl,hH,hN,hP,hf,hb,hu⟩:=hrel;rename World=>wr
   by_cases hkn:k<n
   ·have c0:=hH.cellAt 0 ω rfl;have c1:=hH.cellAt 1 ω rfl;have d0:=hN.cell k hkn;have d1:=hP.cell k hkn;have e0:=hN.free k;have e1:=hP.free k;have XN:(k:Int)<(n:Int):=ω;obtain ⟨b1,b2,b3,b4,b5⟩:=hb;have HF:=χ (ψ hf (ψ hH (ψ hN (ψ hP hu))));clear hf hH hN hP hu hmk;go_wp2
    go_region
    all_goals
     go_wp2
     go_roundw
     case rel=>
      obtain ⟨hf,hH,hN,hP,hu⟩:=HF.out;refine ⟨bn,bp,k+1,_,_,ω,by go_num,(hH.far _ _ ζ).far _ _ ζ,(hN.set _ _).far _ _ ζ,(hP.far _ _ ζ).set _ _,λj hj=>?_,⟨b1,b2,b3,b4,b5⟩,((hu.setCell (Β (by simpa using b1)) _).setCell (Β (by simpa using b2)) _).drew⟩
      by_cases e:j=k
      ·subst e;simp
      ·simp only [Γ e];exact hf j ω
     case measure=>simp [intOf];omega
   ·obtain rfl:k=n:=ω;go_wp2;go_ret2;exact ⟨_,bn,bp,rfl,⟨hH,hN.ext (λj hj=>(hf j hj).1),hP.ext (λj hj=>(hf j hj).2),ω,h,⟨λx hx=>hx,λx hx=>hx,λ_ _=>rfl,λ_ _=>rfl⟩⟩,hu,ω,ω,ω⟩
theorem OZ {w:World} {br bn bp n:Nat} {nx pv:Nat->Nat} (h:wK w br bn bp n nx pv) (x:Int) (b:Bool) (hb:b=decide (0<=x/\x<n)) :
  Calls Tryz.prog 224 #[.pointer (some ⟨br,0,none⟩),.int .i64 x] w λe w'=>e=.returned (.bool b)/\w'=w:=by
 have hle:=h.le;have c0:=h.h0;clear h;rw [hb]
 by_cases h0:0<=x
 ·by_cases h1:x<n
  ·go_enter Tryz.func224,Tryz.ntmps224
   go_wp2;go_ret;exact ⟨bM (by simp [h0,h1]),rfl⟩
  ·go_enter Tryz.func224,Tryz.ntmps224
   go_wp2;go_ret;exact ⟨bM (by simp [h0,h1]),rfl⟩
 ·go_enter Tryz.func224,Tryz.ntmps224
  go_wp2;go_ret;exact ⟨bM ζ,rfl⟩
section
variable {w:World} {br bn bp n:Nat} {nx pv:Nat->Nat}
theorem qm (h:wK w br bn bp n nx pv) {x:Nat} (hx:x<n):Calls Tryz.prog 224 #[.pointer (some ⟨br,0,none⟩),.int .i64 (x:Int)] w λe w'=>e=.returned (.bool true)/\w'=w:=
 OZ h x true ζ
theorem zD (h:wK w br bn bp n nx pv) {x:Nat} (hx:x<n):Calls Tryz.prog 226 #[.pointer (some ⟨br,0,none⟩),.int .i64 (x:Int)] w λe w'=>e=.returned (.tuple #[.int .i64 (nx x:Int),.bool true])/\w'=w:=by
 have hle:=h.le;have c0:=h.h0;have c1:=h.nr.cell x hx;have kh:=qm h hx;have zS:(x:Int)<(n:Int):=ω;clear h
 go_enter Tryz.func226,Tryz.ntmps226
 go_wp2_with ((go_at_call 224;(with_reducible refine (kh).mono ?_);rintro e w9 ⟨rfl,aH⟩;rw [aH];clear aH w9))
 go_ret2;exact ⟨rfl,rfl⟩
theorem yP (nx:Nat->Nat) (x y j:Nat):(if j=y then Value.int .i64 (nx x:Int) else if j=x then Value.int .i64 (nx y:Int) else Value.int .i64 (nx j:Int))=.int .i64 (bT nx x y j:Int):=by
 unfold bT
 by_cases e1:j=y
 ·rw [Δ e1]
  by_cases e2:j=x
  ·rw [Δ e2,←e1,e2]
  ·rw [Γ e2,Δ e1]
 ·rw [Γ e1]
  by_cases e2:j=x
  ·rw [Δ e2,Δ e2]
  ·rw [Γ e2,Γ e2,Γ e1]
theorem x9 (nx pv:Nat->Nat) (x y j:Nat):(if j=nx x then Value.int .i64 (y:Int) else if j=nx y then Value.int .i64 (x:Int) else Value.int .i64 (pv j:Int))=.int .i64 (iH nx pv x y j:Int):=by
 unfold iH
 split
 ·rfl
 ·split<;>rfl
theorem jq (h:wK w br bn bp n nx pv) {x y:Nat} (hx:x<n) (hy:y<n):Calls Tryz.prog 223 #[.pointer (some ⟨br,0,none⟩),.int .i64 (x:Int),.int .i64 (y:Int)] w λe w'=>
  e=.returned (.bool true)/\wK w' br bn bp n (bT nx x y) (iH nx pv x y)/\aa [bn,bp] w w':=by
 have hle:=h.le;have c0:=h.h0;have c1:=h.h1;have d0:=h.nr.cell x hx;have d1:=h.nr.cell y hy;have f0:=h.nr.free x;have f1:=h.nr.free y;have ha:=h.rg.nn x hx;have hb:=h.rg.nn y hy;have e0:=h.pr.cell (nx x) ha;have e1:=h.pr.cell (nx y) hb;have g0:=h.pr.free (nx x);have g1:=h.pr.free (nx y);have kx:=qm h hx;have ky:=qm h hy;obtain ⟨n1,n2,n3⟩:=h.ne;obtain ⟨l1,l2,l3⟩:=h.lt;have i1:(x:Int)<(n:Int):=ω;have i2:(y:Int)<(n:Int):=ω;have i3:(nx x:Int)<(n:Int):=ω;have i4:(nx y:Int)<(n:Int):=ω;have H:=χ h;clear h;generalize ea:nx x=a at *;generalize eb:nx y=b at *
 by_cases hxy:x=y
 ·subst hxy;rw [ea] at eb;subst eb
  go_enter Tryz.func223,Tryz.ntmps223
  go_wp2_with (first
   | (go_at_call 224;(with_reducible refine (kx).mono ?_);rintro e w9 ⟨rfl,aH⟩;rw [aH];clear aH w9)
   | fail)
  go_region
  go_wp2
  go_region
  go_wp2
  go_region
  go_wp2;go_ret;have h:=H.out;refine ⟨rfl,⟨((((h.head.far _ _ n1).far _ _ n1).far _ _ n2).far _ _ n2),((((h.nr.set _ _).set _ _).far _ _ n3).far _ _ n3).ext (λj hj=>?_),((((h.pr.far _ _ (Ne.symm n3)).far _ _ (Ne.symm n3)).set _ _).set _ _).ext (λj hj=>?_),h.ne,h.le,h.rg.swap hx hy⟩,ν⟩
  ·have:=yP nx x x j;rw [ea] at this;exact this
  ·have:=x9 nx pv x x j;rw [ea] at this;exact this
 ·have hyx:y≠x:=λe=>hxy e.symm;have hab:a≠b:=λe=>hxy (H.out.rg.inj hx hy (by rw [ea,eb,e]))
  go_enter Tryz.func223,Tryz.ntmps223
  go_wp2_with (first
   | (go_at_call 224;(with_reducible refine (kx).mono ?_);rintro e w9 ⟨rfl,aH⟩;rw [aH];clear aH w9)
   | (go_at_call 224;(with_reducible refine (ky).mono ?_);rintro e w9 ⟨rfl,aH⟩;rw [aH];clear aH w9)
   | fail)
  go_region
  go_wp2
  go_region
  go_wp2
  go_region
  go_wp2;go_ret;have h:=H.out;refine ⟨rfl,⟨((((h.head.far _ _ n1).far _ _ n1).far _ _ n2).far _ _ n2),((((h.nr.set _ _).set _ _).far _ _ n3).far _ _ n3).ext (λj hj=>?_),((((h.pr.far _ _ (Ne.symm n3)).far _ _ (Ne.symm n3)).set _ _).set _ _).ext (λj hj=>?_),h.ne,h.le,h.rg.swap hx hy⟩,ν⟩
  ·have:=yP nx x y j;rw [ea,eb] at this;exact this
  ·have:=x9 nx pv x y j;rw [ea,eb] at this;exact this
theorem vT (h:wK w br bn bp n nx pv) {x:Nat} (hx:x<n):Calls Tryz.prog 217 #[.pointer (some ⟨br,0,none⟩),.int .i64 (x:Int)] w λe w'=>
  e=.returned (.bool true)/\wK w' br bn bp n (bT nx x (pv x)) (iH nx pv x (pv x))/\aa [bn,bp] w w':=by
 have hle:=h.le;have c1:=h.h1;have d0:=h.pr.cell x hx;have kx:=qm h hx;have ks:=jq h hx (h.rg.pp x hx);have zS:(x:Int)<(n:Int):=ω;clear h
 go_enter Tryz.func217,Tryz.ntmps217
 go_wp2_with (first
  | (go_at_call 224;(with_reducible refine (kx).mono ?_);rintro e w9 ⟨rfl,aH⟩;rw [aH];clear aH w9)
  | ((go_at_call 223;(with_reducible refine (ks).mono ?_));rintro e w1 ⟨rfl,hR,hu⟩)
  | fail)
 go_ret;exact ⟨rfl,hR,hu⟩
theorem Ez (h:wK w br bn bp n nx pv) {x:Nat} {t:List Nat} (hr:Ring nx (x::t)) (hl:∀z,z∈x::t->z<n):Calls Tryz.prog 218 #[.pointer (some ⟨br,0,none⟩),.int .i64 (x:Int)] w λe w'=>
  ∃v,e=.returned v/\w'.ownsRow w.heap.size 3 1 v (x::t).length (aT (nM (x::t)))/\aa [] w w':=by
 have hx:x<n:=hl x σ;have hlen:(x::t).length<=n:=iC n (x::t) hr.nd hl;have hle:=h.le;obtain ⟨l1,l2,l3⟩:=h.lt;have c0:=h.h0;have d0:=h.nr.cell x hx;have kx:=qm h hx;have zS:(x:Int)<(n:Int):=ω;have e0:=hr.at 0 σ;have hcell:∀ (W:World) (y:Nat),aa [] w W->y<n->W.cell? ⟨bn,y,none⟩=some (.int .i64 (nx y:Int)):=λW y hW hy=>hW.was (h.nr.cell y hy);have hc0:∀ (W:World),aa [] w W->W.cell? ⟨br,0,none⟩=some (.slice (some ⟨bn,0,none⟩) n n):=λW hW=>hW.was h.h0;have HR:=χ (ψ hr (ψ hl hcell))
 have ho0:(w.alloc (.cells #[.int .i64 (x:Int)] 3)).ownsRow w.heap.size 3 1 (.slice (some ⟨w.heap.size,0,none⟩) 1 1) 1 [.int .i64 (x:Int)]:=ou w [.int .i64 (x:Int)] 3 w.heap.size 1 1 rfl (Θ _) μ;have HO:=χ ho0;clear h hr hl hcell ho0
 go_enter Tryz.func218,Tryz.ntmps218
 go_wp2_with (first
  | (go_at_call 224;(with_reducible refine (kx).mono ?_);rintro e w9 ⟨rfl,aH⟩;rw [aH];clear aH w9)
  | fail)
 go_loopw [5,6] (λs5 s6 wr=>∃k:Nat,k<(x::t).length/\s6=.int .i64 ((nx ((x::t).getD k 0):Nat):Int)/\wr.ownsRow w.heap.size 3 1 s5 (k+1) (aT (nM ((x::t).take (k+1))))/\aa [] w wr) (λs5 _ _=>match s5 with | .slice _ l _=>n-l|_=>0)
 case atStart=>exact ⟨0,σ,rfl,HO.out,β⟩
 case round=>
  obtain ⟨k,hk,rfl,ho,hu⟩:=hrel;rename World=>wr;obtain ⟨a,c,rfl,hc⟩:=bz ho;have hat:=HR.out.1.at k hk;have hgk:(x::t).getD k 0=(x::t)[k]:=by rw [φ,ε hk];rfl
  rw [hgk,hat];have h0:=hc0 wr hu
  by_cases hk1:k+1<(x::t).length
  ·obtain ⟨y,hy⟩:∃y,(x::t)[k+1]?=some y:=⟨_,ε hk1⟩;have hg1:(x::t).getD (k+1) x=y:=by rw [φ,hy];rfl
   have hne:y≠x:=λe=>by
    have hp:=List.pairwise_iff_getElem.1 (List.nodup_iff_pairwise_ne.1 HR.out.1.nd) 0 (k+1) σ hk1 ω;rw [ε hk1] at hy;have h2:(x::t)[k+1]=y:=by injection hy
    exact hp (by rw [h2,e];rfl)
   have hyn:y<n:=HR.out.2.1 _ (Η hy);have e2:(x::t).take (k+1+1)=(x::t).take (k+1)++[y]:=by rw [Ϗ,hy];rfl
   have e3:(x::t).getD (k+1) 0=y:=by rw [φ,hy];rfl
   rw [hg1];have HE:=χ (ψ hk1 (ψ e2 (ψ e3 hu)));have hsz:=hu.size;have hkn:k+1<n:=ω;clear hat hgk hg1 e2 e3 hk1 hk hy hlen;have U4:(y:Int)<(n:Int):=ω;have hyx:((y:Int) == (x:Int))=false:=ζ;have d1:=λW hW=>HR.out.2.2 W y hW hyn;have HU:=χ hu
   go_wp2_with (first
    | ((at_builtin;refine aW rfl _ _ 77 rfl w.heap.size 3 (.int .i64 0) 1 8 Tryz.underlying77 fF rfl δ _ _ _ rfl (ho) [.int .i64 (y:Int)] rfl (by simp [Value.oneCell']) (by first|rfl|(rw [Κ];rfl)) μ ω (ω) ?_;intro v2 w2 ho2 hu2 kZ);(have hw2:aa [] w w2:=HU.out.own ho (Θ _) hu2);(have q0:=hc0 w2 hw2);(have q1:=d1 w2 hw2))
    | fail)
   obtain ⟨hk1,e2,e3,_⟩:=HE.out;obtain ⟨a2,c2,rfl,_⟩:=bz ho2;refine ⟨⟨k+1,hk1,by rw [e3],?_,hw2⟩,ζ⟩;rw [e2,Me,bZ];exact ho2
  ·have hkl:k+1=(x::t).length:=ω;have hg1:(x::t).getD (k+1) x=x:=by rw [φ,List.getElem?_eq_none ω];rfl
   rw [hg1];have e2:(x::t).take (k+1)=x::t:=List.take_of_length_le ω;rw [e2] at ho;have HO2:=χ (ψ ho (ψ hu hkl));clear hat hgk hg1 e2 hk1 hk ho hkl hlen;go_wp2;go_ret;obtain ⟨ho,hu,hkl⟩:=HO2.out;exact ⟨_,rfl,hkl▸ho,hu⟩
end
end Go.Proofs.YtnpdakpagnpanaaGreat
namespace Go.Proofs.YtnpdakpagnpanaaGreat
structure FG where
 nx:Nat->Nat
 pv:Nat->Nat
 up:Nat->Int
 mr:Nat->Bool
 K:Nat->List Nat
 R:Nat->List Nat
def FG.none:FG:=⟨id,id,λ_=>-1,λ_=>false,λ_=>[],λ_=>[]⟩
def pV (l:List Nat):Int:=match l with|[]=>-1|x::_=>(x:Int)
def ae {α:Type} (f:Nat->α) (x:Nat) (v:α):Nat->α:=λz=>if z=x then v else f z
def IM (G:FG) (x y:Nat):FG:={ G with nx:=bT G.nx x y,pv:=iH G.nx G.pv x y }
def prt (G:FG) (x:Nat):FG:=IM G x (G.pv x)
def uo (lt:Bool) (R l:List Nat):List Nat:=match R with
 | []=>l
 | t::s=>match l with
  | []=>t::s
  | x::r=>if lt then x::s++t::r else t::r++x::s
def eZ (lt:Nat->Nat->Bool) (h:Nat) (l:List Nat) (G:FG):FG:=match G.R h,l with
 | t::s,x::r=>{ IM G t x with R:=ae G.R h (uo (lt x t) (t::s) (x::r)) }
 | _,l=>{ G with R:=ae G.R h l }
def nG (h:Nat) (G:FG):Nat:=if G.R h=[] then 0 else 1
def dB (G:FG) (y x:Nat):FG:=
 let G1:=match G.K x with|[]=>G|k::_=>IM G k y
 { G1 with up:=ae G.up y x,mr:=ae G.mr y false,K:=ae G.K x (match G.K x with|[]=>[y]|k::t=>y::(t++[k])) }
def bf (G:FG) (x:Nat):FG:=match G.K x with
 | []=>G
 | k::t=>{ IM G x k with up:=ae (λz=>if z∈k::t then -1 else G.up z) x (-1),mr:=ae (λz=>if z∈k::t then false else G.mr z) x false,K:=ae G.K x [] }
end Go.Proofs.YtnpdakpagnpanaaGreat
namespace Go.Proofs.YtnpdakpagnpanaaGreat
open Go Go.RowKit
def ze (u k d:Nat->Int) (m:Nat->Bool) (j:Nat):Value:=if j % 4=0 then .int .i64 (u (j / 4)) else if j % 4=1 then .int .i64 (k (j / 4)) else if j % 4=2 then .int .i64 (d (j / 4)) else .bool (m (j / 4))
theorem wR (u k d:Nat->Int) (m:Nat->Bool) (x:Nat):ze u k d m (x*4)=.int .i64 (u x):=by unfold ze;rw [Δ ω,show x*4 / 4=x by omega]
theorem wQ (u k d:Nat->Int) (m:Nat->Bool) (x:Nat):ze u k d m (x*4+1)=.int .i64 (k x):=by unfold ze;rw [Γ ω,Δ ω,show (x*4+1) / 4=x by omega]
theorem wS (u k d:Nat->Int) (m:Nat->Bool) (x:Nat):ze u k d m (x*4+2)=.int .i64 (d x):=by unfold ze;rw [Γ ω,Γ ω,Δ ω,show (x*4+2) / 4=x by omega]
theorem wO (u k d:Nat->Int) (m:Nat->Bool) (x:Nat):ze u k d m (x*4+3)=.bool (m x):=by unfold ze;rw [Γ ω,Γ ω,Γ ω,show (x*4+3) / 4=x by omega]
theorem four (j:Nat):∃a,j=a*4\/j=a*4+1\/j=a*4+2\/j=a*4+3:=⟨j / 4,ω⟩
section
variable {w:World} {b m:Nat} {e:TypeId} {u k d:Nat->Int} {mr:Nat->Bool}
theorem qE (h:aJ w b e m (ze u k d mr)) (x:Nat) (v:Int):aJ (w.setCell ⟨b,x*4,none⟩ (.int .i64 v)) b e m (ze (ae u x v) k d mr):=by
 refine (h.set _ _).ext (λj _=>?_);obtain ⟨a,rfl|rfl|rfl|rfl⟩:=four j
 ·rw [wR,wR];unfold ae
  by_cases e:a=x
  ·rw [e,Δ rfl,Δ rfl]
  ·rw [Γ ω,Γ e]
 ·rw [wQ,wQ,Γ ω]
 ·rw [wS,wS,Γ ω]
 ·rw [wO,wO,Γ ω]
theorem oh (h:aJ w b e m (ze u k d mr)) (x:Nat) (v:Int):aJ (w.setCell ⟨b,x*4+1,none⟩ (.int .i64 v)) b e m (ze u (ae k x v) d mr):=by
 refine (h.set _ _).ext (λj _=>?_);obtain ⟨a,rfl|rfl|rfl|rfl⟩:=four j
 ·rw [wR,wR,Γ ω]
 ·rw [wQ,wQ];unfold ae
  by_cases e:a=x
  ·rw [e,Δ rfl,Δ rfl]
  ·rw [Γ ω,Γ e]
 ·rw [wS,wS,Γ ω]
 ·rw [wO,wO,Γ ω]
theorem p9 (h:aJ w b e m (ze u k d mr)) (x:Nat) (v:Int):aJ (w.setCell ⟨b,x*4+2,none⟩ (.int .i64 v)) b e m (ze u k (ae d x v) mr):=by
 refine (h.set _ _).ext (λj _=>?_);obtain ⟨a,rfl|rfl|rfl|rfl⟩:=four j
 ·rw [wR,wR,Γ ω]
 ·rw [wQ,wQ,Γ ω]
 ·rw [wS,wS];unfold ae
  by_cases e:a=x
  ·rw [e,Δ rfl,Δ rfl]
  ·rw [Γ ω,Γ e]
 ·rw [wO,wO,Γ ω]
theorem nT (h:aJ w b e m (ze u k d mr)) (x:Nat) (v:Bool):aJ (w.setCell ⟨b,x*4+3,none⟩ (.bool v)) b e m (ze u k d (ae mr x v)):=by
 refine (h.set _ _).ext (λj _=>?_);obtain ⟨a,rfl|rfl|rfl|rfl⟩:=four j
 ·rw [wR,wR,Γ ω]
 ·rw [wQ,wQ,Γ ω]
 ·rw [wS,wS,Γ ω]
 ·rw [wO,wO];unfold ae
  by_cases e:a=x
  ·rw [e,Δ rfl,Δ rfl]
  ·rw [Γ ω,Γ e]
end
theorem Cj (K:Nat->List Nat) (x:Nat) (l:List Nat):(λz=>pV (ae K x l z))=ae (λz=>pV (K z)) x (pV l):=by
 funext z;unfold ae;split<;>rfl
theorem iW (K:Nat->List Nat) (x:Nat) (l:List Nat):(λz=>((ae K x l z).length:Int))=ae (λz=>((K z).length:Int)) x (l.length:Int):=by
 funext z;unfold ae;split<;>rfl
def lT (G:FG):Nat->Value:=ze G.up (λx=>pV (G.K x)) (λx=>((G.K x).length:Int)) G.mr
theorem Qb (G:FG) (x:Nat):lT G (x*4)=.int .i64 (G.up x):=wR _ _ _ _ x
theorem Sa (G:FG) (x:Nat):lT G (x*4+1)=.int .i64 (pV (G.K x)):=wQ _ _ _ _ x
theorem Qi (G:FG) (x:Nat):lT G (x*4+2)=.int .i64 ((G.K x).length:Int):=wS _ _ _ _ x
theorem Rf (G:FG) (x:Nat):lT G (x*4+3)=.bool (G.mr x):=wO _ _ _ _ x
def iw (R:Nat->List Nat) (m:Nat):List Int:=(List.range m).map (λh=>pV (R h))
theorem q9 (R:Nat->List Nat) (m:Nat):(iw R m).length=m:=by unfold iw;simp
theorem LF (R:Nat->List Nat) {m h:Nat} (hh:h<m):(iw R m).getD h 0=pV (R h):=by unfold iw;simp [φ,hh]
theorem K7 (R:Nat->List Nat) (m h:Nat) (l:List Nat):(iw R m).set h (pV l)=iw (ae R h l) m:=by
 unfold iw ae;apply List.ext_getElem σ;intro i h1 h2;simp only [List.getElem_set,List.getElem_map,List.getElem_range]
 by_cases e:h=i
 ·subst e;rw [Δ rfl,Δ rfl]
 ·rw [Γ e,Γ (λe2=>e e2.symm)]
structure FB where
 n0:Nat
 c:Nat
 br:Nat
 bn:Nat
 bp:Nat
 bl:Nat
structure dX (w:World) (B:FB) (F:List Nat) (gt ct:Nat) (A:NS) (st:Nat) (G:FG):Prop where
 head:aJ w B.n0 196 4 (λj=>[Value.pointer (some ⟨B.c,0,none⟩),.pointer (some ⟨B.br,0,none⟩),.slice (some ⟨B.bl,0,none⟩) A.cs.length A.cs.length,.slice (some ⟨gt,0,none⟩) A.hs.length ct].getD j undef)
 cells:aB w B.c F A st
 rings:wK w B.br B.bn B.bp A.cs.length G.nx G.pv
 pl:aJ w B.bl 198 (A.cs.length*4) (lT G)
 ag:IZ w gt ct (iw G.R A.hs.length)
 d1:B.n0∉F/\B.br∉F/\B.bn∉F/\B.bp∉F/\B.bl∉F/\gt∉F
 d2:B.n0≠B.br/\B.n0≠B.bn/\B.n0≠B.bp/\B.n0≠B.bl/\B.n0≠gt
 d3:B.bl≠B.br/\B.bl≠B.bn/\B.bl≠B.bp/\B.bl≠gt/\gt≠B.br/\gt≠B.bn/\gt≠B.bp
def FB.blk (B:FB) (F:List Nat) (gt:Nat):List Nat:=B.n0::B.br::B.bn::B.bp::B.bl::gt::F
section
variable {w:World} {B:FB} {F:List Nat} {gt ct:Nat} {A:NS} {st:Nat} {G:FG}
theorem dX.lt (h:dX w B F gt ct A st G):∀x,x∈B.blk F gt->x<w.heap.size:=by
 intro x hx;have h1:=h.head.lt;have h2:=h.rings.lt;have h3:=h.pl.lt;have h4:=h.ag.lt;simp only [FB.blk,ρ] at hx;rcases hx with rfl|rfl|rfl|rfl|rfl|rfl|hx
 ·exact h1
 ·exact h2.1
 ·exact h2.2.1
 ·exact h2.2.2
 ·exact h3
 ·exact h4
 ·exact h.cells.lt x hx
theorem dX.h0 (h:dX w B F gt ct A st G):w.cell? ⟨B.n0,0,none⟩=some (.pointer (some ⟨B.c,0,none⟩)):=h.head.cellAt 0 ω rfl
theorem dX.h1 (h:dX w B F gt ct A st G):w.cell? ⟨B.n0,1,none⟩=some (.pointer (some ⟨B.br,0,none⟩)):=h.head.cellAt 1 ω rfl
theorem dX.h2 (h:dX w B F gt ct A st G):w.cell? ⟨B.n0,2,none⟩=some (.slice (some ⟨B.bl,0,none⟩) A.cs.length A.cs.length):=h.head.cellAt 2 ω rfl
theorem dX.h3 (h:dX w B F gt ct A st G):w.cell? ⟨B.n0,3,none⟩=some (.slice (some ⟨gt,0,none⟩) A.hs.length ct):=h.head.cellAt 3 ω rfl
theorem dX.p0 (h:dX w B F gt ct A st G) {x:Nat} (hx:x<A.cs.length):w.cell? ⟨B.bl,x*4,none⟩=some (.int .i64 (G.up x)):=h.pl.cellAt _ ω (Qb G x)
theorem dX.p1 (h:dX w B F gt ct A st G) {x:Nat} (hx:x<A.cs.length):w.cell? ⟨B.bl,x*4+1,none⟩=some (.int .i64 (pV (G.K x))):=h.pl.cellAt _ ω (Sa G x)
theorem dX.p2 (h:dX w B F gt ct A st G) {x:Nat} (hx:x<A.cs.length):w.cell? ⟨B.bl,x*4+2,none⟩=some (.int .i64 ((G.K x).length:Int)):=h.pl.cellAt _ ω (Qi G x)
theorem dX.p3 (h:dX w B F gt ct A st G) {x:Nat} (hx:x<A.cs.length):w.cell? ⟨B.bl,x*4+3,none⟩=some (.bool (G.mr x)):=h.pl.cellAt _ ω (Rf G x)
theorem dX.top (h:dX w B F gt ct A st G) {q:Nat} (hq:q<A.hs.length):w.cell? ⟨gt,q,none⟩=some (.int .i64 (pV (G.R q))):=by
 rw [h.ag.cell q (by rw [q9];exact hq),LF _ hq]
theorem dX.cap (h:dX w B F gt ct A st G):A.hs.length<=ct/\ct<=9223372036854775807:=by have:=h.ag.cap;rwa [q9] at this
theorem dX.cn (h:dX w B F gt ct A st G):B.n0≠B.c/\B.br≠B.c/\B.bn≠B.c/\B.bp≠B.c/\B.bl≠B.c/\gt≠B.c:=by
 have hm:=h.cells.mem;exact ⟨λe=>h.d1.1 (e▸hm),λe=>h.d1.2.1 (e▸hm),λe=>h.d1.2.2.1 (e▸hm),λe=>h.d1.2.2.2.1 (e▸hm),λe=>h.d1.2.2.2.2.1 (e▸hm),λe=>h.d1.2.2.2.2.2 (e▸hm)⟩
theorem dX.upd {w':World} {S:List Nat} (h:dX w B F gt ct A st G) (hu:aa S w w') (hS:∀x,x∈S->x∉B.blk F gt):dX w' B F gt ct A st G:=by
 have k:∀x,x∈B.blk F gt->x∉S:=λx hx hs=>hS x hs hx;exact ⟨h.head.upd hu (k _ (by simp [FB.blk])),h.cells.upd hu (λx hx hm=>hS x hx (by simp [FB.blk,hm])),h.rings.upd hu (k _ (by simp [FB.blk])) (k _ (by simp [FB.blk])) (k _ (by simp [FB.blk])),h.pl.upd hu (k _ (by simp [FB.blk])),h.ag.upd hu (k _ (by simp [FB.blk])),h.d1,h.d2,h.d3⟩
theorem dX.ai {w':World} (h:dX w B F gt ct A st G) (hu:aa [] w w'):dX w' B F gt ct A st G:=h.upd hu σ
theorem dX.dV {w':World} {F':List Nat} {A':NS} {st':Nat} (h:dX w B F gt ct A st G) (hu:aa F w w') (hC:aB w' B.c F' A' st') (hF:∀x,x∈F'->x∈F\/w.heap.size<=x) (e1:A'.cs.length=A.cs.length) (e2:A'.hs.length=A.hs.length):dX w' B F' gt ct A' st' G:=by
 have f:=h.d1;have g:=h.lt;have hf:∀x,x<w.heap.size->x∉F->x∉F':=λx hx hn hm=>by rcases hF x hm with h'|h';exact hn h';omega
 have l0:=g B.n0 (by simp [FB.blk]);have l1:=g B.br (by simp [FB.blk]);have l2:=g B.bn (by simp [FB.blk]);have l3:=g B.bp (by simp [FB.blk]);have l4:=g B.bl (by simp [FB.blk]);have l5:=g gt (by simp [FB.blk]);exact ⟨by rw [e1,e2];exact h.head.upd hu f.1,hC,by rw [e1];exact h.rings.upd hu f.2.1 f.2.2.1 f.2.2.2.1,by rw [e1];exact h.pl.upd hu f.2.2.2.2.1,by rw [e2];exact h.ag.upd hu f.2.2.2.2.2,⟨hf _ l0 f.1,hf _ l1 f.2.1,hf _ l2 f.2.2.1,hf _ l3 f.2.2.2.1,hf _ l4 f.2.2.2.2.1,hf _ l5 f.2.2.2.2.2⟩,h.d2,h.d3⟩
theorem dX.setSt {w':World} {st':Nat} (h:dX w B F gt ct A st G) (hu:aa [B.c] w w') (hC:aB w' B.c F A st'):dX w' B F gt ct A st' G:=
 h.dV (hu.mono (λx hx=>by simp at hx;rw [hx];exact h.cells.mem)) hC (λx hx=>Α hx) rfl rfl
theorem dX.bH {w':World} {nx pv:Nat->Nat} (h:dX w B F gt ct A st G) (hu:aa [B.bn,B.bp] w w') (hR:wK w' B.br B.bn B.bp A.cs.length nx pv):dX w' B F gt ct A st { G with nx:=nx,pv:=pv }:=by
 obtain ⟨f1,f2,f3,f4,f5,f6⟩:=h.d1;obtain ⟨e1,e2,e3,e4,e5⟩:=h.d2;obtain ⟨g1,g2,g3,g4,g5,g6,g7⟩:=h.d3;have m:∀x,x≠B.bn->x≠B.bp->x∉[B.bn,B.bp]:=λx h1 h2=>by simp [h1,h2]
 exact ⟨h.head.upd hu (m _ e2 e3),h.cells.upd hu (λx hx hm=>by simp at hx;rcases hx with rfl|rfl;exact f3 hm;exact f4 hm),hR,h.pl.upd hu (m _ g2 g3),h.ag.upd hu (m _ g6 g7),h.d1,h.d2,h.d3⟩
theorem dX.Gs {w':World} {up:Nat->Int} {mr:Nat->Bool} {K:Nat->List Nat} (h:dX w B F gt ct A st G) (hu:aa [B.bl] w w') (hP:aJ w' B.bl 198 (A.cs.length*4) (lT { G with up:=up,mr:=mr,K:=K })):dX w' B F gt ct A st { G with up:=up,mr:=mr,K:=K }:=by
 obtain ⟨f1,f2,f3,f4,f5,f6⟩:=h.d1;obtain ⟨e1,e2,e3,e4,e5⟩:=h.d2;obtain ⟨g1,g2,g3,g4,g5,g6,g7⟩:=h.d3;have m:∀x,x≠B.bl->x∉[B.bl]:=λx h1=>by simp [h1]
 exact ⟨h.head.upd hu (m _ e4),h.cells.upd hu (λx hx hm=>by simp at hx;subst hx;exact f5 hm),h.rings.upd hu (m _ (Ne.symm g1)) (m _ (Ne.symm g2)) (m _ (Ne.symm g3)),hP,h.ag.upd hu (m _ (Ne.symm g4)),h.d1,h.d2,h.d3⟩
theorem dX.gY (h:dX w B F gt ct A st G) (q:Nat) (l:List Nat):dX (w.setCell ⟨gt,q,none⟩ (.int .i64 (pV l))) B F gt ct A st { G with R:=ae G.R q l }:=by
 obtain ⟨f1,f2,f3,f4,f5,f6⟩:=h.d1;obtain ⟨e1,e2,e3,e4,e5⟩:=h.d2;obtain ⟨g1,g2,g3,g4,g5,g6,g7⟩:=h.d3;have hu:aa [gt] w (w.setCell ⟨gt,q,none⟩ (.int .i64 (pV l))):=(aa.refl _ _).setCell (Α σ) _;have m:∀x,x≠gt->x∉[gt]:=λx h1=>by simp [h1]
 refine ⟨h.head.upd hu (m _ e5),h.cells.upd hu (λx hx hm=>by simp at hx;subst hx;exact f6 hm),h.rings.upd hu (m _ (Ne.symm g5)) (m _ (Ne.symm g6)) (m _ (Ne.symm g7)),h.pl.upd hu (m _ g4),?_,h.d1,h.d2,h.d3⟩;have:=h.ag.set q (pV l);rwa [K7] at this
theorem dX.drewN (h:dX w B F gt ct A st G) (k:Nat):dX (w.drewN k) B F gt ct A st G:=h.ai ((aa.refl [] w).drewN k)
end
theorem xZ (w:World):Calls Tryz.prog 88 #[] w λe w'=>e=.returned (.agg #[.int .i64 (-1),.int .i64 (-1),.int .i64 0,.bool false])/\aa [] w w':=by
 go_enter Tryz.func88,Tryz.ntmps88
 go_wp2;exact bodyPost_ret (v:=.agg #[.int .i64 (-1),.int .i64 (-1),.int .i64 0,.bool false]) (by simp [results,Tryz.results88,go_sem]) rfl ⟨rfl,(aa.refl _ _).alloc _⟩
section
variable {w:World} {B:FB} {F:List Nat} {gt ct:Nat} {A:NS} {st:Nat} {G:FG}
theorem Hg (R:Nat->List Nat) (m h:Nat) (l:List Nat) (e:pV l=pV (R h)):iw (ae R h l) m=iw R m:=by
 unfold iw ae;refine List.map_congr_left (λi _=>?_)
 by_cases hi:i=h
 ·rw [Δ hi,e,hi]
 ·rw [Γ hi]
theorem dX.Ic (h:dX w B F gt ct A st G) (q:Nat) (l:List Nat) (e:pV l=pV (G.R q)):dX w B F gt ct A st { G with R:=ae G.R q l }:=
 ⟨h.head,h.cells,h.rings,h.pl,by rw [Hg G.R _ q l e];exact h.ag,h.d1,h.d2,h.d3⟩
theorem vI (M:dX w B F gt ct A st G) {q x:Nat} (r:List Nat) (hq:q<A.hs.length) (hx:bR A (x:Int)=true) (ht:∀t s,G.R q=t::s->bR A (t:Int)=true) :
  Calls Tryz.prog 220 #[.pointer (some ⟨B.n0,0,none⟩),.int .i64 (q:Int),.int .i64 (x:Int)] w λe w'=>e=.returned (.tuple #[])/\
   dX w' B F gt ct A (bS st (nG q G)) (eZ (λa b=>decide (dO A a b)) q (x::r) G)/\aa [B.c,B.bn,B.bp,gt] w w':=by
 have hst:=M.cells.mH;have h3:=M.h3;have ht0:=M.top hq;have hf0:=M.ag.free q;have hcap:=M.cap;have ZR:(q:Int)<(A.hs.length:Int):=ω;have Tz:q<65537:=by have:=M.cells.ok.h1;omega
 have hlb:=M.cells.ok.h1;cases hR:G.R q with
 | nil=>
  rw [hR] at ht0;have eq:nG q G=0:=by unfold nG;rw [Δ hR]
  have eg:eZ (λa b=>decide (dO A a b)) q (x::r) G={ G with R:=ae G.R q (x::r) }:=by unfold eZ;rw [hR]
  rw [eq,eg,fB hst];have HM:=χ (M.gY q (x::r));have hgl:=M.lt gt (by simp [FB.blk]);clear M hR eq eg hx ht;unfold pV at ht0;generalize Wp:A.hs.length=hl at *
  go_enter Tryz.func220,Tryz.ntmps220
  go_wp2;refine bodyPost_ret (v:=.tuple #[]) (by simp [results,Tryz.results220,go_sem]) rfl ?_;exact ⟨rfl,HM.out,(aa.refl _ _).setCell (Α σ) _⟩
 | cons t s=>
  have htt:=ht t s hR;obtain ⟨hx1,hx2⟩:=(ay _ _).1 hx;obtain ⟨ht1,ht2⟩:=(ay _ _).1 htt;rw [hR] at ht0;have eq:nG q G=1:=by unfold nG;rw [Γ (by rw [hR];simp)]
  have eg:eZ (λa b=>decide (dO A a b)) q (x::r) G={ IM G t x with R:=ae G.R q (uo (decide (dO A x t)) (t::s) (x::r)) }:=by unfold eZ;rw [hR]
  rw [eq,eg];have ks:=λW (hW:aa [] w W)=>jq (M.rings.ai hW) ht1 hx1;obtain ⟨g1,g2,g3,g4,g5,g6,g7⟩:=M.d3;obtain ⟨e1,e2,e3,e4,e5⟩:=M.d2;have m:∀x,x≠B.bn->x≠B.bp->x∉[B.bn,B.bp]:=λx h1 h2=>by simp [h1,h2]
  have r1:∀W,aa [B.bn,B.bp] w W->W.cell? ⟨B.n0,1,none⟩=some (.pointer (some ⟨B.br,0,none⟩)):=λW hW=>hW.kept M.h1 (m _ e2 e3);have r3:∀W,aa [B.bn,B.bp] w W->W.cell? ⟨B.n0,3,none⟩=some (.slice (some ⟨gt,0,none⟩) A.hs.length ct):=λW hW=>hW.kept M.h3 (m _ e2 e3);have rt:∀W,aa [B.bn,B.bp] w W->W.cell? ⟨gt,q,none⟩=some (.int .i64 (t:Int)):=λW hW=>hW.kept ht0 (m _ g6 g7);have ht0':w.cell? ⟨gt,q,none⟩=some (.int .i64 (t:Int)):=ht0;have htn:((t:Int) == -1)=false:=σ;have HM:=χ M;have HR:=χ hR;clear M hR eq eg ht ht0;generalize Wp:A.hs.length=hl at *
  go_enter Tryz.func220,Tryz.ntmps220
  go_wp2
  go_region_held3 (aa [B.bn,B.bp] w) (exact ν)
   (first
    | ((go_at_call 223;(with_reducible refine (ks _ β).mono ?_));rintro e w1 ⟨rfl,Jq,hu1⟩;(have hu2:aa [B.bn,B.bp] w w1:=aa.trans ν hu1)))
  have hM1:=HM.out.bH hu2 Jq;have kc:=λW (hW:aa [] w1 W)=>gW (hM1.cells.ai hW) x t hx htt;have c1:=hM1.cn;have mc:∀x,x≠B.c->x∉[B.c]:=λx h1=>by simp [h1]
  have r0:∀W,aa [B.c] w1 W->W.cell? ⟨B.n0,0,none⟩=some (.pointer (some ⟨B.c,0,none⟩)):=λW hW=>hW.kept hM1.h0 (mc _ c1.1);have r3':∀W,aa [B.c] w1 W->W.cell? ⟨B.n0,3,none⟩=some (.slice (some ⟨gt,0,none⟩) hl ct):=λW hW=>by rw [←Wp];exact hW.kept hM1.h3 (mc _ c1.1)
  have rt':∀W,aa [B.c] w1 W->W.cell? ⟨gt,q,none⟩=some (.int .i64 (t:Int)):=λW hW=>hW.kept (rt _ hu2) (mc _ c1.2.2.2.2.2);have rf':∀W,aa [B.c] w1 W->W.frozen? ⟨gt,q,none⟩=false:=λW hW=>hW.aM (rt _ hu2) (mc _ c1.2.2.2.2.2) (hu2.aM ht0' (m _ g6 g7) hf0);have nC:=χ (ψ hM1 hu2);clear hM1 ks r1 r3 rt ht0' hu2 Jq hu1 HM hf0;obtain ⟨b,hb⟩:∃b,decide (dO A x t)=b:=⟨_,rfl⟩;rw [hb] at kc;have HBB:=χ hb;clear hb;go_wp2
  go_region_held3 (aa [B.c] w1) (exact ν)
   (first
    | ((go_at_call 164;(with_reducible refine (kc _ β).mono ?_));rintro e w2 ⟨rfl,hC2,hu3⟩;(have jJ:aa [B.c] w1 w2:=aa.trans ν hu3)))
  have d0:=r0 _ jJ;have d3:=r3' _ jJ;have dt:=rt' _ jJ;have df:=rf' _ jJ;have hM2:=nC.out.1.setSt jJ hC2;have hU:aa [B.c,B.bn,B.bp,gt] w w2:=(nC.out.2.mono σ).trans (jJ.mono σ);cases b with
  | false=>
   have HF:=χ (ψ hM2 hU);clear hM2 hU r0 r3' rt' rf' kc jJ hC2 hu3;go_wp2;go_end0;rw [HBB.out];exact ⟨rfl,HF.out.1.Ic q (t::r++x::s) (by rw [show ({ G with nx:=bT G.nx t x,pv:=iH G.nx G.pv t x }:FG).R q=t::s from HR.out];rfl),HF.out.2⟩
  | true=>
   have HF:=χ (ψ hM2 hU);clear hM2 hU r0 r3' rt' rf' kc jJ hC2 hu3;go_wp2;go_end0;rw [HBB.out];exact ⟨rfl,HF.out.1.gY q (x::s++t::r),HF.out.2.setCell (Α σ) _⟩
theorem dX.under (M:dX w B F gt ct A st G) (x y:Nat) (l:List Nat) (v d:Int) (hv:v=pV l) (hd:d=(l.length:Int)) :
  dX ((((w.setCell ⟨B.bl,x*4+1,none⟩ (.int .i64 v)).setCell ⟨B.bl,x*4+2,none⟩ (.int .i64 d)).setCell ⟨B.bl,y*4,none⟩ (.int .i64 (x:Int))).setCell ⟨B.bl,y*4+3,none⟩ (.bool false)) B F gt ct A st { G with up:=ae G.up y x,mr:=ae G.mr y false,K:=ae G.K x l }:=by
 refine M.Gs ν ?_;unfold lT;simp only [Cj,iW,←hv,←hd];exact nT (qE (p9 (oh M.pl x v) x d) y x) y false
theorem yJ (M:dX w B F gt ct A st G) {x y:Nat} (hx:x<A.cs.length) (hy:y<A.cs.length) (hk:∀k t,G.K x=k::t->k<A.cs.length) (hl:(G.K x).length<=65536) :
  Calls Tryz.prog 225 #[.pointer (some ⟨B.n0,0,none⟩),.int .i64 (y:Int),.int .i64 (x:Int)] w λe w'=>e=.returned (.tuple #[])/\
   dX w' B F gt ct A st (dB G y x)/\aa [B.bn,B.bp,B.bl] w w':=by
 have hc1:=M.cells.ok.c1;have h2:=M.h2;have zS:(x:Int)<(A.cs.length:Int):=ω;have U4:(y:Int)<(A.cs.length:Int):=ω;have IE:=M.p1 hx;have VC:=M.p2 hx;have py0:=M.p0 hy;have py3:=M.p3 hy;have fx1:=M.pl.free (x*4+1);have fx2:=M.pl.free (x*4+2);have fy0:=M.pl.free (y*4);have fy3:=M.pl.free (y*4+3);have hw1:IntKind.i64.wrap (((G.K x).length:Int)+1)=((G.K x).length:Int)+1:=Μ _ ω;cases hK:G.K x with
 | nil=>
  rw [hK] at IE VC hw1;unfold pV at IE;have eg:dB G y x={ G with up:=ae G.up y x,mr:=ae G.mr y false,K:=ae G.K x [y] }:=by unfold dB;rw [hK]
  rw [eg];have HM:=χ M;clear M eg hK hk;generalize hcl:A.cs.length=n at *;simp only [List.length_nil] at VC hw1
  go_enter Tryz.func225,Tryz.ntmps225
  go_wp2
  go_region
  go_wp2;go_end0;exact ⟨rfl,(HM.out.under x y [y] y 1 rfl rfl).drewN 1,ν⟩
 | cons k t=>
  have hkn:=hk k t hK;rw [hK] at IE VC hw1 hl;simp only [Ω] at VC hw1 hl;unfold pV at IE;have eg:dB G y x={ IM G k y with up:=ae G.up y x,mr:=ae G.mr y false,K:=ae G.K x (y::(t++[k])) }:=by unfold dB;rw [hK]
  rw [eg];have ks:=λW (hW:aa [] w W)=>jq (M.rings.ai hW) hkn hy;obtain ⟨g1,g2,g3,g4,g5,g6,g7⟩:=M.d3;obtain ⟨e1,e2,e3,e4,e5⟩:=M.d2;have m:∀x,x≠B.bn->x≠B.bp->x∉[B.bn,B.bp]:=λx h1 h2=>by simp [h1,h2]
  have r1:∀W,aa [B.bn,B.bp] w W->W.cell? ⟨B.n0,1,none⟩=some (.pointer (some ⟨B.br,0,none⟩)):=λW hW=>hW.kept M.h1 (m _ e2 e3);have rx:∀W,aa [B.bn,B.bp] w W->W.cell? ⟨B.bl,x*4+1,none⟩=some (.int .i64 (k:Int)):=λW hW=>hW.kept IE (m _ g2 g3);have hkk:((k:Int) == -1)=false:=σ;have HM:=χ M;have hx2:=λW (hW:aa [B.bn,B.bp] w W)=>hW.kept VC (m _ g2 g3);have hy0:=λW (hW:aa [B.bn,B.bp] w W)=>hW.kept py0 (m _ g2 g3);have hy3:=λW (hW:aa [B.bn,B.bp] w W)=>hW.kept py3 (m _ g2 g3);have hf1:=λW (hW:aa [B.bn,B.bp] w W)=>hW.aM IE (m _ g2 g3) fx1
  have hf2:=λW (hW:aa [B.bn,B.bp] w W)=>hW.aM VC (m _ g2 g3) fx2;have hg0:=λW (hW:aa [B.bn,B.bp] w W)=>hW.aM py0 (m _ g2 g3) fy0;have hg3:=λW (hW:aa [B.bn,B.bp] w W)=>hW.aM py3 (m _ g2 g3) fy3;have X4:w.cell? ⟨B.bl,x*4+1,none⟩=some (.int .i64 (k:Int)):=IE;have H2:=χ (ψ hx2 (ψ hy0 (ψ hy3 (ψ hf1 (ψ hf2 (ψ hg0 hg3))))));clear M eg hK hk hx2 hy0 hy3 hf1 hf2 hg0 hg3 IE VC py0 py3 fx1 fx2 fy0 fy3;generalize hcl:A.cs.length=n at *;generalize htl:t.length=tl at *;have hdz:((tl:Int)+1+1)=(((y::(t++[k])).length:Nat):Int):=by first|(simp [htl];done)|(simp [htl];omega)
  have HDZ:=χ hdz;clear hdz htl
  go_enter Tryz.func225,Tryz.ntmps225
  go_wp2
  go_region
  go_wp2
  go_region_held3 (aa [B.bn,B.bp] w) (exact ν)
   (first
    | ((go_at_call 223;(with_reducible refine (ks _ β).mono ?_));rintro e w1 ⟨rfl,Jq,hu1⟩;(have hu2:aa [B.bn,B.bp] w w1:=aa.trans ν hu1)))
  have q1:=rx _ hu2;obtain ⟨q2,q3,q4,q5,q6,q7,q8⟩:=H2.out;have q2:=q2 _ hu2;have q3:=q3 _ hu2;have q4:=q4 _ hu2;have q5:=q5 _ hu2;have q6:=q6 _ hu2;have q7:=q7 _ hu2;have q8:=q8 _ hu2;have XC:wK w1 B.br B.bn B.bp A.cs.length (bT G.nx k y) (iH G.nx G.pv k y):=by rw [hcl];exact Jq
  have hM1:=HM.out.bH hu2 XC;have HF:=χ (ψ hM1 hu2);clear hM1 hu2 Jq XC hu1 ks r1 rx X4 HM H2;go_wp2;go_end0;have hU:aa [B.bn,B.bp,B.bl] w w1:=HF.out.2.mono (λz hz=>by simp at hz;rcases hz with rfl|rfl<;>simp);exact ⟨rfl,HF.out.1.under x y (y::(t++[k])) y _ rfl HDZ.out,ν⟩
theorem dX.TL (M:dX w B F gt ct A st G) (x:Nat) :
  dX ((((w.setCell ⟨B.bl,x*4,none⟩ (.int .i64 (-1))).setCell ⟨B.bl,x*4+1,none⟩ (.int .i64 (-1))).setCell ⟨B.bl,x*4+2,none⟩ (.int .i64 0)).setCell ⟨B.bl,x*4+3,none⟩ (.bool false)) B F gt ct A st { G with up:=ae G.up x (-1),mr:=ae G.mr x false,K:=ae G.K x [] }:=by
 refine M.Gs ν ?_;unfold lT;simp only [Cj,iW];exact nT (p9 (oh (qE M.pl x (-1)) x (-1)) x 0) x false
def Cm (l:List Nat) (up:Nat->Int):Nat->Int:=λz=>if z∈l then -1 else up z
def BU (l:List Nat) (mr:Nat->Bool):Nat->Bool:=λz=>if z∈l then false else mr z
theorem NY (l:List Nat) (x:Nat) (up:Nat->Int):ae (Cm l up) x (-1)=Cm (l++[x]) up:=by
 funext z;unfold ae Cm
 by_cases e:z=x
 ·rw [Δ e,Δ (by simp [e])]
 ·rw [Γ e];simp [e]
theorem Nb (l:List Nat) (x:Nat) (mr:Nat->Bool):ae (BU l mr) x false=BU (l++[x]) mr:=by
 funext z;unfold ae BU
 by_cases e:z=x
 ·rw [Δ e,Δ (by simp [e])]
 ·rw [Γ e];simp [e]
theorem NQ (up:Nat->Int):Cm [] up=up:=by funext z;unfold Cm;simp
theorem Mo (mr:Nat->Bool):BU [] mr=mr:=by funext z;unfold BU;simp
theorem yz (M:dX w B F gt ct A st G) {x:Nat} (hx:x<A.cs.length) (hr:Ring G.nx (G.K x)) (hk:∀z,z∈G.K x->z<A.cs.length) :
  Calls Tryz.prog 216 #[.pointer (some ⟨B.n0,0,none⟩),.int .i64 (x:Int)] w λe w'=>e=.returned (.tuple #[])/\
   dX w' B F gt ct A st (bf G x)/\aa [B.bn,B.bp,B.bl] w w':=by
 have hc1:=M.cells.ok.c1;have h2:=M.h2;have zS:(x:Int)<(A.cs.length:Int):=ω;have IE:=M.p1 hx;cases hK:G.K x with
 | nil=>
  rw [hK] at IE;unfold pV at IE;have eg:bf G x=G:=by unfold bf;rw [hK]
  rw [eg];have HM:=χ M;clear M eg hK hk hr;generalize hcl:A.cs.length=n at *
  go_enter Tryz.func216,Tryz.ntmps216
  go_wp2;refine bodyPost_ret (v:=.tuple #[]) (by simp [results,Tryz.results216,go_sem]) rfl ?_;exact ⟨rfl,HM.out,aa.refl _ _⟩
 | cons k t=>
  rw [hK] at IE hr hk;have X4:w.cell? ⟨B.bl,x*4+1,none⟩=some (.int .i64 (k:Int)):=IE;have eg:bf G x={ IM G x k with up:=ae (Cm (k::t) G.up) x (-1),mr:=ae (BU (k::t) G.mr) x false,K:=ae G.K x [] }:=by unfold bf;rw [hK];rfl
  rw [eg];have hkk:((k:Int) == -1)=false:=σ;have h1:=M.h1;have NP:=Ez M.rings hr hk;have hlen:(k::t).length<=A.cs.length:=iC A.cs.length (k::t) hr.nd hk;have hkn:k<A.cs.length:=hk k σ;have HM:=χ (ψ M hk);clear M eg hK hk IE hr;generalize hcl:A.cs.length=n at *
  go_enter Tryz.func216,Tryz.ntmps216
  go_wp2_with (first
   | ((go_at_call 218;(with_reducible refine (NP).mono ?_));rintro e w1 ⟨v1,rfl,ho1,hu1⟩;rw [←j6] at ho1;obtain ⟨g,cap,rfl,hZ,hb⟩:=IZ.iO ho1 (by simp [nM]);rw [j6] at *)
   | fail)
  obtain ⟨g1,g2,g3,g4,g5,g6,g7⟩:=HM.out.1.d3;obtain ⟨e1,e2,e3,e4,e5⟩:=HM.out.1.d2;have hlt:=HM.out.1.lt;have lbl:=hlt B.bl (by simp [FB.blk]);have hM1:=HM.out.1.ai hu1;have Xl:dX w1 B F gt ct A st { G with up:=Cm ((k::t).take 0) G.up,mr:=BU ((k::t).take 0) G.mr,K:=G.K }:=by rw [List.take_zero,NQ,Mo];exact hM1
  have nC:=χ (ψ Xl (ψ hu1 hZ));have hgl:=hZ.lt;have hgb:g≠B.bl:=ω;clear hM1 Xl hu1 hZ ho1 hlt NP h1 h2;have hll:(k::t).length=t.length+1:=rfl;rw [hll] at hlen;generalize htl:t.length=tl at *;obtain ⟨len,SF⟩:∃len,tl+1=len:=⟨_,rfl⟩;have hlI:(tl:Int)+1=(len:Int):=ω;rw [SF] at hll hlen ⊢;rw [hlI];clear hlI htl SF
  go_loopw [24] (λs24 wr=>∃j:Nat,j<=len/\s24=.int .i64 (j:Int)/\dX wr B F gt ct A st { G with up:=Cm ((k::t).take j) G.up,mr:=BU ((k::t).take j) G.mr,K:=G.K }/\IZ wr g cap (nM (k::t))/\aa [B.bl] w wr) (λs24 _=>len-(intOf s24).toNat)
  case atStart=>exact ⟨0,ω,rfl,nC.out.1,nC.out.2.2,nC.out.2.1.mono σ⟩
  case round=>
   obtain ⟨j,hj,rfl,vv,Wt,hur⟩:=hrel;rename World=>wr
   by_cases hjl:j<len
   ·obtain ⟨z,hz⟩:∃z,(k::t)[j]?=some z:=⟨_,ε ω⟩;have hzn:z<n:=hcl▸HM.out.2 z (Η hz);have hc:=Wt.cell j (by rw [j6];omega);have hgz:(nM (k::t)).getD j 0=(z:Int):=by unfold nM;rw [φ,ϑ,hz];rfl
    rw [hgz] at hc;have q2:=vv.h2;rw [hcl] at q2;have p0:=vv.p0 (x:=z) (by rw [hcl];exact hzn);have p3:=vv.p3 (x:=z) (by rw [hcl];exact hzn);have f0:=vv.pl.free (z*4);have f3:=vv.pl.free (z*4+3);have hzI:(z:Int)<(n:Int):=ω;have IW:(j:Int)<(len:Int):=ω;have hw1:IntKind.i64.wrap ((j:Int)+1)=(j:Int)+1:=Μ _ ω;have et:(k::t).take (j+1)=(k::t).take j++[z]:=by rw [Ϗ,hz];rfl
    have HR:=χ (ψ vv (ψ Wt (ψ hur et)));clear vv Wt hur et hz hgz;go_wp2
    go_region
    go_wp2;obtain ⟨vv,Wt,hur,et⟩:=HR.out;refine ⟨⟨j+1,ω,by go_num,?_,(Wt.upd ((aa.refl [B.bl] wr).setCell (Α σ) _) (by simpa using hgb)).upd (((aa.refl [B.bl] _).setCell (Α σ) _).drew) (by simpa using hgb),ν⟩,by simp [intOf];omega⟩;rw [et,←NY,←Nb];refine (vv.Gs (up:=ae (Cm ((k::t).take j) G.up) z (-1)) (mr:=ae (BU ((k::t).take j) G.mr) z false) (K:=G.K) ν ?_).drewN 1;exact nT (qE vv.pl z (-1)) z false
   ·obtain rfl:j=len:=ω;have et:(k::t).take j=k::t:=List.take_of_length_le ω;rw [et] at vv;have ks:=λW (hW:aa [] wr W)=>jq (vv.rings.ai hW) (x:=x) (y:=k) (by rw [hcl];exact hx) (by rw [hcl];exact hkn);have q1:=vv.h1;have q2:∀W,aa [B.bn,B.bp] wr W->W.cell? ⟨B.n0,2,none⟩=some (.slice (some ⟨B.bl,0,none⟩) n n):=λW hW=>by
     have:=hW.kept vv.h2 (by simp;exact ⟨e2,e3⟩);rwa [hcl] at this
    have p0:=λW (hW:aa [B.bn,B.bp] wr W)=>hW.kept (vv.p0 (x:=x) (by rw [hcl];exact hx)) (by simp;exact ⟨g2,g3⟩);have p1:=λW (hW:aa [B.bn,B.bp] wr W)=>hW.kept (vv.p1 (x:=x) (by rw [hcl];exact hx)) (by simp;exact ⟨g2,g3⟩);have p2:=λW (hW:aa [B.bn,B.bp] wr W)=>hW.kept (vv.p2 (x:=x) (by rw [hcl];exact hx)) (by simp;exact ⟨g2,g3⟩);have p3:=λW (hW:aa [B.bn,B.bp] wr W)=>hW.kept (vv.p3 (x:=x) (by rw [hcl];exact hx)) (by simp;exact ⟨g2,g3⟩);have HR:=χ (ψ vv (ψ hur (ψ p0 (ψ p1 (ψ p2 p3)))));clear vv Wt hur et p0 p1 p2 p3 HM nC
    go_wp2_with (first
     | ((go_at_call 223;(with_reducible refine (ks _ β).mono ?_));rintro e w2 ⟨rfl,hR2,hu2⟩;(have q3:=q2 _ hu2))
     | fail)
    obtain ⟨vv,hur,p0,p1,p2,p3⟩:=HR.out;have p0:=p0 _ hu2;have p1:=p1 _ hu2;have p2:=p2 _ hu2;have p3:=p3 _ hu2;have f0:=(vv.bH hu2 hR2).pl.free (x*4);have f1:=(vv.bH hu2 hR2).pl.free (x*4+1);have f2:=(vv.bH hu2 hR2).pl.free (x*4+2);have f3:=(vv.bH hu2 hR2).pl.free (x*4+3);have hb2:B.bl<w2.heap.size:=(vv.bH hu2 hR2).lt _ (by simp [FB.blk]);have pI:=χ (vv.bH hu2 hR2);have HU:=χ (ψ hur hu2);clear vv hR2 hur hu2 ks q1 q2 HR
    go_region_with (first
     | ((go_at_call 88;(with_reducible refine (xZ _).mono ?_));rintro e w3 ⟨rfl,hu3⟩;(have hv:aa [] w2 w3:=aa.trans β hu3);(have v0:=hv.was p0);(have v1:=hv.was p1);(have v2:=hv.was p2);(have v3:=hv.was p3);(have v4:=hv.was q3);(have z0:=hv.aM p0 σ f0);(have z1:=hv.aM p1 σ f1);(have z2:=hv.aM p2 σ f2);(have z3:=hv.aM p3 σ f3))
     | fail)
    all_goals
     go_wp2;go_end0;have hU:aa [B.bn,B.bp,B.bl] w w3:=((HU.out.1.mono σ).trans (HU.out.2.mono (λz hz=>by simp at hz;rcases hz with rfl|rfl<;>simp))).trans (hv.mono σ);exact ⟨rfl,(pI.out.ai hv).TL x,ν⟩
end
end Go.Proofs.YtnpdakpagnpanaaGreat
namespace Go.Proofs.YtnpdakpagnpanaaGreat
def few (G:FG) (ex:Nat->Nat) (l:List Nat) (d:Nat):Nat:=(l.filter (λc=>decide ((G.K c).length+(if G.mr c then 1 else 0)+ex c<d))).length
structure FF (n:Nat) (G:FG) (bC:Nat->Int) (L:Nat->Nat->Prop) (ex:Nat->Nat):Prop where
 rg:Rg n G.nx G.pv
 kid:∀x y,x<n->y∈G.K x->y<n/\G.up y=x
 Fg:∀y,y<n->G.up y=-1\/∃p:Nat,p<n/\G.up y=p/\y∈G.K p
 ring:∀x,x<n->Ring G.nx (G.K x)
 home:∀y p:Nat,y<n->G.up y=p->bC y=bC p/\0<bC y
 ord:∀y p:Nat,y<n->G.up y=p->L p y
 alone:∀y,y<n->¬0<bC y->G.up y=-1/\G.K y=[]/\G.nx y=y
 free:∀y,y<n->G.up y=-1->G.mr y=false
 cnt:∀x d,x<n->few G ex (G.K x) d<=d
structure FR (n:Nat) (G:FG) (bC:Nat->Int) (L:Nat->Nat->Prop) (g:Option Nat):Prop where
 ring:∀h,some h≠g->Ring G.nx (G.R h)
 mem:∀h y:Nat,some h≠g->(y∈G.R h↔1<=h/\y<n/\G.up y=-1/\bC y=h)
 top:∀h t s,some h≠g->G.R h=t::s->∀y,y∈s->L t y
section
variable {n:Nat} {G:FG} {bC:Nat->Int} {L:Nat->Nat->Prop} {ex:Nat->Nat}
theorem FF.zm (H:FF n G bC L ex) {x:Nat} (hx:x<n):(G.K x).length<=n:=iC n _ (H.ring x hx).nd (λy hy=>(H.kid x y hx hy).1)
theorem FF.above (H:FF n G bC L ex) {y p:Nat} (hy:y<n) (h:G.up y=p):p<n/\y∈G.K p:=by
 rcases H.Fg y hy with h1|⟨q,hq,h1,h2⟩
 ·omega
 ·obtain rfl:p=q:=ω;exact ⟨hq,h2⟩
theorem Uh (G:FG) (ex:Nat->Nat) (l:List Nat) (d:Nat):few G ex l d<=l.length:=List.length_filter_le _ _
theorem EG (G:FG) (ex:Nat->Nat) {l l':List Nat} (h:l.Perm l') (d:Nat):few G ex l d=few G ex l' d:=(h.filter _).length_eq
theorem qP {G G':FG} {ex VS:Nat->Nat} {l:List Nat} (d:Nat) (h:∀c,c∈l->(G'.K c).length+(if G'.mr c then 1 else 0)+VS c=(G.K c).length+(if G.mr c then 1 else 0)+ex c):few G' VS l d=few G ex l d:=by
 unfold few
 congr 1
 exact List.filter_congr (λc hc=>by rw [h c hc])
theorem CW {G G':FG} {ex VS:Nat->Nat} {l:List Nat} (d:Nat) (h:∀c,c∈l->(G.K c).length+(if G.mr c then 1 else 0)+ex c<=(G'.K c).length+(if G'.mr c then 1 else 0)+VS c):few G' VS l d<=few G ex l d:=by
 unfold few
 induction l with
 | nil=>simp
 | cons c t ih=>
  have ih':=ih (λc hc=>h c (by simp [hc]));have hc:=h c σ
  by_cases h1:(G'.K c).length+(if G'.mr c then 1 else 0)+VS c<d
  ·have h2:(G.K c).length+(if G.mr c then 1 else 0)+ex c<d:=ω;rw [List.filter_cons_of_pos (by simpa using h1),List.filter_cons_of_pos (by simpa using h2)];simpa using ih'
  ·rw [List.filter_cons_of_neg (by simpa using h1)]
   by_cases h2:(G.K c).length+(if G.mr c then 1 else 0)+ex c<d
   ·rw [List.filter_cons_of_pos (by simpa using h2)];simp only [Ω];omega
   ·rw [List.filter_cons_of_neg (by simpa using h2)];exact ih'
theorem Ee (G:FG) (ex:Nat->Nat) (c:Nat) (l:List Nat) (d:Nat):few G ex (c::l) d=(if (G.K c).length+(if G.mr c then 1 else 0)+ex c<d then 1 else 0)+few G ex l d:=by
 unfold few;rw [List.filter_cons]
 by_cases h:(G.K c).length+(if G.mr c then 1 else 0)+ex c<d
 ·rw [Δ (by simpa using h),Δ h];simp;omega
 ·rw [Γ (by simpa using h),Γ h];omega
theorem bq {α:Type} (f:Nat->α) (x:Nat) (v:α):ae f x v x=v:=by unfold ae;rw [Δ rfl]
theorem aQ {α:Type} (f:Nat->α) {x z:Nat} (v:α) (h:z≠x):ae f x v z=f z:=by unfold ae;rw [Γ h]
def Ro (l:List Nat) (y:Nat):List Nat:=match l with|[]=>[y]|k::t=>y::(t++[k])
theorem Ae (l:List Nat) (y:Nat):(Ro l y).Perm (y::l):=by
 cases l with
 | nil=>exact ό _
 | cons k t=>exact List.Perm.cons y (Φ (l₁:=t) (l₂:=[k]))
theorem kg (G:FG) (y x:Nat):(dB G y x).up=ae G.up y x:=rfl
theorem yD (G:FG) (y x:Nat):(dB G y x).mr=ae G.mr y false:=rfl
theorem oQ (G:FG) (y x:Nat):(dB G y x).K=ae G.K x (Ro (G.K x) y):=rfl
theorem rq (G:FG) (y x:Nat):(dB G y x).R=G.R:=by unfold dB;cases G.K x<;>rfl
theorem xw (G:FG) (y x:Nat):(dB G y x).nx=match G.K x with|[]=>G.nx|k::_=>bT G.nx k y:=by unfold dB;cases G.K x<;>rfl
theorem Ou (G:FG) (y x:Nat):(dB G y x).pv=match G.K x with|[]=>G.pv|k::_=>iH G.nx G.pv k y:=by unfold dB;cases G.K x<;>rfl
theorem FF.under (H:FF n G bC L ex) {x y:Nat} (hx:x<n) (hy:y<n) (ux:G.up x=-1) (uy:G.up y=-1) (hne:x≠y) (hh:bC y=bC x) (h0:0<bC x) (hL:L x y) (sy:G.nx y=y) (hd:(G.K y).length=(G.K x).length) (hex:ex y=0) :
  FF n (dB G y x) bC L ex/\(∀z,z<n->z≠y->G.up z=-1->(dB G y x).nx z=G.nx z)/\(∀l:List Nat,Ring G.nx l->y∉l->(∀z,z∈l->z∉G.K x)->Ring (dB G y x).nx l):=by
 have kx:∀a z,a<n->z∈G.K a->z≠x/\z≠y:=λa z ha hz=>by
  have:=(H.kid a z ha hz).2;exact ⟨λe=>by subst e;omega,λe=>by subst e;omega⟩
 have far:∀z,z≠y->z∉G.K x->(dB G y x).nx z=G.nx z:=λz h1 h2=>by
  rw [xw];cases hK:G.K x with
  | nil=>rfl
  | cons k t=>exact ig (λe=>h2 (by rw [hK,e];simp)) h1
 have nk:∀z,G.up z=-1->z∉G.K x:=λz hu hm=>by
  have:=(H.kid x z hx hm).2;omega
 have rl:∀l:List Nat,Ring G.nx l->y∉l->(∀z,z∈l->z∉G.K x)->Ring (dB G y x).nx l:=λl hr h1 h2=>hr.far (λz hz=>far z (λe=>h1 (e▸hz)) (h2 z hz));have mem:∀z,z∈Ro (G.K x) y↔z=y\/z∈G.K x:=λz=>by rw [(Ae _ _).mem_iff];simp
 refine ⟨⟨?_,λa z ha hz=>?_,λz hz=>?_,λa ha=>?_,λz p hz hu=>?_,λz p hz hu=>?_,λz hz h1=>?_,λz hz hu=>?_,λa d ha=>?_⟩,λz hz h1 h2=>far z h1 (nk z h2),rl⟩
 ·rw [xw,Ou];cases hK:G.K x with
  | nil=>exact H.rg
  | cons k t=>exact H.rg.swap (H.kid x k hx (by rw [hK];simp)).1 hy
 ·rw [oQ] at hz;rw [kg]
  by_cases e:a=x
  ·subst e;rw [bq,mem] at hz;rcases hz with rfl|hz
   ·exact ⟨hy,bq _ _ _⟩
   ·exact ⟨(H.kid a z ha hz).1,by rw [aQ _ _ (kx a z ha hz).2];exact (H.kid a z ha hz).2⟩
  ·rw [aQ _ _ e] at hz;exact ⟨(H.kid a z ha hz).1,by rw [aQ _ _ (kx a z ha hz).2];exact (H.kid a z ha hz).2⟩
 ·rw [kg,oQ]
  by_cases e:z=y
  ·subst e;exact Β ⟨x,hx,bq _ _ _,by rw [bq,mem];exact Α rfl⟩
  ·rw [aQ _ _ e];rcases H.Fg z hz with h1|⟨p,hp,h1,h2⟩
   ·exact Α h1
   ·refine Β ⟨p,hp,h1,?_⟩
    by_cases e2:p=x
    ·rw [e2,bq,mem];rw [e2] at h2;exact Β h2
    ·rw [aQ _ _ e2];exact h2
 ·rw [oQ]
  by_cases e:a=x
  ·subst e;rw [bq,xw];have hr:=H.ring a ha;cases hK:G.K a with
   | nil=>exact gU.2 sy
   | cons k t=>
    rw [hK] at hr
    have hj:=Ring.join hr (gU.2 sy) (λz hz hm=>by
     simp at hm;subst hm
     exact (kx a z ha (by rw [hK];exact hz)).2 rfl)
    exact Ring.Qj (a:=[k]) (b:=y::t) hj
  ·rw [aQ _ _ e]
   exact rl _ (H.ring a ha) (λhm=>(kx a y ha hm).2 rfl) (λz hz hm=>e (by
    have:=(H.kid a z ha hz).2;have:=(H.kid x z hx hm).2
    omega))
 ·rw [kg] at hu
  by_cases e:z=y
  ·subst e;rw [bq] at hu;obtain rfl:p=x:=ω;exact ⟨hh,ω⟩
  ·rw [aQ _ _ e] at hu;exact H.home z p hz hu
 ·rw [kg] at hu
  by_cases e:z=y
  ·subst e;rw [bq] at hu;obtain rfl:p=x:=ω;exact hL
  ·rw [aQ _ _ e] at hu;exact H.ord z p hz hu
 ·have e1:z≠y:=λe=>h1 (by rw [e,hh];exact h0);have e2:z≠x:=λe=>h1 (by rw [e];exact h0);obtain ⟨a1,a2,a3⟩:=H.alone z hz h1;exact ⟨by rw [kg,aQ _ _ e1];exact a1,by rw [oQ,aQ _ _ e2];exact a2,by rw [far z e1 (nk z a1)];exact a3⟩
 ·rw [kg] at hu;rw [yD]
  by_cases e:z=y
  ·subst e;rw [bq]
  ·rw [aQ _ _ e] at hu ⊢;exact H.free z hz hu
 ·have old:∀b:Nat,b<n->few (dB G y x) ex (G.K b) d=few G ex (G.K b) d:=λb hb=>qP d (λc hc=>by
   have:=kx b c hb hc
   rw [oQ,yD,aQ _ _ this.1,aQ _ _ this.2])
  by_cases e:a=x
  ·subst e;rw [show (dB G y a).K a=Ro (G.K a) y from bq _ _ _,EG _ _ (Ae _ _),Ee,old a ha,oQ,yD,bq,aQ _ _ (Ne.symm hne),hex];have h1:=H.cnt a d ha;have h2:=Uh G ex (G.K a) d;simp only [ϟ,if_false,ϓ]
   split<;>omega
  ·rw [show (dB G y x).K a=G.K a from aQ _ _ e,old a ha];exact H.cnt a d ha
end
def jd (T:List Int) (d:Nat):List Int:=T++List.replicate (d+1-T.length) (-1)
def mK (T:List Int):Nat:=(T.filter (λy=>decide (y≠-1))).length
structure TD where
 T:List Int
 G:FG
 q:Nat
def Gu (lt:Nat->Nat->Bool):Nat->List Int->Nat->FG->Nat->TD
 | 0,T,x,G,q=>⟨T,G,q⟩
 | f+1,T,x,G,q=>
  if (jd T (G.K x).length).getD (G.K x).length (-1)=-1 then ⟨(jd T (G.K x).length).set (G.K x).length x,G,q⟩
  else if lt ((jd T (G.K x).length).getD (G.K x).length (-1)).toNat x then Gu lt f ((jd T (G.K x).length).set (G.K x).length (-1)) ((jd T (G.K x).length).getD (G.K x).length (-1)).toNat (dB G x ((jd T (G.K x).length).getD (G.K x).length (-1)).toNat) (q+1)
  else Gu lt f ((jd T (G.K x).length).set (G.K x).length (-1)) x (dB G ((jd T (G.K x).length).getD (G.K x).length (-1)).toNat x) (q+1)
def tid (lt:Nat->Nat->Bool):List Nat->TD->TD
 | [],D=>D
 | x::rs,D=>tid lt rs (Gu lt (mK D.T+1) D.T x D.G D.q)
theorem Bg (T:List Int) (d:Nat):(jd T d).length=max T.length (d+1):=by unfold jd;simp;omega
theorem RB (a b:List Int):mK (a++b)=mK a+mK b:=by unfold mK;simp
theorem Qz (k:Nat):mK (List.replicate k (-1))=0:=by
 unfold mK;rw [List.length_eq_zero_iff,List.filter_eq_nil_iff];intro a ha;have:=List.eq_of_mem_replicate ha;simp [this]
theorem Qu (T:List Int) (d:Nat):mK (jd T d)=mK T:=by unfold jd;rw [RB,Qz];omega
theorem Cr:∀ (T:List Int) (d:Nat) (v u:Int),T[d]?=some u->mK (T.set d v)+(if u=-1 then 0 else 1)=mK T+(if v=-1 then 0 else 1)
 | [],d,v,u,h=>by simp at h
 | a::t,0,v,u,h=>by
  have e:a=u:=by simpa using h
  subst e;have c:∀z:Int,mK (z::t)=(if z=-1 then 0 else 1)+mK t:=λz=>by
   unfold mK
   by_cases hz:z=-1
   ·rw [List.filter_cons_of_neg (by simpa using hz),Δ hz];omega
   ·rw [List.filter_cons_of_pos (by simpa using hz),Γ hz];simp;omega
  show mK (v::t)+_=_
  rw [c,c];omega
 | a::t,d+1,v,u,h=>by
  have ih:=Cr t d v u (by simpa using h);have c:∀l:List Int,mK (a::l)=(if a=-1 then 0 else 1)+mK l:=λl=>by
   unfold mK
   by_cases hz:a=-1
   ·rw [List.filter_cons_of_neg (by simpa using hz),Δ hz];omega
   ·rw [List.filter_cons_of_pos (by simpa using hz),Γ hz];simp;omega
  show mK (a::t.set d v)+_=_
  rw [c,c];omega
def tq (n:Nat) (G:FG) (bC:Nat->Int) (h:Nat) (z:Nat):Prop:=z<n/\G.up z=-1/\bC z=h
structure TT (n:Nat) (bC:Nat->Int) (L:Nat->Nat->Prop) (h:Nat) (T:List Int) (xs:List Nat) (G:FG):Prop where
 ff:FF n G bC L (λ_=>0)
 fr:FR n G bC L (some h)
 zero:G.R h=[]
 one:∀y,tq n G bC h y->G.nx y=y
 tab:∀ (d:Nat) (y:Int),T[d]?=some y->y=-1\/∃z:Nat,y=z/\tq n G bC h z/\(G.K z).length=d/\z∉xs
 nd:xs.Nodup
 xr:∀z,z∈xs->tq n G bC h z
 all:∀z,tq n G bC h z->z∈xs\/(z:Int)∈T
section
variable {n:Nat} {bC:Nat->Int} {L:Nat->Nat->Prop} {h:Nat} {T:List Int} {xs:List Nat} {G:FG}
theorem TT.pad (H:TT n bC L h T xs G) (d:Nat):TT n bC L h (jd T d) xs G:=by
 refine ⟨H.ff,H.fr,H.zero,H.one,λe y hy=>?_,H.nd,H.xr,λz hz=>(H.all z hz).imp id (λhm=>by unfold jd;simp [hm])⟩;unfold jd at hy
 by_cases he:e<T.length
 ·rw [Ρ he] at hy;exact H.tab e y hy
 ·rw [ϊ ω] at hy;exact Α (List.eq_of_mem_replicate (Η hy))
theorem ql (T:List Int) (d:Nat) (v z:Int):z∈T.set d v↔(z=v/\d<T.length)\/∃e,e≠d/\T[e]?=some z:=by
 rw [List.mem_iff_getElem?];constructor
 ·rintro ⟨e,he⟩;rw [ύ] at he
  by_cases hd:d=e
  ·rw [Δ hd] at he
   by_cases hl:d<T.length
   ·rw [Δ hl] at he;injection he with he;exact Α ⟨he.symm,ω⟩
   ·rw [Γ hl] at he;cases he
  ·rw [Γ hd] at he;exact Β ⟨e,λh'=>hd h'.symm,he⟩
 ·rintro (⟨rfl,hl⟩|⟨e,hne,he⟩)
  ·exact ⟨d,by rw [ύ,Δ rfl,Δ hl]⟩
  ·exact ⟨e,by rw [ύ,Γ (Ne.symm hne)];exact he⟩
theorem TT.place {x:Nat} {rs:List Nat} (H:TT n bC L h T (x::rs) G) {d:Nat} (hd:(G.K x).length=d) (hT:T[d]?=some (-1)):TT n bC L h (T.set d x) rs G:=by
 have hnd:=Ζ.1 H.nd;have hdl:d<T.length:=(List.getElem?_eq_some_iff.1 hT).1;refine ⟨H.ff,H.fr,H.zero,H.one,λe y hy=>?_,hnd.2,λz hz=>H.xr z (by simp [hz]),λz hz=>?_⟩
 ·rw [ύ] at hy
  by_cases he:d=e
  ·rw [Δ he,Δ ω] at hy
   injection hy with hy
   exact Β ⟨x,hy.symm,H.xr x σ,ω,hnd.1⟩
  ·rw [Γ he] at hy;rcases H.tab e y hy with h1|⟨z,h1,h2,h3,h4⟩
   ·exact Α h1
   ·exact Β ⟨z,h1,h2,h3,λhm=>h4 (by simp [hm])⟩
 ·rcases H.all z hz with h1|h1
  ·rcases ρ.1 h1 with rfl|h1
   ·exact Β ((ql _ _ _ _).2 (Α ⟨rfl,hdl⟩))
   ·exact Α h1
  ·obtain ⟨e,he⟩:=List.mem_iff_getElem?.1 h1;refine Β ((ql _ _ _ _).2 (Β ⟨e,λe2=>?_,he⟩));subst e2;rw [hT] at he
   injection he with he
   omega
theorem TT.link {x z hi lo:Nat} {rs:List Nat} (H:TT n bC L h T (x::rs) G) {d:Nat} (hd:(G.K x).length=d) (hT:T[d]?=some (z:Int)) (hl:(hi=x/\lo=z)\/(hi=z/\lo=x)) (hL:L hi lo) (h1:1<=h) :
  TT n bC L h (T.set d (-1)) (hi::rs) (dB G lo hi):=by
 have hnd:=Ζ.1 H.nd;have Ag:=H.xr x σ;obtain ⟨z',e,IY,hzd,hzx⟩:∃z':Nat,(z:Int)=z'/\tq n G bC h z'/\(G.K z').length=d/\z'∉x::rs:=by
  rcases H.tab d z hT with h2|h2
  ·omega
  ·exact h2
 obtain rfl:z=z':=ω;have hzne:z≠x:=λe=>hzx (by simp [e]);have YA:z∉rs:=λhm=>hzx (by simp [hm]);have hir:tq n G bC h hi:=by rcases hl with ⟨e,_⟩|⟨e,_⟩<;>subst e<;>assumption
 have lor:tq n G bC h lo:=by rcases hl with ⟨_,e⟩|⟨_,e⟩<;>subst e<;>assumption
 have hid:(G.K hi).length=d:=by rcases hl with ⟨e,_⟩|⟨e,_⟩<;>subst e<;>assumption
 have lod:(G.K lo).length=d:=by rcases hl with ⟨_,e⟩|⟨_,e⟩<;>subst e<;>assumption
 have hne:hi≠lo:=by rcases hl with ⟨e1,e2⟩|⟨e1,e2⟩<;>subst e1 e2<;>omega
 have hirs:hi∉rs:=by rcases hl with ⟨e,_⟩|⟨e,_⟩<;>subst e;exact hnd.1;exact YA
 have lors:lo∉rs:=by rcases hl with ⟨_,e⟩|⟨_,e⟩<;>subst e;exact YA;exact hnd.1
 have hs:=H.one lo lor;have hh:(0:Int)<bC hi:=by rw [hir.2.2];omega
 obtain ⟨hF,hnx,hrl⟩:=H.ff.under hir.1 lor.1 hir.2.1 lor.2.1 hne (by rw [lor.2.2,hir.2.2]) hh hL hs ω rfl;have Ju:∀w,w≠lo->(dB G lo hi).up w=G.up w:=λw hw=>by rw [kg,aQ _ _ hw]
 have upl:(dB G lo hi).up lo=hi:=by rw [kg,bq]
 have rt:∀g w,tq n (dB G lo hi) bC g w↔tq n G bC g w/\w≠lo:=λg w=>by
  unfold tq
  by_cases e:w=lo
  ·subst e;rw [upl];constructor
   ·rintro ⟨_,h2,_⟩;omega
   ·rintro ⟨_,h2⟩;exact absurd rfl h2
  ·rw [Ju w e];simp [e]
 have kn:∀w,w≠hi->(dB G lo hi).K w=G.K w:=λw hw=>by rw [oQ,aQ _ _ hw]
 have Kj:∀g,some g≠some h->∀w,w∈G.R g->w≠lo/\w∉G.K hi:=λg hg w hw=>by
  have hm:=(H.fr.mem g w hg).1 hw;refine ⟨λe=>hg ?_,λhk=>?_⟩
  ·subst e;have:=lor.2.2;have:=hm.2.2.2;congr 1;omega
  ·have:=(H.ff.kid hi w hir.1 hk).2;omega
 refine ⟨hF,⟨λg hg=>?_,λg w hg=>?_,λg t s hg hR=>?_⟩,by rw [rq];exact H.zero,λw hw=>?_,λe y hy=>?_,Ζ.2 ⟨hirs,hnd.2⟩,λw hw=>?_,λw hw=>?_⟩
 ·rw [rq];exact hrl _ (H.fr.ring g hg) (λhm=>(Kj g hg lo hm).1 rfl) (λw hw=>(Kj g hg w hw).2)
 ·rw [rq,H.fr.mem g w hg];constructor
  ·rintro ⟨a1,a2,a3,a4⟩;have hw:w≠lo:=λe=>hg (by subst e;have:=lor.2.2;congr 1;omega);exact ⟨a1,a2,by rw [Ju w hw];exact a3,a4⟩
  ·rintro ⟨a1,a2,a3,a4⟩;have hw:w≠lo:=λe=>by subst e;rw [upl] at a3;omega
   exact ⟨a1,a2,by rw [Ju w hw] at a3;exact a3,a4⟩
 ·rw [rq] at hR;exact H.fr.top g t s hg hR
 ·obtain ⟨hw1,hwl⟩:=(rt h w).1 hw;rw [hnx w hw1.1 hwl hw1.2.1];exact H.one w hw1
 ·rw [ύ] at hy
  by_cases he:d=e
  ·rw [Δ he] at hy
   by_cases hl2:d<T.length
   ·rw [Δ hl2] at hy;injection hy with hy;exact Α hy.symm
   ·rw [Γ hl2] at hy;cases hy
  ·rw [Γ he] at hy;rcases H.tab e y hy with a1|⟨w,a1,a2,a3,a4⟩
   ·exact Α a1
   ·have w1:w≠x:=λe2=>a4 (by simp [e2]);have w2:w≠z:=λe2=>by subst e2;omega
    have whi:w≠hi:=by rcases hl with ⟨e2,_⟩|⟨e2,_⟩<;>subst e2<;>assumption
    have wlo:w≠lo:=by rcases hl with ⟨_,e2⟩|⟨_,e2⟩<;>subst e2<;>assumption
    refine Β ⟨w,a1,(rt h w).2 ⟨a2,wlo⟩,by rw [kn w whi];exact a3,λhm=>?_⟩;rcases ρ.1 hm with e2|hm
    ·exact whi e2
    ·exact a4 (by simp [hm])
 ·rcases ρ.1 hw with rfl|hw
  ·exact (rt h w).2 ⟨hir,hne⟩
  ·exact (rt h w).2 ⟨H.xr w (by simp [hw]),λe=>lors (e▸hw)⟩
 ·obtain ⟨hw,hwl⟩:=(rt h w).1 hw;have fin:w=x\/w=z->w∈hi::rs:=λhc=>by
   rcases hl with ⟨e1,e2⟩|⟨e1,e2⟩
   ·rcases hc with hc|hc
    ·simp [e1,hc]
    ·exact absurd (hc.trans e2.symm) hwl
   ·rcases hc with hc|hc
    ·exact absurd (hc.trans e2.symm) hwl
    ·simp [e1,hc]
  rcases H.all w hw with a|a
  ·rcases ρ.1 a with a|a
   ·exact Α (fin (Α a))
   ·exact Α (by simp [a])
  ·obtain ⟨e,he⟩:=List.mem_iff_getElem?.1 a
   by_cases hed:e=d
   ·subst hed;rw [hT] at he
    injection he with he
    exact Α (fin (Β ω))
   ·exact Β ((ql _ _ _ _).2 (Β ⟨e,hed,he⟩))
theorem getD_some {T:List Int} {d:Nat} (hd:d<T.length):T[d]?=some (T.getD d (-1)):=by
 rw [φ,ε hd];rfl
def FJ (n:Nat) (G:FG) (bC:Nat->Int) (h:Nat) (L:Nat->Nat->Prop) (lt:Nat->Nat->Bool):Prop:=∀a b,a<n->b<n->bC a=h->bC b=h->a≠b->(lt a b=true->L a b)/\(lt a b=false->L b a)
theorem TT.step {lt:Nat->Nat->Bool} {x:Nat} {rs:List Nat} (H:TT n bC L h T (x::rs) G) (hl:FJ n G bC h L lt) (h1:1<=h) :
  (jd T (G.K x).length)[(G.K x).length]?=some ((jd T (G.K x).length).getD (G.K x).length (-1))/\
  ((jd T (G.K x).length).getD (G.K x).length (-1)=-1->TT n bC L h ((jd T (G.K x).length).set (G.K x).length x) rs G/\mK ((jd T (G.K x).length).set (G.K x).length x)=mK T+1)/\
  ((jd T (G.K x).length).getD (G.K x).length (-1)≠-1->∃z:Nat,(jd T (G.K x).length).getD (G.K x).length (-1)=z/\z<n/\z≠x/\bC z=h/\mK ((jd T (G.K x).length).set (G.K x).length (-1))+1=mK T/\
   (lt z x=true->TT n bC L h ((jd T (G.K x).length).set (G.K x).length (-1)) (z::rs) (dB G x z))/\(lt z x=false->TT n bC L h ((jd T (G.K x).length).set (G.K x).length (-1)) (x::rs) (dB G z x))):=by
 have hp:=H.pad (G.K x).length;have ho:=Qu T (G.K x).length;have hlen:=Bg T (G.K x).length;generalize jd T (G.K x).length=P at *;have hg:P[(G.K x).length]?=some (P.getD (G.K x).length (-1)):=getD_some ω;refine ⟨hg,λe=>?_,λe=>?_⟩
 ·rw [e] at hg;refine ⟨hp.place rfl hg,?_⟩;have:=Cr P (G.K x).length x (-1) hg;rw [Δ rfl,Γ ω] at this;omega
 ·rcases hp.tab _ _ hg with e1|⟨z,e1,e2,e3,e4⟩
  ·exact absurd e1 e
  ·rw [e1] at hg;have hzx:z≠x:=λe=>e4 (by simp [e]);have Ag:=hp.xr x σ;have hk:=hl z x e2.1 Ag.1 e2.2.2 Ag.2.2 hzx;have:=Cr P (G.K x).length (-1) z hg;rw [Δ rfl,Γ ω] at this;exact ⟨z,e1,e2.1,hzx,e2.2.2,ω,λht=>hp.link rfl hg (Β ⟨rfl,rfl⟩) (hk.1 ht) h1,λht=>hp.link rfl hg (Α ⟨rfl,rfl⟩) (hk.2 ht) h1⟩
theorem FE {lt:Nat->Nat->Bool} {rs:List Nat} (h1:1<=h) (hl:∀G,FJ n G bC h L lt):∀ (f:Nat) (T:List Int) (x:Nat) (G:FG) (q:Nat),TT n bC L h T (x::rs) G->mK T<f->
  TT n bC L h (Gu lt f T x G q).T rs (Gu lt f T x G q).G/\mK (Gu lt f T x G q).T+(Gu lt f T x G q).q=mK T+1+q/\(Gu lt f T x G q).G.R=G.R/\(Gu lt f T x G q).T.length<=max T.length (n+1)
 | 0,T,x,G,q,H,hf=>ω
 | f+1,T,x,G,q,H,hf=>by
  obtain ⟨s0,s1,s2⟩:=H.step (hl G) h1;have hkn:=H.ff.zm (H.xr x σ).1;have hpl:=Bg T (G.K x).length;unfold Gu
  by_cases e:(jd T (G.K x).length).getD (G.K x).length (-1)=-1
  ·rw [Δ e];obtain ⟨a,b⟩:=s1 e;exact ⟨a,by simp only;omega,rfl,by simp only [Ι];omega⟩
  ·rw [Γ e];obtain ⟨z,e1,_,_,_,e3,e4,e5⟩:=s2 e;rw [e1,π];cases ht:lt z x with
   | true=>
    rw [Δ rfl];obtain ⟨r1,r2,r3,r4⟩:=FE h1 hl f _ z _ (q+1) (e4 ht) ω;exact ⟨r1,ω,r3.trans (rq _ _ _),by rw [Ι] at r4;omega⟩
   | false=>
    rw [Γ σ];obtain ⟨r1,r2,r3,r4⟩:=FE h1 hl f _ x _ (q+1) (e5 ht) ω;exact ⟨r1,ω,r3.trans (rq _ _ _),by rw [Ι] at r4;omega⟩
theorem OT {lt:Nat->Nat->Bool} (h1:1<=h) (hl:∀G,FJ n G bC h L lt):∀ (rs:List Nat) (D:TD),TT n bC L h D.T rs D.G->D.T.length<=n+1->
  TT n bC L h (tid lt rs D).T [] (tid lt rs D).G/\mK (tid lt rs D).T+(tid lt rs D).q=mK D.T+rs.length+D.q/\(tid lt rs D).G.R=D.G.R/\(tid lt rs D).T.length<=n+1
 | [],D,H,hlen=>⟨H,by simp [tid],rfl,hlen⟩
 | x::rs,D,H,hlen=>by
  obtain ⟨r1,r2,r3,r4⟩:=FE h1 hl (mK D.T+1) D.T x D.G D.q H ω;obtain ⟨t1,t2,t3,t4⟩:=OT h1 hl rs _ r1 ω;have e:tid lt (x::rs) D=tid lt rs (Gu lt (mK D.T+1) D.T x D.G D.q):=rfl;rw [e];exact ⟨t1,by rw [t2,Ω];omega,t3.trans r3,t4⟩
end
section
variable {n:Nat} {G:FG} {bC:Nat->Int} {L:Nat->Nat->Prop} {ex:Nat->Nat}
theorem FF.pz (H:FF n G bC L ex) {a x:Nat} (hx:x<n) (ua:G.up a=-1):a∉G.K x:=λhm=>by
 have:=(H.kid x a hx hm).2;omega
theorem FF.IM (H:FF n G bC L ex) {a b:Nat} (ha:a<n) (hb:b<n) (ua:G.up a=-1) (ub:G.up b=-1) (h0a:0<bC a) (h0b:0<bC b):FF n (IM G a b) bC L ex:=
 ⟨H.rg.swap ha hb,H.kid,H.Fg,λx hx=>(H.ring x hx).jZ (H.pz hx ua) (H.pz hx ub),H.home,H.ord,λy hy h0=>by
  obtain ⟨h1,h2,h3⟩:=H.alone y hy h0
  exact ⟨h1,h2,by show bT G.nx a b y=y;rw [ig (λe=>h0 (by rw [e];exact h0a)) (λe=>h0 (by rw [e];exact h0b))];exact h3⟩,H.free,H.cnt⟩
theorem FF.bH (H:FF n G bC L ex) (R:Nat->List Nat):FF n { G with R:=R } bC L ex:=⟨H.rg,H.kid,H.Fg,H.ring,H.home,H.ord,H.alone,H.free,H.cnt⟩
theorem FF.mono {L':Nat->Nat->Prop} {l9:Nat->Int} (H:FF n G bC L ex) (hL:∀y p:Nat,y<n->G.up y=p->L p y->l9 y=l9 p/\0<l9 y/\L' p y) (ha:∀y,y<n->¬0<l9 y->G.up y=-1/\G.K y=[]/\G.nx y=y):FF n G l9 L' ex:=
 ⟨H.rg,H.kid,H.Fg,H.ring,λy p hy hu=>⟨(hL y p hy hu (H.ord y p hy hu)).1,(hL y p hy hu (H.ord y p hy hu)).2.1⟩,λy p hy hu=>(hL y p hy hu (H.ord y p hy hu)).2.2,ha,H.free,H.cnt⟩
def kl (l:List Nat):List Nat:=match l with|[]=>[]|k::t=>t++[k]
theorem Ih (l:List Nat):(kl l).Perm l:=by
 cases l with
 | nil=>exact ό _
 | cons k t=>exact Φ (l₁:=t) (l₂:=[k])
theorem FN {l:List Nat} {z:Nat}:z∈kl l↔z∈l:=(Ih l).mem_iff
theorem M0 (l:List Nat):(kl l).length=l.length:=(Ih l).length_eq
theorem Ja (G:FG) (x:Nat):(bf G x).R=G.R:=by unfold bf;cases G.K x<;>rfl
theorem xm (G:FG) (x:Nat):(bf G x).K=ae G.K x []:=by
 unfold bf;cases hK:G.K x with
 | nil=>funext z;unfold ae;by_cases e:z=x<;>simp [e,hK]
 | cons k t=>rfl
theorem xM (G:FG) {x:Nat} (ux:G.up x=-1) (z:Nat):(bf G x).up z=if z∈G.K x then -1 else G.up z:=by
 unfold bf;cases hK:G.K x with
 | nil=>simp
 | cons k t=>
  show ae (λz=>if z∈k::t then (-1:Int) else G.up z) x (-1) z=_
  unfold ae
  by_cases e:z=x
  ·rw [Δ e];split;rfl;rw [e,ux]
  ·rw [Γ e]
theorem EX (G:FG) {x:Nat} (mx:G.mr x=false) (z:Nat):(bf G x).mr z=if z∈G.K x then false else G.mr z:=by
 unfold bf;cases hK:G.K x with
 | nil=>simp
 | cons k t=>
  show ae (λz=>if z∈k::t then false else G.mr z) x false z=_
  unfold ae
  by_cases e:z=x
  ·rw [Δ e];split;rfl;rw [e,mx]
  ·rw [Γ e]
theorem yH (G:FG) (x:Nat):(bf G x).nx=match G.K x with|[]=>G.nx|k::_=>bT G.nx x k:=by unfold bf;cases G.K x<;>rfl
theorem Oo (G:FG) (x:Nat):(bf G x).pv=match G.K x with|[]=>G.pv|k::_=>iH G.nx G.pv x k:=by unfold bf;cases G.K x<;>rfl
theorem FF.raise (H:FF n G bC L ex) {x:Nat} (hx:x<n) (ux:G.up x=-1) (h0:0<bC x) :
  FF n (bf G x) bC L ex/\(∀l,Ring G.nx l->x∉l->(∀z,z∈l->z∉G.K x)->Ring (bf G x).nx l)/\
   (∀a b,Ring G.nx (a++x::b)->(∀z,z∈a++x::b->z∉G.K x)->Ring (bf G x).nx (a++x::(kl (G.K x)++b))):=by
 have mx:=H.free x hx ux;have up:=xM G ux;have mr:=EX G mx;have far:∀z,z≠x->z∉G.K x->(bf G x).nx z=G.nx z:=λz h1 h2=>by
  rw [yH];cases hK:G.K x with
  | nil=>rfl
  | cons k t=>exact ig h1 (λe=>h2 (by rw [hK,e];simp))
 have rl:∀l,Ring G.nx l->x∉l->(∀z,z∈l->z∉G.K x)->Ring (bf G x).nx l:=λl hl h1 h2=>hl.far (λz hz=>far z (λe=>h1 (e▸hz)) (h2 z hz));have TI:∀a,a<n->a≠x->∀z,z∈G.K a->z≠x/\z∉G.K x:=λa ha hne z hz=>by
  have:=(H.kid a z ha hz).2;exact ⟨λe=>by subst e;omega,λhm=>by have:=(H.kid x z hx hm).2;omega⟩
 have kn:∀a,a≠x->(bf G x).K a=G.K a:=λa ha=>by rw [xm,aQ _ _ ha]
 have kx:(bf G x).K x=[]:=by rw [xm,bq]
 refine ⟨⟨?_,λa y ha hy=>?_,λy hy=>?_,λa ha=>?_,λy p hy hu=>?_,λy p hy hu=>?_,λy hy h1=>?_,λy hy hu=>?_,λa d ha=>?_⟩,rl,λa b hr hd=>?_⟩
 ·rw [yH,Oo];cases hK:G.K x with
  | nil=>exact H.rg
  | cons k t=>exact H.rg.swap hx (H.kid x k hx (by rw [hK];simp)).1
 ·by_cases e:a=x
  ·subst e;rw [kx] at hy;cases hy
  ·rw [kn a e] at hy;have:=TI a ha e y hy;exact ⟨(H.kid a y ha hy).1,by rw [up,Γ this.2];exact (H.kid a y ha hy).2⟩
 ·rw [up]
  by_cases e:y∈G.K x
  ·rw [Δ e];exact Α rfl
  ·rw [Γ e];rcases H.Fg y hy with h1|⟨p,hp,h1,h2⟩
   ·exact Α h1
   ·have hpx:p≠x:=λe2=>e (e2▸h2);exact Β ⟨p,hp,h1,by rw [kn p hpx];exact h2⟩
 ·by_cases e:a=x
  ·subst e;rw [kx];exact Ring.nil _
  ·rw [kn a e];exact rl _ (H.ring a ha) (λhm=>(TI a ha e x hm).1 rfl) (λz hz=>(TI a ha e z hz).2)
 ·rw [up] at hu
  split at hu
  ·omega
  ·exact H.home y p hy hu
 ·rw [up] at hu
  split at hu
  ·omega
  ·exact H.ord y p hy hu
 ·obtain ⟨a1,a2,a3⟩:=H.alone y hy h1;have hyx:y≠x:=λe=>h1 (by rw [e];exact h0);have hyk:y∉G.K x:=H.pz hx a1;exact ⟨by rw [up,Γ hyk];exact a1,by rw [kn y hyx];exact a2,by rw [far y hyx hyk];exact a3⟩
 ·rw [up] at hu;rw [mr]
  split
  ·rfl
  ·rename_i hk
   rw [Γ hk] at hu;exact H.free y hy hu
 ·by_cases e:a=x
  ·subst e;rw [kx];exact Nat.zero_le _
  ·rw [kn a e,qP (G:=G) (ex:=ex) d (λc hc=>by
    have:=TI a ha e c hc
    rw [kn c this.1,mr,Γ this.2])]
   exact H.cnt a d ha
 ·have hk:=H.ring x hx;rw [yH];cases hK:G.K x with
  | nil=>simpa [kl] using hr
  | cons k t=>
   rw [hK] at hk hd;have h1:Ring G.nx (x::(b++a)):=Ring.Qj (a:=a) (b:=x::b) hr;have h2:=Ring.join h1 hk (λz hz=>hd z (by simp only [ρ,τ] at hz ⊢;rcases hz with h|h|h<;>simp [h]));have h3:Ring (bT G.nx x k) ((x::(t++k::b))++a):=by simpa using h2
   have h4:=Ring.Qj h3;simpa [kl] using h4
def rR (l:List Nat) (G:FG):FG:=l.foldl prt G
theorem vO:∀ (l:List Nat) (G:FG),(rR l G).up=G.up/\(rR l G).mr=G.mr/\(rR l G).K=G.K/\(rR l G).R=G.R
 | [],G=>⟨rfl,rfl,rfl,rfl⟩
 | x::t,G=>by
  obtain ⟨h1,h2,h3,h4⟩:=vO t (prt G x);exact ⟨h1,h2,h3,h4⟩
theorem Iz:∀ (l:List Nat) (G:FG),FF n G bC L ex->Ring G.nx l->(∀z,z∈l->z<n/\G.up z=-1/\0<bC z)->
  FF n (rR l G) bC L ex/\(∀z,z∈l->(rR l G).nx z=z)/\(∀l',Ring G.nx l'->(∀z,z∈l'->z∉l)->Ring (rR l G).nx l')
 | [],G,H,hr,hl=>⟨H,λz hz=>(by cases hz),λl' h _=>h⟩
 | x::t,G,H,hr,hl=>by
  have hx:=hl x σ;obtain ⟨p1,p2⟩:=H.rg.part hr (λz hz=>(hl z hz).1);have hpm:G.pv x∈x::t:=by
   rcases List.eq_nil_or_concat t with rfl|⟨a,y,e⟩
   ·have e1:=gU.1 hr;have:=H.rg.pn x hx.1;rw [e1] at this;simp [this]
   ·rw [List.concat_eq_append] at e;subst e;have:=H.rg.last (x:=x) (y:=y) (a:=a) hr (hl y σ).1;rw [this];simp
  have hp:=hl _ hpm;have H1:FF n (prt G x) bC L ex:=H.IM hx.1 hp.1 hx.2.1 hp.2.1 hx.2.2 hp.2.2;have hnd:=Ζ.1 hr.nd;obtain ⟨r1,r2,r3⟩:=Iz t (prt G x) H1 p2 (λz hz=>hl z (by simp [hz]));refine ⟨r1,λz hz=>?_,λl' h' hd=>r3 l' (h'.jZ (λhm=>hd x hm σ) (λhm=>hd _ hm hpm)) (λz hz hm=>hd z hz (by simp [hm]))⟩;rcases ρ.1 hz with rfl|hz
  ·exact gU.1 (r3 [z] p1 (λy hy=>by simp at hy;subst hy;exact hnd.1))
  ·exact r2 z hz
theorem FW (b:Bool) (R l:List Nat):(uo b R l).Perm (R++l):=by
 unfold uo;cases R with
 | nil=>exact ό _
 | cons t s=>
  cases l with
  | nil=>simp
  | cons x r=>
   simp only
   split
   ·exact Φ (l₁:=x::s) (l₂:=t::r) |>.trans (by
     show (t::(r++x::s)).Perm (t::(s++x::r))
     refine List.Perm.cons t ?_
     exact List.perm_middle.trans ((List.Perm.cons x Φ).trans List.perm_middle.symm))
   ·show (t::(r++x::s)).Perm (t::(s++x::r))
    refine List.Perm.cons t ?_;exact List.perm_middle.trans ((List.Perm.cons x Φ).trans List.perm_middle.symm)
theorem lW (lt:Nat->Nat->Bool) (h:Nat) (l:List Nat) (G:FG):(eZ lt h l G).up=G.up/\(eZ lt h l G).mr=G.mr/\(eZ lt h l G).K=G.K/\∀g,g≠h->(eZ lt h l G).R g=G.R g:=by
 unfold eZ
 split
 ·exact ⟨rfl,rfl,rfl,λg hg=>aQ _ _ hg⟩
 ·exact ⟨rfl,rfl,rfl,λg hg=>aQ _ _ hg⟩
theorem sH {lt:Nat->Nat->Bool} {h x:Nat} {r:List Nat} (H:FF n G bC L ex) (h1:1<=h) (hl:FJ n G bC h L lt) (tr:∀a b c,L a b->L b c->L a c) (hR:Ring G.nx (G.R h)) (hx:Ring G.nx (x::r)) (hd:∀z,z∈G.R h->z∉x::r)
  (mR:∀z,z∈G.R h->tq n G bC h z) (mx:∀z,z∈x::r->tq n G bC h z) (tR:∀t s,G.R h=t::s->∀y,y∈s->L t y) (tx:∀y,y∈r->L x y) :
  FF n (eZ lt h (x::r) G) bC L ex/\Ring (eZ lt h (x::r) G).nx ((eZ lt h (x::r) G).R h)/\((eZ lt h (x::r) G).R h).Perm (G.R h++x::r)/\
   (∀t s,(eZ lt h (x::r) G).R h=t::s->∀y,y∈s->L t y)/\(∀l',Ring G.nx l'->(∀z,z∈l'->z∉G.R h/\z∉x::r)->Ring (eZ lt h (x::r) G).nx l'):=by
 cases hRR:G.R h with
 | nil=>
  have e:eZ lt h (x::r) G={ G with R:=ae G.R h (x::r) }:=by unfold eZ;rw [hRR]
  rw [e];have eR:ae G.R h (x::r) h=x::r:=bq _ _ _;simp only [eR];exact ⟨H.bH _,hx,ό _,λt s e y hy=>by injection e with e1 e2;subst e1 e2;exact tx y hy,λl' h _=>h⟩
 | cons t s=>
  have e:eZ lt h (x::r) G={ IM G t x with R:=ae G.R h (uo (lt x t) (t::s) (x::r)) }:=by unfold eZ;rw [hRR]
  rw [e];rw [hRR] at hR hd mR;have ht:=mR t σ;have Ag:=mx x σ;have hne:x≠t:=λe=>hd t σ (by simp [e]);have h0:(0:Int)<bC t/\(0:Int)<bC x:=⟨by rw [ht.2.2];omega,by rw [Ag.2.2];omega⟩;have hk:=hl x t Ag.1 ht.1 Ag.2.2 ht.2.2 hne;have eR:ae G.R h (uo (lt x t) (t::s) (x::r)) h=uo (lt x t) (t::s) (x::r):=bq _ _ _;have hj:Ring (bT G.nx t x) (t::r++x::s):=Ring.join hR hx hd;have hts:=tR t s hRR;simp only [eR];refine ⟨(H.IM ht.1 Ag.1 ht.2.1 Ag.2.1 h0.1 h0.2).bH _,?_,FW _ _ _,λt' s' e' y hy=>?_,λl' hl' hd'=>hl'.jZ (λhm=>(hd' t hm).1 σ) (λhm=>(hd' x hm).2 σ)⟩
  ·show Ring (bT G.nx t x) _
   unfold uo;simp only;cases hb:lt x t with
   | true=>exact Ring.Qj (a:=t::r) (b:=x::s) hj
   | false=>exact hj
  ·unfold uo at e';simp only at e';cases hb:lt x t with
   | true=>
    rw [hb] at hk;rw [hb,Δ rfl] at e';have hxt:=hk.1 rfl;have e1:x=t':=by injection e'
    have e2:s++t::r=s':=by injection e'
    subst e1 e2;simp only [τ,ρ] at hy;rcases hy with hy|rfl|hy
    ·exact tr _ _ _ hxt (hts y hy)
    ·exact hxt
    ·exact tx y hy
   | false=>
    rw [hb] at hk;rw [hb,Γ σ] at e';have htx:=hk.2 rfl;have e1:t=t':=by injection e'
    have e2:r++x::s=s':=by injection e'
    subst e1 e2;simp only [τ,ρ] at hy;rcases hy with hy|rfl|hy
    ·exact tr _ _ _ htx (tx y hy)
    ·exact htx
    ·exact hts y hy
end
def oL (lt:Nat->Nat->Bool) (h:Nat):List Int->FG->Nat->FG×Nat
 | [],G,q=>(G,q)
 | y::t,G,q=>if y=-1 then oL lt h t G q else oL lt h t (eZ lt h [y.toNat] G) (q+nG h G)
def Dy (T:List Int):List Nat:=T.filterMap (λy=>if y=-1 then none else some y.toNat)
theorem qG (y:Int) (t:List Int):Dy (y::t)=if y=-1 then Dy t else y.toNat::Dy t:=by
 unfold Dy;rw [List.filterMap_cons];split<;>rename_i h<;>by_cases e:y=-1<;>simp_all
theorem Iu:∀T:List Int,(Dy T).length=mK T
 | []=>rfl
 | y::t=>by
  rw [qG];have ih:=Iu t;unfold mK at *
  by_cases e:y=-1
  ·rw [Δ e,List.filter_cons_of_neg (by simpa using e)];exact ih
  ·rw [Γ e,List.filter_cons_of_pos (by simpa using e)];simp [ih]
structure yN (n:Nat) (bC:Nat->Int) (L:Nat->Nat->Prop) (h:Nat) (ps:List Nat) (G:FG):Prop where
 ff:FF n G bC L (λ_=>0)
 fr:FR n G bC L (some h)
 ring:Ring G.nx (G.R h)
 top:∀t s,G.R h=t::s->∀y,y∈s->L t y
 mem:∀y,y∈G.R h->tq n G bC h y
 nd:ps.Nodup
 pr:∀z,z∈ps->tq n G bC h z/\G.nx z=z/\z∉G.R h
 all:∀z,tq n G bC h z->z∈G.R h\/z∈ps
section
variable {n:Nat} {bC:Nat->Int} {L:Nat->Nat->Prop} {h:Nat} {G:FG}
theorem yN.step {lt:Nat->Nat->Bool} {z:Nat} {ps:List Nat} (H:yN n bC L h (z::ps) G) (h1:1<=h) (hl:∀G,FJ n G bC h L lt) (tr:∀a b c,L a b->L b c->L a c) :
  yN n bC L h ps (eZ lt h [z] G)/\((eZ lt h [z] G).R h).length=(G.R h).length+1:=by
 obtain ⟨z1,z2,z3⟩:=H.pr z σ;have hnd:=Ζ.1 H.nd;obtain ⟨c1,c2,c3,c4,c5⟩:=sH H.ff h1 (hl G) tr H.ring (gU.2 z2) (λy hy hm=>by simp at hm;subst hm;exact z3 hy) H.mem (λy hy=>by simp at hy;subst hy;exact z1) H.top (λy hy=>by cases hy);obtain ⟨s1,s2,s3,s4⟩:=lW lt h [z] G;have rt:∀g y,tq n (eZ lt h [z] G) bC g y↔tq n G bC g y:=λg y=>by unfold tq;rw [s1]
 have mem':∀y,y∈(eZ lt h [z] G).R h↔y∈G.R h\/y=z:=λy=>by rw [c3.mem_iff];simp
 refine ⟨⟨c1,⟨λg hg=>?_,λg y hg=>?_,λg t s hg hR=>?_⟩,c2,c4,λy hy=>?_,hnd.2,λy hy=>?_,λy hy=>?_⟩,by rw [c3.length_eq];simp⟩
 ·have hgh:g≠h:=λe=>hg (by rw [e]);rw [s4 g hgh];refine c5 _ (H.fr.ring g hg) (λy hy=>?_);have hm:=(H.fr.mem g y hg).1 hy;refine ⟨λhm2=>hgh ?_,λhm2=>hgh ?_⟩
  ·have:=(H.mem y hm2).2.2;have:=hm.2.2.2;omega
  ·simp at hm2;subst hm2;have:=z1.2.2;have:=hm.2.2.2;omega
 ·have hgh:g≠h:=λe=>hg (by rw [e]);rw [s4 g hgh,s1];exact H.fr.mem g y hg
 ·have hgh:g≠h:=λe=>hg (by rw [e]);rw [s4 g hgh] at hR;exact H.fr.top g t s hg hR
 ·rw [rt];rcases (mem' y).1 hy with hy|rfl
  ·exact H.mem y hy
  ·exact z1
 ·obtain ⟨y1,y2,y3⟩:=H.pr y (by simp [hy]);have PD:y≠z:=λe=>hnd.1 (e▸hy);refine ⟨(rt h y).2 y1,gU.1 (c5 [y] (gU.2 y2) (λw hw=>by simp at hw;subst hw;exact ⟨y3,by simpa using PD⟩)),λhm=>?_⟩;rcases (mem' y).1 hm with hm|hm
  ·exact y3 hm
  ·exact PD hm
 ·rcases H.all y ((rt h y).1 hy) with a|a
  ·exact Α ((mem' y).2 (Α a))
  ·rcases ρ.1 a with a|a
   ·exact Α ((mem' y).2 (Β a))
   ·exact Β a
theorem z8 (h:Nat) (G:FG):nG h G=min 1 (G.R h).length:=by
 unfold nG;cases G.R h with
 | nil=>simp
 | cons t s=>simp
theorem G5 {lt:Nat->Nat->Bool} (h1:1<=h) (hl:∀G,FJ n G bC h L lt) (tr:∀a b c,L a b->L b c->L a c):∀ (T:List Int) (G:FG) (q:Nat),yN n bC L h (Dy T) G->
  yN n bC L h [] (oL lt h T G q).1/\((oL lt h T G q).1.up=G.up/\(oL lt h T G q).1.mr=G.mr/\(oL lt h T G q).1.K=G.K/\∀g,g≠h->(oL lt h T G q).1.R g=G.R g)/\
   ((oL lt h T G q).1.R h).Perm (G.R h++Dy T)/\(oL lt h T G q).2+min 1 ((oL lt h T G q).1.R h).length=q+mK T+min 1 (G.R h).length
 | [],G,q,H=>⟨H,⟨rfl,rfl,rfl,λ_ _=>rfl⟩,by simp [Dy,oL],by simp [oL,mK]⟩
 | y::t,G,q,H=>by
  rw [qG] at H;unfold oL
  by_cases e:y=-1
  ·rw [Δ e] at H ⊢;obtain ⟨r1,r2,r3,r4⟩:=G5 h1 hl tr t G q H;refine ⟨r1,r2,by rw [qG,Δ e];exact r3,?_⟩;have:mK (y::t)=mK t:=by unfold mK;rw [List.filter_cons_of_neg (by simpa using e)]
   rw [this];exact r4
  ·rw [Γ e] at H ⊢;obtain ⟨k1,k2⟩:=H.step h1 hl tr;obtain ⟨s1,s2,s3,s4⟩:=lW lt h [y.toNat] G;obtain ⟨r1,r2,r3,r4⟩:=G5 h1 hl tr t _ (q+nG h G) k1;have hp:((eZ lt h [y.toNat] G).R h).Perm (G.R h++[y.toNat]):=by
    obtain ⟨z1,z2,z3⟩:=H.pr y.toNat σ;exact (sH H.ff h1 (hl G) tr H.ring (gU.2 z2) (λw hw hm=>by simp at hm;subst hm;exact z3 hw) H.mem (λw hw=>by simp at hw;subst hw;exact z1) H.top (λw hw=>by cases hw)).2.2.1
   refine ⟨r1,⟨r2.1.trans s1,r2.2.1.trans s2,r2.2.2.1.trans s3,λg hg=>(r2.2.2.2 g hg).trans (s4 g hg)⟩,?_,?_⟩
   ·rw [qG,Γ e];exact r3.trans ((hp.append_right (Dy t)).trans σ)
   ·have:mK (y::t)=mK t+1:=by unfold mK;rw [List.filter_cons_of_pos (by simpa using e)];rfl
    rw [this];rw [z8] at r4;rw [z8];omega
theorem TT.Xf {T:List Int} (H:TT n bC L h T [] G):(Dy T).Pairwise (λa b=>(G.K a).length≠(G.K b).length):=by
 unfold Dy;rw [List.pairwise_filterMap,List.pairwise_iff_getElem];intro i j hi hj hij a ha b hb;have f:∀ (i:Nat) (hi:i<T.length) (a:Nat),(if T[i]=-1 then none else some T[i].toNat)=some a->(G.K a).length=i:=λi hi a ha=>by
  rcases H.tab i T[i] (ε hi) with e|⟨z,e1,_,e2,_⟩
  ·rw [Δ e] at ha;cases ha
  ·rw [Γ ω] at ha;have:T[i].toNat=a:=by injection ha
   obtain rfl:z=a:=ω;exact e2
 rw [f i hi a ha,f j hj b hb];omega
theorem TT.ri {T:List Int} (H:TT n bC L h T [] G):yN n bC L h (Dy T) G:=by
 have hm:∀z,z∈Dy T↔(z:Int)∈T:=λz=>by
  unfold Dy;rw [List.mem_filterMap];constructor
  ·rintro ⟨y,hy,e⟩
   by_cases e1:y=-1
   ·rw [Δ e1] at e;cases e
   ·rw [Γ e1] at e;have e2:y.toNat=z:=by injection e
    obtain ⟨i,hi⟩:=List.mem_iff_getElem?.1 hy;rcases H.tab i y hi with e3|⟨w,e3,_⟩
    ·exact absurd e3 e1
    ·rw [show (z:Int)=y by omega];exact hy
  ·intro hz;exact ⟨z,hz,by rw [Γ ω];simp⟩
 refine ⟨H.ff,H.fr,by rw [H.zero];exact Ring.nil _,λt s e=>(by rw [H.zero] at e;cases e),λy hy=>(by rw [H.zero] at hy;cases hy),H.Xf.imp (λ{a b} hab e=>hab (by rw [e])),λz hz=>?_,λz hz=>?_⟩
 ·obtain ⟨i,hi⟩:=List.mem_iff_getElem?.1 ((hm z).1 hz);rcases H.tab i z hi with e3|⟨w,e3,e4,_⟩
  ·omega
  ·obtain rfl:z=w:=ω;exact ⟨e4,H.one z e4,by rw [H.zero];simp⟩
 ·rcases H.all z hz with a|a
  ·cases a
  ·exact Β ((hm z).2 a)
end
structure wE (A:NS) (G:FG):Prop where
 ff:FF A.cs.length G (λy=>(A.c y).i) (dO A) (λ_=>0)
 fr:FR A.cs.length G (λy=>(A.c y).i) (dO A) none
theorem FR.all {n:Nat} {G:FG} {bC:Nat->Int} {L:Nat->Nat->Prop} (H:FR n G bC L none) (h:Nat):Ring G.nx (G.R h)/\(∀y,y∈G.R h↔1<=h/\tq n G bC h y)/\∀t s,G.R h=t::s->∀y,y∈s->L t y:=
 ⟨H.ring h σ,λy=>H.mem h y σ,λt s e=>H.top h t s σ e⟩
section
variable {A:NS} {G:FG}
theorem wE.qF (I:wE A G) {h:Int} {m:Nat} (hm:dM A h=some m):tq A.cs.length G (λy=>(A.c y).i) h.toNat m/\1<=h.toNat:=by
 have h0:0<h:=by
  apply Ϙ;intro hn;rw [nH hn] at hm;cases hm
 obtain ⟨h1,h2,h3⟩:=(gP h0).1 hm;refine ⟨⟨h1,?_,by show (A.c m).i=_;rw [h2];omega⟩,by omega⟩;rcases I.ff.Fg m h1 with e|⟨p,hp,e,_⟩
 ·exact e
 ·have ho:=I.ff.ord m p h1 e;have hh:=(I.ff.home m p h1 e).1;have hh':(A.c m).i=(A.c p).i:=hh;rcases h3 p hp (by rw [←hh',h2]) with e2|e2
  ·subst e2;exact absurd ho ui
  ·exact absurd ho (qC e2)
theorem wE.lZ (I:wE A G) {h:Nat} {t:Nat} {s:List Nat} (hR:G.R h=t::s):dM A (h:Int)=some t/\1<=h/\t<A.cs.length/\G.up t=-1/\(A.c t).i=h:=by
 obtain ⟨r1,r2,r3⟩:=I.fr.all h;obtain ⟨h1,t1,t2,t3⟩:=(r2 t).1 (by rw [hR];simp);have Xn:(A.c t).i=(h:Int):=t3;refine ⟨?_,h1,t1,t2,Xn⟩;cases hm:dM A (h:Int) with
 | none=>
  have:=(jg ω).1 hm;have hp:0<bU A (h:Int):=fw.2 ⟨t,t1,Xn,ω⟩;omega
 | some m=>
  obtain ⟨m1,m2⟩:=I.qF hm;rw [π] at m1;have hmem:=(r2 m).2 ⟨h1,m1⟩;rw [hR] at hmem;rcases ρ.1 hmem with e|e
  ·rw [e]
  ·have a1:=r3 t s hR m e;obtain ⟨_,_,h3⟩:=(gP ω).1 hm;rcases h3 t t1 Xn with e2|e2
   ·rw [e2]
   ·exact absurd a1 (qC e2)
theorem wE.Mc (I:wE A G) {h:Nat} (hR:G.R h=[]):dM A (h:Int)=none:=by
 cases hm:dM A (h:Int) with
 | none=>rfl
 | some m=>
  obtain ⟨m1,m2⟩:=I.qF hm;rw [π] at m1 m2;have:=((I.fr.all h).2.1 m).2 ⟨m2,m1⟩;rw [hR] at this;cases this
theorem wE.first (I:wE A G) {h:Nat} {t:Nat} {s:List Nat} (hR:G.R h=t::s) {y:Nat} (hy:y<A.cs.length) (hh:(A.c y).i=h) (hne:y≠t):dO A t y:=by
 obtain ⟨m1,m2,_⟩:=I.lZ hR;obtain ⟨_,_,h3⟩:=(gP ω).1 m1;exact (h3 y hy hh).resolve_left hne
theorem wE.out (I:wE A G) {h:Nat} {z:Nat} (hz:z∈G.R h):1<=h/\z<A.cs.length/\G.up z=-1/\(A.c z).i=h/\bR A (z:Int)=true:=by
 obtain ⟨h1,t1,t2,t3⟩:=((I.fr.all h).2.1 z).1 hz;have Xn:(A.c z).i=(h:Int):=t3;exact ⟨h1,t1,t2,Xn,(ay _ _).2 ⟨t1,ω⟩⟩
end
def pU (A:NS) (a b:Nat):Bool:=decide (dO A a b)
theorem vU (A:NS) (n:Nat) (G:FG) (bC:Nat->Int) (h:Nat):FJ n G bC h (dO A) (pU A):=λa b _ _ _ _ hne=>
 ⟨λe=>by unfold pU at e;simpa using e,λe=>by
  unfold pU at e;have e':¬dO A a b:=by simpa using e
  exact (jS hne).resolve_left e'⟩
def ni (h x:Nat) (rs:List Nat) (G:FG):FG:={ rR (x::rs) (bf G x) with R:=ae G.R h [] }
def qw (A:NS) (h x:Nat) (rs:List Nat) (G:FG):TD:=tid (pU A) rs ⟨[],ni h x rs G,0⟩
def pO (A:NS) (h x:Nat) (rs:List Nat) (G:FG):FG×Nat:=oL (pU A) h (qw A h x rs G).T (qw A h x rs G).G 0
section
variable {A:NS} {G:FG}
theorem TU (I:wE A G) (ok:A.Ok) {h x:Nat} {s:List Nat} (hR:G.R h=x::s) :
  (Ring (bf G x).nx (x::(kl (G.K x)++s))/\(∀z,z∈x::(kl (G.K x)++s)->z<A.cs.length))/\
  TT A.cs.length (λy=>((aU A x).c y).i) (dO A) h [] (kl (G.K x)++s) (ni h x (kl (G.K x)++s) G)/\
  (∀z,z<A.cs.length->((aU A (x:Int)).c z).i=(h:Int)->bR A (z:Int)=true)/\
  yN A.cs.length (λy=>((aU A x).c y).i) (dO A) h (Dy (qw A h x (kl (G.K x)++s) G).T) (qw A h x (kl (G.K x)++s) G).G/\(qw A h x (kl (G.K x)++s) G).G.R h=[]/\
  wE (aU A x) (pO A h x (kl (G.K x)++s) G).1/\
  (qw A h x (kl (G.K x)++s) G).q+(pO A h x (kl (G.K x)++s) G).2<=(G.K x).length+s.length/\
  (qw A h x (kl (G.K x)++s) G).q+((pO A h x (kl (G.K x)++s) G).1.R h).length=(G.K x).length+s.length/\
  (((pO A h x (kl (G.K x)++s) G).1.R h).Pairwise (λa b=>((pO A h x (kl (G.K x)++s) G).1.K a).length≠((pO A h x (kl (G.K x)++s) G).1.K b).length))/\
  (∀g,g≠h->(pO A h x (kl (G.K x)++s) G).1.R g=G.R g)/\(∀y,y∈(qw A h x (kl (G.K x)++s) G).T->y=-1\/0<=y)/\(qw A h x (kl (G.K x)++s) G).T.length<=A.cs.length+1/\(pO A h x (kl (G.K x)++s) G).1.mr=(qw A h x (kl (G.K x)++s) G).G.mr:=by
 obtain ⟨m1,h1,hx,ux,hxh⟩:=I.lZ hR;obtain ⟨_,_,_,_,hin⟩:=I.out (h:=h) (z:=x) (by rw [hR];simp);have hc:=λy=>sS hin y;have hcl:=dK A (x:Int);have h0:(0:Int)<(A.c x).i:=ω;obtain ⟨rF,r1,r2⟩:=I.ff.raise hx ux h0;have mx:=I.ff.free x hx ux;have Tf:=xM G ux;have K1:=xm G x;obtain ⟨q1,q2,q3⟩:=I.fr.all h;rw [hR] at q1;have tT:∀z,G.up z=-1->z∉G.K x:=λz hz=>I.ff.pz hx hz;have NN:Ring (bf G x).nx (x::(kl (G.K x)++s)):=by
  have:=r2 [] s q1 (λz hz=>tT z (((q2 z).1 (by rw [hR];exact hz)).2.2.1));exact this
 have sr:∀z,z∈s->tq A.cs.length G (λy=>(A.c y).i) h z:=λz hz=>((q2 z).1 (by rw [hR];simp [hz])).2;have kr:∀z,z∈G.K x->z<A.cs.length/\G.up z=x/\(A.c z).i=h:=λz hz=>by
  obtain ⟨k1,k2⟩:=I.ff.kid x z hx hz;have k3:(A.c z).i=(A.c x).i:=(I.ff.home z x k1 k2).1;exact ⟨k1,k2,ω⟩
 have WX:∀z,z∈kl (G.K x)++s↔z∈G.K x\/z∈s:=λz=>by simp [FN]
 have Uj:∀z,z∈x::(kl (G.K x)++s)->z<A.cs.length/\(bf G x).up z=-1/\0<(A.c z).i:=λz hz=>by
  rw [Tf];rcases ρ.1 hz with rfl|hz
  ·exact ⟨hx,by rw [ux];split<;>rfl,h0⟩
  ·rcases (WX z).1 hz with hz|hz
   ·exact ⟨(kr z hz).1,by rw [Δ hz],by have:=(kr z hz).2.2;omega⟩
   ·have a:=sr z hz;have a3:(A.c z).i=h:=a.2.2;exact ⟨a.1,by rw [Γ (tT z a.2.1)];exact a.2.1,ω⟩
 have hnd:=Ζ.1 NN.nd;obtain ⟨p1,p2,p3⟩:=Iz (x::(kl (G.K x)++s)) (bf G x) rF NN Uj;obtain ⟨e1,e2,e3,e4⟩:=vO (x::(kl (G.K x)++s)) (bf G x);have ZW:∀z,(ni h x (kl (G.K x)++s) G).up z=if z∈G.K x then -1 else G.up z:=λz=>by
  show (rR (x::(kl (G.K x)++s)) (bf G x)).up z=_
  rw [e1,Tf]
 have K3:(ni h x (kl (G.K x)++s) G).K=ae G.K x []:=by
  show (rR (x::(kl (G.K x)++s)) (bf G x)).K=_
  rw [e3,K1]
 have UQ:(ni h x (kl (G.K x)++s) G).up x=-1:=by rw [ZW,ux];split<;>rfl
 have l9:∀z,z≠x->((aU A (x:Int)).c z).i=(A.c z).i:=λz hz=>by rw [hc,Γ hz]
 have vZ:((aU A (x:Int)).c x).i=0:=by rw [hc,Δ rfl];rfl
 have F3:FF A.cs.length (ni h x (kl (G.K x)++s) G) (λy=>((aU A (x:Int)).c y).i) (dO A) (λ_=>0):=by
  refine (p1.bH (ae G.R h [])).mono (λy p hy hu ho=>?_) (λy hy h2=>?_)
  ·have hu':(ni h x (kl (G.K x)++s) G).up y=p:=hu;have hyx:y≠x:=λe=>by subst e;rw [UQ] at hu';omega
   have hpx:p≠x:=λe=>by
    have hk:=(p1.bH (ae G.R h [])).above hy hu;have hk2:y∈(ni h x (kl (G.K x)++s) G).K p:=hk.2;rw [K3,e,bq] at hk2;cases hk2
   have hh:=p1.home y p hy hu;have zy:(A.c y).i=(A.c p).i:=hh.1;have Za:0<(A.c y).i:=hh.2;exact ⟨by simp only [l9 y hyx,l9 p hpx];exact zy,by simp only [l9 y hyx];exact Za,ho⟩
  ·by_cases e:y=x
   ·subst e;exact ⟨UQ,by show (ni h y (kl (G.K y)++s) G).K y=[];rw [K3,bq],p2 y σ⟩
   ·have h3:¬0<(A.c y).i:=by simp only [l9 y e] at h2;exact h2
    exact p1.alone y hy h3
 have rt3:∀g z,tq A.cs.length (ni h x (kl (G.K x)++s) G) (λy=>((aU A (x:Int)).c y).i) g z->1<=g->z≠x/\(A.c z).i=g/\(z∈G.K x\/G.up z=-1):=λg z hz hg=>by
  obtain ⟨a1,a2,a3⟩:=hz;have hzx:z≠x:=λe=>by subst e;simp only [vZ] at a3;omega
  simp only [l9 z hzx] at a3;rw [ZW] at a2;refine ⟨hzx,a3,?_⟩
  split at a2
  ·rename_i hk;exact Α hk
  ·exact Β a2
 have R3:∀g,g≠h->(ni h x (kl (G.K x)++s) G).R g=G.R g:=λg hg=>aQ _ _ hg;have fr3:FR A.cs.length (ni h x (kl (G.K x)++s) G) (λy=>((aU A (x:Int)).c y).i) (dO A) (some h):=by
  refine ⟨λg hg=>?_,λg z hg=>?_,λg t s' hg hR'=>?_⟩
  all_goals have hgh:g≠h:=λe=>hg (by rw [e])
  ·rw [R3 g hgh];obtain ⟨a1,a2,_⟩:=I.fr.all g;have hz:∀z,z∈G.R g->G.up z=-1/\(A.c z).i=g:=λz hz=>⟨((a2 z).1 hz).2.2.1,((a2 z).1 hz).2.2.2⟩
   refine p3 _ (r1 _ a1 (λhm=>hgh (by have:=(hz x hm).2;omega)) (λz hm=>tT z (hz z hm).1)) (λz hm hm2=>?_);have hzg:=(hz z hm).2;rcases ρ.1 hm2 with e|hm2
   ·subst e;exact hgh ω
   ·rcases (WX z).1 hm2 with hm2|hm2
    ·have:=(kr z hm2).2.2;exact hgh ω
    ·have:(A.c z).i=h:=(sr z hm2).2.2;exact hgh ω
  ·rw [R3 g hgh,(I.fr.all g).2.1 z];constructor
   ·rintro ⟨a0,a1,a2,a3⟩;have a3':(A.c z).i=g:=a3;have hzx:z≠x:=λe=>by subst e;exact hgh ω
    exact ⟨a0,a1,by rw [ZW,Γ (tT z a2)];exact a2,by simp only [l9 z hzx];exact a3'⟩
   ·rintro ⟨a0,a1,a2,a3⟩;obtain ⟨b1,b2,b3⟩:=rt3 g z ⟨a1,a2,a3⟩ a0;rcases b3 with b3|b3
    ·have:=(kr z b3).2.2;exact absurd (show g=h by omega) hgh
    ·exact ⟨a0,a1,b3,b2⟩
  ·rw [R3 g hgh] at hR';exact (I.fr.all g).2.2 t s' hR'
 have T3:TT A.cs.length (λy=>((aU A (x:Int)).c y).i) (dO A) h [] (kl (G.K x)++s) (ni h x (kl (G.K x)++s) G):=by
  refine ⟨F3,fr3,bq _ _ _,λz hz=>?_,λd y hy=>by simp at hy,hnd.2,λz hz=>?_,λz hz=>?_⟩
  ·obtain ⟨b1,b2,b3⟩:=rt3 h z hz h1;refine p2 z ?_;simp only [ρ,WX];rcases b3 with b3|b3
   ·exact Β (Α b3)
   ·have:=(q2 z).2 ⟨h1,hz.1,b3,b2⟩;rw [hR] at this;rcases ρ.1 this with e|e
    ·exact absurd e b1
    ·exact Β (Β e)
  ·have hzx:z≠x:=λe=>hnd.1 (e▸hz);have a:=Uj z (by simp [hz]);refine ⟨a.1,by rw [ZW,←Tf];exact a.2.1,?_⟩;simp only [l9 z hzx];rcases (WX z).1 hz with b|b
   ·exact (kr z b).2.2
   ·exact (sr z b).2.2
  ·obtain ⟨b1,b2,b3⟩:=rt3 h z hz h1;left;rw [WX];rcases b3 with b3|b3
   ·exact Α b3
   ·have:=(q2 z).2 ⟨h1,hz.1,b3,b2⟩;rw [hR] at this;rcases ρ.1 this with e|e
    ·exact absurd e b1
    ·exact Β e
 obtain ⟨t1,t2,t3,t4⟩:=OT h1 (λG=>vU A A.cs.length G _ h) (kl (G.K x)++s) ⟨[],ni h x (kl (G.K x)++s) G,0⟩ T3 σ;have eD:tid (pU A) (kl (G.K x)++s) ⟨[],ni h x (kl (G.K x)++s) G,0⟩=qw A h x (kl (G.K x)++s) G:=rfl;rw [eD] at t1 t2 t3 t4;have Uv:=t1.ri;obtain ⟨u1,u2,u3,u4⟩:=G5 h1 (λG=>vU A A.cs.length G _ h) (λa b c=>dw) _ _ 0 Uv;have e4':oL (pU A) h (qw A h x (kl (G.K x)++s) G).T (qw A h x (kl (G.K x)++s) G).G 0=pO A h x (kl (G.K x)++s) G:=rfl;rw [e4'] at u1 u2 u3 u4;rw [t1.zero,Ϛ] at u3;rw [t1.zero] at u4;have hlen:=u3.length_eq;rw [Iu] at hlen
 have ho0:mK (TD.mk [] (ni h x (kl (G.K x)++s) G) 0).T=0:=rfl;have hl2:(kl (G.K x)++s).length=(G.K x).length+s.length:=by rw [υ,M0]
 have hq0:(TD.mk [] (ni h x (kl (G.K x)++s) G) 0).q=0:=rfl;rw [ho0,hl2,hq0] at t2;simp only [List.length_nil] at u4;refine ⟨⟨NN,λz hz=>(Uj z hz).1⟩,T3,λz hz hh=>?_,Uv,t1.zero,⟨?_,?_⟩,?_,?_,?_,?_,λy hy=>?_,t4,u2.2.1⟩
 ·have hzx:z≠x:=λe=>by subst e;rw [vZ] at hh;omega
  rw [l9 z hzx] at hh;exact (ay _ _).2 ⟨hz,ω⟩
 ·rw [hcl];refine u1.ff.mono (λy p hy hu ho=>?_) (λy hy h2=>u1.ff.alone y hy h2);have hh:=u1.ff.home y p hy hu;have zy:((aU A (x:Int)).c y).i=((aU A (x:Int)).c p).i:=hh.1;have Za:0<((aU A (x:Int)).c y).i:=hh.2;have hyx:y≠x:=λe=>by rw [e,vZ] at Za;omega
  have hpx:p≠x:=λe=>by rw [e,vZ] at zy;omega
  exact ⟨hh.1,hh.2,(fT (by rw [hc,Γ hpx]) (by rw [hc,Γ hyx])).2 ho⟩
 ·rw [hcl];have mm:∀g y,y∈(pO A h x (kl (G.K x)++s) G).1.R g↔1<=g/\y<A.cs.length/\(pO A h x (kl (G.K x)++s) G).1.up y=-1/\((aU A (x:Int)).c y).i=g:=λg y=>by
   by_cases e:g=h
   ·subst e;constructor
    ·intro hm;exact ⟨h1,u1.mem y hm⟩
    ·rintro ⟨_,a⟩;rcases u1.all y a with b|b
     ·exact b
     ·cases b
   ·exact u1.fr.mem g y (by simp;exact e)
  refine ⟨λg _=>?_,λg y _=>mm g y,λg t s' _ hR' y hy=>?_⟩
  ·by_cases e:g=h
   ·subst e;exact u1.ring
   ·exact u1.fr.ring g (by simp;exact e)
  ·have hL:dO A t y:=by
    by_cases e:g=h
    ·subst e;exact u1.top t s' hR' y hy
    ·exact u1.fr.top g t s' (by simp;exact e) hR' y hy
   have ht:=(mm g t).1 (by rw [hR'];simp);have hy':=(mm g y).1 (by rw [hR'];simp [hy]);have htx:t≠x:=λe=>by subst e;rw [vZ] at ht;omega
   have hyx:y≠x:=λe=>by subst e;rw [vZ] at hy';omega
   exact (fT (by rw [hc,Γ htx]) (by rw [hc,Γ hyx])).2 hL
 ·omega
 ·omega
 ·rw [u2.2.2.1];exact u3.symm.pairwise (l:=Dy _) t1.Xf (λ{a b} h=>Ne.symm h)
 ·intro g hg;rw [u2.2.2.2 g hg,t3];exact R3 g hg
 ·obtain ⟨i,hi⟩:=List.mem_iff_getElem?.1 hy;rcases t1.tab i y hi with e|⟨z,e,_⟩
  ·exact Α e
  ·exact Β ω
end
end Go.Proofs.YtnpdakpagnpanaaGreat
namespace Go.Proofs.YtnpdakpagnpanaaGreat
open Go Go.RowKit
theorem C8 {w:World} {base g n cap:Nat} {l:List Int} (h:w.ownsRow base 3 1 (.slice (some ⟨g,0,none⟩) n cap) n (aT l)) (j:Nat) (x:Int):(w.setCell ⟨g,j,none⟩ (.int .i64 x)).ownsRow base 3 1 (.slice (some ⟨g,0,none⟩) n cap) n (aT (l.set j x)):=by
 have hl:l.length=n:=by have:=h.1;rw [fM] at this;omega
 rcases h.2 with ⟨h1,_⟩|⟨g',cap',cur,h1,hb,hg,hn,hc,hs,ht⟩
 ·cases h1
 ·cases h1;refine ⟨by rw [fM,Ι];omega,Β ⟨g,cap,cur.setIfInBounds j (.int .i64 x),rfl,by simpa using hb,?_,hn,hc,ζ,?_⟩⟩
  ·simp [World.setCell,Array.getElem?_modify,hg]
  ·rw [Array.toList_setIfInBounds]
   by_cases hj:j<n
   ·rw [List.take_set,ht];unfold aT;rw [List.map_set]
   ·rw [List.take_set_of_le ω,ht,List.set_eq_of_length_le ω]
section
variable {w:World} {B:FB} {F:List Nat} {gt ct:Nat} {A:NS} {st:Nat} {G:FG}
theorem dX.own {w0 w1 w2:World} {e:TypeId} {size k:Nat} {v:Value} {xs:List Value} (h:dX w1 B F gt ct A st G) (hb:∀x,x∈B.blk F gt->x<w0.heap.size) (ho:w1.ownsRow w0.heap.size e size v k xs) (hu:aa v.ownBlock.toList w1 w2):dX w2 B F gt ct A st G:=
 h.upd hu (λx hx hm=>by
  have h1:=(ho.lt x (by simpa using hx)).1;have h2:=hb x hm
  omega)
theorem JB (M:dX w B F gt ct A st G) {rs:List Nat} {v:Value} {h:Nat} {bC:Nat->Int} (h1:1<=h) (hin:∀z,z<A.cs.length->bC z=h->bR A (z:Int)=true) (H:TT A.cs.length bC (dO A) h [] rs G) (hv:jc w [B.c,B.bn,B.bp,B.bl] v (nM rs)) :
  Calls Tryz.prog 219 #[.pointer (some ⟨B.n0,0,none⟩),v] w λe w'=>∃v',e=.returned v'/\w'.ownsRow w.heap.size 3 1 v' (tid (pU A) rs ⟨[],G,0⟩).T.length (aT (tid (pU A) rs ⟨[],G,0⟩).T)/\
   dX w' B F gt ct A (bS st (tid (pU A) rs ⟨[],G,0⟩).q) (tid (pU A) rs ⟨[],G,0⟩).G/\aa [B.c,B.bn,B.bp,B.bl] w w':=by
 have hc1:=M.cells.ok.c1;have hz:=fB M.cells.mH;have hlr:rs.length<=A.cs.length:=iC _ _ H.nd (λz hz=>(H.xr z hz).1);obtain ⟨a,cap,rfl,hcap,hcap2,hel⟩:=hv;rw [j6] at hcap ⊢;have hlt:=M.lt;obtain ⟨g1,g2,g3,g4,g5,g6,g7⟩:=M.d3;obtain ⟨e1,e2,e3,e4,e5⟩:=M.d2;have cn:=M.cn;obtain ⟨D,hD⟩:∃D,tid (pU A) rs ⟨[],G,0⟩=D:=⟨_,rfl⟩;rw [hD];have hbl:∀y,y∈[B.c,B.bn,B.bp,B.bl]->y<w.heap.size:=λy hy=>by
  simp only [ρ,ς,or_false] at hy;rcases hy with rfl|rfl|rfl|rfl
  ·exact M.cells.lt _ M.cells.mem
  ·exact hlt _ (by simp [FB.blk])
  ·exact hlt _ (by simp [FB.blk])
  ·exact hlt _ (by simp [FB.blk])
 have Tg:=χ hlt;have H0:=χ (ψ M (ψ H (ψ hD (ψ hel (ψ hbl hz)))));clear M H hD hel hbl hz hlt;generalize hrl:rs.length=len at *;have Zl:=χ hrl;clear hrl
 go_enter Tryz.func219,Tryz.ntmps219
 go_wp2
 go_loopw [5,12] (λs5 s12 wr=>∃ (i:Nat) (T:List Int) (G':FG) (q:Nat),i<=len/\s12=.int .i64 (i:Int)/\tid (pU A) (rs.drop i) ⟨T,G',q⟩=D/\TT A.cs.length bC (dO A) h T (rs.drop i) G'/\T.length<=A.cs.length+1/\
  wr.ownsRow w.heap.size 3 1 s5 T.length (aT T)/\dX wr B F gt ct A (bS st q) G'/\aa [B.c,B.bn,B.bp,B.bl] w wr) (λ_ s12 _=>len-(intOf s12).toNat)
 case atStart=>
  obtain ⟨M,H,hD,hel,hbl,hz⟩:=H0.out;exact ⟨0,[],G,0,ω,rfl,hD,H,σ,World.ownsRow_nil _ _ _ _,by rw [hz];exact M,aa.refl _ _⟩
 case round=>
  obtain ⟨i,T,G',q,hi,rfl,hD,hT,Li,ho,hM,hu⟩:=hrel;rename World=>wr
  by_cases hil:i<len
  ·obtain ⟨x,hx⟩:∃x,rs[i]?=some x:=⟨_,ε (by rw [Zl.out];exact hil)⟩;have hdr:rs.drop i=x::rs.drop (i+1):=by
    rw [ϛ (by rw [Zl.out];exact hil)]
    congr 1
    rw [ε (by rw [Zl.out];exact hil)] at hx
    injection hx
   rw [hdr] at hD hT;obtain ⟨gr,off,rfl,hgl,sZ,hcx⟩:=H0.out.2.2.2.1 i (x:Int) (by unfold nM;rw [ϑ,hx];rfl);have hcx:=hu.kept hcx sZ;have Uy:(i:Int)<(len:Int):=ω;have hw1:IntKind.i64.wrap ((i:Int)+1)=(i:Int)+1:=Μ _ ω;have HR:=χ (ψ hD (ψ hT (ψ ho (ψ hM hu))));clear hD hT ho hM hu hx hdr;go_wp2;obtain ⟨D1,hD1⟩:∃D1,Gu (pU A) (mK T+1) T x G' q=D1:=⟨_,rfl⟩;have HD1:=χ hD1;clear hD1
   go_loopg [5,7] (mK T+1) (λfu s5 s7 wr2=>∃ (T1:List Int) (x1:Nat) (G1:FG) (q1:Nat),s7=.int .i64 (x1:Int)/\Gu (pU A) fu T1 x1 G1 q1=D1/\mK T1<fu/\TT A.cs.length bC (dO A) h T1 (x1::rs.drop (i+1)) G1/\T1.length<=A.cs.length+1/\
    wr2.ownsRow w.heap.size 3 1 s5 T1.length (aT T1)/\dX wr2 B F gt ct A (bS st q1) G1/\aa [B.c,B.bn,B.bp,B.bl] w wr2)
   case atStart=>exact ⟨T,x,G',q,rfl,HD1.out,ω,HR.out.2.1,Li,HR.out.2.2.1,HR.out.2.2.2.1,HR.out.2.2.2.2⟩
   case round=>
    rename Nat=>fu;obtain ⟨T1,x1,G1,q1,rfl,hI,y7,hT1,hTl1,ho1,hM1,hu1⟩:=hrel;rename World=>wr2;obtain ⟨fv,rfl⟩:∃fv,fu=fv+1:=⟨fu-1,ω⟩;have Ag:=hT1.xr x1 σ;have hx1:=Ag.1;have hx1I:(x1:Int)<(A.cs.length:Int):=ω;have hq2:=hM1.h2;have hp2:=hM1.p2 hx1;have hdn:=hT1.ff.zm hx1;obtain ⟨d,hd⟩:∃d,(G1.K x1).length=d:=⟨_,rfl⟩;rw [hd] at hp2 hdn;have hsz1:=hu1.size;have HI:=χ (ψ hI (ψ y7 (ψ hT1 (ψ hM1 (ψ hu1 (ψ ho1 (ψ hd Ag)))))));clear hI y7 hT1 hM1 hu1 hd Ag hx1;obtain ⟨a5,c5,rfl,Zw⟩:=bz ho1;clear ho1;go_wp2
    go_loopw [5] (λs5 wr3=>∃m:Nat,T1.length+m<=max T1.length (d+1)/\wr3.ownsRow w.heap.size 3 1 s5 (T1.length+m) (aT (T1++List.replicate m (-1)))/\dX wr3 B F gt ct A (bS st q1) G1/\aa [B.c,B.bn,B.bp,B.bl] w wr3) (λs5 _=>match s5 with | .slice _ l _=>d+1-l|_=>0)
    case atStart=>
     obtain ⟨hI,y7,hT1,hM1,hu1,ho1,hd,Ag⟩:=HI.out;exact ⟨0,ω,by simpa using ho1,hM1,hu1⟩
    case round=>
     obtain ⟨m,hm,ho,hM,hu⟩:=hrel;rename World=>wr3;obtain ⟨a,c,rfl,hc⟩:=bz ho
     by_cases hmd:T1.length+m<=d
     ·have hmdI:((T1.length+m:Nat):Int)<=(d:Int):=ω;have hsz3:=hu.size;have HU:=χ (ψ hM hu);clear hM hu
      go_wp2_with (first
       | (at_builtin;refine aW rfl _ _ 77 rfl w.heap.size 3 (.int .i64 0) 1 8 Tryz.underlying77 fF rfl δ _ _ _ rfl (ho) [.int .i64 (-1)] rfl (by simp [Value.oneCell']) (by first|rfl|(rw [Κ];rfl)) μ ω (ω) ?_;intro v2 w2 ho2 hu2 kZ)
       | fail)
      obtain ⟨hM,hu⟩:=HU.out;obtain ⟨a2,c2,rfl,_⟩:=bz ho2;refine ⟨⟨m+1,ω,?_,hM.own Tg.out ho hu2,hu.own ho (Θ _) hu2⟩,ζ⟩;rw [List.replicate_succ',←ϋ,bZ];exact ho2
     ·have hm':m=d+1-T1.length:=ω;have hP:T1++List.replicate m (-1)=jd T1 d:=by unfold jd;rw [hm']
      rw [hP] at ho;obtain ⟨hI,y7,hT1,hM1,hu1,ho1,hd,Ag⟩:=HI.out;obtain ⟨s0,s1,s2⟩:=hT1.step (vU A A.cs.length G1 _ h) h1;rw [hd] at s0 s1 s2;unfold Gu at hI;rw [hd] at hI;have RZ:=Bg T1 d;have Zr:T1.length+m=(jd T1 d).length:=ω;rw [Zr] at ho ⊢;obtain ⟨P,eP⟩:∃P,jd T1 d=P:=⟨_,rfl⟩;rw [eP] at ho s0 s1 s2 hI RZ ⊢;obtain ⟨g,cp,hv,hbg,hgs,hcp1,hcp2,hcell,RX⟩:=ed ho ω;have hcd:wr3.cell? ⟨g,d,none⟩=some (.int .i64 (P.getD d (-1))):=hcell d _ (by unfold aT;rw [ϑ,s0];rfl);have hfd:=RX d;rw [hv] at ho ⊢;have hPlI:(d:Int)<(P.length:Int):=by clear s0 s1 s2 hI;omega
      have hPb:(P.length:Int)<=65537:=by clear s0 s1 s2 hI;omega
      have hni:¬ (P.length:Int)<=(d:Int):=by clear s0 s1 s2 hI;omega
      have Vg:g∉B.blk F gt:=λhm=>by have:=Tg.out g hm;omega
      have HPL:=χ RZ;clear RZ
      by_cases hy:P.getD d (-1)=-1
      ·rw [Δ hy] at hI;rw [hy] at hcd;have HS:=χ (ψ hM (ψ hu (ψ ho (ψ (s1 hy) hI))));clear hI y7 hT1 hM1 hu1 ho1 hd Ag s0 s1 s2 hM hu ho hcell RX hv eP hP hy HI Zr;go_wp2;obtain ⟨hM,hu,ho,hpl,hI⟩:=HS.out;obtain ⟨hD,hT,_,_,_⟩:=HR.out;have hD2:tid (pU A) (rs.drop (i+1)) ⟨P.set d x1,G1,q1⟩=D:=by
        have:tid (pU A) (x::rs.drop (i+1)) ⟨T,G',q⟩=tid (pU A) (rs.drop (i+1)) (Gu (pU A) (mK T+1) T x G' q):=rfl;rw [this,HD1.out,←hI] at hD;exact hD
       refine ⟨⟨i+1,P.set d x1,G1,q1,ω,by go_num,hD2,hpl.1,by rw [Ι];have:=HPL.out;omega,?_,hM.upd ((aa.refl [g] wr3).setCell (Α σ) _) (λy hy=>by simp at hy;subst hy;exact Vg),hu.setCell (Β hbg) _⟩,by simp [intOf];omega⟩;rw [Ι];exact C8 ho d x1
      ·rw [Γ hy] at hI;obtain ⟨z,ez,hzn,hzx,hzh,hoc,st1,st2⟩:=s2 hy;rw [ez] at hcd hI;rw [π] at hI;have sD:=Ag.1;have hin1:bR A (x1:Int)=true:=hin x1 sD Ag.2.2;have hinz:bR A (z:Int)=true:=hin z hzn hzh;have hzm:((z:Int) == -1)=false:=σ;have hu0:aa [g] wr3 (wr3.setCell ⟨g,d,none⟩ (.int .i64 (-1))):=(aa.refl [g] wr3).setCell (Α σ) _;have hgc:B.n0∉[g]:=by simp;intro e;exact Vg (by rw [←e];simp [FB.blk])
       have hM2:=hM.upd hu0 (λy hy=>by simp at hy;subst hy;exact Vg);have ka:=gW hM2.cells z x1 hinz hin1;have hn0:(wr3.setCell ⟨g,d,none⟩ (.int .i64 (-1))).cell? ⟨B.n0,0,none⟩=some (.pointer (some ⟨B.c,0,none⟩)):=hM2.h0;have ho2:=C8 ho d (-1);obtain ⟨wq,hwq⟩:∃wq,wr3.setCell ⟨g,d,none⟩ (.int .i64 (-1))=wq:=⟨_,rfl⟩;rw [hwq] at hM2 ka hn0 ho2 hu0;have TZ:aa [B.c,B.bn,B.bp,B.bl] w wq:=hwq▸hu.setCell (Β hbg) _;have HS:=χ (ψ hM2 (ψ TZ (ψ ho2 (ψ hI (ψ hoc (ψ st1 (ψ st2 (ψ hT1 y7))))))));cases hb:decide (dO A z x1) with
       | true=>
        rw [hb] at ka;have kz:=λW st' (hW:dX W B F gt ct A st' G1)=>yJ hW (x:=z) (y:=x1) hzn sD (λk t e=>(hT1.ff.kid z k hzn (by rw [e];simp)).1) (Χ (hT1.ff.zm hzn) hc1);have KZ:=χ kz;have HB:=χ hb;clear hI y7 hT1 hM1 hu1 ho1 hd Ag s0 s1 s2 hM hu ho hcell RX hv eP hP hy HI Zr st1 st2 hoc hM2 TZ ho2 ez kz hb
        go_wp2_with (first
         | ((go_at_call 164;(with_reducible refine (ka).mono ?_));rintro e w5 ⟨rfl,QD,cB⟩;(have k5:=KZ.out w5 _ (HS.out.1.setSt cB QD));(have Lj:=χ cB);clear QD cB ka)
         | ((go_at_call 225;(with_reducible refine (k5).mono ?_));rintro e w6 ⟨rfl,rV,jy⟩;(have HU6:=χ (ψ rV jy));clear rV jy k5)
         | fail)
        go_roundg fv
        case measure=>omega
        case rel=>
         obtain ⟨hM2,TZ,ho2,hI,hoc,st1,st2,hT1,y7⟩:=HS.out;have hlt2:pU A z x1=true:=HB.out;rw [hlt2,Δ rfl] at hI;obtain ⟨rV,jy⟩:=HU6.out;have cB:=Lj.out;have hg1:∀y,y∈[B.c,B.bn,B.bp,B.bl]->y≠g:=λy hy e=>by have:=H0.out.2.2.2.2.1 y hy;omega
         rw [iV] at rV;refine ⟨P.set d (-1),z,dB G1 x1 z,q1+1,rfl,hI,ω,st1 hlt2,by rw [Ι];have:=HPL.out;omega,?_,rV,?_⟩
         ·rw [Ι];exact au (au ho2 cB (λy hy hm=>by simp [Value.ownBlock] at hy hm;exact hg1 B.c σ ω)) jy (λy hy hm=>by simp [Value.ownBlock] at hy;subst hy;exact hg1 g (by simp at hm;rcases hm with e|e|e<;>simp [e]) rfl)
         ·exact (TZ.trans (cB.mono σ)).trans (jy.mono (λy hy=>by simp at hy;rcases hy with e|e|e<;>simp [e]))
       | false=>
        rw [hb] at ka;have kz:=λW st' (hW:dX W B F gt ct A st' G1)=>yJ hW (x:=x1) (y:=z) sD hzn (λk t e=>(hT1.ff.kid x1 k sD (by rw [e];simp)).1) (Χ (hT1.ff.zm sD) hc1);have KZ:=χ kz;have HB:=χ hb;clear hI y7 hT1 hM1 hu1 ho1 hd Ag s0 s1 s2 hM hu ho hcell RX hv eP hP hy HI Zr st1 st2 hoc hM2 TZ ho2 ez kz hb
        go_wp2_with (first
         | ((go_at_call 164;(with_reducible refine (ka).mono ?_));rintro e w5 ⟨rfl,QD,cB⟩;(have k5:=KZ.out w5 _ (HS.out.1.setSt cB QD));(have Lj:=χ cB);clear QD cB ka)
         | ((go_at_call 225;(with_reducible refine (k5).mono ?_));rintro e w6 ⟨rfl,rV,jy⟩;(have HU6:=χ (ψ rV jy));clear rV jy k5)
         | fail)
        go_roundg fv
        case measure=>omega
        case rel=>
         obtain ⟨hM2,TZ,ho2,hI,hoc,st1,st2,hT1,y7⟩:=HS.out;have hlt2:pU A z x1=false:=HB.out;rw [hlt2,Γ σ] at hI;obtain ⟨rV,jy⟩:=HU6.out;have cB:=Lj.out;have hg1:∀y,y∈[B.c,B.bn,B.bp,B.bl]->y≠g:=λy hy e=>by have:=H0.out.2.2.2.2.1 y hy;omega
         rw [iV] at rV;refine ⟨P.set d (-1),x1,dB G1 z x1,q1+1,rfl,hI,ω,st2 hlt2,by rw [Ι];have:=HPL.out;omega,?_,rV,?_⟩
         ·rw [Ι];exact au (au ho2 cB (λy hy hm=>by simp [Value.ownBlock] at hy hm;exact hg1 B.c σ ω)) jy (λy hy hm=>by simp [Value.ownBlock] at hy;subst hy;exact hg1 g (by simp at hm;rcases hm with e|e|e<;>simp [e]) rfl)
         ·exact (TZ.trans (cB.mono σ)).trans (jy.mono (λy hy=>by simp at hy;rcases hy with e|e|e<;>simp [e]))
  ·obtain rfl:i=len:=ω;have hdr:rs.drop i=[]:=List.drop_eq_nil_of_le (by have:=Zl.out;omega);rw [hdr] at hD;have hD2:(⟨T,G',q⟩:TD)=D:=hD;subst hD2;have HR:=χ (ψ ho (ψ hM hu));clear hT ho hM hu hD hdr;go_wp2;go_ret;exact ⟨_,rfl,HR.out.1,HR.out.2.1,HR.out.2.2⟩
end
end Go.Proofs.YtnpdakpagnpanaaGreat
namespace Go.Proofs.YtnpdakpagnpanaaGreat
def Bw (l:List Nat) (x:Nat):List Nat:=(l.dropWhile (λz=>z != x)).tail++l.takeWhile (λz=>z != x)
theorem AP {l:List Nat} {x:Nat} (hx:x∈l) (hn:l.Nodup):∃a b,l=a++x::b/\x∉a/\x∉b/\l.takeWhile (λz=>z != x)=a/\(l.dropWhile (λz=>z != x)).tail=b:=by
 obtain ⟨a,b,rfl⟩:=List.append_of_mem hx;rw [θ,Ζ] at hn;have h1:x∉a:=λh=>hn.2.2 x h x σ rfl;have hp:∀z,z∈a->(z != x)=true:=λz hz=>by simp;intro e;subst e;exact h1 hz
 refine ⟨a,b,rfl,h1,hn.2.1.1,?_,?_⟩
 ·rw [List.takeWhile_append_of_pos hp,List.takeWhile_cons_of_neg σ];simp
 ·rw [List.dropWhile_append_of_pos hp,List.dropWhile_cons_of_neg σ];rfl
theorem Pm {l:List Nat} {x:Nat} (hx:x∈l) (hn:l.Nodup):∃a b,l=a++x::b/\Bw l x=b++a/\x∉a/\x∉b:=by
 obtain ⟨a,b,h1,h2,h3,h4,h5⟩:=AP hx hn;exact ⟨a,b,h1,by unfold Bw;rw [h4,h5],h2,h3⟩
def dD (h x:Nat) (G:FG):FG:=
 { (match G.R h with|[]=>prt G x|t::_=>IM (prt G x) t x) with
  up:=ae G.up x (-1),mr:=ae G.mr x false,K:=ae G.K (G.up x).toNat (Bw (G.K (G.up x).toNat) x),R:=match G.R h with|[]=>G.R|t::s=>ae G.R h (t::x::s) }
def pX:Nat->Nat->Nat->FG->FG
 | 0,_,_,G=>G
 | f+1,h,x,G=>if G.up x=-1 then G else if G.mr x=false then { G with mr:=ae G.mr x true } else pX f h (G.up x).toNat (dD h x G)
def marks (n:Nat) (G:FG):Nat:=((List.range n).filter G.mr).length
theorem yK {p:Nat->Bool} {x:Nat} {b:Bool}:∀l:List Nat,l.Nodup->x∈l->(l.filter (ae p x b)).length+(if p x then 1 else 0)=(l.filter p).length+(if b then 1 else 0)
 | [],_,h=>by cases h
 | y::t,hn,hx=>by
  rw [Ζ] at hn
  by_cases e:y=x
  ·subst e;have hc:t.filter (ae p y b)=t.filter p:=List.filter_congr (λz hz=>aQ _ _ (λe=>hn.1 (e▸hz)));have h1:ae p y b y=b:=bq _ _ _;rw [List.filter_cons,List.filter_cons,h1,hc];cases b<;>cases p y<;>simp
  ·have ih:=yK (p:=p) (b:=b) t hn.2 (by rcases ρ.1 hx with h|h;exact absurd h.symm e;exact h);have h1:ae p x b y=p y:=aQ _ _ e;rw [List.filter_cons,List.filter_cons,h1];cases p y<;>simp<;>omega
theorem qI {n:Nat} {G:FG} {x:Nat} {b:Bool} {mr:Nat->Bool} (hx:x<n) (hm:mr=ae G.mr x b) (G':FG) (e:G'.mr=mr):marks n G'+(if G.mr x then 1 else 0)=marks n G+(if b then 1 else 0):=by
 unfold marks;rw [e,hm];exact yK _ List.nodup_range (by simpa using hx)
section
variable {n:Nat} {G:FG} {bC:Nat->Int} {L M:Nat->Nat->Prop} {ex:Nat->Nat}
theorem xP (H:FF n G bC L ex) (R:FR n G bC M none) {h x p t:Nat} {s:List Nat} (hR:G.R h=t::s) (hx:x<n) (ux:G.up x=p) (hpx:p≠x) (hh:bC x=h) (hL:M t x) :
  FF n (dD h x G) bC L (λc=>if c=p then ex c+1 else ex c)/\FR n (dD h x G) bC M none/\(dD h x G).up=ae G.up x (-1)/\(dD h x G).mr=ae G.mr x false/\(dD h x G).K=ae G.K p (Bw (G.K p) x)/\
   (dD h x G).R=ae G.R h (t::x::s)/\(∃a b,G.K p=a++x::b/\Bw (G.K p) x=b++a)/\G.nx x=(Bw (G.K p) x).headD x:=by
 obtain ⟨hp,hxk⟩:=H.above hx ux;obtain ⟨q1,q2,q3⟩:=R.all h;obtain ⟨h1,ht,ut,htm⟩:=(q2 t).1 (by rw [hR];simp);have Iq:=H.ring p hp;obtain ⟨a,b,eK,eA,xa,xb⟩:=Pm hxk Iq.nd;have hkp:∀z,z∈G.K p->z<n/\G.up z=p:=λz hz=>H.kid p z hp hz;have MV:Ring G.nx (x::(b++a)):=by rw [eK] at Iq;exact Ring.Qj (a:=a) (b:=x::b) Iq
 have hmem:∀z,z∈x::(b++a)↔z∈G.K p:=λz=>by rw [eK];simp;grind
 have hall:∀z,z∈x::(b++a)->z<n:=λz hz=>(hkp z ((hmem z).1 hz)).1;obtain ⟨p1,p2⟩:=H.rg.part MV hall;have hpm:G.pv x∈G.K p:=by
  rw [←hmem];rcases List.eq_nil_or_concat (b++a) with e|⟨c,y,e⟩
  ·rw [e] at MV;have e1:=gU.1 MV;have:=H.rg.pn x hx;rw [e1] at this;rw [this];simp
  ·rw [List.concat_eq_append] at e;have:=H.rg.last (x:=x) (y:=y) (a:=c) (by rw [List.cons_append,←e];exact MV) (hall y (by rw [e];simp));rw [this,e];simp
 have hpv:=hkp _ hpm;have htx:t≠x:=λe=>by subst e;omega
 have htp:t≠G.pv x:=λe=>by rw [←e] at hpv;omega
 have ux':(dD h x G).up=ae G.up x (-1):=rfl;have mx':(dD h x G).mr=ae G.mr x false:=rfl;have K':(dD h x G).K=ae G.K p (b++a):=by show ae G.K (G.up x).toNat _=_;rw [ux,π,eA]
 have R':(dD h x G).R=ae G.R h (t::x::s):=by show (match G.R h with|[]=>G.R|t::s=>ae G.R h (t::x::s))=_;rw [hR]
 have nx':(dD h x G).nx=bT (bT G.nx x (G.pv x)) t x:=by unfold dD;rw [hR];rfl
 have pv':(dD h x G).pv=iH (bT G.nx x (G.pv x)) (iH G.nx G.pv x (G.pv x)) t x:=by unfold dD;rw [hR];rfl
 have far:∀l,Ring G.nx l->x∉l->G.pv x∉l->t∉l->Ring (dD h x G).nx l:=λl hl e1 e2 e3=>by rw [nx'];exact (hl.jZ e1 e2).jZ e3 e1
 have Ju:∀y,y≠x->(dD h x G).up y=G.up y:=λy hy=>by rw [ux',aQ _ _ hy]
 have UQ:(dD h x G).up x=-1:=by rw [ux',bq]
 have Kp:(dD h x G).K p=b++a:=by rw [K',bq]
 have Kn:∀y,y≠p->(dD h x G).K y=G.K y:=λy hy=>by rw [K',aQ _ _ hy]
 have VK:∀y,y<n->y≠p->x∉G.K y:=λy hy hyp hm=>hyp (by have:=(H.kid y x hy hm).2;omega);have hpos:(0:Int)<bC p/\(0:Int)<bC x:=by
  have:=H.home x p hx ux;exact ⟨by rw [←this.1];exact this.2,this.2⟩
 have hlen:(G.K p).length=(b++a).length+1:=by rw [eK];simp;omega
 have mono:∀c,c≠x->(G.K c).length+(if G.mr c then 1 else 0)+ex c<=((dD h x G).K c).length+(if (dD h x G).mr c then 1 else 0)+(if c=p then ex c+1 else ex c):=λc hc=>by
  rw [mx',aQ _ _ hc]
  by_cases e:c=p
  ·rw [e,Kp,hlen,Δ rfl];omega
  ·rw [Kn c e,Γ e];omega
 refine ⟨⟨?_,λy z hy hz=>?_,λy hy=>?_,λy hy=>?_,λy q hy hu=>?_,λy q hy hu=>?_,λy hy h0=>?_,λy hy hu=>?_,λy d hy=>?_⟩,⟨λg _=>?_,λg y _=>?_,λg t' s' _ hR'=>?_⟩,ux',mx',by rw [eA];exact K',R',⟨a,b,eK,eA⟩,by rw [eA];exact (ik.1 MV).2.1⟩
 ·rw [nx',pv'];exact (H.rg.swap hx hpv.1).swap ht hx
 ·by_cases e:y=p
  ·subst e;rw [Kp] at hz;have hzk:z∈G.K y:=(hmem z).1 (by simp at hz ⊢;exact Β hz);have hzx:z≠x:=λe=>by subst e;simp at hz;rcases hz with h|h;exact xb h;exact xa h
   rw [Ju z hzx];exact H.kid y z hy hzk
  ·rw [Kn y e] at hz;have hzx:z≠x:=λe2=>VK y hy e (e2▸hz);rw [Ju z hzx];exact H.kid y z hy hz
 ·by_cases e:y=x
  ·subst e;exact Α UQ
  ·rw [Ju y e];rcases H.Fg y hy with e1|⟨q,hq,e1,e2⟩
   ·exact Α e1
   ·refine Β ⟨q,hq,e1,?_⟩
    by_cases e3:q=p
    ·subst e3;rw [Kp];rcases ρ.1 ((hmem y).2 e2) with e4|e4
     ·exact absurd e4 e
     ·exact e4
    ·rw [Kn q e3];exact e2
 ·by_cases e:y=p
  ·subst e;rw [Kp,nx'];exact p2.jZ (λhm=>by have:=(hkp t ((hmem t).1 (by simp at hm ⊢;exact Β hm))).2;omega) (λhm=>by simp at hm;rcases hm with h|h;exact xb h;exact xa h)
  ·rw [Kn y e];exact far _ (H.ring y hy) (VK y hy e) (λhm=>e (by have:=(H.kid y _ hy hm).2;omega)) (H.pz hy ut)
 ·have hyx:y≠x:=λe=>by subst e;rw [UQ] at hu;omega
  rw [Ju y hyx] at hu;exact H.home y q hy hu
 ·have hyx:y≠x:=λe=>by subst e;rw [UQ] at hu;omega
  rw [Ju y hyx] at hu;exact H.ord y q hy hu
 ·obtain ⟨a1,a2,a3⟩:=H.alone y hy h0;have hyx:y≠x:=λe=>h0 (by rw [e];exact hpos.2);have hyp:y≠p:=λe=>h0 (by rw [e];exact hpos.1);have hyv:y≠G.pv x:=λe=>by rw [←e] at hpv;omega
  have WN:y≠t:=λe=>h0 (by rw [e,htm];omega);exact ⟨by rw [Ju y hyx];exact a1,by rw [Kn y hyp];exact a2,by rw [nx',ig WN hyx,ig hyx hyv];exact a3⟩
 ·rw [mx']
  by_cases e:y=x
  ·rw [e,bq]
  ·rw [Ju y e] at hu;rw [aQ _ _ e];exact H.free y hy hu
 ·by_cases e:y=p
  ·subst e;rw [Kp];have m1:few (dD h x G) (λc=>if c=y then ex c+1 else ex c) (b++a) d<=few G ex (b++a) d:=CW d (λc hc=>mono c (λe=>by subst e;simp at hc;rcases hc with h|h;exact xb h;exact xa h));have m2:few G ex (G.K y) d=few G ex (x::(b++a)) d:=EG _ _ (by rw [eK];exact Φ (l₁:=a) (l₂:=x::b)) d;rw [Ee] at m2;have m3:=H.cnt y d hy;omega
  ·rw [Kn y e];exact Χ (CW d (λc hc=>mono c (λe2=>VK y hy e (e2▸hc)))) (H.cnt y d hy)
 ·obtain ⟨r1,r2,_⟩:=R.all g
  by_cases e:g=h
  ·subst e;rw [R',bq,nx'];have hs1:Ring (bT G.nx x (G.pv x)) (t::s):=by
    rw [←hR];exact r1.jZ (λhm=>by have:=((r2 x).1 hm).2.2.1;omega) (λhm=>by have:=((r2 _).1 hm).2.2.1;omega)
   exact Ring.join hs1 p1 (λz hz hm=>by
    simp at hm;subst hm;have:=((r2 z).1 (by rw [hR];exact hz)).2.2.1
    omega)
  ·rw [R',aQ _ _ e];exact far _ r1 (λhm=>by have:=((r2 x).1 hm).2.2.1;omega) (λhm=>by have:=((r2 _).1 hm).2.2.1;omega) (λhm=>e (by have:=((r2 t).1 hm).2.2.2;omega))
 ·rw [R'];have old:=(R.all g).2.1 y
  by_cases e:g=h
  ·subst e;rw [bq];have:y∈t::x::s↔y=x\/y∈G.R g:=by rw [hR];simp;grind
   rw [this,old]
   by_cases e2:y=x
   ·subst e2;simp [UQ,h1,hx,hh]
   ·rw [Ju y e2];simp [e2,tq]
  ·rw [aQ _ _ e,old]
   by_cases e2:y=x
   ·subst e2;constructor
    ·rintro ⟨_,_,a2,_⟩;omega
    ·rintro ⟨_,_,_,a3⟩;exact absurd (show g=h by omega) e
   ·rw [Ju y e2];exact Iff.rfl
 ·rw [R'] at hR'
  by_cases e:g=h
  ·subst e;rw [bq] at hR';have e1:t=t':=by injection hR'
   have e2:x::s=s':=by injection hR'
   subst e1 e2;intro y hy;rcases ρ.1 hy with rfl|hy
   ·exact hL
   ·exact q3 t s hR y hy
  ·rw [aQ _ _ e] at hR';exact (R.all g).2.2 t' s' hR'
theorem Oi (SI:∀a,¬L a a) {h t:Nat}:∀ (f p:Nat) (s:List Nat) (G:FG),FF n G bC L (λc=>if c=p then 1 else 0)->FR n G bC M none->G.R h=t::s->p<n->bC p=h->1<=h->(∀y,y<n->bC y=h->y≠t->M t y)->marks n G<f->
  FF n (pX f h p G) bC L (λ_=>0)/\FR n (pX f h p G) bC M none/\(∃s',(pX f h p G).R h=t::s')/\(∀g,g≠h->(pX f h p G).R g=G.R g)/\
   (G.R h).length<=((pX f h p G).R h).length/\((pX f h p G).R h).length+marks n (pX f h p G)<=(G.R h).length+marks n G+1/\marks n (pX f h p G)<=marks n G+1/\(∀y,G.up y=-1->(pX f h p G).up y=-1)
 | 0,p,s,G,H,R,hR,hp,hh,h1,hf,hm=>ω
 | f+1,p,s,G,H,R,hR,hp,hh,h1,hf,hm=>by
  unfold pX
  by_cases e:G.up p=-1
  ·rw [Δ e];refine ⟨⟨H.rg,H.kid,H.Fg,H.ring,H.home,H.ord,H.alone,H.free,λx d hx=>?_⟩,R,⟨s,hR⟩,λ_ _=>rfl,Θ _,ω,ω,λ_ h=>h⟩
   rw [qP (G:=G) (ex:=λc=>if c=p then 1 else 0) d (λc hc=>by
    have hcp:c≠p:=λe2=>H.pz hx e (e2▸hc)
    rw [Γ hcp])]
   exact H.cnt x d hx
  ·rw [Γ e]
   by_cases e2:G.mr p=false
   ·rw [Δ e2];have hmk:=qI (G:=G) (b:=true) hp rfl { G with mr:=ae G.mr p true } rfl;rw [e2] at hmk;simp only [ϟ,if_false,if_true] at hmk;refine ⟨⟨H.rg,H.kid,H.Fg,H.ring,H.home,H.ord,H.alone,λy hy hu=>?_,λx d hx=>?_⟩,⟨R.ring,R.mem,R.top⟩,⟨s,hR⟩,λ_ _=>rfl,Θ _,by show (G.R h).length+_<=_;omega,by omega,λ_ h=>h⟩
    ·have hyp:y≠p:=λe3=>e (e3▸hu)
     show ae G.mr p true y=false
     rw [aQ _ _ hyp];exact H.free y hy hu
    ·have:=qP (G:=G) (G':={ G with mr:=ae G.mr p true }) (ex:=λc=>if c=p then 1 else 0) (VS:=λ_=>0) (l:=G.K x) d (λc hc=>by
      by_cases e3:c=p
      ·subst e3
       show (G.K c).length+(if ae G.mr c true c=true then 1 else 0)+0=_
       rw [bq,e2];simp
      ·show (G.K c).length+(if ae G.mr p true c=true then 1 else 0)+0=_
       rw [aQ _ _ e3,Γ e3])
     show few { G with mr:=ae G.mr p true } (λ_=>0) (G.K x) d<=d
     rw [this];exact H.cnt x d hx
   ·rw [Γ e2];obtain ⟨q,hq,uq,hpq⟩:=(H.Fg p hp).resolve_left e;rw [uq,π];have Wm:q≠p:=λe3=>by subst e3;exact SI _ (H.ord q q hp uq)
    have htp:p≠t:=λe3=>by
     subst e3;have:=((R.all h).2.1 p).1 (by rw [hR];simp);exact e this.2.2.1
    obtain ⟨o1,o2,o3,o4,o5,o6,o7,_⟩:=xP H R hR hp uq Wm hh (hf p hp hh htp);have hqh:bC q=h:=by have:=(H.home p q hp uq).1;omega
    have hmk:=qI (G:=G) (b:=false) hp rfl (dD h p G) o4;have e2':G.mr p=true:=by simpa using e2
    rw [e2'] at hmk;simp only [ϟ,if_false,if_true] at hmk;have UN:FF n (dD h p G) bC L (λc=>if c=q then 1 else 0):=by
     refine ⟨o1.rg,o1.kid,o1.Fg,o1.ring,o1.home,o1.ord,o1.alone,o1.free,λx d hx=>?_⟩;have VG:(dD h p G).up p=-1:=by rw [o3,bq]
     rw [qP (G:=dD h p G) (ex:=λc=>if c=q then (if c=p then 1 else 0)+1 else if c=p then 1 else 0) d (λc hc=>by
      have hcp:c≠p:=λe3=>o1.pz hx VG (e3▸hc)
      rw [Γ hcp])]
     exact o1.cnt x d hx
    have oR:(dD h p G).R h=t::p::s:=by rw [o6,bq]
    obtain ⟨r1,r2,r3,r4,r5,r6,r7,r8⟩:=Oi SI f q (p::s) (dD h p G) UN o2 oR hq hqh h1 hf ω;rw [oR] at r5 r6;rw [hR];simp only [Ω] at r5 r6 ⊢;refine ⟨r1,r2,r3,λg hg=>by rw [r4 g hg,o6,aQ _ _ hg],ω,ω,ω,λy hy=>r8 y ?_⟩;have hyp:y≠p:=λe3=>e (e3▸hy);rw [o3,aQ _ _ hyp];exact hy
end
def dJ (n h x:Nat) (G:FG):FG:=if G.up x=-1 then G else pX (marks n (dD h x G)+1) h (G.up x).toNat (dD h x G)
def Lx (l k:List Nat) (x:Nat):List Nat:=l.takeWhile (λz=>z != x)++(k++(l.dropWhile (λz=>z != x)).tail)
def lh (h x:Nat) (G:FG):FG:={ prt (bf G x) x with R:=ae G.R h (Lx (G.R h) (kl (G.K x)) x) }
def NR (A':NS) (h x:Nat) (G:FG):FG:=eZ (pU A') h [x] G
def tF (A':NS) (a b:Nat) (G:FG):FG:=match G.R b with
 | []=>{ G with R:=ae G.R b [] }
 | x::r=>{ eZ (pU A') a (x::r) G with R:=ae (eZ (pU A') a (x::r) G).R b [] }
def NB (a b:Nat) (G:FG):Nat:=if G.R b=[] then 0 else nG a G
section
variable {A:NS} {G:FG}
theorem O7 {n:Nat} {bC:Nat->Int} {L M:Nat->Nat->Prop} (SI:∀a,¬L a a) {h x t p:Nat} {s:List Nat} (H:FF n G bC L (λ_=>0)) (H1:FF n (dD h x G) bC L (λc=>if c=p then 0+1 else 0)) (R:FR n (dD h x G) bC M none) (hR:G.R h=t::s) (Jq:(dD h x G).R h=t::x::s) (hRo:∀g,g≠h->(dD h x G).R g=G.R g)
  (ux:G.up x=p) (hup:(dD h x G).up=ae G.up x (-1)) (hmr:(dD h x G).mr=ae G.mr x false) (hx:x<n) (hp:p<n) (hh:bC p=h) (h1:1<=h) (hf:∀y,y<n->bC y=h->y≠t->M t y) :
  FF n (dJ n h x G) bC L (λ_=>0)/\FR n (dJ n h x G) bC M none/\(∃s',(dJ n h x G).R h=t::s')/\(∀g,g≠h->(dJ n h x G).R g=G.R g)/\(dJ n h x G).up x=-1/\
   (G.R h).length<=((dJ n h x G).R h).length/\((dJ n h x G).R h).length+marks n (dJ n h x G)<=(G.R h).length+marks n G+2/\marks n (dJ n h x G)<=marks n G+1:=by
 have e:dJ n h x G=pX (marks n (dD h x G)+1) h p (dD h x G):=by unfold dJ;rw [ux,Γ ω,π]
 rw [e];obtain ⟨r1,r2,r3,r4,r5,r6,r7,r8⟩:=Oi (M:=M) SI (marks n (dD h x G)+1) p (x::s) (dD h x G) (by simpa using H1) R Jq hp hh h1 hf ω;have hmk:=qI (G:=G) (b:=false) hx rfl (dD h x G) hmr;simp only [ϟ,if_false] at hmk;rw [Jq] at r5 r6;rw [hR];simp only [Ω] at r5 r6 ⊢;exact ⟨r1,r2,r3,λg hg=>(r4 g hg).trans (hRo g hg),r8 x (by rw [hup,bq]),ω,ω,ω⟩
theorem FR.imp {n:Nat} {bC:Nat->Int} {L M:Nat->Nat->Prop} {g:Option Nat} (R:FR n G bC L g) (h:∀g t s,G.R g=t::s->∀y,y∈s->L t y->M t y):FR n G bC M g:=
 ⟨R.ring,R.mem,λg t s hg hR y hy=>h g t s hR y hy (R.top g t s hg hR y hy)⟩
end
theorem yN.done {n:Nat} {bC:Nat->Int} {L:Nat->Nat->Prop} {h:Nat} {G:FG} (H:yN n bC L h [] G) (h1:1<=h):FR n G bC L none:=by
 refine ⟨λg _=>?_,λg y _=>?_,λg t s _ hR=>?_⟩
 all_goals by_cases e:g=h
 ·subst e;exact H.ring
 ·exact H.fr.ring g (by simp;exact e)
 ·subst e;constructor
  ·intro hm;exact ⟨h1,H.mem y hm⟩
  ·rintro ⟨_,a⟩;rcases H.all y a with b|b
   ·exact b
   ·cases b
 ·exact H.fr.mem g y (by simp;exact e)
 ·subst e;exact H.top t s hR
 ·exact H.fr.top g t s (by simp;exact e) hR
section
variable {A:NS} {G:FG}
theorem Vn (n:Nat):wE (NS.new n) FG.none:=by
 have hl:(NS.new n).cs.length=n:=by simp [NS.new]
 have hz:∀y,((NS.new n).c y).i=0:=λy=>by rw [NS.wL];rfl
 refine ⟨⟨⟨λx hx=>hx,λx hx=>hx,λ_ _=>rfl,λ_ _=>rfl⟩,λx y _ hy=>(by cases hy),λy _=>Α rfl,λx _=>Ring.nil _,λy p _ hu=>?_,λy p _ hu=>?_,λy _ _=>⟨rfl,rfl,rfl⟩,λy _ _=>rfl,λx d _=>Nat.zero_le _⟩,⟨λh _=>Ring.nil _,λh y _=>?_,λh t s _ e=>(by cases e)⟩⟩
 ·have:(-1:Int)=p:=hu;omega
 ·have:(-1:Int)=p:=hu;omega
 ·constructor
  ·intro hm;cases hm
  ·rintro ⟨h1,_,_,h2⟩;simp only [hz] at h2;omega
theorem Rc (I:wE A G):wE (aI A) G:=by
 have e1:(aI A).cs=A.cs:=by unfold aI;split<;>rfl
 have e2:∀y,(aI A).c y=A.c y:=λy=>by unfold NS.c;rw [e1]
 have e3:(λy=>((aI A).c y).i)=(λy=>(A.c y).i):=funext (λy=>by rw [e2]);refine ⟨?_,?_⟩
 ·rw [e1,e3];exact I.ff.mono (λy p hy hu ho=>⟨(I.ff.home y p hy hu).1,(I.ff.home y p hy hu).2,(fT (e2 p) (e2 y)).2 ho⟩) I.ff.alone
 ·rw [e1,e3];exact I.fr.imp (λg t s _ y _ hl=>(fT (e2 t) (e2 y)).2 hl)
theorem Vk (I:wE A G) (ok:A.Ok) {h x:Nat} (k s:Int) (hB:nX A h x=true) :
  wE (aG A h x k s) (NR (aG A h x k s) h x G)/\((NR (aG A h x k s) h x G).R h).length=(G.R h).length+1/\(∀g,g≠h->(NR (aG A h x k s) h x G).R g=G.R g)/\(NR (aG A h x k s) h x G).mr=G.mr/\1<=h/\x<A.cs.length/\
   bR (aG A h x k s) (x:Int)=true/\(∀t s',G.R h=t::s'->bR (aG A h x k s) (t:Int)=true)/\(aG A h x k s).cs.length=A.cs.length:=by
 obtain ⟨b1,b2,b3⟩:=(dP _ _ _).1 hB;have b4:=(aA _ _).1 b1;have b5:=(fJ _ _).1 b2;have hx:x<A.cs.length:=ω;have h1:1<=h:=ω;have eP:aG A h x k s=iF A x ⟨h,k,s⟩:=by unfold aG;rw [hB];rfl
 have hc:∀y,(aG A h x k s).c y=if y=x then ⟨h,k,s⟩ else A.c y:=λy=>by rw [eP,jA];simp [hx]
 have hl:(aG A h x k s).cs.length=A.cs.length:=by rw [eP,fD]
 have x0:¬0<(A.c x).i:=λh'=>by
  have:bR A (x:Int)=true:=(ay _ _).2 ⟨hx,h'⟩;rw [this] at b3;cases b3
 obtain ⟨ax,kx,nx⟩:=I.ff.alone x hx x0;have bC:∀y,y≠x->((aG A h x k s).c y).i=(A.c y).i:=λy hy=>by rw [hc,Γ hy]
 have vZ:((aG A h x k s).c x).i=h:=by rw [hc,Δ rfl]
 have WG:∀y,0<(A.c y).i->y≠x:=λy hy e=>x0 (e▸hy);have Oc:∀a y,a≠x->y≠x->(dO (aG A h x k s) a y↔dO A a y):=λa y ha hy=>fT (by rw [hc,Γ ha]) (by rw [hc,Γ hy])
 have F':FF A.cs.length G (λy=>((aG A h x k s).c y).i) (dO (aG A h x k s)) (λ_=>0):=I.ff.mono (λy p hy hu ho=>by
  have hh:=I.ff.home y p hy hu;have hy1:0<(A.c y).i:=hh.2;have hp1:0<(A.c p).i:=by have:(A.c y).i=(A.c p).i:=hh.1;omega
  have e1:=WG y hy1;have e2:=WG p hp1;exact ⟨by simp only [bC y e1,bC p e2];exact hh.1,by simp only [bC y e1];exact hy1,(Oc p y e2 e1).2 ho⟩) (λy hy h0=>by
  by_cases e:y=x
  ·subst e;exact ⟨ax,kx,nx⟩
  ·simp only [bC y e] at h0;exact I.ff.alone y hy h0)
 have mR:∀g z,z∈G.R g->z≠x/\(A.c z).i=g/\1<=g:=λg z hz=>by
  have:=I.out hz;exact ⟨WG z (by have:=this.2.2.2.1;omega),this.2.2.2.1,this.1⟩
 have mm:∀g z,z≠x->(z∈G.R g↔1<=g/\z<A.cs.length/\G.up z=-1/\((aG A h x k s).c z).i=g):=λg z hz=>by rw [bC z hz];exact (I.fr.all g).2.1 z
 have H:yN A.cs.length (λy=>((aG A h x k s).c y).i) (dO (aG A h x k s)) h [x] G:=by
  refine ⟨F',⟨λg _=>(I.fr.all g).1,λg z hg=>?_,λg t s' _ hR y hy=>?_⟩,(I.fr.all h).1,λt s' hR y hy=>?_,λz hz=>?_,σ,λz hz=>?_,λz hz=>?_⟩
  ·by_cases e:z=x
   ·subst e;constructor
    ·intro hm;exact absurd rfl (mR g z hm).1
    ·rintro ⟨_,_,_,h2⟩;simp only [vZ] at h2;exact absurd (by congr 1;omega:some g=some h) hg
   ·exact mm g z e
  ·have e1:=(mR g t (by rw [hR];simp)).1;have e2:=(mR g y (by rw [hR];simp [hy])).1;exact (Oc t y e1 e2).2 ((I.fr.all g).2.2 t s' hR y hy)
  ·have e1:=(mR h t (by rw [hR];simp)).1;have e2:=(mR h y (by rw [hR];simp [hy])).1;exact (Oc t y e1 e2).2 ((I.fr.all h).2.2 t s' hR y hy)
  ·exact ((mm h z (mR h z hz).1).1 hz).2
  ·simp at hz;subst hz;exact ⟨⟨hx,ax,vZ⟩,nx,λhm=>(mR h z hm).1 rfl⟩
  ·by_cases e:z=x
   ·exact Β (by simp [e])
   ·exact Α ((mm h z e).2 ⟨h1,hz⟩)
 obtain ⟨r1,r2⟩:=H.step h1 (λG=>vU _ _ _ _ _) (λa b c=>dw);obtain ⟨s1,s2,s3,s4⟩:=lW (pU (aG A h x k s)) h [x] G;refine ⟨⟨by rw [hl];exact r1.ff,by rw [hl];exact r1.done h1⟩,r2,s4,s2,h1,hx,(ay _ _).2 ⟨by rw [hl];exact hx,by rw [vZ];omega⟩,λt s' hR=>?_,hl⟩;have:=I.out (h:=h) (z:=t) (by rw [hR];simp);exact (ay _ _).2 ⟨by rw [hl];exact this.2.1,by rw [bC t (mR h t (by rw [hR];simp)).1];omega⟩
theorem UL (I:wE A G) (ok:A.Ok) {a b:Nat} (hj:fQ A a b=true) :
  wE (ah A a b) (tF (ah A a b) a b G)/\((tF (ah A a b) a b G).R a).length=(G.R a).length+(G.R b).length/\(tF (ah A a b) a b G).R b=[]/\(∀g,g≠a->g≠b->(tF (ah A a b) a b G).R g=G.R g)/\(tF (ah A a b) a b G).mr=G.mr/\a≠b/\
   (∀t g s',G.R g=t::s'->bR (ah A a b) (t:Int)=true):=by
 obtain ⟨j1,j2,j3⟩:=(cO _ _ _).1 hj;have a4:=(aA _ _).1 j1;have b4:=(aA _ _).1 j2;have hab:a≠b:=λe=>j3 (by rw [e]);have h1:1<=a:=ω;have h2:1<=b:=ω;have hl:=dA A a b;have bC:∀y,y<A.cs.length->((ah A a b).c y).i=if (A.c y).i=b then (a:Int) else (A.c y).i:=λy hy=>by
  rw [kY hj];simp only
  by_cases e:(A.c y).i=b
  ·rw [Δ ⟨e,hy⟩,Δ e]
  ·rw [Γ (λh=>e h.1),Γ e]
 have Oc:=lY hj;have eL:∀x y,dO (ah A a b) x y=dO A x y:=λx y=>propext (Oc x y)
 have F':FF A.cs.length G (λy=>((ah A a b).c y).i) (dO (ah A a b)) (λ_=>0):=I.ff.mono (λy p hy hu ho=>by
  have hh:=I.ff.home y p hy hu;have hp:=(I.ff.above hy hu).1;have e1:(A.c y).i=(A.c p).i:=hh.1;have e2:0<(A.c y).i:=hh.2;refine ⟨by simp only [bC y hy,bC p hp,e1],?_,(Oc p y).2 ho⟩;simp only [bC y hy]
  split<;>omega) (λy hy h0=>I.ff.alone y hy (λh'=>h0 (by
   have e2:0<(A.c y).i:=h'
   simp only [bC y hy];split<;>omega)))
 have rt:∀g z,tq A.cs.length G (λy=>((ah A a b).c y).i) g z↔z<A.cs.length/\G.up z=-1/\(if (A.c z).i=b then (a:Int) else (A.c z).i)=g:=λg z=>by
  unfold tq;constructor
  ·rintro ⟨x1,x2,x3⟩;exact ⟨x1,x2,by rw [←bC z x1];exact x3⟩
  ·rintro ⟨x1,x2,x3⟩;exact ⟨x1,x2,by show ((ah A a b).c z).i=_;rw [bC z x1];exact x3⟩
 have inj:∀t g s',G.R g=t::s'->bR (ah A a b) (t:Int)=true:=λt g s' hR=>by
  have:=I.out (h:=g) (z:=t) (by rw [hR];simp);refine (ay _ _).2 ⟨by rw [hl];exact this.2.1,?_⟩;rw [bC t this.2.1]
  split<;>omega
 have TI:∀g,g≠a->g≠b->∀z,z∈G.R g↔1<=g/\tq A.cs.length G (λy=>((ah A a b).c y).i) g z:=λg ga gb z=>by
  rw [rt,(I.fr.all g).2.1 z];unfold tq;simp only;constructor
  ·rintro ⟨x0,x1,x2,x3⟩;exact ⟨x0,x1,x2,by rw [Γ ω];exact x3⟩
  ·rintro ⟨x0,x1,x2,x3⟩;refine ⟨x0,x1,x2,?_⟩
   split at x3
   ·omega
   ·exact x3
 have RG:∀g t s',G.R g=t::s'->∀y,y∈s'->dO (ah A a b) t y:=λg t s' hR y hy=>(Oc t y).2 ((I.fr.all g).2.2 t s' hR y hy);have ab:∀z,(z∈G.R a\/z∈G.R b)↔tq A.cs.length G (λy=>((ah A a b).c y).i) a z:=λz=>by
  rw [rt,(I.fr.all a).2.1 z,(I.fr.all b).2.1 z];unfold tq;simp only;constructor
  ·rintro (⟨_,x1,x2,x3⟩|⟨_,x1,x2,x3⟩)
   ·exact ⟨x1,x2,by rw [Γ ω];exact x3⟩
   ·exact ⟨x1,x2,by rw [Δ x3]⟩
  ·rintro ⟨x1,x2,x3⟩
   split at x3
   ·rename_i e;exact Β ⟨h2,x1,x2,e⟩
   ·exact Α ⟨h1,x1,x2,x3⟩
 have nb:∀z,¬tq A.cs.length G (λy=>((ah A a b).c y).i) b z:=λz hz=>by
  rw [rt] at hz;have x3:=hz.2.2
  split at x3<;>omega
 cases hRb:G.R b with
 | nil=>
  have e:tF (ah A a b) a b G={ G with R:=ae G.R b [] }:=by unfold tF;rw [hRb]
  have eR:({ G with R:=ae G.R b [] }:FG).R=G.R:=by
   show ae G.R b []=G.R
   funext z;unfold ae;by_cases ez:z=b
   ·rw [Δ ez,ez,hRb]
   ·rw [Γ ez]
  rw [e];refine ⟨⟨by rw [hl];exact F'.bH _,?_⟩,by rw [eR];simp,bq _ _ _,λg _ hg=>aQ _ _ hg,rfl,hab,inj⟩;rw [hl];refine ⟨λg _=>by rw [eR];exact (I.fr.all g).1,λg y _=>?_,λg t s _ hR=>by rw [eR] at hR;exact RG g t s hR⟩;rw [eR]
  by_cases ga:g=a
  ·subst ga;have:=ab y;rw [hRb] at this;simp only [ς,or_false] at this;rw [this];exact ⟨λh=>⟨h1,h⟩,λh=>h.2⟩
  ·by_cases gb:g=b
   ·subst gb;rw [hRb];constructor
    ·intro hm;cases hm
    ·rintro ⟨_,hz⟩;exact absurd hz (nb y)
   ·exact TI g ga gb y
 | cons x r=>
  have e:tF (ah A a b) a b G={ eZ (pU (ah A a b)) a (x::r) G with R:=ae (eZ (pU (ah A a b)) a (x::r) G).R b [] }:=by unfold tF;rw [hRb]
  rw [e];have rb:=(I.fr.all b).1;rw [hRb] at rb
  obtain ⟨c1,c2,c3,c4,c5⟩:=sH (lt:=pU (ah A a b)) (h:=a) F' h1 (vU _ _ _ _ _) (λ_ _ _=>dw) (I.fr.all a).1 rb (λz hz hm=>by
    have x1:=(I.out hz).2.2.2.1;have x2:=(I.out (h:=b) (z:=z) (by rw [hRb];exact hm)).2.2.2.1
    omega) (λz hz=>(ab z).1 (Α hz)) (λz hz=>(ab z).1 (Β (by rw [hRb];exact hz))) (RG a) (RG b x r hRb)
  obtain ⟨s1,s2,s3,s4⟩:=lW (pU (ah A a b)) a (x::r) G;generalize eZ (pU (ah A a b)) a (x::r) G=G1 at *;have QO:ae G1.R b [] a=G1.R a:=aQ _ _ hab;have ZC:∀g,g≠a->g≠b->ae G1.R b [] g=G.R g:=λg ga gb=>(aQ _ _ gb).trans (s4 g ga);refine ⟨⟨by rw [hl];exact c1.bH _,?_⟩,?_,bq _ _ _,ZC,s2,hab,inj⟩
  ·rw [hl];refine ⟨λg _=>?_,λg y _=>?_,λg t s _ hR=>?_⟩
   all_goals by_cases ga:g=a
   ·subst ga
    show Ring G1.nx (ae G1.R b [] g)
    rw [QO];exact c2
   ·show Ring G1.nx (ae G1.R b [] g)
    by_cases gb:g=b
    ·rw [gb,bq];exact Ring.nil _
    ·rw [ZC g ga gb];refine c5 _ (I.fr.all g).1 (λz hz=>?_);have x0:=(I.out hz).2.2.2.1;exact ⟨λhm=>ga (by have:=(I.out hm).2.2.2.1;omega),λhm=>gb (by have:=(I.out (h:=b) (z:=z) (by rw [hRb];exact hm)).2.2.2.1;omega)⟩
   ·subst ga
    show y∈ae G1.R b [] g↔1<=g/\y<_/\G1.up y=-1/\_
    rw [QO,c3.mem_iff,s1];have:=ab y;rw [hRb] at this;rw [τ,this];exact ⟨λh=>⟨h1,h⟩,λh=>h.2⟩
   ·show y∈ae G1.R b [] g↔1<=g/\y<_/\G1.up y=-1/\_
    rw [s1]
    by_cases gb:g=b
    ·subst gb;rw [bq];constructor
     ·intro hm;cases hm
     ·rintro ⟨_,hz⟩;exact absurd hz (nb y)
    ·rw [ZC g ga gb];exact TI g ga gb y
   ·subst ga;have hR':ae G1.R b [] g=t::s:=hR;rw [QO] at hR';exact c4 t s hR'
   ·have hR':ae G1.R b [] g=t::s:=hR
    by_cases gb:g=b
    ·rw [gb,bq] at hR';cases hR'
    ·rw [ZC g ga gb] at hR';exact RG g t s hR'
  ·show (ae G1.R b [] a).length=_
   rw [QO,c3.length_eq,υ]
end
section
variable {A:NS} {G:FG}
theorem Qy (I:wE A G) {x h t:Nat} {s:List Nat} (hR:G.R h=t::s) (hx:x<A.cs.length) (hh:(A.c x).i=h) (htx:t≠x) :
  (∀p:Nat,G.up x=p->p≠x/\p<A.cs.length/\(A.c p).i=h/\FF A.cs.length (dD h x G) (λy=>(A.c y).i) (dO A) (λc=>if c=p then 0+1 else 0)/\FR A.cs.length (dD h x G) (λy=>(A.c y).i) (dO A) none/\(dD h x G).R h=t::x::s)/\
  FF A.cs.length (dJ A.cs.length h x G) (λy=>(A.c y).i) (dO A) (λ_=>0)/\FR A.cs.length (dJ A.cs.length h x G) (λy=>(A.c y).i) (dO A) none/\(∃s',(dJ A.cs.length h x G).R h=t::s')/\(∀g,g≠h->(dJ A.cs.length h x G).R g=G.R g)/\(dJ A.cs.length h x G).up x=-1/\
   (G.R h).length<=((dJ A.cs.length h x G).R h).length/\((dJ A.cs.length h x G).R h).length+marks A.cs.length (dJ A.cs.length h x G)<=(G.R h).length+marks A.cs.length G+2/\marks A.cs.length (dJ A.cs.length h x G)<=marks A.cs.length G+1:=by
 obtain ⟨m1,h1,ht,ut,hth⟩:=I.lZ hR;have off:∀p:Nat,G.up x=p->(p≠x/\p<A.cs.length/\(A.c p).i=h/\FF A.cs.length (dD h x G) (λy=>(A.c y).i) (dO A) (λc=>if c=p then 0+1 else 0)/\FR A.cs.length (dD h x G) (λy=>(A.c y).i) (dO A) none/\(dD h x G).R h=t::x::s)/\
   ((dD h x G).up=ae G.up x (-1)/\(dD h x G).mr=ae G.mr x false/\∀g,g≠h->(dD h x G).R g=G.R g):=λp hp=>by
  have hpx:p≠x:=λe=>by subst e;exact ui (I.ff.ord p p hx hp)
  obtain ⟨o1,o2,o3,o4,o5,o6,_,_⟩:=xP I.ff I.fr hR hx hp hpx hh (I.first hR hx hh (Ne.symm htx));have V9:(A.c x).i=(A.c p).i:=(I.ff.home x p hx hp).1;exact ⟨⟨hpx,(I.ff.above hx hp).1,ω,o1,o2,by rw [o6,bq]⟩,o3,o4,λg hg=>by rw [o6,aQ _ _ hg]⟩
 refine ⟨λp hp=>(off p hp).1,?_⟩
 by_cases hup:G.up x=-1
 ·have e:dJ A.cs.length h x G=G:=by unfold dJ;rw [Δ hup]
  rw [e];exact ⟨I.ff,I.fr,⟨s,hR⟩,λ_ _=>rfl,hup,Θ _,ω,ω⟩
 ·obtain ⟨p,hp,ux,_⟩:=(I.ff.Fg x hx).resolve_left hup;obtain ⟨⟨o0,_,V9,o1,o2,o3⟩,o4,o5,o6⟩:=off p ux;exact O7 (λa=>ui) I.ff o1 o2 hR o3 o6 ux o4 o5 hx hp V9 h1 (λy hy hyh WN=>I.first hR hy hyh WN)
theorem UH (I:wE A G) (ok:A.Ok) {x h t:Nat} {s:List Nat} (hR:G.R h=t::s) (hx:x<A.cs.length) (ux:G.up x=-1) (hh:(A.c x).i=h) (htx:t≠x) :
  wE (aU A x) (lh h x G)/\pV ((lh h x G).R h)=t/\((lh h x G).R h).length+1=(G.R h).length+(G.K x).length/\(∀g,g≠h->(lh h x G).R g=G.R g)/\marks A.cs.length (lh h x G)<=marks A.cs.length G:=by
 obtain ⟨m1,h1,ht,ut,hth⟩:=I.lZ hR;have h0:(0:Int)<(A.c x).i:=ω;have hin:bR A (x:Int)=true:=(ay _ _).2 ⟨hx,h0⟩;have hc:=λy=>sS hin y;have hcl:=dK A (x:Int);obtain ⟨q1,q2,q3⟩:=I.fr.all h;have hm:x∈G.R h:=(q2 x).2 ⟨h1,hx,ux,hh⟩;obtain ⟨a,b,e1,xa,xb,e2,e3⟩:=AP hm q1.nd;have hmid:Lx (G.R h) (kl (G.K x)) x=a++(kl (G.K x)++b):=by unfold Lx;rw [e2,e3]
 obtain ⟨a',ea⟩:∃a',a=t::a':=by
  rw [hR] at e1;cases a with
  | nil=>simp at e1;exact absurd e1.1 htx
  | cons y a'=>simp at e1;exact ⟨a',by rw [e1.1]⟩
 obtain ⟨rF,r1,r2⟩:=I.ff.raise hx ux h0;have Tf:=xM G ux;have mr1:=EX G (I.ff.free x hx ux);have K1:=xm G x;have tT:∀z,G.up z=-1->z∉G.K x:=λz hz=>I.ff.pz hx hz;have rr:∀z,z∈G.R h->z<A.cs.length/\G.up z=-1/\(A.c z).i=h:=λz hz=>((q2 z).1 hz).2;have kr:∀z,z∈G.K x->z<A.cs.length/\G.up z=x/\(A.c z).i=h:=λz hz=>by
  obtain ⟨k1,k2⟩:=I.ff.kid x z hx hz;have k3:(A.c z).i=(A.c x).i:=(I.ff.home z x k1 k2).1;exact ⟨k1,k2,ω⟩
 rw [e1] at q1;have g1:=r2 a b q1 (λz hz=>tT z (rr z (by rw [e1];exact hz)).2.1);have g2:Ring (bf G x).nx (x::((kl (G.K x)++b)++a)):=Ring.Qj (a:=a) (b:=x::(kl (G.K x)++b)) g1;have mm:∀z,z∈x::((kl (G.K x)++b)++a)↔z∈G.R h\/z∈G.K x:=λz=>by rw [e1];simp [FN];grind
 have all:∀z,z∈x::((kl (G.K x)++b)++a)->z<A.cs.length/\(bf G x).up z=-1/\(A.c z).i=h:=λz hz=>by
  rw [Tf];rcases (mm z).1 hz with hz|hz
  ·exact ⟨(rr z hz).1,by rw [Γ (tT z (rr z hz).2.1)];exact (rr z hz).2.1,(rr z hz).2.2⟩
  ·exact ⟨(kr z hz).1,by rw [Δ hz],(kr z hz).2.2⟩
 obtain ⟨p1,p2⟩:=rF.rg.part g2 (λz hz=>(all z hz).1);have hnd:=Ζ.1 g2.nd;have hpm:(bf G x).pv x∈x::((kl (G.K x)++b)++a):=by
  rcases List.eq_nil_or_concat ((kl (G.K x)++b)++a) with e|⟨c,y,e⟩
  ·rw [e] at g2;have e1:=gU.1 g2;have:=rF.rg.pn x hx;rw [e1] at this;rw [this];simp
  ·rw [List.concat_eq_append] at e;have:=rF.rg.last (x:=x) (y:=y) (a:=c) (by rw [List.cons_append,←e];exact g2) (all y (by rw [e];simp)).1;rw [this,e];simp
 have hpv:=all _ hpm;have p3:Ring (bT (bf G x).nx x ((bf G x).pv x)) (a++(kl (G.K x)++b)):=Ring.Qj (a:=kl (G.K x)++b) (b:=a) p2;have F2:=rF.IM hx hpv.1 (all x σ).2.1 hpv.2.1 h0 (by have:=hpv.2.2;show 0<(A.c _).i;omega);have R2:(lh h x G).R h=a++(kl (G.K x)++b):=by show ae G.R h _ h=_;rw [bq,hmid]
 have ZY:∀g,g≠h->(lh h x G).R g=G.R g:=λg hg=>aQ _ _ hg;have up2:(lh h x G).up=(bf G x).up:=rfl;have K2:(lh h x G).K=ae G.K x []:=K1;have nx2:(lh h x G).nx=bT (bf G x).nx x ((bf G x).pv x):=rfl;have l9:∀z,z≠x->((aU A (x:Int)).c z).i=(A.c z).i:=λz hz=>by rw [hc,Γ hz]
 have vZ:((aU A (x:Int)).c x).i=0:=by rw [hc,Δ rfl];rfl
 have Oc:∀y z,y≠x->z≠x->(dO (aU A (x:Int)) y z↔dO A y z):=λy z hy hz=>fT (by rw [hc,Γ hy]) (by rw [hc,Γ hz]);have F3:FF A.cs.length (lh h x G) (λy=>((aU A (x:Int)).c y).i) (dO (aU A (x:Int))) (λ_=>0):=by
  refine (F2.bH _).mono (λy p hy hu ho=>?_) (λy hy h2=>?_)
  ·have hu':(bf G x).up y=p:=hu;have hyx:y≠x:=λe=>by subst e;rw [(all y σ).2.1] at hu';omega
   have hpx:p≠x:=λe=>by
    have hk2:y∈(bf G x).K p:=(rF.above hy hu').2;rw [K1,e,bq] at hk2;cases hk2
   have zy:(A.c y).i=(A.c p).i:=(rF.home y p hy hu').1;have Za:0<(A.c y).i:=(rF.home y p hy hu').2;exact ⟨by simp only [l9 y hyx,l9 p hpx];exact zy,by simp only [l9 y hyx];exact Za,(Oc p y hpx hyx).2 ho⟩
  ·by_cases e:y=x
   ·subst e;exact ⟨(all y σ).2.1,by show (bf G y).K y=[];rw [K1,bq],gU.1 p1⟩
   ·have h3:¬0<(A.c y).i:=by simp only [l9 y e] at h2;exact h2
    exact F2.alone y hy h3
 have htop:∀y,y∈a'++(kl (G.K x)++b)->y≠x/\dO A t y:=λy hy=>by
  have hyx:y≠x:=λe=>by
   subst e;refine hnd.1 ?_;rw [ea];simp only [τ,ρ] at hy ⊢;rcases hy with h|h|h
   ·exact Β (Β h)
   ·exact Α (Α h)
   ·exact Α (Β h)
  refine ⟨hyx,?_⟩;simp only [τ,FN] at hy;have old:y∈s->dO A t y:=λh=>q3 t s hR y h;rw [hR,ea] at e1;simp only [List.cons_append,List.cons.injEq,true_and] at e1;rcases hy with h|h|h
  ·exact old (by rw [e1];simp [h])
  ·exact I.first hR (kr y h).1 (kr y h).2.2 (λe=>by have:=(kr y h).2.1;rw [e,ut] at this;omega)
  ·exact old (by rw [e1];simp [h])
 refine ⟨⟨by rw [hcl];exact F3,?_⟩,by rw [R2,ea];rfl,?_,ZY,?_⟩
 ·rw [hcl];refine ⟨λg _=>?_,λg y _=>?_,λg t' s' _ hR' y hy=>?_⟩
  all_goals by_cases eg:g=h
  ·rw [eg,R2,nx2];exact p3
  ·rw [ZY g eg,nx2];have old:=(I.fr.all g);have hz:∀z,z∈G.R g->G.up z=-1/\(A.c z).i=g:=λz hz=>⟨((old.2.1 z).1 hz).2.2.1,((old.2.1 z).1 hz).2.2.2⟩
   have hr:=r1 _ old.1 (λhm=>eg (by have:=(hz x hm).2;omega)) (λz hm=>tT z (hz z hm).1);exact hr.jZ (λhm=>eg (by have:=(hz x hm).2;omega)) (λhm=>eg (by have:=(hz _ hm).2;have:=hpv.2.2;omega))
  ·rw [eg,R2,up2];have:y∈a++(kl (G.K x)++b)↔y≠x/\(y∈G.R h\/y∈G.K x):=by
    rw [←mm];constructor
    ·intro hm;refine ⟨λe=>hnd.1 (by rw [e] at hm;simp only [τ] at hm ⊢;rcases hm with h|h|h;exact Β h;exact Α (Α h);exact Α (Β h)),?_⟩;simp only [ρ,τ] at hm ⊢;rcases hm with h|h|h
     ·exact Β (Β h)
     ·exact Β (Α (Α h))
     ·exact Β (Α (Β h))
    ·rintro ⟨hyx,hm⟩;simp only [ρ,τ] at hm ⊢;rcases hm with h|(h|h)|h
     ·exact absurd h hyx
     ·exact Β (Α h)
     ·exact Β (Β h)
     ·exact Α h
   rw [this];constructor
   ·rintro ⟨hyx,hm⟩;have:=all y ((mm y).2 hm);exact ⟨h1,this.1,this.2.1,by simp only [l9 y hyx];exact this.2.2⟩
   ·rintro ⟨_,a1,a2,a3⟩;have hyx:y≠x:=λe=>by subst e;simp only [vZ] at a3;omega
    simp only [l9 y hyx] at a3;rw [Tf] at a2;refine ⟨hyx,?_⟩
    split at a2
    ·rename_i hk;exact Β hk
    ·exact Α ((q2 y).2 ⟨h1,a1,a2,a3⟩)
  ·rw [ZY g eg,up2,(I.fr.all g).2.1 y];constructor
   ·rintro ⟨a0,a1,a2,a3⟩;have a3':(A.c y).i=g:=a3;have hyx:y≠x:=λe=>by subst e;exact eg ω
    exact ⟨a0,a1,by rw [Tf,Γ (tT y a2)];exact a2,by simp only [l9 y hyx];exact a3'⟩
   ·rintro ⟨a0,a1,a2,a3⟩;have hyx:y≠x:=λe=>by subst e;simp only [vZ] at a3;omega
    simp only [l9 y hyx] at a3;rw [Tf] at a2
    split at a2
    ·rename_i hk
     have:=(kr y hk).2.2;exact absurd (show g=h by omega) eg
    ·exact ⟨a0,a1,a2,a3⟩
  ·rw [eg,R2,ea] at hR';have e4:t=t':=by injection hR'
   have e5:a'++(kl (G.K x)++b)=s':=by injection hR'
   subst e4 e5;have:=htop y hy;exact (Oc t y htx this.1).2 this.2
  ·rw [ZY g eg] at hR';have xt:t'≠x:=λe=>eg (by have:=(I.out (h:=g) (z:=t') (by rw [hR'];simp)).2.2.2.1;rw [e] at this;omega);have xy:y≠x:=λe=>eg (by have:=(I.out (h:=g) (z:=y) (by rw [hR'];simp [hy])).2.2.2.1;rw [e] at this;omega);exact (Oc t' y xt xy).2 ((I.fr.all g).2.2 t' s' hR' y hy)
 ·rw [R2,e1];simp [M0];omega
 ·unfold marks;have:(lh h x G).mr=(bf G x).mr:=rfl;rw [this];rw [←List.countP_eq_length_filter,←List.countP_eq_length_filter];refine List.countP_mono_left (λz _ hz=>?_);rw [mr1] at hz
  split at hz
  ·cases hz
  ·exact hz
end
end Go.Proofs.YtnpdakpagnpanaaGreat
namespace Go.Proofs.YtnpdakpagnpanaaGreat
open Go Go.RowKit
section
variable {w:World} {B:FB} {F:List Nat} {gt ct:Nat} {A:NS} {st:Nat} {G:FG}
theorem GH {α:Type} (f:Nat->α) (x:Nat) (u v:α):ae (ae f x u) x v=ae f x v:=by
 funext z;unfold ae;split<;>rfl
theorem dX.kids (M:dX w B F gt ct A st G) (p:Nat) (l:List Nat) (d v:Int) (hd:d=(l.length:Int)) (hv:v=pV l) :
  dX ((w.setCell ⟨B.bl,p*4+2,none⟩ (.int .i64 d)).setCell ⟨B.bl,p*4+1,none⟩ (.int .i64 v)) B F gt ct A st { G with K:=ae G.K p l }:=by
 refine M.Gs (up:=G.up) (mr:=G.mr) ν ?_;unfold lT;simp only [Cj,iW,←hv,←hd];exact oh (p9 M.pl p d) p v
theorem dX.Yz (M:dX w B F gt ct A st G) (p:Nat) (l:List Nat) (d v u:Int) (hd:d=(l.length:Int)) (hv:v=pV l) :
  dX (((w.setCell ⟨B.bl,p*4+2,none⟩ (.int .i64 d)).setCell ⟨B.bl,p*4+1,none⟩ (.int .i64 u)).setCell ⟨B.bl,p*4+1,none⟩ (.int .i64 v)) B F gt ct A st { G with K:=ae G.K p l }:=by
 refine M.Gs (up:=G.up) (mr:=G.mr) ν ?_;unfold lT;simp only [Cj,iW,←hv,←hd];have:=oh (oh (p9 M.pl p d) p u) p v;rw [GH] at this;exact this
theorem dX.lone (M:dX w B F gt ct A st G) (x:Nat):dX ((w.setCell ⟨B.bl,x*4,none⟩ (.int .i64 (-1))).setCell ⟨B.bl,x*4+3,none⟩ (.bool false)) B F gt ct A st { G with up:=ae G.up x (-1),mr:=ae G.mr x false }:=by
 refine M.Gs (K:=G.K) ν ?_;exact nT (qE M.pl x (-1)) x false
theorem EB {c:Code} {K:Exit->Act->World->Prop} {a:Act} {W:World} (R:World->Prop) (h:R W) (k:∀W',R W'->Code.wp Tryz.prog c K a W'):Code.wp Tryz.prog c K a W:=k W h
theorem En (M:dX w B F gt ct A st G) {q x p t:Nat} {s:List Nat} (hq:q<A.hs.length) (hx:x<A.cs.length) (hp:p<A.cs.length) (ux:G.up x=p) (hR:G.R q=t::s) (ht:t<A.cs.length)
  (hl:(G.K p).length=(Bw (G.K p) x).length+1) (hl2:(G.K p).length<=65536) (hn:G.nx x=(Bw (G.K p) x).headD x) (hxa:x∉Bw (G.K p) x) :
  Calls Tryz.prog 221 #[.pointer (some ⟨B.n0,0,none⟩),.int .i64 (q:Int),.int .i64 (x:Int)] w λe w'=>e=.returned (.tuple #[])/\dX w' B F gt ct A st (dD q x G)/\aa [B.bn,B.bp,B.bl] w w':=by
 have hc1:=M.cells.ok.c1;have h2:=M.h2;have h1:=M.h1;have zS:(x:Int)<(A.cs.length:Int):=ω;have Vs:(p:Int)<(A.cs.length:Int):=ω;have px0:=M.p0 hx;rw [ux] at px0;have pp1:=M.p1 hp;have pp2:=M.p2 hp;have fp1:=M.pl.free (p*4+1);have fp2:=M.pl.free (p*4+2);have eg:dD q x G={ nx:=bT (bT G.nx x (G.pv x)) t x,pv:=iH (bT G.nx x (G.pv x)) (iH G.nx G.pv x (G.pv x)) t x,up:=ae G.up x (-1),mr:=ae G.mr x false,K:=ae G.K p (Bw (G.K p) x),R:=ae G.R q (t::x::s) }:=by
  unfold dD;rw [hR,ux];rfl
 rw [eg];have hw1:IntKind.i64.wrap (((G.K p).length:Int)-1)=((Bw (G.K p) x).length:Int):=by rw [Μ _ ω];omega
 obtain ⟨g1,g2,g3,g4,g5,g6,g7⟩:=M.d3;obtain ⟨e1,e2,e3,e4,e5⟩:=M.d2;have hlt:=M.lt;have lbl:=hlt B.bl (by simp [FB.blk]);have hkn:∀W,dX W B F gt ct A st { G with K:=ae G.K p (Bw (G.K p) x) }->Calls Tryz.prog 226 #[.pointer (some ⟨B.br,0,none⟩),.int .i64 (x:Int)] W λe w'=>e=.returned (.tuple #[.int .i64 (G.nx x:Int),.bool true])/\w'=W:=λW hW=>zD hW.rings hx
 have Aw:∀W,dX W B F gt ct A st { G with K:=ae G.K p (Bw (G.K p) x) }->Calls Tryz.prog 217 #[.pointer (some ⟨B.br,0,none⟩),.int .i64 (x:Int)] W λe w'=>e=.returned (.bool true)/\wK w' B.br B.bn B.bp A.cs.length (bT G.nx x (G.pv x)) (iH G.nx G.pv x (G.pv x))/\aa [B.bn,B.bp] W w':=λW hW=>vT hW.rings hx;cases hA:Bw (G.K p) x with
 | nil=>
  rw [hA] at hn hw1 hl Aw hkn;have hn':G.nx x=x:=hn;rw [hn'] at hkn;obtain ⟨W5,LG⟩:∃W5,W5=(w.setCell ⟨B.bl,p*4+2,none⟩ (.int .i64 0)).setCell ⟨B.bl,p*4+1,none⟩ (.int .i64 (-1)):=⟨_,rfl⟩;have M5:dX W5 B F gt ct A st { G with K:=ae G.K p [] }:=by rw [LG];exact M.kids p [] 0 (-1) rfl rfl
  have cB:aa [B.bl] w W5:=by rw [LG];exact ν
  go_enter Tryz.func221,Tryz.ntmps221
  go_wp2
  go_region
  have KP:=χ Aw;have KN:=χ hkn;have H5:=χ (ψ M5 (ψ cB LG));have HM:=χ (ψ M (ψ hlt hR));clear Aw hkn M5 cB LG M hlt hR eg hA hn hn' hl ux hxa;have V8:=λW (hW:aa [] W5 W)=>KN.out W (H5.out.1.ai hW);have Uq:=λW (hW:aa [] W5 W)=>KP.out W (H5.out.1.ai hW);rw [H5.out.2.2] at V8 Uq
  go_wp2_with (first
   | ((go_at_call 226;(with_reducible refine (V8 _ β).mono ?_));rintro e w9 ⟨rfl,aH⟩;rw [aH];clear aH w9)
   | ((go_at_call 217;(with_reducible refine (Uq _ β).mono ?_));rintro e w6 ⟨rfl,Uw,jy⟩)
   | fail)
  have U6:aa [B.bn,B.bp] W5 w6:=by rw [H5.out.2.2];exact aa.trans β jy
  have M6:=((H5.out.1)).bH U6 Uw;have ny:aa [B.bn,B.bp,B.bl] w w6:=(H5.out.2.1.mono σ).trans ((U6).mono (λz hz=>by simp at hz;rcases hz with e|e<;>simp [e]));have q2:=M6.h2;have q0:=M6.p0 hx;have q3:=M6.p3 hx;have f0:=M6.pl.free (x*4);have f3:=M6.pl.free (x*4+3);have H6:=χ (ψ M6 ny);clear M6 ny Uw jy V8 Uq
  go_region
  go_wp2;refine EB (λW=>dX W B F gt ct A st { nx:=bT G.nx x (G.pv x),pv:=iH G.nx G.pv x (G.pv x),up:=ae G.up x (-1),mr:=ae G.mr x false,K:=ae G.K p [],R:=G.R }/\aa [B.bn,B.bp,B.bl] w W) ?_ ?_
  ·have ny:=H6.out.2;exact ⟨(H6.out.1.lone x).drewN 1,ν⟩
  rintro w7 ⟨M7,ny⟩;have ks:=λW (hW:aa [] w7 W)=>jq (M7.rings.ai hW) ht hx;have m:∀x,x≠B.bn->x≠B.bp->x∉[B.bn,B.bp]:=λx h1 h2=>by simp [h1,h2]
  have r1:∀W,aa [B.bn,B.bp] w7 W->W.cell? ⟨B.n0,1,none⟩=some (.pointer (some ⟨B.br,0,none⟩)):=λW hW=>hW.kept M7.h1 (m _ e2 e3);have r3:∀W,aa [B.bn,B.bp] w7 W->W.cell? ⟨B.n0,3,none⟩=some (.slice (some ⟨gt,0,none⟩) A.hs.length ct):=λW hW=>hW.kept M7.h3 (m _ e2 e3);have rt:∀W,aa [B.bn,B.bp] w7 W->W.cell? ⟨gt,q,none⟩=some (.int .i64 (t:Int)):=λW hW=>by
   have:=hW.kept (M7.top hq) (m _ g6 g7);rw [show pV ((({ nx:=bT G.nx x (G.pv x),pv:=iH G.nx G.pv x (G.pv x),up:=ae G.up x (-1),mr:=ae G.mr x false,K:=ae G.K p [],R:=G.R }:FG)).R q)=t from by show pV (G.R q)=t;rw [HM.out.2.2];rfl] at this;exact this
  have ZR:(q:Int)<(A.hs.length:Int):=ω;have hcap:=M7.cap;have H7:=χ (ψ M7 ny);clear M7 ny q2 q0 q3 f0 f3
  go_region_held3 (aa [B.bn,B.bp] w7) (exact ν)
   (first
    | ((go_at_call 223;(with_reducible refine (ks _ β).mono ?_));rintro e w8 ⟨rfl,hR8,AV⟩;(have xO:aa [B.bn,B.bp] w7 w8:=aa.trans ν AV)))
  go_wp2;go_end0;refine ⟨rfl,((H7.out.1.bH xO hR8).Ic q (t::x::s) (by show _=pV (G.R q);rw [HM.out.2.2];rfl)).drewN 0,H7.out.2.trans (xO.mono (λz hz=>by simp at hz;rcases hz with e|e<;>simp [e]))⟩
 | cons y r=>
  rw [hA] at hn hw1 hl Aw hkn;have hn':G.nx x=y:=hn;rw [hA] at hxa;have hyx:y≠x:=λe=>hxa (by simp [e]);have hyxI:((y:Int) == (x:Int))=false:=ζ;rw [hn'] at hkn;have hrl:((r.length:Nat):Int)+1=(((y::r).length:Nat):Int):=σ;obtain ⟨W4,NF⟩:∃W4,W4=(w.setCell ⟨B.bl,p*4+2,none⟩ (.int .i64 (((y::r).length:Nat):Int))).setCell ⟨B.bl,p*4+1,none⟩ (.int .i64 (-1)):=⟨_,rfl⟩;obtain ⟨W5,LG⟩:∃W5,W5=((w.setCell ⟨B.bl,p*4+2,none⟩ (.int .i64 (((y::r).length:Nat):Int))).setCell ⟨B.bl,p*4+1,none⟩ (.int .i64 (-1))).setCell ⟨B.bl,p*4+1,none⟩ (.int .i64 (y:Int)):=⟨_,rfl⟩
  have M5:dX W5 B F gt ct A st { G with K:=ae G.K p (y::r) }:=by rw [LG];exact M.Yz p (y::r) _ (y:Int) (-1) rfl rfl
  have cB:aa [B.bl] w W5:=by rw [LG];exact ν
  have jJ:aa [B.bl] w W4:=by rw [NF];exact ν
  have kn4:∀W,aa [] W4 W->Calls Tryz.prog 226 #[.pointer (some ⟨B.br,0,none⟩),.int .i64 (x:Int)] W λe w'=>e=.returned (.tuple #[.int .i64 (y:Int),.bool true])/\w'=W:=λW hW=>by
   have:=zD (M.rings.upd (jJ.then hW) (by simp;exact Ne.symm g1) (by simp;exact Ne.symm g2) (by simp;exact Ne.symm g3)) hx;rw [hn'] at this;exact this
  have Uq:∀W,aa [] W5 W->Calls Tryz.prog 217 #[.pointer (some ⟨B.br,0,none⟩),.int .i64 (x:Int)] W λe w'=>e=.returned (.bool true)/\wK w' B.br B.bn B.bp A.cs.length (bT G.nx x (G.pv x)) (iH G.nx G.pv x (G.pv x))/\aa [B.bn,B.bp] W w':=λW hW=>Aw W (M5.ai hW);rw [NF] at kn4;rw [LG] at Uq;have V8:=kn4;have H5:=χ (ψ M5 (ψ cB LG));have HM:=χ (ψ M (ψ hlt hR));clear Aw hkn M5 cB LG M hlt hR eg hA hn hn' hl ux hxa NF jJ kn4 hrl;generalize (((y::r).length:Nat):Int)=dl at *
  go_enter Tryz.func221,Tryz.ntmps221
  go_wp2
  go_region
  go_wp2_with (first
   | ((go_at_call 226;(with_reducible refine (V8 _ β).mono ?_));rintro e w9 ⟨rfl,aH⟩;rw [aH];clear aH w9)
   | ((go_at_call 217;(with_reducible refine (Uq _ β).mono ?_));rintro e w6 ⟨rfl,Uw,jy⟩)
   | fail)
  have U6:aa [B.bn,B.bp] W5 w6:=by rw [H5.out.2.2];exact aa.trans β jy
  have M6:=((H5.out.1)).bH U6 Uw;have ny:aa [B.bn,B.bp,B.bl] w w6:=(H5.out.2.1.mono σ).trans ((U6).mono (λz hz=>by simp at hz;rcases hz with e|e<;>simp [e]));have q2:=M6.h2;have q0:=M6.p0 hx;have q3:=M6.p3 hx;have f0:=M6.pl.free (x*4);have f3:=M6.pl.free (x*4+3);have H6:=χ (ψ M6 ny);clear M6 ny Uw jy V8 Uq
  go_region
  go_wp2;refine EB (λW=>dX W B F gt ct A st { nx:=bT G.nx x (G.pv x),pv:=iH G.nx G.pv x (G.pv x),up:=ae G.up x (-1),mr:=ae G.mr x false,K:=ae G.K p (y::r),R:=G.R }/\aa [B.bn,B.bp,B.bl] w W) ?_ ?_
  ·have ny:=H6.out.2;exact ⟨(H6.out.1.lone x).drewN 1,ν⟩
  rintro w7 ⟨M7,ny⟩;have ks:=λW (hW:aa [] w7 W)=>jq (M7.rings.ai hW) ht hx;have m:∀x,x≠B.bn->x≠B.bp->x∉[B.bn,B.bp]:=λx h1 h2=>by simp [h1,h2]
  have r1:∀W,aa [B.bn,B.bp] w7 W->W.cell? ⟨B.n0,1,none⟩=some (.pointer (some ⟨B.br,0,none⟩)):=λW hW=>hW.kept M7.h1 (m _ e2 e3);have r3:∀W,aa [B.bn,B.bp] w7 W->W.cell? ⟨B.n0,3,none⟩=some (.slice (some ⟨gt,0,none⟩) A.hs.length ct):=λW hW=>hW.kept M7.h3 (m _ e2 e3);have rt:∀W,aa [B.bn,B.bp] w7 W->W.cell? ⟨gt,q,none⟩=some (.int .i64 (t:Int)):=λW hW=>by
   have:=hW.kept (M7.top hq) (m _ g6 g7);rw [show pV ((({ nx:=bT G.nx x (G.pv x),pv:=iH G.nx G.pv x (G.pv x),up:=ae G.up x (-1),mr:=ae G.mr x false,K:=ae G.K p (y::r),R:=G.R }:FG)).R q)=t from by show pV (G.R q)=t;rw [HM.out.2.2];rfl] at this;exact this
  have ZR:(q:Int)<(A.hs.length:Int):=ω;have hcap:=M7.cap;have H7:=χ (ψ M7 ny);clear M7 ny q2 q0 q3 f0 f3
  go_region_held3 (aa [B.bn,B.bp] w7) (exact ν)
   (first
    | ((go_at_call 223;(with_reducible refine (ks _ β).mono ?_));rintro e w8 ⟨rfl,hR8,AV⟩;(have xO:aa [B.bn,B.bp] w7 w8:=aa.trans ν AV)))
  go_wp2;go_end0;refine ⟨rfl,((H7.out.1.bH xO hR8).Ic q (t::x::s) (by show _=pV (G.R q);rw [HM.out.2.2];rfl)).drewN 0,H7.out.2.trans (xO.mono (λz hz=>by simp at hz;rcases hz with e|e<;>simp [e]))⟩
theorem dX.marked (M:dX w B F gt ct A st G) (x:Nat):dX (w.setCell ⟨B.bl,x*4+3,none⟩ (.bool true)) B F gt ct A st { G with mr:=ae G.mr x true }:=by
 refine M.Gs (up:=G.up) (K:=G.K) ν ?_;exact nT M.pl x true
theorem BK {bC:Nat->Int} {L Mx:Nat->Nat->Prop} (SI:∀a,¬L a a) (M:dX w B F gt ct A st G) {q p t:Nat} {s:List Nat} (hq:q<A.hs.length) (H:FF A.cs.length G bC L (λc=>if c=p then 1 else 0)) (R:FR A.cs.length G bC Mx none) (hR:G.R q=t::s) (hp:p<A.cs.length) (hh:bC p=q) (h1:1<=q)
  (hf:∀y,y<A.cs.length->bC y=q->y≠t->Mx t y) :
  Calls Tryz.prog 222 #[.pointer (some ⟨B.n0,0,none⟩),.int .i64 (q:Int),.int .i64 (p:Int)] w λe w'=>e=.returned (.tuple #[])/\dX w' B F gt ct A st (pX (marks A.cs.length G+1) q p G)/\aa [B.bn,B.bp,B.bl] w w':=by
 have hc1:=M.cells.ok.c1;obtain ⟨D,hD⟩:∃D,pX (marks A.cs.length G+1) q p G=D:=⟨_,rfl⟩;rw [hD];have H0:=χ (ψ M (ψ H (ψ R (ψ hR (ψ hD hf)))));clear M H R hR hD hf
 go_enter Tryz.func222,Tryz.ntmps222
 go_wp2
 go_loopg [2] (marks A.cs.length G+1) (λfu s2 wr=>∃ (p':Nat) (s':List Nat) (G':FG),s2=.int .i64 (p':Int)/\FF A.cs.length G' bC L (λc=>if c=p' then 1 else 0)/\FR A.cs.length G' bC Mx none/\G'.R q=t::s'/\p'<A.cs.length/\bC p'=q/\marks A.cs.length G'<fu/\pX fu q p' G'=D/\dX wr B F gt ct A st G'/\aa [B.bn,B.bp,B.bl] w wr)
 case atStart=>exact ⟨p,s,G,rfl,H0.out.2.1,H0.out.2.2.1,H0.out.2.2.2.1,hp,hh,ω,H0.out.2.2.2.2.1,H0.out.1,aa.refl _ _⟩
 case round=>
  rename Nat=>fu;obtain ⟨p',s',G',rfl,H,R,hR,hp',hh',hm,hcas,hM,hu⟩:=hrel;rename World=>wr;obtain ⟨fv,rfl⟩:∃fv,fu=fv+1:=⟨fu-1,ω⟩;have Vs:(p':Int)<(A.cs.length:Int):=ω;have q2:=hM.h2;have p0:=hM.p0 hp';have p3:=hM.p3 hp';have f3:=hM.pl.free (p' * 4+3);unfold pX at hcas;have HR:=χ (ψ H (ψ R (ψ hR (ψ hM hu))))
  by_cases e:G'.up p'=-1
  ·rw [Δ e] at hcas;rw [e] at p0;subst hcas;clear H R hR hM hu e H0;go_wp2;go_end0;exact ⟨rfl,HR.out.2.2.2.1,HR.out.2.2.2.2⟩
  ·rw [Γ e] at hcas;obtain ⟨pp,OB,Ug,_⟩:=(H.Fg p' hp').resolve_left e;have hne:((pp:Int) == -1)=false:=σ;rw [Ug] at p0 hcas;rw [π] at hcas;cases hb:G'.mr p' with
   | false=>
    rw [hb] at p3 hcas;rw [Δ rfl] at hcas;have HC:=χ hcas;clear H R hR hM hu e hcas hb Ug H0;go_wp2;refine bodyPost_ret (v:=.tuple #[]) (by simp [results,Tryz.results222,go_sem]) rfl ?_;exact ⟨rfl,by rw [←HC.out];exact HR.out.2.2.2.1.marked p',HR.out.2.2.2.2.setCell (Α σ) _⟩
   | true=>
    rw [hb] at p3 hcas;rw [Γ σ] at hcas;have Wm:pp≠p':=λe3=>by subst e3;exact SI _ (H.ord pp pp hp' Ug)
    have htp:p'≠t:=λe3=>by
     subst e3;have:=((R.all q).2.1 p').1 (by rw [hR];simp);exact e this.2.2.1
    obtain ⟨o1,o2,o3,o4,o5,o6,⟨a,b,eK,eA⟩,o8⟩:=xP H R hR hp' Ug Wm hh' (H0.out.2.2.2.2.2 p' hp' hh' htp);have ht:=(((R.all q).2.1 t).1 (by rw [hR];simp)).2.1;have hnd:=(H.ring pp OB).nd;have hka:(G'.K pp).length=(Bw (G'.K pp) p').length+1:=by rw [eA,eK];simp;omega
    have hkb:(G'.K pp).length<=65536:=Χ (H.zm OB) hc1;have hxa:p'∉Bw (G'.K pp) p':=by
     rw [eA];rw [eK,θ,Ζ] at hnd;intro hm2;rcases τ.1 hm2 with h'|h'
     ·exact hnd.2.1.1 h'
     ·exact hnd.2.2 p' h' p' σ rfl
    have ko:=λW (hW:aa [] wr W)=>En (hM.ai hW) hq hp' OB Ug hR ht hka hkb o8 hxa;have hmk:=qI (G:=G') (b:=false) hp' rfl (dD q p' G') o4;rw [hb] at hmk;simp only [ϟ,if_false,if_true] at hmk;have UN:FF A.cs.length (dD q p' G') bC L (λc=>if c=pp then 1 else 0):=by
     refine ⟨o1.rg,o1.kid,o1.Fg,o1.ring,o1.home,o1.ord,o1.alone,o1.free,λx d hx=>?_⟩;have VG:(dD q p' G').up p'=-1:=by rw [o3,bq]
     rw [qP (G:=dD q p' G') (ex:=λc=>if c=pp then (if c=p' then 1 else 0)+1 else if c=p' then 1 else 0) d (λc hc=>by
      have hcp:c≠p':=λe3=>o1.pz hx VG (e3▸hc)
      rw [Γ hcp])]
     exact o1.cnt x d hx
    have V9:bC pp=q:=by have:=(H.home p' pp hp' Ug).1;omega
    have HS:=χ (ψ UN (ψ o2 (ψ o6 (ψ hcas hmk))));clear H R hR hM hu e hcas hb Ug o1 UN o2 o3 o4 o5 o6 o8 eK eA hnd hka hkb hxa hmk
    go_wp2_with (first
     | ((go_at_call 221;(with_reducible refine (ko _ β).mono ?_));rintro e w2 ⟨rfl,hM2,hu2⟩)
     | fail)
    go_roundg fv
    case measure=>omega
    case rel=>
     obtain ⟨o1,o2,o6,hcas,hmk⟩:=HS.out;exact ⟨pp,p'::s',dD q p' G',rfl,o1,o2,by rw [o6,bq],OB,V9,ω,hcas,hM2,HR.out.2.2.2.2.trans hu2⟩
theorem Dk {bC:Nat->Int} {L Mx:Nat->Nat->Prop} (SI:∀a,¬L a a) (M:dX w B F gt ct A st G) {q x t:Nat} {s:List Nat} (hq:q<A.hs.length) (hx:x<A.cs.length) (H0:FF A.cs.length G bC (λa y=>y≠x->L a y) (λ_=>0)) (hR:G.R q=t::s) (ht:t<A.cs.length) (h1:1<=q)
  (hp:∀p:Nat,G.up x=p->p≠x/\bC p=q/\FF A.cs.length (dD q x G) bC L (λc=>if c=p then 0+1 else 0)/\FR A.cs.length (dD q x G) bC Mx none/\(dD q x G).R q=t::x::s)
  (hf:∀y,y<A.cs.length->bC y=q->y≠t->Mx t y) :
  Calls Tryz.prog 215 #[.pointer (some ⟨B.n0,0,none⟩),.int .i64 (q:Int),.int .i64 (x:Int)] w λe w'=>e=.returned (.tuple #[])/\dX w' B F gt ct A st (dJ A.cs.length q x G)/\aa [B.bn,B.bp,B.bl] w w':=by
 have hc1:=M.cells.ok.c1;have q2:=M.h2;have p0:=M.p0 hx;have zS:(x:Int)<(A.cs.length:Int):=ω
 by_cases e:G.up x=-1
 ·have eg:dJ A.cs.length q x G=G:=by unfold dJ;rw [Δ e]
  rw [eg];rw [e] at p0;have HM:=χ M;clear M H0 hR hp hf e eg
  go_enter Tryz.func215,Tryz.ntmps215
  go_wp2;go_end0;exact ⟨rfl,HM.out,aa.refl _ _⟩
 ·obtain ⟨p,hpn,ux,hxk⟩:=(H0.Fg x hx).resolve_left e;obtain ⟨hpx,V9,o1,o2,o3⟩:=hp p ux;have eg:dJ A.cs.length q x G=pX (marks A.cs.length (dD q x G)+1) q p (dD q x G):=by unfold dJ;rw [ux,Γ ω,π]
  rw [eg];rw [ux] at p0;have hne:((p:Int) == -1)=false:=σ;have Iq:=H0.ring p hpn;obtain ⟨a,b,eK,eA,xa,xb⟩:=Pm hxk Iq.nd;have hka:(G.K p).length=(Bw (G.K p) x).length+1:=by rw [eA,eK];simp;omega
  have hkb:(G.K p).length<=65536:=Χ (H0.zm hpn) hc1;have hxa:x∉Bw (G.K p) x:=by rw [eA];simp;exact ⟨xb,xa⟩
  have hnx:G.nx x=(Bw (G.K p) x).headD x:=by
   rw [eK] at Iq;have:=Ring.Qj (a:=a) (b:=x::b) Iq;rw [eA];exact (ik.1 this).2.1
  have ko:=λW (hW:aa [] w W)=>En (M.ai hW) hq hx hpn ux hR ht hka hkb hnx hxa;have UN:FF A.cs.length (dD q x G) bC L (λc=>if c=p then 1 else 0):=by simpa using o1
  have kc:=λW (hM:dX W B F gt ct A st (dD q x G))=>BK SI hM hq UN o2 o3 hpn V9 h1 hf;have HM:=χ (ψ M kc);clear M H0 hR hp hf e eg kc o1 UN o2 o3 eK eA hka hkb hxa hnx ux Iq
  go_enter Tryz.func215,Tryz.ntmps215
  go_wp2_with (first
   | ((go_at_call 221;(with_reducible refine (ko _ β).mono ?_));rintro e w2 ⟨rfl,hM2,hu2⟩;(have Uc:=HM.out.2 _ hM2);(have HU:=χ hu2);clear hM2 hu2 ko)
   | ((go_at_call 222;(with_reducible refine (Uc).mono ?_));rintro e w3 ⟨rfl,lq,hu3⟩)
   | fail)
  go_end0;exact ⟨rfl,lq,HU.out.trans hu3⟩
end
end Go.Proofs.YtnpdakpagnpanaaGreat
