/-
  Lemmas for PathBest: FbA, FbB, FbC, Fb. Conditions: those of each lemma.
-/
import Derived.Deep.OwnRows
import Derived.Test.YtklibcncmbofpaaGreatB03
set_option linter.all false
set_option maxHeartbeats 8000000
set_option maxRecDepth 10000
namespace Go.Proofs.YtklibcncmbofpaaGreat
def Bc (nx:Nat->Nat):List Nat->Nat->Prop
 | [],_=>True
 | x::t,z=>nx x=t.headD z/\Bc nx t z
theorem xS (a b:List Nat) (z:Nat):(a++b).headD z=a.headD (b.headD z):=by cases a<;>rfl
theorem tF {nx:Nat->Nat}:∀ (a b:List Nat) (z:Nat),Bc nx (a++b) z↔Bc nx a (b.headD z)/\Bc nx b z
 | [],b,z=>by simp [Bc]
 | x::t,b,z=>by
  show (nx x=(t++b).headD z/\Bc nx (t++b) z)↔(nx x=t.headD (b.headD z)/\Bc nx t (b.headD z))/\Bc nx b z
  rw [tF t b z,xS,and_assoc]
theorem Bc.far {nx nx':Nat->Nat}:∀ {l:List Nat} {z:Nat},Bc nx l z->(∀w,w∈l->nx' w=nx w)->Bc nx' l z
 | [],_,_,_=>trivial
 | x::t,z,h,e=>⟨(e x σ).trans h.1,Bc.far h.2 (fun w hw=>e w (by simp [hw]))⟩
def Ring (nx:Nat->Nat) (l:List Nat):Prop:=l.Nodup/\Bc nx l (l.headD 0)
theorem Ring.nil (nx:Nat->Nat):Ring nx []:=⟨List.nodup_nil,trivial⟩
theorem Ring.nd {nx:Nat->Nat} {l:List Nat} (h:Ring nx l):l.Nodup:=h.1
theorem ji {nx:Nat->Nat} {x:Nat} {t:List Nat}:Ring nx (x::t)↔(x::t).Nodup/\nx x=t.headD x/\Bc nx t x:=Iff.rfl
theorem jI {nx:Nat->Nat} {x:Nat}:Ring nx [x]↔nx x=x:=by
 rw [ji];simp [Bc]
theorem Ring.far {nx nx':Nat->Nat} {l:List Nat} (h:Ring nx l) (e:∀w,w∈l->nx' w=nx w):Ring nx' l:=⟨h.1,h.2.far e⟩
theorem NP {a b:List Nat} (h:(a++b).Nodup):(b++a).Nodup:=(List.perm_append_comm (l₁:=a) (l₂:=b)).nodup_iff.1 h
theorem Ring.WK {nx:Nat->Nat}:∀ {a b:List Nat},Ring nx (a++b)->Ring nx (b++a)
 | [],b,h=>by simpa using h
 | a0::a,[],h=>by simpa using h
 | a0::a,b0::b,h=>by
  refine ⟨NP h.1,?_⟩;have h2:=(tF _ _ _).1 h.2;exact (tF _ _ _).2 ⟨h2.2,h2.1⟩
def dK (nx:Nat->Nat) (x y:Nat):Nat->Nat:=fun z=>if z=x then nx y else if z=y then nx x else nx z
def jO (nx pv:Nat->Nat) (x y:Nat):Nat->Nat:=fun z=>if z=nx x then y else if z=nx y then x else pv z
theorem jk {nx:Nat->Nat} {x y z:Nat} (h1:z≠x) (h2:z≠y):dK nx x y z=nx z:=by unfold dK;rw [if_neg h1,if_neg h2]
theorem Ring.oz {nx:Nat->Nat} {l:List Nat} (h:Ring nx l) {x y:Nat} (h1:x∉l) (h2:y∉l):Ring (dK nx x y) l:=
 h.far (fun w hw=>jk (fun e=>h1 (e▸hw)) (fun e=>h2 (e▸hw)))
theorem Ring.join {nx:Nat->Nat} {x y:Nat} {s t:List Nat} (h:Ring nx (x::s)) (k:Ring nx (y::t)) (d:∀z,z∈x::s->z∉y::t):Ring (dK nx x y) (x::t++y::s):=by
 obtain ⟨n1,e1,r1⟩:=ji.1 h;obtain ⟨n2,e2,r2⟩:=ji.1 k;have n1':=List.nodup_cons.1 n1;have n2':=List.nodup_cons.1 n2;have hxy:y≠x:=fun e=>d x σ (by simp [e]);have sx:dK nx x y x=nx y:=by unfold dK;rw [if_pos rfl]
 have sy:dK nx x y y=nx x:=by unfold dK;rw [if_neg hxy,if_pos rfl]
 refine ji.2 ⟨?_,?_,?_⟩
 ·have:(x::t++y::s).Perm ((x::s)++(y::t)):=by
   show (x::(t++y::s)).Perm (x::(s++y::t))
   refine List.Perm.cons x ?_;exact (List.perm_middle).trans ((List.Perm.cons y List.perm_append_comm).trans List.perm_middle.symm)
  refine this.nodup_iff.2 (θ.2 ⟨n1,n2,fun a ha b hb e=>?_⟩);subst e;exact d a ha hb
 ·show dK nx x y x=(t++y::s).headD x
  rw [sx,e2,xS];rfl
 ·show Bc (dK nx x y) (t++y::s) x
  refine (tF _ _ _).2 ⟨?_,?_,?_⟩
  ·exact r2.far (fun w hw=>jk (fun e=>d x σ (by subst e;simp [hw])) (fun e=>n2'.1 (e▸hw)))
  ·rw [sy,e1]
  ·exact r1.far (fun w hw=>jk (fun e=>n1'.1 (e▸hw)) (fun e=>d w (by simp [hw]) (by subst e;simp)))
theorem Ring.cut {nx:Nat->Nat} {x y:Nat} {a b:List Nat} (h:Ring nx (x::a++y::b)):Ring (dK nx x y) (x::b)/\Ring (dK nx x y) (y::a):=by
 have h':Ring nx (x::(a++y::b)):=h;obtain ⟨n1,e1,r1⟩:=ji.1 h';have r2:=(tF _ _ _).1 r1;obtain ⟨r3,r4,r5⟩:Bc nx a y/\nx y=b.headD x/\Bc nx b x:=⟨r2.1,r2.2.1,r2.2.2⟩;have n2:=List.nodup_cons.1 n1;have n3:=θ.1 n2.2;have n4:=List.nodup_cons.1 n3.2.1;have hxy:y≠x:=fun e=>n2.1 (by subst e;simp);have sx:dK nx x y x=nx y:=by unfold dK;rw [if_pos rfl]
 have sy:dK nx x y y=nx x:=by unfold dK;rw [if_neg hxy,if_pos rfl]
 have xb:x∉b:=fun hm=>n2.1 (by simp [hm]);have xa:x∉a:=fun hm=>n2.1 (by simp [hm]);have ya:y∉a:=fun hm=>n3.2.2 y hm y σ rfl
 refine ⟨ji.2 ⟨List.nodup_cons.2 ⟨xb,n4.2⟩,by rw [sx,r4],r5.far (fun w hw=>jk (fun e=>xb (e▸hw)) (fun e=>n4.1 (e▸hw)))⟩,
  ji.2 ⟨List.nodup_cons.2 ⟨ya,n3.1⟩,?_,r3.far (fun w hw=>jk (fun e=>xa (e▸hw)) (fun e=>ya (e▸hw)))⟩⟩
 rw [sy,e1,xS];rfl
structure Rg (n:Nat) (nx pv:Nat->Nat):Prop where
 nn:∀x,x<n->nx x<n
 pp:∀x,x<n->pv x<n
 pn:∀x,x<n->pv (nx x)=x
 np:∀x,x<n->nx (pv x)=x
section
variable {n:Nat} {nx pv:Nat->Nat}
theorem Rg.inj (h:Rg n nx pv) {x y:Nat} (hx:x<n) (hy:y<n) (e:nx x=nx y):x=y:=by
 rw [←h.pn x hx,←h.pn y hy,e]
theorem Rg.swap (h:Rg n nx pv) {x y:Nat} (hx:x<n) (hy:y<n):Rg n (dK nx x y) (jO nx pv x y):=by
 refine ⟨fun z hz=>?_,fun z hz=>?_,fun z hz=>?_,fun z hz=>?_⟩
 ·unfold dK
  split
  ·exact h.nn y hy
  ·split
   ·exact h.nn x hx
   ·exact h.nn z hz
 ·unfold jO
  split
  ·exact hy
  ·split
   ·exact hx
   ·exact h.pp z hz
 ·unfold dK jO
  by_cases e1:z=x
  ·rw [if_pos e1]
   by_cases e2:nx y=nx x
   ·rw [if_pos e2,e1];exact h.inj hy hx e2
   ·rw [if_neg e2,if_pos rfl,e1]
  ·rw [if_neg e1]
   by_cases e2:z=y
   ·rw [if_pos e2,if_pos rfl,e2]
   ·rw [if_neg e2,if_neg (fun e=>e1 (h.inj hz hx e)),if_neg (fun e=>e2 (h.inj hz hy e))];exact h.pn z hz
 ·unfold dK jO
  by_cases e1:z=nx x
  ·rw [if_pos e1]
   by_cases e2:y=x
   ·rw [if_pos e2,e2,e1]
   ·rw [if_neg e2,if_pos rfl,e1]
  ·rw [if_neg e1]
   by_cases e2:z=nx y
   ·rw [if_pos e2,if_pos rfl,e2]
   ·rw [if_neg e2,if_neg (fun e=>e1 (by rw [←e,h.np z hz])),if_neg (fun e=>e2 (by rw [←e,h.np z hz]))];exact h.np z hz
theorem Rg.last (h:Rg n nx pv) {x y:Nat} {a:List Nat} (hr:Ring nx (x::a++[y])) (hy:y<n):pv x=y:=by
 have h':Ring nx (x::(a++[y])):=hr;have r2:=(tF _ _ _).1 (ji.1 h').2.2;have:nx y=x:=r2.2.1;rw [←this];exact h.pn y hy
theorem Rg.part (h:Rg n nx pv) {x:Nat} {l:List Nat} (hr:Ring nx (x::l)) (hl:∀z,z∈x::l->z<n):Ring (dK nx x (pv x)) [x]/\Ring (dK nx x (pv x)) l:=by
 have hx:x<n:=hl x σ;rcases List.eq_nil_or_concat l with rfl|⟨a,y,e⟩
 ·have e1:=jI.1 hr;have e2:pv x=x:=by have:=h.pn x hx;rw [e1] at this;exact this
  rw [e2];refine ⟨jI.2 ?_,Ring.nil _⟩;unfold dK;rw [if_pos rfl];exact e1
 ·have e':l=a++[y]:=by rw [e,List.concat_eq_append]
  subst e';have hy:y<n:=hl y σ;rw [h.last hr hy];have:=Ring.cut (b:=[]) hr;exact ⟨this.1,Ring.WK (a:=[y]) (b:=a) this.2⟩
end
theorem NH (t:List Nat) (z:Nat):t.headD z=t.getD 0 z:=by cases t<;>rfl
theorem Bc.at {nx:Nat->Nat}:∀ {l:List Nat} {z:Nat},Bc nx l z->∀k (hk:k<l.length),nx l[k]=l.getD (k+1) z
 | [],_,_,k,hk=>by simp at hk
 | x::t,z,h,0,hk=>by
  show nx x=(x::t).getD 1 z
  rw [h.1,NH];simp [φ]
 | x::t,z,h,k+1,hk=>by
  have:=Bc.at h.2 k (by simpa using hk)
  show nx (t[k]'(by simpa using hk))=(x::t).getD (k+1+1) z
  rw [this];simp [φ]
theorem Ring.at {nx:Nat->Nat} {x:Nat} {t:List Nat} (h:Ring nx (x::t)) (k:Nat) (hk:k<(x::t).length):nx (x::t)[k]=(x::t).getD (k+1) x:=Bc.at h.2 k hk
theorem jM:∀ (n:Nat) (l:List Nat),l.Nodup->(∀x,x∈l->x<n)->l.length<=n
 | 0,l,_,h=>by
  cases l with
  | nil=>simp
  | cons x t=>have:=h x σ;omega
 | n+1,l,hd,h=>by
  by_cases hm:n∈l
  ·have h1:=jM n (l.erase n) (hd.erase n) (fun x hx=>by
    have h2:=(List.Nodup.mem_erase_iff hd).1 hx;have:=h x h2.2
    omega)
   rw [List.length_erase_of_mem hm] at h1;omega
  ·have:=jM n l hd (fun x hx=>by
    have:=h x hx;have:x≠n:=fun e=>hm (e▸hx)
    omega)
   omega
def pM (l:List Nat):List Int:=l.map (fun x:Nat=>(x:Int))
theorem mQ (l:List Nat):(pM l).length=l.length:=by unfold pM;simp
theorem PY (a b:List Nat):pM (a++b)=pM a++pM b:=by unfold pM;simp
end Go.Proofs.YtklibcncmbofpaaGreat
namespace Go.Proofs.YtklibcncmbofpaaGreat
open Go Go.RowKit
structure yj (w:World) (br bn bp n:Nat) (nx pv:Nat->Nat):Prop where
 head:aO w br 254 2 (fun j=>[Value.slice (some ⟨bn,0,none⟩) n n,.slice (some ⟨bp,0,none⟩) n n].getD j undef)
 nr:aO w bn 3 n (fun j=>.int .i64 (nx j:Int))
 pr:aO w bp 3 n (fun j=>.int .i64 (pv j:Int))
 ne:br≠bn/\br≠bp/\bn≠bp
 le:n<=65536
 rg:Rg n nx pv
section
variable {w:World} {br bn bp n:Nat} {nx pv:Nat->Nat}
theorem yj.upd {w':World} {F:List Nat} (h:yj w br bn bp n nx pv) (hu:aa F w w') (h1:br∉F) (h2:bn∉F) (h3:bp∉F):yj w' br bn bp n nx pv:=
 ⟨h.head.upd hu h1,h.nr.upd hu h2,h.pr.upd hu h3,h.ne,h.le,h.rg⟩
theorem yj.aA {w':World} (h:yj w br bn bp n nx pv) (hu:aa [] w w'):yj w' br bn bp n nx pv:=h.upd hu σ σ σ
theorem yj.h0 (h:yj w br bn bp n nx pv):w.cell? ⟨br,0,none⟩=some (.slice (some ⟨bn,0,none⟩) n n):=h.head.cellAt 0 ω rfl
theorem yj.h1 (h:yj w br bn bp n nx pv):w.cell? ⟨br,1,none⟩=some (.slice (some ⟨bp,0,none⟩) n n):=h.head.cellAt 1 ω rfl
theorem yj.lt (h:yj w br bn bp n nx pv):br<w.heap.size/\bn<w.heap.size/\bp<w.heap.size:=⟨h.head.lt,h.nr.lt,h.pr.lt⟩
end
theorem NZ:(Tryz.prog.info? 3).map (fun i=>(i.zero,i.size,i.bytes))=some (some (.int .i64 0),1,8):=by kernel_rfl
theorem Ib (w:World) (n:Nat):aO (w.alloc (.cells (madeCells #[.int .i64 0] n) 3)) w.heap.size 3 n (fun j=>(madeCells #[.int .i64 0] n).toList.getD j undef):=by
 refine ⟨madeCells #[.int .i64 0] n,?_,by simp [madeCells],fun j hj=>?_⟩
 ·show (w.heap.push _)[w.heap.size]?=_;simp
 ·simp [madeCells,φ,hj]
theorem GN (n:Nat) (w:World) (h:n<=65536) :
  Calls Tryz.prog 110 #[.int .i64 (n:Int)] w fun e w'=>∃br bn bp,e=.returned (.tuple #[.pointer (some ⟨br,0,none⟩),.int .i64 0])/\yj w' br bn bp n id id/\aa [] w w'/\w.heap.size<=br/\w.heap.size<=bn/\w.heap.size<=bp:=by
 have hmk:=run_make_row' (P:=Tryz.prog) 26 3 (.int .i64 0) 8 Tryz.underlying26 NZ rfl .i64 .i64 n ω ω
 go_enter Tryz.func110,Tryz.ntmps110
 go_wp2
 go_region
 all_goals
  go_wp2
  go_loopw [19] (fun i wr=>∃ (bn bp k:Nat) (f g:Nat->Value),k<=n/\i=.int .i64 k/\aO wr (w.heap.size+1+1) 254 2 (fun j=>[Value.slice (some ⟨bn,0,none⟩) n n,.slice (some ⟨bp,0,none⟩) n n].getD j undef)/\
   aO wr bn 3 n f/\aO wr bp 3 n g/\(∀j,j<k->f j=.int .i64 (j:Int)/\g j=.int .i64 (j:Int))/\(w.heap.size<=bn/\w.heap.size<=bp/\bn≠bp/\bn<w.heap.size+1+1/\bp<w.heap.size+1+1)/\aa [] w wr) (fun i _=>n-(intOf i).toNat)
  case atStart=>
   have r0:=Ib w n;have r1:=Ib (w.alloc (.cells (madeCells #[.int .i64 0] n) 3)) n;rw [World.size_alloc] at r1;have rh:=fun v1 v2=>eH ((w.alloc (.cells (madeCells #[.int .i64 0] n) 3)).alloc (.cells (madeCells #[.int .i64 0] n) 3)) [v1,v2] 254;simp only [World.size_alloc] at rh
   first
    | exact ⟨w.heap.size,w.heap.size+1,0,_,_,ω,rfl,(rh _ _).drew,((r0.alloc _).alloc _).drew,(r1.alloc _).drew,ω,ω,β⟩
    | exact ⟨w.heap.size+1,w.heap.size,0,_,_,ω,rfl,(rh _ _).drew,(r1.alloc _).drew,((r0.alloc _).alloc _).drew,ω,ω,β⟩
  case round=>
   obtain ⟨bn,bp,k,f,g,hk,rfl,hH,hN,hP,hf,hb,hu⟩:=hrel;rename World=>wr
   by_cases hkn:k<n
   ·have c0:=hH.cellAt 0 ω rfl;have c1:=hH.cellAt 1 ω rfl;have d0:=hN.cell k hkn;have d1:=hP.cell k hkn;have e0:=hN.free k;have e1:=hP.free k;have Zn:(k:Int)<(n:Int):=ω;obtain ⟨b1,b2,b3,b4,b5⟩:=hb;have HF:=χ (ψ hf (ψ hH (ψ hN (ψ hP hu))));clear hf hH hN hP hu hmk;go_wp2
    go_region
    all_goals
     go_wp2
     go_roundw
     case rel=>
      obtain ⟨hf,hH,hN,hP,hu⟩:=HF.out;refine ⟨bn,bp,k+1,_,_,ω,by go_num,(hH.far _ _ ζ).far _ _ ζ,(hN.set _ _).far _ _ ζ,(hP.far _ _ ζ).set _ _,fun j hj=>?_,⟨b1,b2,b3,b4,b5⟩,((hu.setCell (Or.inr (by simpa using b1)) _).setCell (Or.inr (by simpa using b2)) _).drew⟩
      by_cases e:j=k
      ·subst e;simp
      ·simp only [if_neg e];exact hf j ω
     case measure=>simp [intOf];omega
   ·obtain rfl:k=n:=ω;go_wp2;go_ret2;exact ⟨_,bn,bp,rfl,⟨hH,hN.ext (fun j hj=>(hf j hj).1),hP.ext (fun j hj=>(hf j hj).2),ω,h,⟨fun x hx=>hx,fun x hx=>hx,fun _ _=>rfl,fun _ _=>rfl⟩⟩,hu,ω,ω,ω⟩
theorem Ty {w:World} {br bn bp n:Nat} {nx pv:Nat->Nat} (h:yj w br bn bp n nx pv) (x:Int) (b:Bool) (hb:b=decide (0<=x/\x<n)) :
  Calls Tryz.prog 234 #[.pointer (some ⟨br,0,none⟩),.int .i64 x] w fun e w'=>e=.returned (.bool b)/\w'=w:=by
 have hle:=h.le;have c0:=h.h0;clear h;rw [hb]
 by_cases h0:0<=x
 ·by_cases h1:x<n
  ·go_enter Tryz.func234,Tryz.ntmps234
   go_wp2;go_ret;exact ⟨bf (by simp [h0,h1]),rfl⟩
  ·go_enter Tryz.func234,Tryz.ntmps234
   go_wp2;go_ret;exact ⟨bf (by simp [h0,h1]),rfl⟩
 ·go_enter Tryz.func234,Tryz.ntmps234
  go_wp2;go_ret;exact ⟨bf ζ,rfl⟩
section
variable {w:World} {br bn bp n:Nat} {nx pv:Nat->Nat}
theorem sF (h:yj w br bn bp n nx pv) {x:Nat} (hx:x<n):Calls Tryz.prog 234 #[.pointer (some ⟨br,0,none⟩),.int .i64 (x:Int)] w fun e w'=>e=.returned (.bool true)/\w'=w:=
 Ty h x true ζ
theorem Cy (h:yj w br bn bp n nx pv) {x:Nat} (hx:x<n):Calls Tryz.prog 236 #[.pointer (some ⟨br,0,none⟩),.int .i64 (x:Int)] w fun e w'=>e=.returned (.tuple #[.int .i64 (nx x:Int),.bool true])/\w'=w:=by
 have hle:=h.le;have c0:=h.h0;have c1:=h.nr.cell x hx;have kh:=sF h hx;have CR:(x:Int)<(n:Int):=ω;clear h
 go_enter Tryz.func236,Tryz.ntmps236
 go_wp2_with ((go_at_call 234;(with_reducible refine (kh).mono ?_);rintro e w9 ⟨rfl,aM⟩;rw [aM];clear aM w9))
 go_ret2;exact ⟨rfl,rfl⟩
theorem Ap (nx:Nat->Nat) (x y j:Nat):(if j=y then Value.int .i64 (nx x:Int) else if j=x then Value.int .i64 (nx y:Int) else Value.int .i64 (nx j:Int))=.int .i64 (dK nx x y j:Int):=by
 unfold dK
 by_cases e1:j=y
 ·rw [if_pos e1]
  by_cases e2:j=x
  ·rw [if_pos e2,←e1,e2]
  ·rw [if_neg e2,if_pos e1]
 ·rw [if_neg e1]
  by_cases e2:j=x
  ·rw [if_pos e2,if_pos e2]
  ·rw [if_neg e2,if_neg e2,if_neg e1]
theorem zy (nx pv:Nat->Nat) (x y j:Nat):(if j=nx x then Value.int .i64 (y:Int) else if j=nx y then Value.int .i64 (x:Int) else Value.int .i64 (pv j:Int))=.int .i64 (jO nx pv x y j:Int):=by
 unfold jO
 split
 ·rfl
 ·split<;>rfl
theorem lC (h:yj w br bn bp n nx pv) {x y:Nat} (hx:x<n) (hy:y<n):Calls Tryz.prog 233 #[.pointer (some ⟨br,0,none⟩),.int .i64 (x:Int),.int .i64 (y:Int)] w fun e w'=>
  e=.returned (.bool true)/\yj w' br bn bp n (dK nx x y) (jO nx pv x y)/\aa [bn,bp] w w':=by
 have hle:=h.le;have c0:=h.h0;have c1:=h.h1;have d0:=h.nr.cell x hx;have d1:=h.nr.cell y hy;have f0:=h.nr.free x;have f1:=h.nr.free y;have ha:=h.rg.nn x hx;have hb:=h.rg.nn y hy;have e0:=h.pr.cell (nx x) ha;have e1:=h.pr.cell (nx y) hb;have g0:=h.pr.free (nx x);have g1:=h.pr.free (nx y);have kx:=sF h hx;have ky:=sF h hy;obtain ⟨n1,n2,n3⟩:=h.ne;obtain ⟨l1,l2,l3⟩:=h.lt;have i1:(x:Int)<(n:Int):=ω;have i2:(y:Int)<(n:Int):=ω;have i3:(nx x:Int)<(n:Int):=ω;have i4:(nx y:Int)<(n:Int):=ω;have H:=χ h;clear h;generalize ea:nx x=a at *;generalize eb:nx y=b at *
 by_cases hxy:x=y
 ·subst hxy;rw [ea] at eb;subst eb
  go_enter Tryz.func233,Tryz.ntmps233
  go_wp2_with (first
   | (go_at_call 234;(with_reducible refine (kx).mono ?_);rintro e w9 ⟨rfl,aM⟩;rw [aM];clear aM w9)
   | fail)
  go_region
  go_wp2
  go_region
  go_wp2
  go_region
  go_wp2;go_ret;have h:=H.out;refine ⟨rfl,⟨((((h.head.far _ _ n1).far _ _ n1).far _ _ n2).far _ _ n2),((((h.nr.set _ _).set _ _).far _ _ n3).far _ _ n3).ext (fun j hj=>?_),((((h.pr.far _ _ (Ne.symm n3)).far _ _ (Ne.symm n3)).set _ _).set _ _).ext (fun j hj=>?_),h.ne,h.le,h.rg.swap hx hy⟩,ν⟩
  ·have:=Ap nx x x j;rw [ea] at this;exact this
  ·have:=zy nx pv x x j;rw [ea] at this;exact this
 ·have hyx:y≠x:=fun e=>hxy e.symm;have hab:a≠b:=fun e=>hxy (H.out.rg.inj hx hy (by rw [ea,eb,e]))
  go_enter Tryz.func233,Tryz.ntmps233
  go_wp2_with (first
   | (go_at_call 234;(with_reducible refine (kx).mono ?_);rintro e w9 ⟨rfl,aM⟩;rw [aM];clear aM w9)
   | (go_at_call 234;(with_reducible refine (ky).mono ?_);rintro e w9 ⟨rfl,aM⟩;rw [aM];clear aM w9)
   | fail)
  go_region
  go_wp2
  go_region
  go_wp2
  go_region
  go_wp2;go_ret;have h:=H.out;refine ⟨rfl,⟨((((h.head.far _ _ n1).far _ _ n1).far _ _ n2).far _ _ n2),((((h.nr.set _ _).set _ _).far _ _ n3).far _ _ n3).ext (fun j hj=>?_),((((h.pr.far _ _ (Ne.symm n3)).far _ _ (Ne.symm n3)).set _ _).set _ _).ext (fun j hj=>?_),h.ne,h.le,h.rg.swap hx hy⟩,ν⟩
  ·have:=Ap nx x y j;rw [ea,eb] at this;exact this
  ·have:=zy nx pv x y j;rw [ea,eb] at this;exact this
theorem BX (h:yj w br bn bp n nx pv) {x:Nat} (hx:x<n):Calls Tryz.prog 228 #[.pointer (some ⟨br,0,none⟩),.int .i64 (x:Int)] w fun e w'=>
  e=.returned (.bool true)/\yj w' br bn bp n (dK nx x (pv x)) (jO nx pv x (pv x))/\aa [bn,bp] w w':=by
 have hle:=h.le;have c1:=h.h1;have d0:=h.pr.cell x hx;have kx:=sF h hx;have ks:=lC h hx (h.rg.pp x hx);have CR:(x:Int)<(n:Int):=ω;clear h
 go_enter Tryz.func228,Tryz.ntmps228
 go_wp2_with (first
  | (go_at_call 234;(with_reducible refine (kx).mono ?_);rintro e w9 ⟨rfl,aM⟩;rw [aM];clear aM w9)
  | ((go_at_call 233;(with_reducible refine (ks).mono ?_));rintro e w1 ⟨rfl,hR,hu⟩)
  | fail)
 go_ret;exact ⟨rfl,hR,hu⟩
theorem Fw (h:yj w br bn bp n nx pv) {x:Nat} {t:List Nat} (hr:Ring nx (x::t)) (hl:∀z,z∈x::t->z<n):Calls Tryz.prog 227 #[.pointer (some ⟨br,0,none⟩),.int .i64 (x:Int)] w fun e w'=>
  ∃v,e=.returned v/\w'.ownsRow w.heap.size 3 1 v (x::t).length (aU (pM (x::t)))/\aa [] w w':=by
 have hx:x<n:=hl x σ;have hlen:(x::t).length<=n:=jM n (x::t) hr.nd hl;have hle:=h.le;obtain ⟨l1,l2,l3⟩:=h.lt;have c0:=h.h0;have d0:=h.nr.cell x hx;have kx:=sF h hx;have CR:(x:Int)<(n:Int):=ω;have e0:=hr.at 0 σ;have hcell:∀ (W:World) (y:Nat),aa [] w W->y<n->W.cell? ⟨bn,y,none⟩=some (.int .i64 (nx y:Int)):=fun W y hW hy=>hW.was (h.nr.cell y hy);have hc0:∀ (W:World),aa [] w W->W.cell? ⟨br,0,none⟩=some (.slice (some ⟨bn,0,none⟩) n n):=fun W hW=>hW.was h.h0;have HR:=χ (ψ hr (ψ hl hcell))
 have ho0:(w.alloc (.cells #[.int .i64 (x:Int)] 3)).ownsRow w.heap.size 3 1 (.slice (some ⟨w.heap.size,0,none⟩) 1 1) 1 [.int .i64 (x:Int)]:=qB w [.int .i64 (x:Int)] 3 w.heap.size 1 1 rfl (Nat.le_refl _) μ;have HO:=χ ho0;clear h hr hl hcell ho0
 go_enter Tryz.func227,Tryz.ntmps227
 go_wp2_with (first
  | (go_at_call 234;(with_reducible refine (kx).mono ?_);rintro e w9 ⟨rfl,aM⟩;rw [aM];clear aM w9)
  | fail)
 go_loopw [5,6] (fun s5 s6 wr=>∃k:Nat,k<(x::t).length/\s6=.int .i64 ((nx ((x::t).getD k 0):Nat):Int)/\wr.ownsRow w.heap.size 3 1 s5 (k+1) (aU (pM ((x::t).take (k+1))))/\aa [] w wr) (fun s5 _ _=>match s5 with | .slice _ l _=>n-l|_=>0)
 case atStart=>exact ⟨0,σ,rfl,HO.out,β⟩
 case round=>
  obtain ⟨k,hk,rfl,ho,hu⟩:=hrel;rename World=>wr;obtain ⟨a,c,rfl,hc⟩:=bu ho;have hat:=HR.out.1.at k hk;have hgk:(x::t).getD k 0=(x::t)[k]:=by rw [φ,ε hk];rfl
  rw [hgk,hat];have h0:=hc0 wr hu
  by_cases hk1:k+1<(x::t).length
  ·obtain ⟨y,hy⟩:∃y,(x::t)[k+1]?=some y:=⟨_,ε hk1⟩;have hg1:(x::t).getD (k+1) x=y:=by rw [φ,hy];rfl
   have hne:y≠x:=fun e=>by
    have hp:=List.pairwise_iff_getElem.1 (List.nodup_iff_pairwise_ne.1 HR.out.1.nd) 0 (k+1) σ hk1 ω;rw [ε hk1] at hy;have h2:(x::t)[k+1]=y:=by injection hy
    exact hp (by rw [h2,e];rfl)
   have hyn:y<n:=HR.out.2.1 _ (List.mem_of_getElem? hy);have e2:(x::t).take (k+1+1)=(x::t).take (k+1)++[y]:=by rw [List.take_add_one,hy];rfl
   have e3:(x::t).getD (k+1) 0=y:=by rw [φ,hy];rfl
   rw [hg1];have HE:=χ (ψ hk1 (ψ e2 (ψ e3 hu)));have hsz:=hu.size;have hkn:k+1<n:=ω;clear hat hgk hg1 e2 e3 hk1 hk hy hlen;have ZM:(y:Int)<(n:Int):=ω;have hyx:((y:Int) == (x:Int))=false:=ζ;have d1:=fun W hW=>HR.out.2.2 W y hW hyn;have HU:=χ hu
   go_wp2_with (first
    | ((at_builtin;refine aW rfl _ _ 26 rfl w.heap.size 3 (.int .i64 0) 1 8 Tryz.underlying26 fK rfl δ _ _ _ rfl (ho) [.int .i64 (y:Int)] rfl (by simp [Value.oneCell']) (by first|rfl|(rw [World.size_alloc];rfl)) μ ω (ω) ?_;intro v2 w2 ho2 hu2 mW);(have hw2:aa [] w w2:=HU.out.own ho (Nat.le_refl _) hu2);(have q0:=hc0 w2 hw2);(have q1:=d1 w2 hw2))
    | fail)
   obtain ⟨hk1,e2,e3,_⟩:=HE.out;obtain ⟨a2,c2,rfl,_⟩:=bu ho2;refine ⟨⟨k+1,hk1,by rw [e3],?_,hw2⟩,ζ⟩;rw [e2,PY,bN];exact ho2
  ·have hkl:k+1=(x::t).length:=ω;have hg1:(x::t).getD (k+1) x=x:=by rw [φ,List.getElem?_eq_none ω];rfl
   rw [hg1];have e2:(x::t).take (k+1)=x::t:=List.take_of_length_le ω;rw [e2] at ho;have HO2:=χ (ψ ho (ψ hu hkl));clear hat hgk hg1 e2 hk1 hk ho hkl hlen;go_wp2;go_ret;obtain ⟨ho,hu,hkl⟩:=HO2.out;exact ⟨_,rfl,hkl▸ho,hu⟩
end
end Go.Proofs.YtklibcncmbofpaaGreat
namespace Go.Proofs.YtklibcncmbofpaaGreat
structure FG where
 nx:Nat->Nat
 pv:Nat->Nat
 up:Nat->Int
 mr:Nat->Bool
 K:Nat->List Nat
 R:Nat->List Nat
def FG.none:FG:=⟨id,id,fun _=>-1,fun _=>false,fun _=>[],fun _=>[]⟩
def mX (l:List Nat):Int:=match l with|[]=>-1|x::_=>(x:Int)
def az {α:Type} (f:Nat->α) (x:Nat) (v:α):Nat->α:=fun z=>if z=x then v else f z
def Np (G:FG) (x y:Nat):FG:={ G with nx:=dK G.nx x y,pv:=jO G.nx G.pv x y }
def prt (G:FG) (x:Nat):FG:=Np G x (G.pv x)
def vV (lt:Bool) (R l:List Nat):List Nat:=match R with
 | []=>l
 | t::s=>match l with
  | []=>t::s
  | x::r=>if lt then x::s++t::r else t::r++x::s
def iW (lt:Nat->Nat->Bool) (h:Nat) (l:List Nat) (G:FG):FG:=match G.R h,l with
 | t::s,x::r=>{ Np G t x with R:=az G.R h (vV (lt x t) (t::s) (x::r)) }
 | _,l=>{ G with R:=az G.R h l }
def sW (h:Nat) (G:FG):Nat:=if G.R h=[] then 0 else 1
def dY (G:FG) (y x:Nat):FG:=
 let G1:=match G.K x with|[]=>G|k::_=>Np G k y
 { G1 with up:=az G.up y x,mr:=az G.mr y false,K:=az G.K x (match G.K x with|[]=>[y]|k::t=>y::(t++[k])) }
def dO (G:FG) (x:Nat):FG:=match G.K x with
 | []=>G
 | k::t=>{ Np G x k with up:=az (fun z=>if z∈k::t then -1 else G.up z) x (-1),mr:=az (fun z=>if z∈k::t then false else G.mr z) x false,K:=az G.K x [] }
end Go.Proofs.YtklibcncmbofpaaGreat
namespace Go.Proofs.YtklibcncmbofpaaGreat
open Go Go.RowKit
def BK (u k d:Nat->Int) (m:Nat->Bool) (j:Nat):Value:=if j % 4=0 then .int .i64 (u (j / 4)) else if j % 4=1 then .int .i64 (k (j / 4)) else if j % 4=2 then .int .i64 (d (j / 4)) else .bool (m (j / 4))
theorem yD (u k d:Nat->Int) (m:Nat->Bool) (x:Nat):BK u k d m (x*4)=.int .i64 (u x):=by unfold BK;rw [if_pos ω,show x*4 / 4=x by omega]
theorem yE (u k d:Nat->Int) (m:Nat->Bool) (x:Nat):BK u k d m (x*4+1)=.int .i64 (k x):=by unfold BK;rw [if_neg ω,if_pos ω,show (x*4+1) / 4=x by omega]
theorem yC (u k d:Nat->Int) (m:Nat->Bool) (x:Nat):BK u k d m (x*4+2)=.int .i64 (d x):=by unfold BK;rw [if_neg ω,if_neg ω,if_pos ω,show (x*4+2) / 4=x by omega]
theorem yA (u k d:Nat->Int) (m:Nat->Bool) (x:Nat):BK u k d m (x*4+3)=.bool (m x):=by unfold BK;rw [if_neg ω,if_neg ω,if_neg ω,show (x*4+3) / 4=x by omega]
theorem four (j:Nat):∃a,j=a*4\/j=a*4+1\/j=a*4+2\/j=a*4+3:=⟨j / 4,ω⟩
section
variable {w:World} {b m:Nat} {e:TypeId} {u k d:Nat->Int} {mr:Nat->Bool}
theorem rT (h:aO w b e m (BK u k d mr)) (x:Nat) (v:Int):aO (w.setCell ⟨b,x*4,none⟩ (.int .i64 v)) b e m (BK (az u x v) k d mr):=by
 refine (h.set _ _).ext (fun j _=>?_);obtain ⟨a,rfl|rfl|rfl|rfl⟩:=four j
 ·rw [yD,yD];unfold az
  by_cases e:a=x
  ·rw [e,if_pos rfl,if_pos rfl]
  ·rw [if_neg ω,if_neg e]
 ·rw [yE,yE,if_neg ω]
 ·rw [yC,yC,if_neg ω]
 ·rw [yA,yA,if_neg ω]
theorem qx (h:aO w b e m (BK u k d mr)) (x:Nat) (v:Int):aO (w.setCell ⟨b,x*4+1,none⟩ (.int .i64 v)) b e m (BK u (az k x v) d mr):=by
 refine (h.set _ _).ext (fun j _=>?_);obtain ⟨a,rfl|rfl|rfl|rfl⟩:=four j
 ·rw [yD,yD,if_neg ω]
 ·rw [yE,yE];unfold az
  by_cases e:a=x
  ·rw [e,if_pos rfl,if_pos rfl]
  ·rw [if_neg ω,if_neg e]
 ·rw [yC,yC,if_neg ω]
 ·rw [yA,yA,if_neg ω]
theorem sS (h:aO w b e m (BK u k d mr)) (x:Nat) (v:Int):aO (w.setCell ⟨b,x*4+2,none⟩ (.int .i64 v)) b e m (BK u k (az d x v) mr):=by
 refine (h.set _ _).ext (fun j _=>?_);obtain ⟨a,rfl|rfl|rfl|rfl⟩:=four j
 ·rw [yD,yD,if_neg ω]
 ·rw [yE,yE,if_neg ω]
 ·rw [yC,yC];unfold az
  by_cases e:a=x
  ·rw [e,if_pos rfl,if_pos rfl]
  ·rw [if_neg ω,if_neg e]
 ·rw [yA,yA,if_neg ω]
theorem pX (h:aO w b e m (BK u k d mr)) (x:Nat) (v:Bool):aO (w.setCell ⟨b,x*4+3,none⟩ (.bool v)) b e m (BK u k d (az mr x v)):=by
 refine (h.set _ _).ext (fun j _=>?_);obtain ⟨a,rfl|rfl|rfl|rfl⟩:=four j
 ·rw [yD,yD,if_neg ω]
 ·rw [yE,yE,if_neg ω]
 ·rw [yC,yC,if_neg ω]
 ·rw [yA,yA];unfold az
  by_cases e:a=x
  ·rw [e,if_pos rfl,if_pos rfl]
  ·rw [if_neg ω,if_neg e]
end
theorem EM (K:Nat->List Nat) (x:Nat) (l:List Nat):(fun z=>mX (az K x l z))=az (fun z=>mX (K z)) x (mX l):=by
 funext z;unfold az;split<;>rfl
theorem kg (K:Nat->List Nat) (x:Nat) (l:List Nat):(fun z=>((az K x l z).length:Int))=az (fun z=>((K z).length:Int)) x (l.length:Int):=by
 funext z;unfold az;split<;>rfl
def oo (G:FG):Nat->Value:=BK G.up (fun x=>mX (G.K x)) (fun x=>((G.K x).length:Int)) G.mr
theorem U7 (G:FG) (x:Nat):oo G (x*4)=.int .i64 (G.up x):=yD _ _ _ _ x
theorem U4 (G:FG) (x:Nat):oo G (x*4+1)=.int .i64 (mX (G.K x)):=yE _ _ _ _ x
theorem UH (G:FG) (x:Nat):oo G (x*4+2)=.int .i64 ((G.K x).length:Int):=yC _ _ _ _ x
theorem UF (G:FG) (x:Nat):oo G (x*4+3)=.bool (G.mr x):=yA _ _ _ _ x
def jB (R:Nat->List Nat) (m:Nat):List Int:=(List.range m).map (fun h=>mX (R h))
theorem uA (R:Nat->List Nat) (m:Nat):(jB R m).length=m:=by unfold jB;simp
theorem MJ (R:Nat->List Nat) {m h:Nat} (hh:h<m):(jB R m).getD h 0=mX (R h):=by unfold jB;simp [φ,hh]
theorem Oj (R:Nat->List Nat) (m h:Nat) (l:List Nat):(jB R m).set h (mX l)=jB (az R h l) m:=by
 unfold jB az;apply List.ext_getElem σ;intro i h1 h2;simp only [List.getElem_set,List.getElem_map,List.getElem_range]
 by_cases e:h=i
 ·subst e;rw [if_pos rfl,if_pos rfl]
 ·rw [if_neg e,if_neg (fun e2=>e e2.symm)]
structure FB where
 n0:Nat
 c:Nat
 br:Nat
 bn:Nat
 bp:Nat
 bl:Nat
structure fI (w:World) (B:FB) (F:List Nat) (gt ct:Nat) (A:NS) (st:Nat) (G:FG):Prop where
 head:aO w B.n0 223 4 (fun j=>[Value.pointer (some ⟨B.c,0,none⟩),.pointer (some ⟨B.br,0,none⟩),.slice (some ⟨B.bl,0,none⟩) A.cs.length A.cs.length,.slice (some ⟨gt,0,none⟩) A.hs.length ct].getD j undef)
 cells:aG w B.c F A st
 rings:yj w B.br B.bn B.bp A.cs.length G.nx G.pv
 pl:aO w B.bl 225 (A.cs.length*4) (oo G)
 ak:IZ w gt ct (jB G.R A.hs.length)
 d1:B.n0∉F/\B.br∉F/\B.bn∉F/\B.bp∉F/\B.bl∉F/\gt∉F
 d2:B.n0≠B.br/\B.n0≠B.bn/\B.n0≠B.bp/\B.n0≠B.bl/\B.n0≠gt
 d3:B.bl≠B.br/\B.bl≠B.bn/\B.bl≠B.bp/\B.bl≠gt/\gt≠B.br/\gt≠B.bn/\gt≠B.bp
def FB.blk (B:FB) (F:List Nat) (gt:Nat):List Nat:=B.n0::B.br::B.bn::B.bp::B.bl::gt::F
section
variable {w:World} {B:FB} {F:List Nat} {gt ct:Nat} {A:NS} {st:Nat} {G:FG}
theorem fI.lt (h:fI w B F gt ct A st G):∀x,x∈B.blk F gt->x<w.heap.size:=by
 intro x hx;have h1:=h.head.lt;have h2:=h.rings.lt;have h3:=h.pl.lt;have h4:=h.ak.lt;simp only [FB.blk,ρ] at hx;rcases hx with rfl|rfl|rfl|rfl|rfl|rfl|hx
 ·exact h1
 ·exact h2.1
 ·exact h2.2.1
 ·exact h2.2.2
 ·exact h3
 ·exact h4
 ·exact h.cells.lt x hx
theorem fI.h0 (h:fI w B F gt ct A st G):w.cell? ⟨B.n0,0,none⟩=some (.pointer (some ⟨B.c,0,none⟩)):=h.head.cellAt 0 ω rfl
theorem fI.h1 (h:fI w B F gt ct A st G):w.cell? ⟨B.n0,1,none⟩=some (.pointer (some ⟨B.br,0,none⟩)):=h.head.cellAt 1 ω rfl
theorem fI.h2 (h:fI w B F gt ct A st G):w.cell? ⟨B.n0,2,none⟩=some (.slice (some ⟨B.bl,0,none⟩) A.cs.length A.cs.length):=h.head.cellAt 2 ω rfl
theorem fI.h3 (h:fI w B F gt ct A st G):w.cell? ⟨B.n0,3,none⟩=some (.slice (some ⟨gt,0,none⟩) A.hs.length ct):=h.head.cellAt 3 ω rfl
theorem fI.p0 (h:fI w B F gt ct A st G) {x:Nat} (hx:x<A.cs.length):w.cell? ⟨B.bl,x*4,none⟩=some (.int .i64 (G.up x)):=h.pl.cellAt _ ω (U7 G x)
theorem fI.p1 (h:fI w B F gt ct A st G) {x:Nat} (hx:x<A.cs.length):w.cell? ⟨B.bl,x*4+1,none⟩=some (.int .i64 (mX (G.K x))):=h.pl.cellAt _ ω (U4 G x)
theorem fI.p2 (h:fI w B F gt ct A st G) {x:Nat} (hx:x<A.cs.length):w.cell? ⟨B.bl,x*4+2,none⟩=some (.int .i64 ((G.K x).length:Int)):=h.pl.cellAt _ ω (UH G x)
theorem fI.p3 (h:fI w B F gt ct A st G) {x:Nat} (hx:x<A.cs.length):w.cell? ⟨B.bl,x*4+3,none⟩=some (.bool (G.mr x)):=h.pl.cellAt _ ω (UF G x)
theorem fI.top (h:fI w B F gt ct A st G) {q:Nat} (hq:q<A.hs.length):w.cell? ⟨gt,q,none⟩=some (.int .i64 (mX (G.R q))):=by
 rw [h.ak.cell q (by rw [uA];exact hq),MJ _ hq]
theorem fI.cap (h:fI w B F gt ct A st G):A.hs.length<=ct/\ct<=9223372036854775807:=by have:=h.ak.cap;rwa [uA] at this
theorem fI.cn (h:fI w B F gt ct A st G):B.n0≠B.c/\B.br≠B.c/\B.bn≠B.c/\B.bp≠B.c/\B.bl≠B.c/\gt≠B.c:=by
 have hm:=h.cells.mem;exact ⟨fun e=>h.d1.1 (e▸hm),fun e=>h.d1.2.1 (e▸hm),fun e=>h.d1.2.2.1 (e▸hm),fun e=>h.d1.2.2.2.1 (e▸hm),fun e=>h.d1.2.2.2.2.1 (e▸hm),fun e=>h.d1.2.2.2.2.2 (e▸hm)⟩
theorem fI.upd {w':World} {S:List Nat} (h:fI w B F gt ct A st G) (hu:aa S w w') (hS:∀x,x∈S->x∉B.blk F gt):fI w' B F gt ct A st G:=by
 have k:∀x,x∈B.blk F gt->x∉S:=fun x hx hs=>hS x hs hx;exact ⟨h.head.upd hu (k _ (by simp [FB.blk])),h.cells.upd hu (fun x hx hm=>hS x hx (by simp [FB.blk,hm])),h.rings.upd hu (k _ (by simp [FB.blk])) (k _ (by simp [FB.blk])) (k _ (by simp [FB.blk])),h.pl.upd hu (k _ (by simp [FB.blk])),h.ak.upd hu (k _ (by simp [FB.blk])),h.d1,h.d2,h.d3⟩
theorem fI.aA {w':World} (h:fI w B F gt ct A st G) (hu:aa [] w w'):fI w' B F gt ct A st G:=h.upd hu σ
theorem fI.dB {w':World} {F':List Nat} {A':NS} {st':Nat} (h:fI w B F gt ct A st G) (hu:aa F w w') (hC:aG w' B.c F' A' st') (hF:∀x,x∈F'->x∈F\/w.heap.size<=x) (e1:A'.cs.length=A.cs.length) (e2:A'.hs.length=A.hs.length):fI w' B F' gt ct A' st' G:=by
 have f:=h.d1;have g:=h.lt;have hf:∀x,x<w.heap.size->x∉F->x∉F':=fun x hx hn hm=>by rcases hF x hm with h'|h';exact hn h';omega
 have l0:=g B.n0 (by simp [FB.blk]);have l1:=g B.br (by simp [FB.blk]);have l2:=g B.bn (by simp [FB.blk]);have l3:=g B.bp (by simp [FB.blk]);have l4:=g B.bl (by simp [FB.blk]);have l5:=g gt (by simp [FB.blk]);exact ⟨by rw [e1,e2];exact h.head.upd hu f.1,hC,by rw [e1];exact h.rings.upd hu f.2.1 f.2.2.1 f.2.2.2.1,by rw [e1];exact h.pl.upd hu f.2.2.2.2.1,by rw [e2];exact h.ak.upd hu f.2.2.2.2.2,⟨hf _ l0 f.1,hf _ l1 f.2.1,hf _ l2 f.2.2.1,hf _ l3 f.2.2.2.1,hf _ l4 f.2.2.2.2.1,hf _ l5 f.2.2.2.2.2⟩,h.d2,h.d3⟩
theorem fI.setSt {w':World} {st':Nat} (h:fI w B F gt ct A st G) (hu:aa [B.c] w w') (hC:aG w' B.c F A st'):fI w' B F gt ct A st' G:=
 h.dB (hu.mono (fun x hx=>by simp at hx;rw [hx];exact h.cells.mem)) hC (fun x hx=>Or.inl hx) rfl rfl
theorem fI.dG {w':World} {nx pv:Nat->Nat} (h:fI w B F gt ct A st G) (hu:aa [B.bn,B.bp] w w') (hR:yj w' B.br B.bn B.bp A.cs.length nx pv):fI w' B F gt ct A st { G with nx:=nx,pv:=pv }:=by
 obtain ⟨f1,f2,f3,f4,f5,f6⟩:=h.d1;obtain ⟨e1,e2,e3,e4,e5⟩:=h.d2;obtain ⟨g1,g2,g3,g4,g5,g6,g7⟩:=h.d3;have m:∀x,x≠B.bn->x≠B.bp->x∉[B.bn,B.bp]:=fun x h1 h2=>by simp [h1,h2]
 exact ⟨h.head.upd hu (m _ e2 e3),h.cells.upd hu (fun x hx hm=>by simp at hx;rcases hx with rfl|rfl;exact f3 hm;exact f4 hm),hR,h.pl.upd hu (m _ g2 g3),h.ak.upd hu (m _ g6 g7),h.d1,h.d2,h.d3⟩
theorem fI.Kv {w':World} {up:Nat->Int} {mr:Nat->Bool} {K:Nat->List Nat} (h:fI w B F gt ct A st G) (hu:aa [B.bl] w w') (hP:aO w' B.bl 225 (A.cs.length*4) (oo { G with up:=up,mr:=mr,K:=K })):fI w' B F gt ct A st { G with up:=up,mr:=mr,K:=K }:=by
 obtain ⟨f1,f2,f3,f4,f5,f6⟩:=h.d1;obtain ⟨e1,e2,e3,e4,e5⟩:=h.d2;obtain ⟨g1,g2,g3,g4,g5,g6,g7⟩:=h.d3;have m:∀x,x≠B.bl->x∉[B.bl]:=fun x h1=>by simp [h1]
 exact ⟨h.head.upd hu (m _ e4),h.cells.upd hu (fun x hx hm=>by simp at hx;subst hx;exact f5 hm),h.rings.upd hu (m _ (Ne.symm g1)) (m _ (Ne.symm g2)) (m _ (Ne.symm g3)),hP,h.ak.upd hu (m _ (Ne.symm g4)),h.d1,h.d2,h.d3⟩
theorem fI.iV (h:fI w B F gt ct A st G) (q:Nat) (l:List Nat):fI (w.setCell ⟨gt,q,none⟩ (.int .i64 (mX l))) B F gt ct A st { G with R:=az G.R q l }:=by
 obtain ⟨f1,f2,f3,f4,f5,f6⟩:=h.d1;obtain ⟨e1,e2,e3,e4,e5⟩:=h.d2;obtain ⟨g1,g2,g3,g4,g5,g6,g7⟩:=h.d3;have hu:aa [gt] w (w.setCell ⟨gt,q,none⟩ (.int .i64 (mX l))):=(aa.refl _ _).setCell (Or.inl σ) _;have m:∀x,x≠gt->x∉[gt]:=fun x h1=>by simp [h1]
 refine ⟨h.head.upd hu (m _ e5),h.cells.upd hu (fun x hx hm=>by simp at hx;subst hx;exact f6 hm),h.rings.upd hu (m _ (Ne.symm g5)) (m _ (Ne.symm g6)) (m _ (Ne.symm g7)),h.pl.upd hu (m _ g4),?_,h.d1,h.d2,h.d3⟩;have:=h.ak.set q (mX l);rwa [Oj] at this
theorem fI.drewN (h:fI w B F gt ct A st G) (k:Nat):fI (w.drewN k) B F gt ct A st G:=h.aA ((aa.refl [] w).drewN k)
end
theorem AU (w:World):Calls Tryz.prog 111 #[] w fun e w'=>e=.returned (.agg #[.int .i64 (-1),.int .i64 (-1),.int .i64 0,.bool false])/\aa [] w w':=by
 go_enter Tryz.func111,Tryz.ntmps111
 go_wp2;exact bodyPost_ret (v:=.agg #[.int .i64 (-1),.int .i64 (-1),.int .i64 0,.bool false]) (by simp [results,Tryz.results111,go_sem]) rfl ⟨rfl,(aa.refl _ _).alloc _⟩
end Go.Proofs.YtklibcncmbofpaaGreat
