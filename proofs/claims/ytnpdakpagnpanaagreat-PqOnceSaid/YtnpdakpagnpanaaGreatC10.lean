/-
  Lemmas for PqAlike: FbA, FbB, FbC, Fb, Fb2, FbI, FbT, FbP, FbQ, FbR, Fb3, FbS, FbU, FbV, FbW, Fb4. Conditions: those of each lemma.
-/
import Derived.Deep.OwnRows
import Derived.Deep.RegionHeldLaw
import Derived.Deep.RegionLaw
import Derived.Deep.DeepCutAuto
import Derived.Outline
import Derived.Deep.LoopGhost
import Derived.Test.YtnpdakpagnpanaaGreatC01
set_option linter.all false
set_option maxHeartbeats 8000000
set_option maxRecDepth 10000
namespace Go.Proofs.YtnpdakpagnpanaaGreat
open Tryz
def Cc(nx:Nat->Nat):List Nat->Nat->Prop
 | [],_=>True
 |x::t,z=>nx x=t.headD z/\Cc nx t z
theorem yL(a b:List Nat)(z:Nat):(a++b).headD z=a.headD (b.headD z):=by cases a<;>rfl
theorem uE{nx:Nat->Nat}:∀(a b:List Nat) (z:Nat),Cc nx (a++b) z↔Cc nx a (b.headD z)/\Cc nx b z
 | [],b,z=>by simp[Cc]
 |x::t,b,z=>by
  show(nx x=(t++b).headD z/\Cc nx (t++b) z)↔(nx x=t.headD (b.headD z)/\Cc nx t (b.headD z))/\Cc nx b z
  rw[uE t b z,yL,and_assoc]
theorem Cc.far{nx nx':Nat->Nat}:∀{l:List Nat} {z:Nat},Cc nx l z->(∀w,w∈l->nx' w=nx w)->Cc nx' l z
 | [],_,_,_=>trivial
 |x::t,z,h,e=>⟨(e x σ).trans h.1,Cc.far h.2 (λw hw=>e w (by simp[hw]))⟩
def Ring(nx:Nat->Nat)(l:List Nat):Prop:=l.Nodup/\Cc nx l (l.headD 0)
theorem Ring.nil(nx:Nat->Nat):Ring nx []:=⟨Ϥ,trivial⟩
theorem Ring.nd{nx:Nat->Nat}{l:List Nat}(h:Ring nx l):l.Nodup:=h.1
theorem je{nx:Nat->Nat}{x:Nat}{t:List Nat}:Ring nx (x::t)↔(x::t).Nodup/\nx x=t.headD x/\Cc nx t x:=Iff.rfl
theorem iM{nx:Nat->Nat}{x:Nat}:Ring nx [x]↔nx x=x:=by
 rw[je];simp[Cc]
theorem Ring.far{nx nx':Nat->Nat}{l:List Nat}(h:Ring nx l)(e:∀w,w∈l->nx' w=nx w):Ring nx' l:=⟨h.1,h.2.far e⟩
theorem OI{a b:List Nat}(h:(a++b).Nodup):(b++a).Nodup:=(Φ (l₁:=a) (l₂:=b)).nodup_iff.1 h
theorem Ring.Vv{nx:Nat->Nat}:∀{a b:List Nat},Ring nx (a++b)->Ring nx (b++a)
 | [],b,h=>by simpa using h
 |a0::a,[],h=>by simpa using h
 |a0::a,b0::b,h=>by
  refine⟨OI h.1,?_⟩;have h2:=(uE _ _ _).1 h.2;exact(uE _ _ _).2 ⟨h2.2,h2.1⟩
def dP(nx:Nat->Nat)(x y:Nat):Nat->Nat:=λz=>if z=x then nx y else if z=y then nx x else nx z
def jw(nx pv:Nat->Nat)(x y:Nat):Nat->Nat:=λz=>if z=nx x then y else if z=nx y then x else pv z
theorem iZ{nx:Nat->Nat}{x y z:Nat}(h1:z≠x)(h2:z≠y):dP nx x y z=nx z:=by unfold dP;rw[Γ h1,Γ h2]
theorem Ring.mU{nx:Nat->Nat}{l:List Nat}(h:Ring nx l){x y:Nat}(h1:x∉l)(h2:y∉l):Ring (dP nx x y) l:=
 h.far (λw hw=>iZ (λe=>h1 (e▸hw)) (λe=>h2 (e▸hw)))
theorem Ring.join{nx:Nat->Nat}{x y:Nat}{s t:List Nat}(h:Ring nx (x::s))(k:Ring nx (y::t))(d:∀z,z∈x::s->z∉y::t):Ring (dP nx x y) (x::t++y::s):=by
 obtain⟨n1,e1,r1⟩:=je.1 h;obtain⟨n2,e2,r2⟩:=je.1 k;have n1':=Ζ.1 n1;have n2':=Ζ.1 n2;have hxy:y≠x:=λe=>d x σ (by simp[e]);have sx:dP nx x y x=nx y:=by unfold dP;rw[Δ rfl]
 have sy:dP nx x y y=nx x:=by unfold dP;rw[Γ hxy,Δ rfl]
 refine je.2 ⟨?_,?_,?_⟩
 ·have:(x::t++y::s).Perm ((x::s)++(y::t)):=by
   show(x::(t++y::s)).Perm (x::(s++y::t))
   refine List.Perm.cons x ?_;exact(ϡ).trans ((List.Perm.cons y Φ).trans List.perm_middle.symm)
  refine this.nodup_iff.2 (θ.2 ⟨n1,n2,λa ha b hb e=>?_⟩);subst e;exact d a ha hb
 ·show dP nx x y x=(t++y::s).headD x
  rw[sx,e2,yL];rfl
 ·show Cc (dP nx x y) (t++y::s) x
  refine(uE _ _ _).2 ⟨?_,?_,?_⟩
  ·exact r2.far (λw hw=>iZ (λe=>d x σ (by subst e;simp[hw])) (λe=>n2'.1 (e▸hw)))
  ·rw[sy,e1]
  ·exact r1.far (λw hw=>iZ (λe=>n1'.1 (e▸hw)) (λe=>d w (by simp[hw]) (by subst e;simp)))
theorem Ring.cut{nx:Nat->Nat}{x y:Nat}{a b:List Nat}(h:Ring nx (x::a++y::b)):Ring (dP nx x y) (x::b)/\Ring (dP nx x y) (y::a):=by
 have h':Ring nx (x::(a++y::b)):=h;obtain⟨n1,e1,r1⟩:=je.1 h';have r2:=(uE _ _ _).1 r1;obtain⟨r3,r4,r5⟩:Cc nx a y/\nx y=b.headD x/\Cc nx b x:=⟨r2.1,r2.2.1,r2.2.2⟩;have n2:=Ζ.1 n1;have n3:=θ.1 n2.2;have n4:=Ζ.1 n3.2.1;have hxy:y≠x:=λe=>n2.1 (by subst e;simp);have sx:dP nx x y x=nx y:=by unfold dP;rw[Δ rfl]
 have sy:dP nx x y y=nx x:=by unfold dP;rw[Γ hxy,Δ rfl]
 have xb:x∉b:=λhm=>n2.1 (by simp[hm]);have xa:x∉a:=λhm=>n2.1 (by simp[hm]);have ya:y∉a:=λhm=>n3.2.2 y hm y σ rfl
 refine ⟨je.2 ⟨Ζ.2 ⟨xb,n4.2⟩,by rw [sx,r4],r5.far (λw hw=>iZ (λe=>xb (e▸hw)) (λe=>n4.1 (e▸hw)))⟩,
  je.2 ⟨Ζ.2 ⟨ya,n3.1⟩,?_,r3.far (λw hw=>iZ (λe=>xa (e▸hw)) (λe=>ya (e▸hw)))⟩⟩
 rw[sy,e1,yL];rfl
structure Rg(n:Nat)(nx pv:Nat->Nat):Prop where
 nn:∀x,x<n->nx x<n
 pp:∀x,x<n->pv x<n
 pn:∀x,x<n->pv (nx x)=x
 np:∀x,x<n->nx (pv x)=x
section
variable{n:Nat}{nx pv:Nat->Nat}
theorem Rg.inj(h:Rg n nx pv){x y:Nat}(hx:x<n)(hy:y<n)(e:nx x=nx y):x=y:=by
 rw[←h.pn x hx,←h.pn y hy,e]
theorem Rg.swap(h:Rg n nx pv){x y:Nat}(hx:x<n)(hy:y<n):Rg n (dP nx x y) (jw nx pv x y):=by
 refine⟨λz hz=>?_,λz hz=>?_,λz hz=>?_,λz hz=>?_⟩
 ·unfold dP
  split
  ·exact h.nn y hy
  ·split
   ·exact h.nn x hx
   ·exact h.nn z hz
 ·unfold jw
  split
  ·exact hy
  ·split
   ·exact hx
   ·exact h.pp z hz
 ·unfold dP jw
  by_cases e1:z=x
  ·rw[Δ e1]
   by_cases e2:nx y=nx x
   ·rw[Δ e2,e1];exact h.inj hy hx e2
   ·rw[Γ e2,Δ rfl,e1]
  ·rw[Γ e1]
   by_cases e2:z=y
   ·rw[Δ e2,Δ rfl,e2]
   ·rw[Γ e2,Γ (λe=>e1 (h.inj hz hx e)),Γ (λe=>e2 (h.inj hz hy e))];exact h.pn z hz
 ·unfold dP jw
  by_cases e1:z=nx x
  ·rw[Δ e1]
   by_cases e2:y=x
   ·rw[Δ e2,e2,e1]
   ·rw[Γ e2,Δ rfl,e1]
  ·rw[Γ e1]
   by_cases e2:z=nx y
   ·rw[Δ e2,Δ rfl,e2]
   ·rw[Γ e2,Γ (λe=>e1 (by rw[←e,h.np z hz])),Γ (λe=>e2 (by rw[←e,h.np z hz]))];exact h.np z hz
theorem Rg.last(h:Rg n nx pv){x y:Nat}{a:List Nat}(hr:Ring nx (x::a++[y]))(hy:y<n):pv x=y:=by
 have h':Ring nx (x::(a++[y])):=hr;have r2:=(uE _ _ _).1 (je.1 h').2.2;have:nx y=x:=r2.2.1;rw[←this];exact h.pn y hy
theorem Rg.part(h:Rg n nx pv){x:Nat}{l:List Nat}(hr:Ring nx (x::l))(hl:∀z,z∈x::l->z<n):Ring (dP nx x (pv x)) [x]/\Ring (dP nx x (pv x)) l:=by
 have hx:x<n:=hl x σ;rcases List.eq_nil_or_concat l with rfl|⟨a,y,e⟩
 ·have e1:=iM.1 hr;have e2:pv x=x:=by have:=h.pn x hx;rw[e1] at this;exact this
  rw[e2];refine⟨iM.2 ?_,Ring.nil _⟩;unfold dP;rw[Δ rfl];exact e1
 ·have e':l=a++[y]:=by rw[e,List.concat_eq_append]
  subst e';have hy:y<n:=hl y σ;rw[h.last hr hy];have:=Ring.cut (b:=[]) hr;exact⟨this.1,Ring.Vv (a:=[y]) (b:=a) this.2⟩
end
theorem Oq(t:List Nat)(z:Nat):t.headD z=t.getD 0 z:=by cases t<;>rfl
theorem Cc.at{nx:Nat->Nat}:∀{l:List Nat} {z:Nat},Cc nx l z->∀k (hk:k<l.length),nx l[k]=l.getD (k+1) z
 | [],_,_,k,hk=>by simp at hk
 |x::t,z,h,0,hk=>by
  show nx x=(x::t).getD 1 z
  rw[h.1,Oq];simp[φ]
 |x::t,z,h,k+1,hk=>by
  have:=Cc.at h.2 k (by simpa using hk)
  show nx (t[k]'(by simpa using hk))=(x::t).getD (k+1+1) z
  rw[this];simp[φ]
theorem Ring.at{nx:Nat->Nat}{x:Nat}{t:List Nat}(h:Ring nx (x::t))(k:Nat)(hk:k<(x::t).length):nx (x::t)[k]=(x::t).getD (k+1) x:=Cc.at h.2 k hk
theorem jC:∀(n:Nat) (l:List Nat),l.Nodup->(∀x,x∈l->x<n)->l.length<=n
 |0,l,_,h=>by
  cases l with
  |nil=>simp
  |cons x t=>have:=h x σ;omega
 |n+1,l,hd,h=>by
  by_cases hm:n∈l
  ·have h1:=jC n (l.erase n) (hd.erase n) (λx hx=>by
    have h2:=(List.Nodup.mem_erase_iff hd).1 hx;have:=h x h2.2
    omega)
   rw[List.length_erase_of_mem hm] at h1;omega
  ·have:=jC n l hd (λx hx=>by
    have:=h x hx;have:x≠n:=λe=>hm (e▸hx)
    omega)
   omega
def qj(l:List Nat):List Int:=l.map (λx:Nat=>(x:Int))
theorem mP(l:List Nat):(qj l).length=l.length:=by unfold qj;simp
theorem T9(a b:List Nat):qj (a++b)=qj a++qj b:=by unfold qj;simp
end Go.Proofs.YtnpdakpagnpanaaGreat
namespace Go.Proofs.YtnpdakpagnpanaaGreat
open Tryz
open Go Go.RowKit
structure zm(w:World)(br bn bp n:Nat)(nx pv:Nat->Nat):Prop where
 head:aS w br 235 2 (λj=>[Value.slice (some ⟨bn,0,none⟩) n n,.slice (some ⟨bp,0,none⟩) n n].getD j undef)
 nr:aS w bn 3 n (λj=>.int .i64 (nx j:Int))
 pr:aS w bp 3 n (λj=>.int .i64 (pv j:Int))
 ne:br≠bn/\br≠bp/\bn≠bp
 le:n<=65536
 rg:Rg n nx pv
section
variable{w:World}{br bn bp n:Nat}{nx pv:Nat->Nat}
theorem zm.upd{w':World}{F:List Nat}(h:zm w br bn bp n nx pv)(hu:ae F w w')(h1:br∉F)(h2:bn∉F)(h3:bp∉F):zm w' br bn bp n nx pv:=
 ⟨h.head.upd hu h1,h.nr.upd hu h2,h.pr.upd hu h3,h.ne,h.le,h.rg⟩
theorem zm.ag{w':World}(h:zm w br bn bp n nx pv)(hu:ae [] w w'):zm w' br bn bp n nx pv:=h.upd hu σ σ σ
theorem zm.h0(h:zm w br bn bp n nx pv):w.cell? ⟨br,0,none⟩=some (.slice (some ⟨bn,0,none⟩) n n):=h.head.cellAt 0 ω rfl
theorem zm.h1(h:zm w br bn bp n nx pv):w.cell? ⟨br,1,none⟩=some (.slice (some ⟨bp,0,none⟩) n n):=h.head.cellAt 1 ω rfl
theorem zm.lt(h:zm w br bn bp n nx pv):br<w.heap.size/\bn<w.heap.size/\bp<w.heap.size:=⟨h.head.lt,h.nr.lt,h.pr.lt⟩
end
theorem Oz:(prog.info? 3).map (λi=>(i.zero,i.size,i.bytes))=some (some (.int .i64 0),1,8):=by kernel_rfl
theorem Hf(w:World)(n:Nat):aS (w.alloc (.cells (madeCells #[.int .i64 0] n) 3)) w.heap.size 3 n (λj=>(madeCells #[.int .i64 0] n).toList.getD j undef):=by
 refine⟨madeCells #[.int .i64 0] n,?_,by simp[madeCells],λj hj=>?_⟩
 ·show(w.heap.push _)[w.heap.size]?=_;simp
 ·simp[madeCells,φ,hj]
theorem Hw(n:Nat)(w:World)(h:n<=65536) :
  Calls prog 87 #[.int .i64 (n:Int)] w λe w'=>∃br bn bp,e=.returned (.tuple #[.pointer (some ⟨br,0,none⟩),.int .i64 0])/\zm w' br bn bp n id id/\ae [] w w'/\w.heap.size<=br/\w.heap.size<=bn/\w.heap.size<=bp:=by
 have hmk:=run_make_row' (P:=prog) 77 3 (.int .i64 0) 8 underlying77 Oz rfl .i64 .i64 n ω ω
 go_enter func87,ntmps87
 go_wp2
 go_region
 all_goals
  go_wp2
  go_loopw [19] (λi wr=>∃ (bn bp k:Nat) (f g:Nat->Value),k<=n/\i=.int .i64 k/\aS wr (w.heap.size+1+1) 235 2 (λj=>[Value.slice (some ⟨bn,0,none⟩) n n,.slice (some ⟨bp,0,none⟩) n n].getD j undef)/\
   aS wr bn 3 n f/\aS wr bp 3 n g/\(∀j,j<k->f j=.int .i64 (j:Int)/\g j=.int .i64 (j:Int))/\(w.heap.size<=bn/\w.heap.size<=bp/\bn≠bp/\bn<w.heap.size+1+1/\bp<w.heap.size+1+1)/\ae [] w wr) (λi _=>n-(intOf i).toNat)
  case atStart=>
   have r0:=Hf w n;have r1:=Hf (w.alloc (.cells (madeCells #[.int .i64 0] n) 3)) n;rw[Κ] at r1;have rh:=λv1 v2=>eZ ((w.alloc (.cells (madeCells #[.int .i64 0] n) 3)).alloc (.cells (madeCells #[.int .i64 0] n) 3)) [v1,v2] 235;simp only[Κ] at rh
   first
    |exact⟨w.heap.size,w.heap.size+1,0,_,_,ω,rfl,(rh _ _).drew,((r0.alloc _).alloc _).drew,(r1.alloc _).drew,ω,ω,β⟩
    |exact⟨w.heap.size+1,w.heap.size,0,_,_,ω,rfl,(rh _ _).drew,(r1.alloc _).drew,((r0.alloc _).alloc _).drew,ω,ω,β⟩
  case round=>
   obtain⟨bn,bp,k,f,g,hk,rfl,hH,hN,hP,hf,hb,hu⟩:=hrel;rename World=>wr
   by_cases hkn:k<n
   ·have c0:=hH.cellAt 0 ω rfl;have c1:=hH.cellAt 1 ω rfl;have d0:=hN.cell k hkn;have d1:=hP.cell k hkn;have e0:=hN.free k;have e1:=hP.free k;have hkI:(k:Int)<(n:Int):=ω;obtain⟨b1,b2,b3,b4,b5⟩:=hb;have HF:=χ (ψ hf (ψ hH (ψ hN (ψ hP hu))));clear hf hH hN hP hu hmk;go_wp2
    go_region
    all_goals
     go_wp2
     go_roundw
     case rel=>
      obtain⟨hf,hH,hN,hP,hu⟩:=HF.out;refine⟨bn,bp,k+1,_,_,ω,by go_num,(hH.far _ _ ζ).far _ _ ζ,(hN.set _ _).far _ _ ζ,(hP.far _ _ ζ).set _ _,λj hj=>?_,⟨b1,b2,b3,b4,b5⟩,((hu.setCell (Β (by simpa using b1)) _).setCell (Β (by simpa using b2)) _).drew⟩
      by_cases e:j=k
      ·subst e;simp
      ·simp only[Γ e];exact hf j ω
     case measure=>simp[intOf];omega
   ·obtain rfl:k=n:=ω;go_wp2;go_ret2;exact⟨_,bn,bp,rfl,⟨hH,hN.ext (λj hj=>(hf j hj).1),hP.ext (λj hj=>(hf j hj).2),ω,h,⟨λx hx=>hx,λx hx=>hx,λ_ _=>rfl,λ_ _=>rfl⟩⟩,hu,ω,ω,ω⟩
theorem UD{w:World}{br bn bp n:Nat}{nx pv:Nat->Nat}(h:zm w br bn bp n nx pv)(x:Int)(b:Bool)(hb:b=decide (0<=x/\x<n)) :
  Calls prog 224 #[.pointer (some ⟨br,0,none⟩),.int .i64 x] w λe w'=>e=.returned (.bool b)/\w'=w:=by
 have c0:=h.h0;clear h;rw[hb]
 by_cases h0:0<=x
 ·by_cases h1:x<n
  ·go_enter func224,ntmps224
   go_wp2;go_ret;exact⟨cZ (by simp[h0,h1]),rfl⟩
  ·go_enter func224,ntmps224
   go_wp2;go_ret;exact⟨cZ (by simp[h0,h1]),rfl⟩
 ·go_enter func224,ntmps224
  go_wp2;go_ret;exact⟨cZ ζ,rfl⟩
section
variable{w:World}{br bn bp n:Nat}{nx pv:Nat->Nat}
theorem uh(h:zm w br bn bp n nx pv){x:Nat}(hx:x<n):Calls prog 224 #[.pointer (some ⟨br,0,none⟩),.int .i64 (x:Int)] w λe w'=>e=.returned (.bool true)/\w'=w:=
 UD h x true ζ
theorem Dv(h:zm w br bn bp n nx pv){x:Nat}(hx:x<n):Calls prog 226 #[.pointer (some ⟨br,0,none⟩),.int .i64 (x:Int)] w λe w'=>e=.returned (.tuple #[.int .i64 (nx x:Int),.bool true])/\w'=w:=by
 have c0:=h.h0;have c1:=h.nr.cell x hx;have kh:=uh h hx;have CE:(x:Int)<(n:Int):=ω;clear h
 go_enter func226,ntmps226
 go_wp2_with ((go_at_call 224;(with_reducible refine aT (kh) ?_)))
 go_ret2;exact⟨rfl,rfl⟩
theorem Ah(nx:Nat->Nat)(x y j:Nat):(if j=y then Value.int .i64 (nx x:Int) else if j=x then Value.int .i64 (nx y:Int) else Value.int .i64 (nx j:Int))=.int .i64 (dP nx x y j:Int):=by
 unfold dP
 by_cases e1:j=y
 ·rw[Δ e1]
  by_cases e2:j=x
  ·rw[Δ e2,←e1,e2]
  ·rw[Γ e2,Δ e1]
 ·rw[Γ e1]
  by_cases e2:j=x
  ·rw[Δ e2,Δ e2]
  ·rw[Γ e2,Γ e2,Γ e1]
theorem Ay(nx pv:Nat->Nat)(x y j:Nat):(if j=nx x then Value.int .i64 (y:Int) else if j=nx y then Value.int .i64 (x:Int) else Value.int .i64 (pv j:Int))=.int .i64 (jw nx pv x y j:Int):=by
 unfold jw
 split
 ·rfl
 ·split<;>rfl
theorem jY(h:zm w br bn bp n nx pv){x y:Nat}(hx:x<n)(hy:y<n):Calls prog 223 #[.pointer (some ⟨br,0,none⟩),.int .i64 (x:Int),.int .i64 (y:Int)] w λe w'=>
  e=.returned (.bool true)/\zm w' br bn bp n (dP nx x y) (jw nx pv x y)/\ae [bn,bp] w w':=by
 have c0:=h.h0;have c1:=h.h1;have d0:=h.nr.cell x hx;have d1:=h.nr.cell y hy;have f0:=h.nr.free x;have f1:=h.nr.free y;have ha:=h.rg.nn x hx;have hb:=h.rg.nn y hy;have e0:=h.pr.cell (nx x) ha;have e1:=h.pr.cell (nx y) hb;have g0:=h.pr.free (nx x);have g1:=h.pr.free (nx y);have kx:=uh h hx;have ky:=uh h hy;obtain⟨n1,n2,n3⟩:=h.ne;obtain⟨l1,l2,l3⟩:=h.lt;have i1:(x:Int)<(n:Int):=ω;have i2:(y:Int)<(n:Int):=ω;have i3:(nx x:Int)<(n:Int):=ω;have i4:(nx y:Int)<(n:Int):=ω;have H:=χ h;clear h;generalize ea:nx x=a at *;generalize eb:nx y=b at *
 by_cases hxy:x=y
 ·subst hxy;rw[ea] at eb;subst eb
  go_enter func223,ntmps223
  go_wp2_with (first
   |(go_at_call 224;(with_reducible refine aT (kx) ?_))
   | fail)
  go_region
  go_wp2
  go_region
  go_wp2
  go_region
  go_wp2;go_ret;have h:=H.out;refine⟨rfl,⟨((((h.head.far _ _ n1).far _ _ n1).far _ _ n2).far _ _ n2),((((h.nr.set _ _).set _ _).far _ _ n3).far _ _ n3).ext (λj hj=>?_),((((h.pr.far _ _ (Ne.symm n3)).far _ _ (Ne.symm n3)).set _ _).set _ _).ext (λj hj=>?_),h.ne,h.le,h.rg.swap hx hy⟩,ν⟩
  ·have:=Ah nx x x j;rw[ea] at this;exact this
  ·have:=Ay nx pv x x j;rw[ea] at this;exact this
 ·have hyx:y≠x:=λe=>hxy e.symm;have hab:a≠b:=λe=>hxy (H.out.rg.inj hx hy (by rw[ea,eb,e]))
  go_enter func223,ntmps223
  go_wp2_with (first
   |(go_at_call 224;(with_reducible refine aT (kx) ?_))
   |(go_at_call 224;(with_reducible refine aT (ky) ?_))
   | fail)
  go_region
  go_wp2
  go_region
  go_wp2
  go_region
  go_wp2;go_ret;have h:=H.out;refine⟨rfl,⟨((((h.head.far _ _ n1).far _ _ n1).far _ _ n2).far _ _ n2),((((h.nr.set _ _).set _ _).far _ _ n3).far _ _ n3).ext (λj hj=>?_),((((h.pr.far _ _ (Ne.symm n3)).far _ _ (Ne.symm n3)).set _ _).set _ _).ext (λj hj=>?_),h.ne,h.le,h.rg.swap hx hy⟩,ν⟩
  ·have:=Ah nx x y j;rw[ea,eb] at this;exact this
  ·have:=Ay nx pv x y j;rw[ea,eb] at this;exact this
theorem yR(h:zm w br bn bp n nx pv){x:Nat}(hx:x<n):Calls prog 217 #[.pointer (some ⟨br,0,none⟩),.int .i64 (x:Int)] w λe w'=>
  e=.returned (.bool true)/\zm w' br bn bp n (dP nx x (pv x)) (jw nx pv x (pv x))/\ae [bn,bp] w w':=by
 have c1:=h.h1;have d0:=h.pr.cell x hx;have kx:=uh h hx;have ks:=jY h hx (h.rg.pp x hx);have CE:(x:Int)<(n:Int):=ω;clear h
 go_enter func217,ntmps217
 go_wp2_with (first
  |(go_at_call 224;(with_reducible refine aT (kx) ?_))
  |((go_at_call 223;(with_reducible refine(ks).mono ?_));rintro e w1 ⟨rfl,hR,hu⟩)
  | fail)
 go_ret;exact⟨rfl,hR,hu⟩
theorem Ij(h:zm w br bn bp n nx pv){x:Nat}{t:List Nat}(hr:Ring nx (x::t))(hl:∀z,z∈x::t->z<n):Calls prog 218 #[.pointer (some ⟨br,0,none⟩),.int .i64 (x:Int)] w λe w'=>
  ∃v,e=.returned v/\w'.ownsRow w.heap.size 3 1 v (x::t).length (bz (qj (x::t)))/\ae [] w w':=by
 have hx:x<n:=hl x σ;have hlen:(x::t).length<=n:=jC n (x::t) hr.nd hl;have hle:=h.le;obtain⟨l1,l2,l3⟩:=h.lt;have c0:=h.h0;have d0:=h.nr.cell x hx;have kx:=uh h hx;have CE:(x:Int)<(n:Int):=ω;have hcell:∀(W:World) (y:Nat),ae [] w W->y<n->W.cell? ⟨bn,y,none⟩=some (.int .i64 (nx y:Int)):=λW y hW hy=>hW.was (h.nr.cell y hy);have hc0:∀(W:World),ae [] w W->W.cell? ⟨br,0,none⟩=some (.slice (some ⟨bn,0,none⟩) n n):=λW hW=>hW.was h.h0;have HR:=χ (ψ hr (ψ hl hcell))
 have ho0:(w.alloc (.cells #[.int .i64 (x:Int)] 3)).ownsRow w.heap.size 3 1 (.slice (some ⟨w.heap.size,0,none⟩) 1 1) 1 [.int .i64 (x:Int)]:=rZ w [.int .i64 (x:Int)] 3 w.heap.size 1 1 rfl (Θ _) μ;have HO:=χ ho0;clear h hr hl hcell ho0
 go_enter func218,ntmps218
 go_wp2_with (first
  |(go_at_call 224;(with_reducible refine aT (kx) ?_))
  | fail)
 go_loopw [5,6] (λs5 s6 wr=>∃k:Nat,k<(x::t).length/\s6=.int .i64 ((nx ((x::t).getD k 0):Nat):Int)/\wr.ownsRow w.heap.size 3 1 s5 (k+1) (bz (qj ((x::t).take (k+1))))/\ae [] w wr) (λs5 _ _=>match s5 with | .slice _ l _=>n-l|_=>0)
 case atStart=>exact⟨0,σ,rfl,HO.out,β⟩
 case round=>
  obtain⟨k,hk,rfl,ho,hu⟩:=hrel;rename World=>wr;obtain⟨a,c,rfl,hc⟩:=aV ho;have hat:=HR.out.1.at k hk;have hgk:(x::t).getD k 0=(x::t)[k]:=by rw[φ,ε hk];rfl
  rw[hgk,hat]
  by_cases hk1:k+1<(x::t).length
  ·obtain⟨y,hy⟩:∃y,(x::t)[k+1]?=some y:=⟨_,ε hk1⟩;have hg1:(x::t).getD (k+1) x=y:=by rw[φ,hy];rfl
   have hne:y≠x:=λe=>by
    have hp:=List.pairwise_iff_getElem.1 (List.nodup_iff_pairwise_ne.1 HR.out.1.nd) 0 (k+1) σ hk1 ω;rw[ε hk1] at hy;have h2:(x::t)[k+1]=y:=by injection hy
    exact hp (by rw[h2,e];rfl)
   have hyn:y<n:=HR.out.2.1 _ (Η hy);have e2:(x::t).take (k+1+1)=(x::t).take (k+1)++[y]:=by rw[ϐ,hy];rfl
   have e3:(x::t).getD (k+1) 0=y:=by rw[φ,hy];rfl
   rw[hg1];have HE:=χ (ψ hk1 (ψ e2 (ψ e3 hu)));have hsz:=hu.size;have hkn:k+1<n:=ω;clear hat hgk hg1 e2 e3 hk1 hk hy hlen;have hyI:(y:Int)<(n:Int):=ω;have hyx:((y:Int) == (x:Int))=false:=ζ;have d1:=λW hW=>HR.out.2.2 W y hW hyn;have HU:=χ hu
   go_wp2_with (first
    |((at_builtin;refine bI rfl _ _ 77 rfl w.heap.size 3 (.int .i64 0) 1 8 underlying77 gI rfl δ _ _ _ rfl (ho) [.int .i64 (y:Int)] rfl (by simp[Value.oneCell']) (by first|rfl|(rw[Κ];rfl)) μ ω (ω) ?_;intro v2 w2 ho2 hu2 nC);(have hw2:ae [] w w2:=HU.out.own ho (Θ _) hu2))
    | fail)
   obtain⟨hk1,e2,e3,_⟩:=HE.out;obtain⟨a2,c2,rfl,_⟩:=aV ho2;refine⟨⟨k+1,hk1,by rw[e3],?_,hw2⟩,ζ⟩;rw[e2,T9,dO];exact ho2
  ·have hkl:k+1=(x::t).length:=ω;have hg1:(x::t).getD (k+1) x=x:=by rw[φ,List.getElem?_eq_none ω];rfl
   rw[hg1];have e2:(x::t).take (k+1)=x::t:=List.take_of_length_le ω;rw[e2] at ho;have HO2:=χ (ψ ho (ψ hu hkl));clear hat hgk hg1 e2 hk1 hk ho hkl hlen;go_wp2;go_ret;obtain⟨ho,hu,hkl⟩:=HO2.out;exact⟨_,rfl,hkl▸ho,hu⟩
end
end Go.Proofs.YtnpdakpagnpanaaGreat
namespace Go.Proofs.YtnpdakpagnpanaaGreat
open Tryz
structure FG where
 nx:Nat->Nat
 pv:Nat->Nat
 up:Nat->Int
 mr:Nat->Bool
 K:Nat->List Nat
 R:Nat->List Nat
def FG.none:FG:=⟨id,id,λ_=>-1,λ_=>false,λ_=>[],λ_=>[]⟩
def kY(l:List Nat):Int:=match l with|[]=>-1|x::_=>(x:Int)
def ah{α:Type}(f:Nat->α)(x:Nat)(v:α):Nat->α:=λz=>if z=x then v else f z
def Nj(G:FG)(x y:Nat):FG:={ G with nx:=dP G.nx x y,pv:=jw G.nx G.pv x y }
def prt(G:FG)(x:Nat):FG:=Nj G x (G.pv x)
def wR(lt:Bool)(R l:List Nat):List Nat:=match R with
 | []=>l
 |t::s=>match l with
  | []=>t::s
  |x::r=>if lt then x::s++t::r else t::r++x::s
def gH(lt:Nat->Nat->Bool)(h:Nat)(l:List Nat)(G:FG):FG:=match G.R h,l with
 |t::s,x::r=>{ Nj G t x with R:=ah G.R h (wR (lt x t) (t::s) (x::r)) }
 |_,l=>{ G with R:=ah G.R h l }
def qw(h:Nat)(G:FG):Nat:=if G.R h=[] then 0 else 1
def eO(G:FG)(y x:Nat):FG:=
 let G1:=match G.K x with|[]=>G|k::_=>Nj G k y
 { G1 with up:=ah G.up y x,mr:=ah G.mr y false,K:=ah G.K x (match G.K x with|[]=>[y]|k::t=>y::(t++[k])) }
def bM(G:FG)(x:Nat):FG:=match G.K x with
 | []=>G
 |k::t=>{ Nj G x k with up:=ah (λz=>if z∈k::t then -1 else G.up z) x (-1),mr:=ah (λz=>if z∈k::t then false else G.mr z) x false,K:=ah G.K x [] }
end Go.Proofs.YtnpdakpagnpanaaGreat
namespace Go.Proofs.YtnpdakpagnpanaaGreat
open Tryz
open Go Go.RowKit
def Ck(u k d:Nat->Int)(m:Nat->Bool)(j:Nat):Value:=if j % 4=0 then .int .i64 (u (j / 4)) else if j % 4=1 then .int .i64 (k (j / 4)) else if j % 4=2 then .int .i64 (d (j / 4)) else .bool (m (j / 4))
theorem zD(u k d:Nat->Int)(m:Nat->Bool)(x:Nat):Ck u k d m (x*4)=.int .i64 (u x):=by unfold Ck;rw[Δ ω,show x*4 / 4=x by omega]
theorem zA(u k d:Nat->Int)(m:Nat->Bool)(x:Nat):Ck u k d m (x*4+1)=.int .i64 (k x):=by unfold Ck;rw[Γ ω,Δ ω,show(x*4+1) / 4=x by omega]
theorem zI(u k d:Nat->Int)(m:Nat->Bool)(x:Nat):Ck u k d m (x*4+2)=.int .i64 (d x):=by unfold Ck;rw[Γ ω,Γ ω,Δ ω,show(x*4+2) / 4=x by omega]
theorem zC(u k d:Nat->Int)(m:Nat->Bool)(x:Nat):Ck u k d m (x*4+3)=.bool (m x):=by unfold Ck;rw[Γ ω,Γ ω,Γ ω,show(x*4+3) / 4=x by omega]
theorem four(j:Nat):∃a,j=a*4\/j=a*4+1\/j=a*4+2\/j=a*4+3:=⟨j / 4,ω⟩
section
variable{w:World}{b m:Nat}{e:TypeId}{u k d:Nat->Int}{mr:Nat->Bool}
theorem sZ(h:aS w b e m (Ck u k d mr))(x:Nat)(v:Int):aS (w.setCell ⟨b,x*4,none⟩ (.int .i64 v)) b e m (Ck (ah u x v) k d mr):=by
 refine(h.set _ _).ext (λj _=>?_);obtain⟨a,rfl|rfl|rfl|rfl⟩:=four j
 ·rw[zD,zD];unfold ah
  by_cases e:a=x
  ·rw[e,Δ rfl,Δ rfl]
  ·rw[Γ ω,Γ e]
 ·rw[zA,zA,Γ ω]
 ·rw[zI,zI,Γ ω]
 ·rw[zC,zC,Γ ω]
theorem qG(h:aS w b e m (Ck u k d mr))(x:Nat)(v:Int):aS (w.setCell ⟨b,x*4+1,none⟩ (.int .i64 v)) b e m (Ck u (ah k x v) d mr):=by
 refine(h.set _ _).ext (λj _=>?_);obtain⟨a,rfl|rfl|rfl|rfl⟩:=four j
 ·rw[zD,zD,Γ ω]
 ·rw[zA,zA];unfold ah
  by_cases e:a=x
  ·rw[e,Δ rfl,Δ rfl]
  ·rw[Γ ω,Γ e]
 ·rw[zI,zI,Γ ω]
 ·rw[zC,zC,Γ ω]
theorem tO(h:aS w b e m (Ck u k d mr))(x:Nat)(v:Int):aS (w.setCell ⟨b,x*4+2,none⟩ (.int .i64 v)) b e m (Ck u k (ah d x v) mr):=by
 refine(h.set _ _).ext (λj _=>?_);obtain⟨a,rfl|rfl|rfl|rfl⟩:=four j
 ·rw[zD,zD,Γ ω]
 ·rw[zA,zA,Γ ω]
 ·rw[zI,zI];unfold ah
  by_cases e:a=x
  ·rw[e,Δ rfl,Δ rfl]
  ·rw[Γ ω,Γ e]
 ·rw[zC,zC,Γ ω]
theorem ql(h:aS w b e m (Ck u k d mr))(x:Nat)(v:Bool):aS (w.setCell ⟨b,x*4+3,none⟩ (.bool v)) b e m (Ck u k d (ah mr x v)):=by
 refine(h.set _ _).ext (λj _=>?_);obtain⟨a,rfl|rfl|rfl|rfl⟩:=four j
 ·rw[zD,zD,Γ ω]
 ·rw[zA,zA,Γ ω]
 ·rw[zI,zI,Γ ω]
 ·rw[zC,zC];unfold ah
  by_cases e:a=x
  ·rw[e,Δ rfl,Δ rfl]
  ·rw[Γ ω,Γ e]
end
theorem Ez(K:Nat->List Nat)(x:Nat)(l:List Nat):(λz=>kY (ah K x l z))=ah (λz=>kY (K z)) x (kY l):=by
 funext z;unfold ah;split<;>rfl
theorem jP(K:Nat->List Nat)(x:Nat)(l:List Nat):(λz=>((ah K x l z).length:Int))=ah (λz=>((K z).length:Int)) x (l.length:Int):=by
 funext z;unfold ah;split<;>rfl
def nU(G:FG):Nat->Value:=Ck G.up (λx=>kY (G.K x)) (λx=>((G.K x).length:Int)) G.mr
theorem XB(G:FG)(x:Nat):nU G (x*4)=.int .i64 (G.up x):=zD _ _ _ _ x
theorem VO(G:FG)(x:Nat):nU G (x*4+1)=.int .i64 (kY (G.K x)):=zA _ _ _ _ x
theorem Xg(G:FG)(x:Nat):nU G (x*4+2)=.int .i64 ((G.K x).length:Int):=zI _ _ _ _ x
theorem WO(G:FG)(x:Nat):nU G (x*4+3)=.bool (G.mr x):=zC _ _ _ _ x
def ji(R:Nat->List Nat)(m:Nat):List Int:=(List.range m).map (λh=>kY (R h))
theorem vz(R:Nat->List Nat)(m:Nat):(ji R m).length=m:=by unfold ji;simp
theorem Pj(R:Nat->List Nat){m h:Nat}(hh:h<m):(ji R m).getD h 0=kY (R h):=by unfold ji;simp[φ,hh]
theorem OQ(R:Nat->List Nat)(m h:Nat)(l:List Nat):(ji R m).set h (kY l)=ji (ah R h l) m:=by
 unfold ji ah;apply List.ext_getElem σ;intro i h1 h2;simp only[List.getElem_set,List.getElem_map,List.getElem_range]
 by_cases e:h=i
 ·subst e;rw[Δ rfl,Δ rfl]
 ·rw[Γ e,Γ (λe2=>e e2.symm)]
structure FB where
 n0:Nat
 c:Nat
 br:Nat
 bn:Nat
 bp:Nat
 bl:Nat
structure fC(w:World)(B:FB)(F:List Nat)(gt ct:Nat)(A:NS)(st:Nat)(G:FG):Prop where
 head:aS w B.n0 196 4 (λj=>[Value.pointer (some ⟨B.c,0,none⟩),.pointer (some ⟨B.br,0,none⟩),.slice (some ⟨B.bl,0,none⟩) A.cs.length A.cs.length,.slice (some ⟨gt,0,none⟩) A.hs.length ct].getD j undef)
 cells:aF w B.c F A st
 rings:zm w B.br B.bn B.bp A.cs.length G.nx G.pv
 pl:aS w B.bl 198 (A.cs.length*4) (nU G)
 ai:IZ w gt ct (ji G.R A.hs.length)
 d1:B.n0∉F/\B.br∉F/\B.bn∉F/\B.bp∉F/\B.bl∉F/\gt∉F
 d2:B.n0≠B.br/\B.n0≠B.bn/\B.n0≠B.bp/\B.n0≠B.bl/\B.n0≠gt
 d3:B.bl≠B.br/\B.bl≠B.bn/\B.bl≠B.bp/\B.bl≠gt/\gt≠B.br/\gt≠B.bn/\gt≠B.bp
def FB.blk(B:FB)(F:List Nat)(gt:Nat):List Nat:=B.n0::B.br::B.bn::B.bp::B.bl::gt::F
section
variable{w:World}{B:FB}{F:List Nat}{gt ct:Nat}{A:NS}{st:Nat}{G:FG}
theorem fC.lt(h:fC w B F gt ct A st G):∀x,x∈B.blk F gt->x<w.heap.size:=by
 intro x hx;have h1:=h.head.lt;have h2:=h.rings.lt;have h3:=h.pl.lt;have h4:=h.ai.lt;simp only[FB.blk,ρ] at hx;rcases hx with rfl|rfl|rfl|rfl|rfl|rfl|hx
 ·exact h1
 ·exact h2.1
 ·exact h2.2.1
 ·exact h2.2.2
 ·exact h3
 ·exact h4
 ·exact h.cells.lt x hx
theorem fC.h0(h:fC w B F gt ct A st G):w.cell? ⟨B.n0,0,none⟩=some (.pointer (some ⟨B.c,0,none⟩)):=h.head.cellAt 0 ω rfl
theorem fC.h1(h:fC w B F gt ct A st G):w.cell? ⟨B.n0,1,none⟩=some (.pointer (some ⟨B.br,0,none⟩)):=h.head.cellAt 1 ω rfl
theorem fC.h2(h:fC w B F gt ct A st G):w.cell? ⟨B.n0,2,none⟩=some (.slice (some ⟨B.bl,0,none⟩) A.cs.length A.cs.length):=h.head.cellAt 2 ω rfl
theorem fC.h3(h:fC w B F gt ct A st G):w.cell? ⟨B.n0,3,none⟩=some (.slice (some ⟨gt,0,none⟩) A.hs.length ct):=h.head.cellAt 3 ω rfl
theorem fC.p0(h:fC w B F gt ct A st G){x:Nat}(hx:x<A.cs.length):w.cell? ⟨B.bl,x*4,none⟩=some (.int .i64 (G.up x)):=h.pl.cellAt _ ω (XB G x)
theorem fC.p1(h:fC w B F gt ct A st G){x:Nat}(hx:x<A.cs.length):w.cell? ⟨B.bl,x*4+1,none⟩=some (.int .i64 (kY (G.K x))):=h.pl.cellAt _ ω (VO G x)
theorem fC.p2(h:fC w B F gt ct A st G){x:Nat}(hx:x<A.cs.length):w.cell? ⟨B.bl,x*4+2,none⟩=some (.int .i64 ((G.K x).length:Int)):=h.pl.cellAt _ ω (Xg G x)
theorem fC.p3(h:fC w B F gt ct A st G){x:Nat}(hx:x<A.cs.length):w.cell? ⟨B.bl,x*4+3,none⟩=some (.bool (G.mr x)):=h.pl.cellAt _ ω (WO G x)
theorem fC.top(h:fC w B F gt ct A st G){q:Nat}(hq:q<A.hs.length):w.cell? ⟨gt,q,none⟩=some (.int .i64 (kY (G.R q))):=by
 rw[h.ai.cell q (by rw[vz];exact hq),Pj _ hq]
theorem fC.cap(h:fC w B F gt ct A st G):A.hs.length<=ct/\ct<=9223372036854775807:=by have:=h.ai.cap;rwa[vz] at this
theorem fC.cn(h:fC w B F gt ct A st G):B.n0≠B.c/\B.br≠B.c/\B.bn≠B.c/\B.bp≠B.c/\B.bl≠B.c/\gt≠B.c:=by
 have hm:=h.cells.mem;exact⟨λe=>h.d1.1 (e▸hm),λe=>h.d1.2.1 (e▸hm),λe=>h.d1.2.2.1 (e▸hm),λe=>h.d1.2.2.2.1 (e▸hm),λe=>h.d1.2.2.2.2.1 (e▸hm),λe=>h.d1.2.2.2.2.2 (e▸hm)⟩
theorem fC.upd{w':World}{S:List Nat}(h:fC w B F gt ct A st G)(hu:ae S w w')(hS:∀x,x∈S->x∉B.blk F gt):fC w' B F gt ct A st G:=by
 have k:∀x,x∈B.blk F gt->x∉S:=λx hx hs=>hS x hs hx;exact⟨h.head.upd hu (k _ (by simp[FB.blk])),h.cells.upd hu (λx hx hm=>hS x hx (by simp[FB.blk,hm])),h.rings.upd hu (k _ (by simp[FB.blk])) (k _ (by simp[FB.blk])) (k _ (by simp[FB.blk])),h.pl.upd hu (k _ (by simp[FB.blk])),h.ai.upd hu (k _ (by simp[FB.blk])),h.d1,h.d2,h.d3⟩
theorem fC.ag{w':World}(h:fC w B F gt ct A st G)(hu:ae [] w w'):fC w' B F gt ct A st G:=h.upd hu σ
theorem fC.cB{w':World}{F':List Nat}{A':NS}{st':Nat}(h:fC w B F gt ct A st G)(hu:ae F w w')(hC:aF w' B.c F' A' st')(hF:∀x,x∈F'->x∈F\/w.heap.size<=x)(e1:A'.cs.length=A.cs.length)(e2:A'.hs.length=A.hs.length):fC w' B F' gt ct A' st' G:=by
 have f:=h.d1;have g:=h.lt;have hf:∀x,x<w.heap.size->x∉F->x∉F':=λx hx hn hm=>by rcases hF x hm with h'|h';exact hn h';omega
 have l0:=g B.n0 (by simp[FB.blk]);have l1:=g B.br (by simp[FB.blk]);have l2:=g B.bn (by simp[FB.blk]);have l3:=g B.bp (by simp[FB.blk]);have l4:=g B.bl (by simp[FB.blk]);have l5:=g gt (by simp[FB.blk]);exact⟨by rw[e1,e2];exact h.head.upd hu f.1,hC,by rw[e1];exact h.rings.upd hu f.2.1 f.2.2.1 f.2.2.2.1,by rw[e1];exact h.pl.upd hu f.2.2.2.2.1,by rw[e2];exact h.ai.upd hu f.2.2.2.2.2,⟨hf _ l0 f.1,hf _ l1 f.2.1,hf _ l2 f.2.2.1,hf _ l3 f.2.2.2.1,hf _ l4 f.2.2.2.2.1,hf _ l5 f.2.2.2.2.2⟩,h.d2,h.d3⟩
theorem fC.setSt{w':World}{st':Nat}(h:fC w B F gt ct A st G)(hu:ae [B.c] w w')(hC:aF w' B.c F A st'):fC w' B F gt ct A st' G:=
 h.cB (hu.mono (λx hx=>by simp at hx;rw[hx];exact h.cells.mem)) hC (λx hx=>Α hx) rfl rfl
theorem fC.cO{w':World}{nx pv:Nat->Nat}(h:fC w B F gt ct A st G)(hu:ae [B.bn,B.bp] w w')(hR:zm w' B.br B.bn B.bp A.cs.length nx pv):fC w' B F gt ct A st { G with nx:=nx,pv:=pv }:=by
 obtain⟨f1,f2,f3,f4,f5,f6⟩:=h.d1;obtain⟨e1,e2,e3,e4,e5⟩:=h.d2;obtain⟨g1,g2,g3,g4,g5,g6,g7⟩:=h.d3;have m:∀x,x≠B.bn->x≠B.bp->x∉[B.bn,B.bp]:=λx h1 h2=>by simp[h1,h2]
 exact⟨h.head.upd hu (m _ e2 e3),h.cells.upd hu (λx hx hm=>by simp at hx;rcases hx with rfl|rfl;exact f3 hm;exact f4 hm),hR,h.pl.upd hu (m _ g2 g3),h.ai.upd hu (m _ g6 g7),h.d1,h.d2,h.d3⟩
theorem fC.Ld{w':World}{up:Nat->Int}{mr:Nat->Bool}{K:Nat->List Nat}(h:fC w B F gt ct A st G)(hu:ae [B.bl] w w')(hP:aS w' B.bl 198 (A.cs.length*4) (nU { G with up:=up,mr:=mr,K:=K })):fC w' B F gt ct A st { G with up:=up,mr:=mr,K:=K }:=by
 obtain⟨f1,f2,f3,f4,f5,f6⟩:=h.d1;obtain⟨e1,e2,e3,e4,e5⟩:=h.d2;obtain⟨g1,g2,g3,g4,g5,g6,g7⟩:=h.d3;have m:∀x,x≠B.bl->x∉[B.bl]:=λx h1=>by simp[h1]
 exact⟨h.head.upd hu (m _ e4),h.cells.upd hu (λx hx hm=>by simp at hx;subst hx;exact f5 hm),h.rings.upd hu (m _ (Ne.symm g1)) (m _ (Ne.symm g2)) (m _ (Ne.symm g3)),hP,h.ai.upd hu (m _ (Ne.symm g4)),h.d1,h.d2,h.d3⟩
theorem fC.iC(h:fC w B F gt ct A st G)(q:Nat)(l:List Nat):fC (w.setCell ⟨gt,q,none⟩ (.int .i64 (kY l))) B F gt ct A st { G with R:=ah G.R q l }:=by
 obtain⟨f1,f2,f3,f4,f5,f6⟩:=h.d1;obtain⟨e1,e2,e3,e4,e5⟩:=h.d2;obtain⟨g1,g2,g3,g4,g5,g6,g7⟩:=h.d3;have hu:ae [gt] w (w.setCell ⟨gt,q,none⟩ (.int .i64 (kY l))):=(ae.refl _ _).setCell (Α σ) _;have m:∀x,x≠gt->x∉[gt]:=λx h1=>by simp[h1]
 refine⟨h.head.upd hu (m _ e5),h.cells.upd hu (λx hx hm=>by simp at hx;subst hx;exact f6 hm),h.rings.upd hu (m _ (Ne.symm g5)) (m _ (Ne.symm g6)) (m _ (Ne.symm g7)),h.pl.upd hu (m _ g4),?_,h.d1,h.d2,h.d3⟩;have:=h.ai.set q (kY l);rwa[OQ] at this
theorem fC.drewN(h:fC w B F gt ct A st G)(k:Nat):fC (w.drewN k) B F gt ct A st G:=h.ag ((ae.refl [] w).drewN k)
end
theorem Bj(w:World):Calls prog 88 #[] w λe w'=>e=.returned (.agg #[.int .i64 (-1),.int .i64 (-1),.int .i64 0,.bool false])/\ae [] w w':=by
 go_enter func88,ntmps88
 go_wp2;exact bodyPost_ret (v:=.agg #[.int .i64 (-1),.int .i64 (-1),.int .i64 0,.bool false]) (by simp[results,results88,go_sem]) rfl ⟨rfl,(ae.refl _ _).alloc _⟩
section
variable{w:World}{B:FB}{F:List Nat}{gt ct:Nat}{A:NS}{st:Nat}{G:FG}
theorem La(R:Nat->List Nat)(m h:Nat)(l:List Nat)(e:kY l=kY (R h)):ji (ah R h l) m=ji R m:=by
 unfold ji ah;refine List.map_congr_left (λi _=>?_)
 by_cases hi:i=h
 ·rw[Δ hi,e,hi]
 ·rw[Γ hi]
theorem fC.MS(h:fC w B F gt ct A st G)(q:Nat)(l:List Nat)(e:kY l=kY (G.R q)):fC w B F gt ct A st { G with R:=ah G.R q l }:=
 ⟨h.head,h.cells,h.rings,h.pl,by rw[La G.R _ q l e];exact h.ai,h.d1,h.d2,h.d3⟩
theorem yE(M:fC w B F gt ct A st G){q x:Nat}(r:List Nat)(hq:q<A.hs.length)(hx:bY A (x:Int)=true)(ht:∀t s,G.R q=t::s->bY A (t:Int)=true) :
  Calls prog 220 #[.pointer (some ⟨B.n0,0,none⟩),.int .i64 (q:Int),.int .i64 (x:Int)] w λe w'=>e=.returned (.tuple #[])/\
   fC w' B F gt ct A (cK st (qw q G)) (gH (λa b=>decide (dB A a b)) q (x::r) G)/\ae [B.c,B.bn,B.bp,gt] w w':=by
 have hst:=M.cells.nH;have h3:=M.h3;have ht0:=M.top hq;have hf0:=M.ai.free q;have hqI:(q:Int)<(A.hs.length:Int):=ω;cases hR:G.R q with
 |nil=>
  rw[hR] at ht0;have eq:qw q G=0:=by unfold qw;rw[Δ hR]
  have eg:gH (λa b=>decide (dB A a b)) q (x::r) G={ G with R:=ah G.R q (x::r) }:=by unfold gH;rw[hR]
  rw[eq,eg,fF hst];have HM:=χ (M.iC q (x::r));clear M hR eq eg hx ht;unfold kY at ht0;generalize UE:A.hs.length=hl at *
  go_enter func220,ntmps220
  go_wp2;refine bodyPost_ret (v:=.tuple #[]) (by simp[results,results220,go_sem]) rfl ?_;exact⟨rfl,HM.out,(ae.refl _ _).setCell (Α σ) _⟩
 |cons t s=>
  have htt:=ht t s hR;obtain⟨hx1,hx2⟩:=(aj _ _).1 hx;obtain⟨ht1,ht2⟩:=(aj _ _).1 htt;rw[hR] at ht0;have eq:qw q G=1:=by unfold qw;rw[Γ (by rw[hR];simp)]
  have eg:gH (λa b=>decide (dB A a b)) q (x::r) G={ Nj G t x with R:=ah G.R q (wR (decide (dB A x t)) (t::s) (x::r)) }:=by unfold gH;rw[hR]
  rw[eq,eg];have ks:=λW (hW:ae [] w W)=>jY (M.rings.ag hW) ht1 hx1;obtain⟨g1,g2,g3,g4,g5,g6,g7⟩:=M.d3;obtain⟨e1,e2,e3,e4,e5⟩:=M.d2;have m:∀x,x≠B.bn->x≠B.bp->x∉[B.bn,B.bp]:=λx h1 h2=>by simp[h1,h2]
  have r1:∀W,ae [B.bn,B.bp] w W->W.cell? ⟨B.n0,1,none⟩=some (.pointer (some ⟨B.br,0,none⟩)):=λW hW=>hW.kept M.h1 (m _ e2 e3);have r3:∀W,ae [B.bn,B.bp] w W->W.cell? ⟨B.n0,3,none⟩=some (.slice (some ⟨gt,0,none⟩) A.hs.length ct):=λW hW=>hW.kept M.h3 (m _ e2 e3);have rt:∀W,ae [B.bn,B.bp] w W->W.cell? ⟨gt,q,none⟩=some (.int .i64 (t:Int)):=λW hW=>hW.kept ht0 (m _ g6 g7);have ht0':w.cell? ⟨gt,q,none⟩=some (.int .i64 (t:Int)):=ht0;have htn:((t:Int) == -1)=false:=σ;have HM:=χ M;have HR:=χ hR;clear M hR eq eg ht ht0;generalize UE:A.hs.length=hl at *
  go_enter func220,ntmps220
  go_wp2
  go_region_held3 (ae [B.bn,B.bp] w) (exact ν)
   (first
    | ((go_at_call 223;(with_reducible refine (ks _ β).mono ?_));rintro e w1 ⟨rfl,lL,hu1⟩;(have hu2:ae [B.bn,B.bp] w w1:=ae.trans ν hu1)))
  have hM1:=HM.out.cO hu2 lL;have kc:=λW (hW:ae [] w1 W)=>fB (hM1.cells.ag hW) x t hx htt;have c1:=hM1.cn;have mc:∀x,x≠B.c->x∉[B.c]:=λx h1=>by simp[h1]
  have r0:∀W,ae [B.c] w1 W->W.cell? ⟨B.n0,0,none⟩=some (.pointer (some ⟨B.c,0,none⟩)):=λW hW=>hW.kept hM1.h0 (mc _ c1.1);have r3':∀W,ae [B.c] w1 W->W.cell? ⟨B.n0,3,none⟩=some (.slice (some ⟨gt,0,none⟩) hl ct):=λW hW=>by rw[←UE];exact hW.kept hM1.h3 (mc _ c1.1)
  have rt':∀W,ae [B.c] w1 W->W.cell? ⟨gt,q,none⟩=some (.int .i64 (t:Int)):=λW hW=>hW.kept (rt _ hu2) (mc _ c1.2.2.2.2.2);have rf':∀W,ae [B.c] w1 W->W.frozen? ⟨gt,q,none⟩=false:=λW hW=>hW.aM (rt _ hu2) (mc _ c1.2.2.2.2.2) (hu2.aM ht0' (m _ g6 g7) hf0);have jJ:=χ (ψ hM1 hu2);clear hM1 ks r1 r3 rt ht0' hu2 lL hu1 HM hf0;obtain⟨b,hb⟩:∃b,decide (dB A x t)=b:=⟨_,rfl⟩;rw[hb] at kc;have HBB:=χ hb;clear hb;go_wp2
  go_region_held3 (ae [B.c] w1) (exact ν)
   (first
    | ((go_at_call 164;(with_reducible refine (kc _ β).mono ?_));rintro e w2 ⟨rfl,hC2,hu3⟩;(have fU:ae [B.c] w1 w2:=ae.trans ν hu3)))
  have d3:=r3' _ fU;have dt:=rt' _ fU;have df:=rf' _ fU;have hM2:=jJ.out.1.setSt fU hC2;have hU:ae [B.c,B.bn,B.bp,gt] w w2:=(jJ.out.2.mono σ).trans (fU.mono σ);cases b with
  |false=>
   have HF:=χ (ψ hM2 hU);clear hM2 hU r0 r3' rt' rf' kc fU hC2 hu3;go_wp2;go_end0;rw[HBB.out];exact⟨rfl,HF.out.1.MS q (t::r++x::s) (by rw[show({ G with nx:=dP G.nx t x,pv:=jw G.nx G.pv t x }:FG).R q=t::s from HR.out];rfl),HF.out.2⟩
  |true=>
   have HF:=χ (ψ hM2 hU);clear hM2 hU r0 r3' rt' rf' kc fU hC2 hu3;go_wp2;go_end0;rw[HBB.out];exact⟨rfl,HF.out.1.iC q (x::s++t::r),HF.out.2.setCell (Α σ) _⟩
theorem fC.under(M:fC w B F gt ct A st G)(x y:Nat)(l:List Nat)(v d:Int)(hv:v=kY l)(hd:d=(l.length:Int)) :
  fC ((((w.setCell ⟨B.bl,x*4+1,none⟩ (.int .i64 v)).setCell ⟨B.bl,x*4+2,none⟩ (.int .i64 d)).setCell ⟨B.bl,y*4,none⟩ (.int .i64 (x:Int))).setCell ⟨B.bl,y*4+3,none⟩ (.bool false)) B F gt ct A st { G with up:=ah G.up y x,mr:=ah G.mr y false,K:=ah G.K x l }:=by
 refine M.Ld ν ?_;unfold nU;simp only[Ez,jP,←hv,←hd];exact ql (sZ (tO (qG M.pl x v) x d) y x) y false
theorem Cb(M:fC w B F gt ct A st G){x y:Nat}(hx:x<A.cs.length)(hy:y<A.cs.length)(hk:∀k t,G.K x=k::t->k<A.cs.length)(hl:(G.K x).length<=65536) :
  Calls prog 225 #[.pointer (some ⟨B.n0,0,none⟩),.int .i64 (y:Int),.int .i64 (x:Int)] w λe w'=>e=.returned (.tuple #[])/\
   fC w' B F gt ct A st (eO G y x)/\ae [B.bn,B.bp,B.bl] w w':=by
 have h2:=M.h2;have CE:(x:Int)<(A.cs.length:Int):=ω;have hyI:(y:Int)<(A.cs.length:Int):=ω;have N7:=M.p1 hx;have px2:=M.p2 hx;have py0:=M.p0 hy;have py3:=M.p3 hy;have fx1:=M.pl.free (x*4+1);have fx2:=M.pl.free (x*4+2);have fy0:=M.pl.free (y*4);have fy3:=M.pl.free (y*4+3);have hw1:IntKind.i64.wrap (((G.K x).length:Int)+1)=((G.K x).length:Int)+1:=Μ _ ω;cases hK:G.K x with
 |nil=>
  rw[hK] at N7 px2 hw1;unfold kY at N7;have eg:eO G y x={ G with up:=ah G.up y x,mr:=ah G.mr y false,K:=ah G.K x [y] }:=by unfold eO;rw[hK]
  rw[eg];have HM:=χ M;clear M eg hK hk;generalize hcl:A.cs.length=n at *;simp only[List.length_nil] at px2 hw1
  go_enter func225,ntmps225
  go_wp2
  go_region
  go_wp2;go_end0;exact⟨rfl,(HM.out.under x y [y] y 1 rfl rfl).drewN 1,ν⟩
 |cons k t=>
  have hkn:=hk k t hK;rw[hK] at N7 px2 hw1 hl;simp only[Ω] at px2 hw1 hl;unfold kY at N7;have eg:eO G y x={ Nj G k y with up:=ah G.up y x,mr:=ah G.mr y false,K:=ah G.K x (y::(t++[k])) }:=by unfold eO;rw[hK]
  rw[eg];have ks:=λW (hW:ae [] w W)=>jY (M.rings.ag hW) hkn hy;obtain⟨g1,g2,g3,g4,g5,g6,g7⟩:=M.d3;obtain⟨e1,e2,e3,e4,e5⟩:=M.d2;have m:∀x,x≠B.bn->x≠B.bp->x∉[B.bn,B.bp]:=λx h1 h2=>by simp[h1,h2]
  have r1:∀W,ae [B.bn,B.bp] w W->W.cell? ⟨B.n0,1,none⟩=some (.pointer (some ⟨B.br,0,none⟩)):=λW hW=>hW.kept M.h1 (m _ e2 e3);have rx:∀W,ae [B.bn,B.bp] w W->W.cell? ⟨B.bl,x*4+1,none⟩=some (.int .i64 (k:Int)):=λW hW=>hW.kept N7 (m _ g2 g3);have HM:=χ M;have hx2:=λW (hW:ae [B.bn,B.bp] w W)=>hW.kept px2 (m _ g2 g3);have hy0:=λW (hW:ae [B.bn,B.bp] w W)=>hW.kept py0 (m _ g2 g3);have hy3:=λW (hW:ae [B.bn,B.bp] w W)=>hW.kept py3 (m _ g2 g3);have hf1:=λW (hW:ae [B.bn,B.bp] w W)=>hW.aM N7 (m _ g2 g3) fx1;have hf2:=λW (hW:ae [B.bn,B.bp] w W)=>hW.aM px2 (m _ g2 g3) fx2
  have hg0:=λW (hW:ae [B.bn,B.bp] w W)=>hW.aM py0 (m _ g2 g3) fy0;have hg3:=λW (hW:ae [B.bn,B.bp] w W)=>hW.aM py3 (m _ g2 g3) fy3;have px1':w.cell? ⟨B.bl,x*4+1,none⟩=some (.int .i64 (k:Int)):=N7;have H2:=χ (ψ hx2 (ψ hy0 (ψ hy3 (ψ hf1 (ψ hf2 (ψ hg0 hg3))))));clear M eg hK hk hx2 hy0 hy3 hf1 hf2 hg0 hg3 N7 px2 py0 py3 fx1 fx2 fy0 fy3;generalize hcl:A.cs.length=n at *;generalize htl:t.length=tl at *;have hdz:((tl:Int)+1+1)=(((y::(t++[k])).length:Nat):Int):=by first|(simp[htl];done)|(simp[htl];omega)
  have HDZ:=χ hdz;clear hdz htl
  go_enter func225,ntmps225
  go_wp2
  go_region
  go_wp2
  go_region_held3 (ae [B.bn,B.bp] w) (exact ν)
   (first
    | ((go_at_call 223;(with_reducible refine (ks _ β).mono ?_));rintro e w1 ⟨rfl,lL,hu1⟩;(have hu2:ae [B.bn,B.bp] w w1:=ae.trans ν hu1)))
  have q1:=rx _ hu2;obtain⟨q2,q3,q4,q5,q6,q7,q8⟩:=H2.out;have q2:=q2 _ hu2;have q3:=q3 _ hu2;have q4:=q4 _ hu2;have q5:=q5 _ hu2;have q6:=q6 _ hu2;have q7:=q7 _ hu2;have q8:=q8 _ hu2;have hR1':zm w1 B.br B.bn B.bp A.cs.length (dP G.nx k y) (jw G.nx G.pv k y):=by rw[hcl];exact lL
  have hM1:=HM.out.cO hu2 hR1';have HF:=χ (ψ hM1 hu2);clear hM1 hu2 lL hR1' hu1 ks r1 rx px1' HM H2;go_wp2;go_end0;have hU:ae [B.bn,B.bp,B.bl] w w1:=HF.out.2.mono (λz hz=>by simp at hz;rcases hz with rfl|rfl<;>simp);exact⟨rfl,HF.out.1.under x y (y::(t++[k])) y _ rfl HDZ.out,ν⟩
theorem fC.aaq(M:fC w B F gt ct A st G)(x:Nat) :
  fC ((((w.setCell ⟨B.bl,x*4,none⟩ (.int .i64 (-1))).setCell ⟨B.bl,x*4+1,none⟩ (.int .i64 (-1))).setCell ⟨B.bl,x*4+2,none⟩ (.int .i64 0)).setCell ⟨B.bl,x*4+3,none⟩ (.bool false)) B F gt ct A st { G with up:=ah G.up x (-1),mr:=ah G.mr x false,K:=ah G.K x [] }:=by
 refine M.Ld ν ?_;unfold nU;simp only[Ez,jP];exact ql (tO (qG (sZ M.pl x (-1)) x (-1)) x 0) x false
def Fp(l:List Nat)(up:Nat->Int):Nat->Int:=λz=>if z∈l then -1 else up z
def FZ(l:List Nat)(mr:Nat->Bool):Nat->Bool:=λz=>if z∈l then false else mr z
theorem Sr(l:List Nat)(x:Nat)(up:Nat->Int):ah (Fp l up) x (-1)=Fp (l++[x]) up:=by
 funext z;unfold ah Fp
 by_cases e:z=x
 ·rw[Δ e,Δ (by simp[e])]
 ·rw[Γ e];simp[e]
theorem Tp(l:List Nat)(x:Nat)(mr:Nat->Bool):ah (FZ l mr) x false=FZ (l++[x]) mr:=by
 funext z;unfold ah FZ
 by_cases e:z=x
 ·rw[Δ e,Δ (by simp[e])]
 ·rw[Γ e];simp[e]
theorem UT(up:Nat->Int):Fp [] up=up:=by funext z;unfold Fp;simp
theorem RD(mr:Nat->Bool):FZ [] mr=mr:=by funext z;unfold FZ;simp
theorem BQ(M:fC w B F gt ct A st G){x:Nat}(hx:x<A.cs.length)(hr:Ring G.nx (G.K x))(hk:∀z,z∈G.K x->z<A.cs.length) :
  Calls prog 216 #[.pointer (some ⟨B.n0,0,none⟩),.int .i64 (x:Int)] w λe w'=>e=.returned (.tuple #[])/\
   fC w' B F gt ct A st (bM G x)/\ae [B.bn,B.bp,B.bl] w w':=by
 have hc1:=M.cells.ok.c1;have h2:=M.h2;have CE:(x:Int)<(A.cs.length:Int):=ω;have N7:=M.p1 hx;cases hK:G.K x with
 |nil=>
  rw[hK] at N7;unfold kY at N7;have eg:bM G x=G:=by unfold bM;rw[hK]
  rw[eg];have HM:=χ M;clear M eg hK hk hr;generalize hcl:A.cs.length=n at *
  go_enter func216,ntmps216
  go_wp2;refine bodyPost_ret (v:=.tuple #[]) (by simp[results,results216,go_sem]) rfl ?_;exact⟨rfl,HM.out,ae.refl _ _⟩
 |cons k t=>
  rw[hK] at N7 hr hk;have px1':w.cell? ⟨B.bl,x*4+1,none⟩=some (.int .i64 (k:Int)):=N7;have eg:bM G x={ Nj G x k with up:=ah (Fp (k::t) G.up) x (-1),mr:=ah (FZ (k::t) G.mr) x false,K:=ah G.K x [] }:=by unfold bM;rw[hK];rfl
  rw[eg];have hkk:((k:Int) == -1)=false:=σ;have h1:=M.h1;have RF:=Ij M.rings hr hk;have hlen:(k::t).length<=A.cs.length:=jC A.cs.length (k::t) hr.nd hk;have hkn:k<A.cs.length:=hk k σ;have HM:=χ (ψ M hk);clear M eg hK hk N7 hr;generalize hcl:A.cs.length=n at *
  go_enter func216,ntmps216
  go_wp2_with (first
   |((go_at_call 218;(with_reducible refine(RF).mono ?_));rintro e w1 ⟨v1,rfl,ho1,hu1⟩;rw[←mP] at ho1;obtain⟨g,cap,rfl,hZ,hb⟩:=IZ.iA ho1 (by simp[qj]);rw[mP] at *)
   | fail)
  obtain⟨g1,g2,g3,g4,g5,g6,g7⟩:=HM.out.1.d3;obtain⟨e1,e2,e3,e4,e5⟩:=HM.out.1.d2;have hlt:=HM.out.1.lt;have lbl:=hlt B.bl (by simp[FB.blk]);have hM1:=HM.out.1.ag hu1;have hM1':fC w1 B F gt ct A st { G with up:=Fp ((k::t).take 0) G.up,mr:=FZ ((k::t).take 0) G.mr,K:=G.K }:=by rw[List.take_zero,UT,RD];exact hM1
  have jJ:=χ (ψ hM1' (ψ hu1 hZ));have hgb:g≠B.bl:=ω;clear hM1 hM1' hu1 hZ ho1 hlt RF h1 h2;have hll:(k::t).length=t.length+1:=rfl;rw[hll] at hlen;generalize htl:t.length=tl at *;obtain⟨len,Yw⟩:∃len,tl+1=len:=⟨_,rfl⟩;have hlI:(tl:Int)+1=(len:Int):=ω;rw[Yw] at hll hlen ⊢;rw[hlI];clear hlI htl Yw
  go_loopw [24] (λs24 wr=>∃j:Nat,j<=len/\s24=.int .i64 (j:Int)/\fC wr B F gt ct A st { G with up:=Fp ((k::t).take j) G.up,mr:=FZ ((k::t).take j) G.mr,K:=G.K }/\IZ wr g cap (qj (k::t))/\ae [B.bl] w wr) (λs24 _=>len-(intOf s24).toNat)
  case atStart=>exact⟨0,ω,rfl,jJ.out.1,jJ.out.2.2,jJ.out.2.1.mono σ⟩
  case round=>
   obtain⟨j,hj,rfl,yT,hZr,hur⟩:=hrel;rename World=>wr
   by_cases hjl:j<len
   ·obtain⟨z,hz⟩:∃z,(k::t)[j]?=some z:=⟨_,ε ω⟩;have hzn:z<n:=hcl▸HM.out.2 z (Η hz);have hc:=hZr.cell j (by rw[mP];omega);have hgz:(qj (k::t)).getD j 0=(z:Int):=by unfold qj;rw[φ,ϒ,hz];rfl
    rw[hgz] at hc;have q2:=yT.h2;rw[hcl] at q2;have p0:=yT.p0 (x:=z) (by rw[hcl];exact hzn);have p3:=yT.p3 (x:=z) (by rw[hcl];exact hzn);have f0:=yT.pl.free (z*4);have f3:=yT.pl.free (z*4+3);have hzI:(z:Int)<(n:Int):=ω;have JX:(j:Int)<(len:Int):=ω;have hw1:IntKind.i64.wrap ((j:Int)+1)=(j:Int)+1:=Μ _ ω;have et:(k::t).take (j+1)=(k::t).take j++[z]:=by rw[ϐ,hz];rfl
    have HR:=χ (ψ yT (ψ hZr (ψ hur et)));clear yT hZr hur et hz hgz;go_wp2
    go_region
    go_wp2;obtain⟨yT,hZr,hur,et⟩:=HR.out;refine⟨⟨j+1,ω,by go_num,?_,(hZr.upd ((ae.refl [B.bl] wr).setCell (Α σ) _) (by simpa using hgb)).upd (((ae.refl [B.bl] _).setCell (Α σ) _).drew) (by simpa using hgb),ν⟩,by simp[intOf];omega⟩;rw[et,←Sr,←Tp];refine(yT.Ld (up:=ah (Fp ((k::t).take j) G.up) z (-1)) (mr:=ah (FZ ((k::t).take j) G.mr) z false) (K:=G.K) ν ?_).drewN 1;exact ql (sZ yT.pl z (-1)) z false
   ·obtain rfl:j=len:=ω;have et:(k::t).take j=k::t:=List.take_of_length_le ω;rw[et] at yT;have ks:=λW (hW:ae [] wr W)=>jY (yT.rings.ag hW) (x:=x) (y:=k) (by rw[hcl];exact hx) (by rw[hcl];exact hkn);have q1:=yT.h1;have q2:∀W,ae [B.bn,B.bp] wr W->W.cell? ⟨B.n0,2,none⟩=some (.slice (some ⟨B.bl,0,none⟩) n n):=λW hW=>by
     have:=hW.kept yT.h2 (by simp;exact⟨e2,e3⟩);rwa[hcl] at this
    have p0:=λW (hW:ae [B.bn,B.bp] wr W)=>hW.kept (yT.p0 (x:=x) (by rw[hcl];exact hx)) (by simp;exact⟨g2,g3⟩);have p1:=λW (hW:ae [B.bn,B.bp] wr W)=>hW.kept (yT.p1 (x:=x) (by rw[hcl];exact hx)) (by simp;exact⟨g2,g3⟩);have p2:=λW (hW:ae [B.bn,B.bp] wr W)=>hW.kept (yT.p2 (x:=x) (by rw[hcl];exact hx)) (by simp;exact⟨g2,g3⟩);have p3:=λW (hW:ae [B.bn,B.bp] wr W)=>hW.kept (yT.p3 (x:=x) (by rw[hcl];exact hx)) (by simp;exact⟨g2,g3⟩);have HR:=χ (ψ yT (ψ hur (ψ p0 (ψ p1 (ψ p2 p3)))));clear yT hZr hur et p0 p1 p2 p3 HM jJ
    go_wp2_with (first
     |((go_at_call 223;(with_reducible refine(ks _ β).mono ?_));rintro e w2 ⟨rfl,hR2,hu2⟩;(have q3:=q2 _ hu2))
     | fail)
    obtain⟨yT,hur,p0,p1,p2,p3⟩:=HR.out;have p0:=p0 _ hu2;have p1:=p1 _ hu2;have p2:=p2 _ hu2;have p3:=p3 _ hu2;have f0:=(yT.cO hu2 hR2).pl.free (x*4);have f1:=(yT.cO hu2 hR2).pl.free (x*4+1);have f2:=(yT.cO hu2 hR2).pl.free (x*4+2);have f3:=(yT.cO hu2 hR2).pl.free (x*4+3);have oQ:=χ (yT.cO hu2 hR2);have HU:=χ (ψ hur hu2);clear yT hR2 hur hu2 ks q1 q2 HR
    go_region_with (first
     |((go_at_call 88;(with_reducible refine(Bj _).mono ?_));rintro e w3 ⟨rfl,hu3⟩;(have hv:ae [] w2 w3:=ae.trans β hu3);(have v0:=hv.was p0);(have v1:=hv.was p1);(have v2:=hv.was p2);(have v3:=hv.was p3);(have v4:=hv.was q3);(have z0:=hv.aM p0 σ f0);(have z1:=hv.aM p1 σ f1);(have z2:=hv.aM p2 σ f2);(have z3:=hv.aM p3 σ f3))
     | fail)
    all_goals
     go_wp2;go_end0;have hU:ae [B.bn,B.bp,B.bl] w w3:=((HU.out.1.mono σ).trans (HU.out.2.mono (λz hz=>by simp at hz;rcases hz with rfl|rfl<;>simp))).trans (hv.mono σ);exact⟨rfl,(oQ.out.ag hv).aaq x,ν⟩
end
end Go.Proofs.YtnpdakpagnpanaaGreat
namespace Go.Proofs.YtnpdakpagnpanaaGreat
open Tryz
def few(G:FG)(ex:Nat->Nat)(l:List Nat)(d:Nat):Nat:=(l.filter (λc=>decide ((G.K c).length+(if G.mr c then 1 else 0)+ex c<d))).length
structure FF(n:Nat)(G:FG)(bX:Nat->Int)(L:Nat->Nat->Prop)(ex:Nat->Nat):Prop where
 rg:Rg n G.nx G.pv
 kid:∀x y,x<n->y∈G.K x->y<n/\G.up y=x
 Gu:∀y,y<n->G.up y=-1\/∃p:Nat,p<n/\G.up y=p/\y∈G.K p
 ring:∀x,x<n->Ring G.nx (G.K x)
 home:∀y p:Nat,y<n->G.up y=p->bX y=bX p/\0<bX y
 ord:∀y p:Nat,y<n->G.up y=p->L p y
 alone:∀y,y<n->¬0<bX y->G.up y=-1/\G.K y=[]/\G.nx y=y
 free:∀y,y<n->G.up y=-1->G.mr y=false
 cnt:∀x d,x<n->few G ex (G.K x) d<=d
structure FR(n:Nat)(G:FG)(bX:Nat->Int)(L:Nat->Nat->Prop)(g:Option Nat):Prop where
 ring:∀h,some h≠g->Ring G.nx (G.R h)
 mem:∀h y:Nat,some h≠g->(y∈G.R h↔1<=h/\y<n/\G.up y=-1/\bX y=h)
 top:∀h t s,some h≠g->G.R h=t::s->∀y,y∈s->L t y
section
variable{n:Nat}{G:FG}{bX:Nat->Int}{L:Nat->Nat->Prop}{ex:Nat->Nat}
theorem FF.Cz(H:FF n G bX L ex){x:Nat}(hx:x<n):(G.K x).length<=n:=jC n _ (H.ring x hx).nd (λy hy=>(H.kid x y hx hy).1)
theorem FF.above(H:FF n G bX L ex){y p:Nat}(hy:y<n)(h:G.up y=p):p<n/\y∈G.K p:=by
 rcases H.Gu y hy with h1|⟨q,hq,h1,h2⟩
 ·omega
 ·obtain rfl:p=q:=ω;exact⟨hq,h2⟩
theorem aaX(G:FG)(ex:Nat->Nat)(l:List Nat)(d:Nat):few G ex l d<=l.length:=List.length_filter_le _ _
theorem Hr(G:FG)(ex:Nat->Nat){l l':List Nat}(h:l.Perm l')(d:Nat):few G ex l d=few G ex l' d:=(h.filter _).length_eq
theorem uQ{G G':FG}{ex ex':Nat->Nat}{l:List Nat}(d:Nat)(h:∀c,c∈l->(G'.K c).length+(if G'.mr c then 1 else 0)+ex' c=(G.K c).length+(if G.mr c then 1 else 0)+ex c):few G' ex' l d=few G ex l d:=by
 unfold few
 congr 1
 exact List.filter_congr (λc hc=>by rw[h c hc])
theorem JN{G G':FG}{ex ex':Nat->Nat}{l:List Nat}(d:Nat)(h:∀c,c∈l->(G.K c).length+(if G.mr c then 1 else 0)+ex c<=(G'.K c).length+(if G'.mr c then 1 else 0)+ex' c):few G' ex' l d<=few G ex l d:=by
 unfold few
 induction l with
 |nil=>simp
 |cons c t ih=>
  have ih':=ih (λc hc=>h c (by simp[hc]));have hc:=h c σ
  by_cases h1:(G'.K c).length+(if G'.mr c then 1 else 0)+ex' c<d
  ·have h2:(G.K c).length+(if G.mr c then 1 else 0)+ex c<d:=ω;rw[List.filter_cons_of_pos (by simpa using h1),List.filter_cons_of_pos (by simpa using h2)];simpa using ih'
  ·rw[List.filter_cons_of_neg (by simpa using h1)]
   by_cases h2:(G.K c).length+(if G.mr c then 1 else 0)+ex c<d
   ·rw[List.filter_cons_of_pos (by simpa using h2)];simp only[Ω];omega
   ·rw[List.filter_cons_of_neg (by simpa using h2)];exact ih'
theorem GL(G:FG)(ex:Nat->Nat)(c:Nat)(l:List Nat)(d:Nat):few G ex (c::l) d=(if(G.K c).length+(if G.mr c then 1 else 0)+ex c<d then 1 else 0)+few G ex l d:=by
 unfold few;rw[List.filter_cons]
 by_cases h:(G.K c).length+(if G.mr c then 1 else 0)+ex c<d
 ·rw[Δ (by simpa using h),Δ h];simp;omega
 ·rw[Γ (by simpa using h),Γ h];omega
theorem bK{α:Type}(f:Nat->α)(x:Nat)(v:α):ah f x v x=v:=by unfold ah;rw[Δ rfl]
theorem aZ{α:Type}(f:Nat->α){x z:Nat}(v:α)(h:z≠x):ah f x v z=f z:=by unfold ah;rw[Γ h]
def WY(l:List Nat)(y:Nat):List Nat:=match l with|[]=>[y]|k::t=>y::(t++[k])
theorem DX(l:List Nat)(y:Nat):(WY l y).Perm (y::l):=by
 cases l with
 |nil=>exact ό _
 |cons k t=>exact List.Perm.cons y (Φ (l₁:=t) (l₂:=[k]))
theorem mE(G:FG)(y x:Nat):(eO G y x).up=ah G.up y x:=rfl
theorem BV(G:FG)(y x:Nat):(eO G y x).mr=ah G.mr y false:=rfl
theorem qR(G:FG)(y x:Nat):(eO G y x).K=ah G.K x (WY (G.K x) y):=rfl
theorem uG(G:FG)(y x:Nat):(eO G y x).R=G.R:=by unfold eO;cases G.K x<;>rfl
theorem Ba(G:FG)(y x:Nat):(eO G y x).nx=match G.K x with|[]=>G.nx|k::_=>dP G.nx k y:=by unfold eO;cases G.K x<;>rfl
theorem SL(G:FG)(y x:Nat):(eO G y x).pv=match G.K x with|[]=>G.pv|k::_=>jw G.nx G.pv k y:=by unfold eO;cases G.K x<;>rfl
theorem FF.under(H:FF n G bX L ex){x y:Nat}(hx:x<n)(hy:y<n)(ux:G.up x=-1)(uy:G.up y=-1)(hne:x≠y)(hh:bX y=bX x)(h0:0<bX x)(hL:L x y)(sy:G.nx y=y)(hd:(G.K y).length=(G.K x).length)(hex:ex y=0) :
  FF n (eO G y x) bX L ex/\(∀z,z<n->z≠y->G.up z=-1->(eO G y x).nx z=G.nx z)/\(∀l:List Nat,Ring G.nx l->y∉l->(∀z,z∈l->z∉G.K x)->Ring (eO G y x).nx l):=by
 have kx:∀a z,a<n->z∈G.K a->z≠x/\z≠y:=λa z ha hz=>by
  have:=(H.kid a z ha hz).2;exact⟨λe=>by subst e;omega,λe=>by subst e;omega⟩
 have far:∀z,z≠y->z∉G.K x->(eO G y x).nx z=G.nx z:=λz h1 h2=>by
  rw[Ba];cases hK:G.K x with
  |nil=>rfl
  |cons k t=>exact iZ (λe=>h2 (by rw[hK,e];simp)) h1
 have nk:∀z,G.up z=-1->z∉G.K x:=λz hu hm=>by
  have:=(H.kid x z hx hm).2;omega
 have rl:∀l:List Nat,Ring G.nx l->y∉l->(∀z,z∈l->z∉G.K x)->Ring (eO G y x).nx l:=λl hr h1 h2=>hr.far (λz hz=>far z (λe=>h1 (e▸hz)) (h2 z hz));have mem:∀z,z∈WY (G.K x) y↔z=y\/z∈G.K x:=λz=>by rw[(DX _ _).mem_iff];simp
 refine⟨⟨?_,λa z ha hz=>?_,λz hz=>?_,λa ha=>?_,λz p hz hu=>?_,λz p hz hu=>?_,λz hz h1=>?_,λz hz hu=>?_,λa d ha=>?_⟩,λz hz h1 h2=>far z h1 (nk z h2),rl⟩
 ·rw[Ba,SL];cases hK:G.K x with
  |nil=>exact H.rg
  |cons k t=>exact H.rg.swap (H.kid x k hx (by rw[hK];simp)).1 hy
 ·rw[qR] at hz;rw[mE]
  by_cases e:a=x
  ·subst e;rw[bK,mem] at hz;rcases hz with rfl|hz
   ·exact⟨hy,bK _ _ _⟩
   ·exact⟨(H.kid a z ha hz).1,by rw[aZ _ _ (kx a z ha hz).2];exact(H.kid a z ha hz).2⟩
  ·rw[aZ _ _ e] at hz;exact⟨(H.kid a z ha hz).1,by rw[aZ _ _ (kx a z ha hz).2];exact(H.kid a z ha hz).2⟩
 ·rw[mE,qR]
  by_cases e:z=y
  ·subst e;exact Β ⟨x,hx,bK _ _ _,by rw[bK,mem];exact Α rfl⟩
  ·rw[aZ _ _ e];rcases H.Gu z hz with h1|⟨p,hp,h1,h2⟩
   ·exact Α h1
   ·refine Β ⟨p,hp,h1,?_⟩
    by_cases e2:p=x
    ·rw[e2,bK,mem];rw[e2] at h2;exact Β h2
    ·rw[aZ _ _ e2];exact h2
 ·rw[qR]
  by_cases e:a=x
  ·subst e;rw[bK,Ba];have hr:=H.ring a ha;cases hK:G.K a with
   |nil=>exact iM.2 sy
   |cons k t=>
    rw[hK] at hr
    have hj:=Ring.join hr (iM.2 sy) (λz hz hm=>by
     simp at hm;subst hm
     exact (kx a z ha (by rw [hK];exact hz)).2 rfl)
    exact Ring.Vv (a:=[k]) (b:=y::t) hj
  ·rw[aZ _ _ e]
   exact rl _ (H.ring a ha) (λhm=>(kx a y ha hm).2 rfl) (λz hz hm=>e (by
    have:=(H.kid a z ha hz).2;have:=(H.kid x z hx hm).2
    omega))
 ·rw[mE] at hu
  by_cases e:z=y
  ·subst e;rw[bK] at hu;obtain rfl:p=x:=ω;exact⟨hh,ω⟩
  ·rw[aZ _ _ e] at hu;exact H.home z p hz hu
 ·rw[mE] at hu
  by_cases e:z=y
  ·subst e;rw[bK] at hu;obtain rfl:p=x:=ω;exact hL
  ·rw[aZ _ _ e] at hu;exact H.ord z p hz hu
 ·have e1:z≠y:=λe=>h1 (by rw[e,hh];exact h0);have e2:z≠x:=λe=>h1 (by rw[e];exact h0);obtain⟨a1,a2,a3⟩:=H.alone z hz h1;exact⟨by rw[mE,aZ _ _ e1];exact a1,by rw[qR,aZ _ _ e2];exact a2,by rw[far z e1 (nk z a1)];exact a3⟩
 ·rw[mE] at hu;rw[BV]
  by_cases e:z=y
  ·subst e;rw[bK]
  ·rw[aZ _ _ e] at hu ⊢;exact H.free z hz hu
 ·have old:∀b:Nat,b<n->few (eO G y x) ex (G.K b) d=few G ex (G.K b) d:=λb hb=>uQ d (λc hc=>by
   have:=kx b c hb hc
   rw [qR,BV,aZ _ _ this.1,aZ _ _ this.2])
  by_cases e:a=x
  ·subst e;rw[show(eO G y a).K a=WY (G.K a) y from bK _ _ _,Hr _ _ (DX _ _),GL,old a ha,qR,BV,bK,aZ _ _ (Ne.symm hne),hex];have h1:=H.cnt a d ha;have h2:=aaX G ex (G.K a) d;simp only[Ϣ,if_false,ϕ]
   split<;>omega
  ·rw[show(eO G y x).K a=G.K a from aZ _ _ e,old a ha];exact H.cnt a d ha
end
def jV(T:List Int)(d:Nat):List Int:=T++List.replicate (d+1-T.length) (-1)
def oU(T:List Int):Nat:=(T.filter (λy=>decide (y≠-1))).length
structure TD where
 T:List Int
 G:FG
 q:Nat
def KV(lt:Nat->Nat->Bool):Nat->List Int->Nat->FG->Nat->TD
 |0,T,x,G,q=>⟨T,G,q⟩
 |f+1,T,x,G,q=>
  if(jV T (G.K x).length).getD (G.K x).length (-1)=-1 then⟨(jV T (G.K x).length).set (G.K x).length x,G,q⟩
  else if lt ((jV T (G.K x).length).getD (G.K x).length (-1)).toNat x then KV lt f ((jV T (G.K x).length).set (G.K x).length (-1)) ((jV T (G.K x).length).getD (G.K x).length (-1)).toNat (eO G x ((jV T (G.K x).length).getD (G.K x).length (-1)).toNat) (q+1)
  else KV lt f ((jV T (G.K x).length).set (G.K x).length (-1)) x (eO G ((jV T (G.K x).length).getD (G.K x).length (-1)).toNat x) (q+1)
def tid(lt:Nat->Nat->Bool):List Nat->TD->TD
 | [],D=>D
 |x::rs,D=>tid lt rs (KV lt (oU D.T+1) D.T x D.G D.q)
theorem Fy(T:List Int)(d:Nat):(jV T d).length=max T.length (d+1):=by unfold jV;simp;omega
theorem Xq(a b:List Int):oU (a++b)=oU a+oU b:=by unfold oU;simp
theorem VY(k:Nat):oU (List.replicate k (-1))=0:=by
 unfold oU;rw[List.length_eq_zero_iff,List.filter_eq_nil_iff];intro a ha;have:=List.eq_of_mem_replicate ha;simp[this]
theorem WC(T:List Int)(d:Nat):oU (jV T d)=oU T:=by unfold jV;rw[Xq,VY];omega
theorem EG:∀(T:List Int) (d:Nat) (v u:Int),T[d]?=some u->oU (T.set d v)+(if u=-1 then 0 else 1)=oU T+(if v=-1 then 0 else 1)
 | [],d,v,u,h=>by simp at h
 |a::t,0,v,u,h=>by
  have e:a=u:=by simpa using h
  subst e;have c:∀z:Int,oU (z::t)=(if z=-1 then 0 else 1)+oU t:=λz=>by
   unfold oU
   by_cases hz:z=-1
   ·rw[List.filter_cons_of_neg (by simpa using hz),Δ hz];omega
   ·rw[List.filter_cons_of_pos (by simpa using hz),Γ hz];simp;omega
  show oU (v::t)+_=_
  rw[c,c];omega
 |a::t,d+1,v,u,h=>by
  have ih:=EG t d v u (by simpa using h);have c:∀l:List Int,oU (a::l)=(if a=-1 then 0 else 1)+oU l:=λl=>by
   unfold oU
   by_cases hz:a=-1
   ·rw[List.filter_cons_of_neg (by simpa using hz),Δ hz];omega
   ·rw[List.filter_cons_of_pos (by simpa using hz),Γ hz];simp;omega
  show oU (a::t.set d v)+_=_
  rw[c,c];omega
def wO(n:Nat)(G:FG)(bX:Nat->Int)(h:Nat)(z:Nat):Prop:=z<n/\G.up z=-1/\bX z=h
structure TT(n:Nat)(bX:Nat->Int)(L:Nat->Nat->Prop)(h:Nat)(T:List Int)(xs:List Nat)(G:FG):Prop where
 ff:FF n G bX L (λ_=>0)
 fr:FR n G bX L (some h)
 zero:G.R h=[]
 one:∀y,wO n G bX h y->G.nx y=y
 tab:∀(d:Nat) (y:Int),T[d]?=some y->y=-1\/∃z:Nat,y=z/\wO n G bX h z/\(G.K z).length=d/\z∉xs
 nd:xs.Nodup
 xr:∀z,z∈xs->wO n G bX h z
 all:∀z,wO n G bX h z->z∈xs\/(z:Int)∈T
section
variable{n:Nat}{bX:Nat->Int}{L:Nat->Nat->Prop}{h:Nat}{T:List Int}{xs:List Nat}{G:FG}
theorem TT.pad(H:TT n bX L h T xs G)(d:Nat):TT n bX L h (jV T d) xs G:=by
 refine⟨H.ff,H.fr,H.zero,H.one,λe y hy=>?_,H.nd,H.xr,λz hz=>(H.all z hz).imp id (λhm=>by unfold jV;simp[hm])⟩;unfold jV at hy
 by_cases he:e<T.length
 ·rw[Ρ he] at hy;exact H.tab e y hy
 ·rw[ϊ ω] at hy;exact Α (List.eq_of_mem_replicate (Η hy))
theorem sW(T:List Int)(d:Nat)(v z:Int):z∈T.set d v↔(z=v/\d<T.length)\/∃e,e≠d/\T[e]?=some z:=by
 rw[List.mem_iff_getElem?];constructor
 ·rintro⟨e,he⟩;rw[ύ] at he
  by_cases hd:d=e
  ·rw[Δ hd] at he
   by_cases hl:d<T.length
   ·rw[Δ hl] at he;injection he with he;exact Α ⟨he.symm,ω⟩
   ·rw[Γ hl] at he;cases he
  ·rw[Γ hd] at he;exact Β ⟨e,λh'=>hd h'.symm,he⟩
 ·rintro(⟨rfl,hl⟩|⟨e,hne,he⟩)
  ·exact⟨d,by rw[ύ,Δ rfl,Δ hl]⟩
  ·exact⟨e,by rw[ύ,Γ (Ne.symm hne)];exact he⟩
theorem TT.place{x:Nat}{rs:List Nat}(H:TT n bX L h T (x::rs) G){d:Nat}(hd:(G.K x).length=d)(hT:T[d]?=some (-1)):TT n bX L h (T.set d x) rs G:=by
 have hnd:=Ζ.1 H.nd;have hdl:d<T.length:=(List.getElem?_eq_some_iff.1 hT).1;refine⟨H.ff,H.fr,H.zero,H.one,λe y hy=>?_,hnd.2,λz hz=>H.xr z (by simp[hz]),λz hz=>?_⟩
 ·rw[ύ] at hy
  by_cases he:d=e
  ·rw[Δ he,Δ ω] at hy
   injection hy with hy
   exact Β ⟨x,hy.symm,H.xr x σ,ω,hnd.1⟩
  ·rw[Γ he] at hy;rcases H.tab e y hy with h1|⟨z,h1,h2,h3,h4⟩
   ·exact Α h1
   ·exact Β ⟨z,h1,h2,h3,λhm=>h4 (by simp[hm])⟩
 ·rcases H.all z hz with h1|h1
  ·rcases ρ.1 h1 with rfl|h1
   ·exact Β ((sW _ _ _ _).2 (Α ⟨rfl,hdl⟩))
   ·exact Α h1
  ·obtain⟨e,he⟩:=List.mem_iff_getElem?.1 h1;refine Β ((sW _ _ _ _).2 (Β ⟨e,λe2=>?_,he⟩));subst e2;rw[hT] at he
   injection he with he
   omega
theorem TT.link{x z hi lo:Nat}{rs:List Nat}(H:TT n bX L h T (x::rs) G){d:Nat}(hd:(G.K x).length=d)(hT:T[d]?=some (z:Int))(hl:(hi=x/\lo=z)\/(hi=z/\lo=x))(hL:L hi lo)(h1:1<=h) :
  TT n bX L h (T.set d (-1)) (hi::rs) (eO G lo hi):=by
 have hnd:=Ζ.1 H.nd;have Ce:=H.xr x σ;obtain⟨z',e,M8,hzd,hzx⟩:∃z':Nat,(z:Int)=z'/\wO n G bX h z'/\(G.K z').length=d/\z'∉x::rs:=by
  rcases H.tab d z hT with h2|h2
  ·omega
  ·exact h2
 obtain rfl:z=z':=ω;have hzne:z≠x:=λe=>hzx (by simp[e]);have hzrs:z∉rs:=λhm=>hzx (by simp[hm]);have hir:wO n G bX h hi:=by rcases hl with⟨e,_⟩|⟨e,_⟩<;>subst e<;>assumption
 have lor:wO n G bX h lo:=by rcases hl with⟨_,e⟩|⟨_,e⟩<;>subst e<;>assumption
 have hid:(G.K hi).length=d:=by rcases hl with⟨e,_⟩|⟨e,_⟩<;>subst e<;>assumption
 have lod:(G.K lo).length=d:=by rcases hl with⟨_,e⟩|⟨_,e⟩<;>subst e<;>assumption
 have hne:hi≠lo:=by rcases hl with⟨e1,e2⟩|⟨e1,e2⟩<;>subst e1 e2<;>omega
 have hirs:hi∉rs:=by rcases hl with⟨e,_⟩|⟨e,_⟩<;>subst e;exact hnd.1;exact hzrs
 have lors:lo∉rs:=by rcases hl with⟨_,e⟩|⟨_,e⟩<;>subst e;exact hzrs;exact hnd.1
 have hs:=H.one lo lor;have hh:(0:Int)<bX hi:=by rw[hir.2.2];omega
 obtain⟨hF,hnx,hrl⟩:=H.ff.under hir.1 lor.1 hir.2.1 lor.2.1 hne (by rw[lor.2.2,hir.2.2]) hh hL hs ω rfl;have Ot:∀w,w≠lo->(eO G lo hi).up w=G.up w:=λw hw=>by rw[mE,aZ _ _ hw]
 have upl:(eO G lo hi).up lo=hi:=by rw[mE,bK]
 have rt:∀g w,wO n (eO G lo hi) bX g w↔wO n G bX g w/\w≠lo:=λg w=>by
  unfold wO
  by_cases e:w=lo
  ·subst e;rw[upl];constructor
   ·rintro⟨_,h2,_⟩;omega
   ·rintro⟨_,h2⟩;exact absurd rfl h2
  ·rw[Ot w e];simp[e]
 have kn:∀w,w≠hi->(eO G lo hi).K w=G.K w:=λw hw=>by rw[qR,aZ _ _ hw]
 have Qx:∀g,some g≠some h->∀w,w∈G.R g->w≠lo/\w∉G.K hi:=λg hg w hw=>by
  have hm:=(H.fr.mem g w hg).1 hw;refine⟨λe=>hg ?_,λhk=>?_⟩
  ·subst e;have:=lor.2.2;have:=hm.2.2.2;congr 1;omega
  ·have:=(H.ff.kid hi w hir.1 hk).2;omega
 refine⟨hF,⟨λg hg=>?_,λg w hg=>?_,λg t s hg hR=>?_⟩,by rw[uG];exact H.zero,λw hw=>?_,λe y hy=>?_,Ζ.2 ⟨hirs,hnd.2⟩,λw hw=>?_,λw hw=>?_⟩
 ·rw[uG];exact hrl _ (H.fr.ring g hg) (λhm=>(Qx g hg lo hm).1 rfl) (λw hw=>(Qx g hg w hw).2)
 ·rw[uG,H.fr.mem g w hg];constructor
  ·rintro⟨a1,a2,a3,a4⟩;have hw:w≠lo:=λe=>hg (by subst e;have:=lor.2.2;congr 1;omega);exact⟨a1,a2,by rw[Ot w hw];exact a3,a4⟩
  ·rintro⟨a1,a2,a3,a4⟩;have hw:w≠lo:=λe=>by subst e;rw[upl] at a3;omega
   exact⟨a1,a2,by rw[Ot w hw] at a3;exact a3,a4⟩
 ·rw[uG] at hR;exact H.fr.top g t s hg hR
 ·obtain⟨hw1,hwl⟩:=(rt h w).1 hw;rw[hnx w hw1.1 hwl hw1.2.1];exact H.one w hw1
 ·rw[ύ] at hy
  by_cases he:d=e
  ·rw[Δ he] at hy
   by_cases hl2:d<T.length
   ·rw[Δ hl2] at hy;injection hy with hy;exact Α hy.symm
   ·rw[Γ hl2] at hy;cases hy
  ·rw[Γ he] at hy;rcases H.tab e y hy with a1|⟨w,a1,a2,a3,a4⟩
   ·exact Α a1
   ·have w1:w≠x:=λe2=>a4 (by simp[e2]);have w2:w≠z:=λe2=>by subst e2;omega
    have whi:w≠hi:=by rcases hl with⟨e2,_⟩|⟨e2,_⟩<;>subst e2<;>assumption
    have wlo:w≠lo:=by rcases hl with⟨_,e2⟩|⟨_,e2⟩<;>subst e2<;>assumption
    refine Β ⟨w,a1,(rt h w).2 ⟨a2,wlo⟩,by rw[kn w whi];exact a3,λhm=>?_⟩;rcases ρ.1 hm with e2|hm
    ·exact whi e2
    ·exact a4 (by simp[hm])
 ·rcases ρ.1 hw with rfl|hw
  ·exact(rt h w).2 ⟨hir,hne⟩
  ·exact(rt h w).2 ⟨H.xr w (by simp[hw]),λe=>lors (e▸hw)⟩
 ·obtain⟨hw,hwl⟩:=(rt h w).1 hw;have fin:w=x\/w=z->w∈hi::rs:=λhc=>by
   rcases hl with⟨e1,e2⟩|⟨e1,e2⟩
   ·rcases hc with hc|hc
    ·simp[e1,hc]
    ·exact absurd (hc.trans e2.symm) hwl
   ·rcases hc with hc|hc
    ·exact absurd (hc.trans e2.symm) hwl
    ·simp[e1,hc]
  rcases H.all w hw with a|a
  ·rcases ρ.1 a with a|a
   ·exact Α (fin (Α a))
   ·exact Α (by simp[a])
  ·obtain⟨e,he⟩:=List.mem_iff_getElem?.1 a
   by_cases hed:e=d
   ·subst hed;rw[hT] at he
    injection he with he
    exact Α (fin (Β ω))
   ·exact Β ((sW _ _ _ _).2 (Β ⟨e,hed,he⟩))
theorem getD_some{T:List Int}{d:Nat}(hd:d<T.length):T[d]?=some (T.getD d (-1)):=by
 rw[φ,ε hd];rfl
def Lh(n:Nat)(G:FG)(bX:Nat->Int)(h:Nat)(L:Nat->Nat->Prop)(lt:Nat->Nat->Bool):Prop:=∀a b,a<n->b<n->bX a=h->bX b=h->a≠b->(lt a b=true->L a b)/\(lt a b=false->L b a)
theorem TT.step{lt:Nat->Nat->Bool}{x:Nat}{rs:List Nat}(H:TT n bX L h T (x::rs) G)(hl:Lh n G bX h L lt)(h1:1<=h) :
  (jV T (G.K x).length)[(G.K x).length]?=some ((jV T (G.K x).length).getD (G.K x).length (-1))/\
  ((jV T (G.K x).length).getD (G.K x).length (-1)=-1->TT n bX L h ((jV T (G.K x).length).set (G.K x).length x) rs G/\oU ((jV T (G.K x).length).set (G.K x).length x)=oU T+1)/\
  ((jV T (G.K x).length).getD (G.K x).length (-1)≠-1->∃z:Nat,(jV T (G.K x).length).getD (G.K x).length (-1)=z/\z<n/\z≠x/\bX z=h/\oU ((jV T (G.K x).length).set (G.K x).length (-1))+1=oU T/\
   (lt z x=true->TT n bX L h ((jV T (G.K x).length).set (G.K x).length (-1)) (z::rs) (eO G x z))/\(lt z x=false->TT n bX L h ((jV T (G.K x).length).set (G.K x).length (-1)) (x::rs) (eO G z x))):=by
 have hp:=H.pad (G.K x).length;have ho:=WC T (G.K x).length;have hlen:=Fy T (G.K x).length;generalize jV T (G.K x).length=P at *;have hg:P[(G.K x).length]?=some (P.getD (G.K x).length (-1)):=getD_some ω;refine⟨hg,λe=>?_,λe=>?_⟩
 ·rw[e] at hg;refine⟨hp.place rfl hg,?_⟩;have:=EG P (G.K x).length x (-1) hg;rw[Δ rfl,Γ ω] at this;omega
 ·rcases hp.tab _ _ hg with e1|⟨z,e1,e2,e3,e4⟩
  ·exact absurd e1 e
  ·rw[e1] at hg;have hzx:z≠x:=λe=>e4 (by simp[e]);have Ce:=hp.xr x σ;have hk:=hl z x e2.1 Ce.1 e2.2.2 Ce.2.2 hzx;have:=EG P (G.K x).length (-1) z hg;rw[Δ rfl,Γ ω] at this;exact⟨z,e1,e2.1,hzx,e2.2.2,ω,λht=>hp.link rfl hg (Β ⟨rfl,rfl⟩) (hk.1 ht) h1,λht=>hp.link rfl hg (Α ⟨rfl,rfl⟩) (hk.2 ht) h1⟩
theorem KC{lt:Nat->Nat->Bool}{rs:List Nat}(h1:1<=h)(hl:∀G,Lh n G bX h L lt):∀(f:Nat) (T:List Int) (x:Nat) (G:FG) (q:Nat),TT n bX L h T (x::rs) G->oU T<f->
  TT n bX L h (KV lt f T x G q).T rs (KV lt f T x G q).G/\oU (KV lt f T x G q).T+(KV lt f T x G q).q=oU T+1+q/\(KV lt f T x G q).G.R=G.R/\(KV lt f T x G q).T.length<=max T.length (n+1)
 |0,T,x,G,q,H,hf=>ω
 |f+1,T,x,G,q,H,hf=>by
  obtain⟨s0,s1,s2⟩:=H.step (hl G) h1;have hkn:=H.ff.Cz (H.xr x σ).1;have hpl:=Fy T (G.K x).length;unfold KV
  by_cases e:(jV T (G.K x).length).getD (G.K x).length (-1)=-1
  ·rw[Δ e];obtain⟨a,b⟩:=s1 e;exact⟨a,by simp only;omega,rfl,by simp only[Ι];omega⟩
  ·rw[Γ e];obtain⟨z,e1,_,_,_,e3,e4,e5⟩:=s2 e;rw[e1,π];cases ht:lt z x with
   |true=>
    rw[Δ rfl];obtain⟨r1,r2,r3,r4⟩:=KC h1 hl f _ z _ (q+1) (e4 ht) ω;exact⟨r1,ω,r3.trans (uG _ _ _),by rw[Ι] at r4;omega⟩
   |false=>
    rw[Γ σ];obtain⟨r1,r2,r3,r4⟩:=KC h1 hl f _ x _ (q+1) (e5 ht) ω;exact⟨r1,ω,r3.trans (uG _ _ _),by rw[Ι] at r4;omega⟩
theorem UR{lt:Nat->Nat->Bool}(h1:1<=h)(hl:∀G,Lh n G bX h L lt):∀(rs:List Nat) (D:TD),TT n bX L h D.T rs D.G->D.T.length<=n+1->
  TT n bX L h (tid lt rs D).T [] (tid lt rs D).G/\oU (tid lt rs D).T+(tid lt rs D).q=oU D.T+rs.length+D.q/\(tid lt rs D).G.R=D.G.R/\(tid lt rs D).T.length<=n+1
 | [],D,H,hlen=>⟨H,by simp[tid],rfl,hlen⟩
 |x::rs,D,H,hlen=>by
  obtain⟨r1,r2,r3,r4⟩:=KC h1 hl (oU D.T+1) D.T x D.G D.q H ω;obtain⟨t1,t2,t3,t4⟩:=UR h1 hl rs _ r1 ω;have e:tid lt (x::rs) D=tid lt rs (KV lt (oU D.T+1) D.T x D.G D.q):=rfl;rw[e];exact⟨t1,by rw[t2,Ω];omega,t3.trans r3,t4⟩
end
section
variable{n:Nat}{G:FG}{bX:Nat->Int}{L:Nat->Nat->Prop}{ex:Nat->Nat}
theorem FF.rQ(H:FF n G bX L ex){a x:Nat}(hx:x<n)(ua:G.up a=-1):a∉G.K x:=λhm=>by
 have:=(H.kid x a hx hm).2;omega
theorem FF.Nj(H:FF n G bX L ex){a b:Nat}(ha:a<n)(hb:b<n)(ua:G.up a=-1)(ub:G.up b=-1)(h0a:0<bX a)(h0b:0<bX b):FF n (Nj G a b) bX L ex:=
 ⟨H.rg.swap ha hb,H.kid,H.Gu,λx hx=>(H.ring x hx).mU (H.rQ hx ua) (H.rQ hx ub),H.home,H.ord,λy hy h0=>by
  obtain⟨h1,h2,h3⟩:=H.alone y hy h0
  exact ⟨h1,h2,by show dP G.nx a b y=y;rw [iZ (λe=>h0 (by rw [e];exact h0a)) (λe=>h0 (by rw [e];exact h0b))];exact h3⟩,H.free,H.cnt⟩
theorem FF.cO(H:FF n G bX L ex)(R:Nat->List Nat):FF n { G with R:=R } bX L ex:=⟨H.rg,H.kid,H.Gu,H.ring,H.home,H.ord,H.alone,H.free,H.cnt⟩
theorem FF.mono{L':Nat->Nat->Prop}{oq:Nat->Int}(H:FF n G bX L ex)(hL:∀y p:Nat,y<n->G.up y=p->L p y->oq y=oq p/\0<oq y/\L' p y)(ha:∀y,y<n->¬0<oq y->G.up y=-1/\G.K y=[]/\G.nx y=y):FF n G oq L' ex:=
 ⟨H.rg,H.kid,H.Gu,H.ring,λy p hy hu=>⟨(hL y p hy hu (H.ord y p hy hu)).1,(hL y p hy hu (H.ord y p hy hu)).2.1⟩,λy p hy hu=>(hL y p hy hu (H.ord y p hy hu)).2.2,ha,H.free,H.cnt⟩
def kl(l:List Nat):List Nat:=match l with|[]=>[]|k::t=>t++[k]
theorem MW(l:List Nat):(kl l).Perm l:=by
 cases l with
 |nil=>exact ό _
 |cons k t=>exact Φ (l₁:=t) (l₂:=[k])
theorem Kk{l:List Nat}{z:Nat}:z∈kl l↔z∈l:=(MW l).mem_iff
theorem Um(l:List Nat):(kl l).length=l.length:=(MW l).length_eq
theorem Nl(G:FG)(x:Nat):(bM G x).R=G.R:=by unfold bM;cases G.K x<;>rfl
theorem zO(G:FG)(x:Nat):(bM G x).K=ah G.K x []:=by
 unfold bM;cases hK:G.K x with
 |nil=>funext z;unfold ah;by_cases e:z=x<;>simp[e,hK]
 |cons k t=>rfl
theorem Ao(G:FG){x:Nat}(ux:G.up x=-1)(z:Nat):(bM G x).up z=if z∈G.K x then -1 else G.up z:=by
 unfold bM;cases hK:G.K x with
 |nil=>simp
 |cons k t=>
  show ah (λz=>if z∈k::t then(-1:Int) else G.up z) x (-1) z=_
  unfold ah
  by_cases e:z=x
  ·rw[Δ e];split;rfl;rw[e,ux]
  ·rw[Γ e]
theorem Jj(G:FG){x:Nat}(mx:G.mr x=false)(z:Nat):(bM G x).mr z=if z∈G.K x then false else G.mr z:=by
 unfold bM;cases hK:G.K x with
 |nil=>simp
 |cons k t=>
  show ah (λz=>if z∈k::t then false else G.mr z) x false z=_
  unfold ah
  by_cases e:z=x
  ·rw[Δ e];split;rfl;rw[e,mx]
  ·rw[Γ e]
theorem Bl(G:FG)(x:Nat):(bM G x).nx=match G.K x with|[]=>G.nx|k::_=>dP G.nx x k:=by unfold bM;cases G.K x<;>rfl
theorem UM(G:FG)(x:Nat):(bM G x).pv=match G.K x with|[]=>G.pv|k::_=>jw G.nx G.pv x k:=by unfold bM;cases G.K x<;>rfl
theorem FF.raise(H:FF n G bX L ex){x:Nat}(hx:x<n)(ux:G.up x=-1)(h0:0<bX x) :
  FF n (bM G x) bX L ex/\(∀l,Ring G.nx l->x∉l->(∀z,z∈l->z∉G.K x)->Ring (bM G x).nx l)/\
   (∀a b,Ring G.nx (a++x::b)->(∀z,z∈a++x::b->z∉G.K x)->Ring (bM G x).nx (a++x::(kl (G.K x)++b))):=by
 have mx:=H.free x hx ux;have up:=Ao G ux;have mr:=Jj G mx;have far:∀z,z≠x->z∉G.K x->(bM G x).nx z=G.nx z:=λz h1 h2=>by
  rw[Bl];cases hK:G.K x with
  |nil=>rfl
  |cons k t=>exact iZ h1 (λe=>h2 (by rw[hK,e];simp))
 have rl:∀l,Ring G.nx l->x∉l->(∀z,z∈l->z∉G.K x)->Ring (bM G x).nx l:=λl hl h1 h2=>hl.far (λz hz=>far z (λe=>h1 (e▸hz)) (h2 z hz));have oth:∀a,a<n->a≠x->∀z,z∈G.K a->z≠x/\z∉G.K x:=λa ha hne z hz=>by
  have:=(H.kid a z ha hz).2;exact⟨λe=>by subst e;omega,λhm=>by have:=(H.kid x z hx hm).2;omega⟩
 have kn:∀a,a≠x->(bM G x).K a=G.K a:=λa ha=>by rw[zO,aZ _ _ ha]
 have kx:(bM G x).K x=[]:=by rw[zO,bK]
 refine⟨⟨?_,λa y ha hy=>?_,λy hy=>?_,λa ha=>?_,λy p hy hu=>?_,λy p hy hu=>?_,λy hy h1=>?_,λy hy hu=>?_,λa d ha=>?_⟩,rl,λa b hr hd=>?_⟩
 ·rw[Bl,UM];cases hK:G.K x with
  |nil=>exact H.rg
  |cons k t=>exact H.rg.swap hx (H.kid x k hx (by rw[hK];simp)).1
 ·by_cases e:a=x
  ·subst e;rw[kx] at hy;cases hy
  ·rw[kn a e] at hy;have:=oth a ha e y hy;exact⟨(H.kid a y ha hy).1,by rw[up,Γ this.2];exact(H.kid a y ha hy).2⟩
 ·rw[up]
  by_cases e:y∈G.K x
  ·rw[Δ e];exact Α rfl
  ·rw[Γ e];rcases H.Gu y hy with h1|⟨p,hp,h1,h2⟩
   ·exact Α h1
   ·have hpx:p≠x:=λe2=>e (e2▸h2);exact Β ⟨p,hp,h1,by rw[kn p hpx];exact h2⟩
 ·by_cases e:a=x
  ·subst e;rw[kx];exact Ring.nil _
  ·rw[kn a e];exact rl _ (H.ring a ha) (λhm=>(oth a ha e x hm).1 rfl) (λz hz=>(oth a ha e z hz).2)
 ·rw[up] at hu
  split at hu
  ·omega
  ·exact H.home y p hy hu
 ·rw[up] at hu
  split at hu
  ·omega
  ·exact H.ord y p hy hu
 ·obtain⟨a1,a2,a3⟩:=H.alone y hy h1;have hyx:y≠x:=λe=>h1 (by rw[e];exact h0);have hyk:y∉G.K x:=H.rQ hx a1;exact⟨by rw[up,Γ hyk];exact a1,by rw[kn y hyx];exact a2,by rw[far y hyx hyk];exact a3⟩
 ·rw[up] at hu;rw[mr]
  split
  ·rfl
  ·rename_i hk
   rw[Γ hk] at hu;exact H.free y hy hu
 ·by_cases e:a=x
  ·subst e;rw[kx];exact Nat.zero_le _
  ·rw [kn a e,uQ (G:=G) (ex:=ex) d (λc hc=>by
    have:=oth a ha e c hc
    rw [kn c this.1,mr,Γ this.2])]
   exact H.cnt a d ha
 ·have hk:=H.ring x hx;rw[Bl];cases hK:G.K x with
  |nil=>simpa[kl] using hr
  |cons k t=>
   rw[hK] at hk hd;have h1:Ring G.nx (x::(b++a)):=Ring.Vv (a:=a) (b:=x::b) hr;have h2:=Ring.join h1 hk (λz hz=>hd z (by simp only[ρ,τ] at hz ⊢;rcases hz with h|h|h<;>simp[h]));have h3:Ring (dP G.nx x k) ((x::(t++k::b))++a):=by simpa using h2
   have h4:=Ring.Vv h3;simpa[kl] using h4
def vI(l:List Nat)(G:FG):FG:=l.foldl prt G
theorem yV:∀(l:List Nat) (G:FG),(vI l G).up=G.up/\(vI l G).mr=G.mr/\(vI l G).K=G.K/\(vI l G).R=G.R
 | [],G=>⟨rfl,rfl,rfl,rfl⟩
 |x::t,G=>by
  obtain⟨h1,h2,h3,h4⟩:=yV t (prt G x);exact⟨h1,h2,h3,h4⟩
theorem MK:∀(l:List Nat) (G:FG),FF n G bX L ex->Ring G.nx l->(∀z,z∈l->z<n/\G.up z=-1/\0<bX z)->
  FF n (vI l G) bX L ex/\(∀z,z∈l->(vI l G).nx z=z)/\(∀l',Ring G.nx l'->(∀z,z∈l'->z∉l)->Ring (vI l G).nx l')
 | [],G,H,hr,hl=>⟨H,λz hz=>(by cases hz),λl' h _=>h⟩
 |x::t,G,H,hr,hl=>by
  have hx:=hl x σ;obtain⟨p1,p2⟩:=H.rg.part hr (λz hz=>(hl z hz).1);have hpm:G.pv x∈x::t:=by
   rcases List.eq_nil_or_concat t with rfl|⟨a,y,e⟩
   ·have e1:=iM.1 hr;have:=H.rg.pn x hx.1;rw[e1] at this;simp[this]
   ·rw[List.concat_eq_append] at e;subst e;have:=H.rg.last (x:=x) (y:=y) (a:=a) hr (hl y σ).1;rw[this];simp
  have hp:=hl _ hpm;have H1:FF n (prt G x) bX L ex:=H.Nj hx.1 hp.1 hx.2.1 hp.2.1 hx.2.2 hp.2.2;have hnd:=Ζ.1 hr.nd;obtain⟨r1,r2,r3⟩:=MK t (prt G x) H1 p2 (λz hz=>hl z (by simp[hz]));refine⟨r1,λz hz=>?_,λl' h' hd=>r3 l' (h'.mU (λhm=>hd x hm σ) (λhm=>hd _ hm hpm)) (λz hz hm=>hd z hz (by simp[hm]))⟩;rcases ρ.1 hz with rfl|hz
  ·exact iM.1 (r3 [z] p1 (λy hy=>by simp at hy;subst hy;exact hnd.1))
  ·exact r2 z hz
theorem KW(b:Bool)(R l:List Nat):(wR b R l).Perm (R++l):=by
 unfold wR;cases R with
 |nil=>exact ό _
 |cons t s=>
  cases l with
  |nil=>simp
  |cons x r=>
   simp only
   split
   ·exact Φ (l₁:=x::s) (l₂:=t::r) |>.trans (by
     show(t::(r++x::s)).Perm (t::(s++x::r))
     refine List.Perm.cons t ?_
     exact List.perm_middle.trans ((List.Perm.cons x Φ).trans List.perm_middle.symm))
   ·show(t::(r++x::s)).Perm (t::(s++x::r))
    refine List.Perm.cons t ?_;exact List.perm_middle.trans ((List.Perm.cons x Φ).trans List.perm_middle.symm)
theorem rE(lt:Nat->Nat->Bool)(h:Nat)(l:List Nat)(G:FG):(gH lt h l G).up=G.up/\(gH lt h l G).mr=G.mr/\(gH lt h l G).K=G.K/\∀g,g≠h->(gH lt h l G).R g=G.R g:=by
 unfold gH
 split
 ·exact⟨rfl,rfl,rfl,λg hg=>aZ _ _ hg⟩
 ·exact⟨rfl,rfl,rfl,λg hg=>aZ _ _ hg⟩
theorem wm{lt:Nat->Nat->Bool}{h x:Nat}{r:List Nat}(H:FF n G bX L ex)(h1:1<=h)(hl:Lh n G bX h L lt)(tr:∀a b c,L a b->L b c->L a c)(hR:Ring G.nx (G.R h))(hx:Ring G.nx (x::r))(hd:∀z,z∈G.R h->z∉x::r)
  (mR:∀z,z∈G.R h->wO n G bX h z) (mx:∀z,z∈x::r->wO n G bX h z) (tR:∀t s,G.R h=t::s->∀y,y∈s->L t y) (tx:∀y,y∈r->L x y) :
  FF n (gH lt h (x::r) G) bX L ex/\Ring (gH lt h (x::r) G).nx ((gH lt h (x::r) G).R h)/\((gH lt h (x::r) G).R h).Perm (G.R h++x::r)/\
   (∀t s,(gH lt h (x::r) G).R h=t::s->∀y,y∈s->L t y)/\(∀l',Ring G.nx l'->(∀z,z∈l'->z∉G.R h/\z∉x::r)->Ring (gH lt h (x::r) G).nx l'):=by
 cases hRR:G.R h with
 |nil=>
  have e:gH lt h (x::r) G={ G with R:=ah G.R h (x::r) }:=by unfold gH;rw[hRR]
  rw[e];have eR:ah G.R h (x::r) h=x::r:=bK _ _ _;simp only[eR];exact⟨H.cO _,hx,ό _,λt s e y hy=>by injection e with e1 e2;subst e1 e2;exact tx y hy,λl' h _=>h⟩
 |cons t s=>
  have e:gH lt h (x::r) G={ Nj G t x with R:=ah G.R h (wR (lt x t) (t::s) (x::r)) }:=by unfold gH;rw[hRR]
  rw[e];rw[hRR] at hR hd mR;have ht:=mR t σ;have Ce:=mx x σ;have hne:x≠t:=λe=>hd t σ (by simp[e]);have h0:(0:Int)<bX t/\(0:Int)<bX x:=⟨by rw[ht.2.2];omega,by rw[Ce.2.2];omega⟩;have hk:=hl x t Ce.1 ht.1 Ce.2.2 ht.2.2 hne;have eR:ah G.R h (wR (lt x t) (t::s) (x::r)) h=wR (lt x t) (t::s) (x::r):=bK _ _ _;have hj:Ring (dP G.nx t x) (t::r++x::s):=Ring.join hR hx hd;have hts:=tR t s hRR;simp only[eR];refine⟨(H.Nj ht.1 Ce.1 ht.2.1 Ce.2.1 h0.1 h0.2).cO _,?_,KW _ _ _,λt' s' e' y hy=>?_,λl' hl' hd'=>hl'.mU (λhm=>(hd' t hm).1 σ) (λhm=>(hd' x hm).2 σ)⟩
  ·show Ring (dP G.nx t x) _
   unfold wR;simp only;cases hb:lt x t with
   |true=>exact Ring.Vv (a:=t::r) (b:=x::s) hj
   |false=>exact hj
  ·unfold wR at e';simp only at e';cases hb:lt x t with
   |true=>
    rw[hb] at hk;rw[hb,Δ rfl] at e';have hxt:=hk.1 rfl;have e1:x=t':=by injection e'
    have e2:s++t::r=s':=by injection e'
    subst e1 e2;simp only[τ,ρ] at hy;rcases hy with hy|rfl|hy
    ·exact tr _ _ _ hxt (hts y hy)
    ·exact hxt
    ·exact tx y hy
   |false=>
    rw[hb] at hk;rw[hb,Γ σ] at e';have htx:=hk.2 rfl;have e1:t=t':=by injection e'
    have e2:r++x::s=s':=by injection e'
    subst e1 e2;simp only[τ,ρ] at hy;rcases hy with hy|rfl|hy
    ·exact tr _ _ _ htx (tx y hy)
    ·exact htx
    ·exact hts y hy
end
def qX(lt:Nat->Nat->Bool)(h:Nat):List Int->FG->Nat->FG×Nat
 | [],G,q=>(G,q)
 |y::t,G,q=>if y=-1 then qX lt h t G q else qX lt h t (gH lt h [y.toNat] G) (q+qw h G)
def Jo(T:List Int):List Nat:=T.filterMap (λy=>if y=-1 then none else some y.toNat)
theorem tZ(y:Int)(t:List Int):Jo (y::t)=if y=-1 then Jo t else y.toNat::Jo t:=by
 unfold Jo;rw[List.filterMap_cons];split<;>rename_i h<;>by_cases e:y=-1<;>simp_all
theorem NB:∀T:List Int,(Jo T).length=oU T
 | []=>rfl
 |y::t=>by
  rw[tZ];have ih:=NB t;unfold oU at *
  by_cases e:y=-1
  ·rw[Δ e,List.filter_cons_of_neg (by simpa using e)];exact ih
  ·rw[Γ e,List.filter_cons_of_pos (by simpa using e)];simp[ih]
structure BD(n:Nat)(bX:Nat->Int)(L:Nat->Nat->Prop)(h:Nat)(ps:List Nat)(G:FG):Prop where
 ff:FF n G bX L (λ_=>0)
 fr:FR n G bX L (some h)
 ring:Ring G.nx (G.R h)
 top:∀t s,G.R h=t::s->∀y,y∈s->L t y
 mem:∀y,y∈G.R h->wO n G bX h y
 nd:ps.Nodup
 pr:∀z,z∈ps->wO n G bX h z/\G.nx z=z/\z∉G.R h
 all:∀z,wO n G bX h z->z∈G.R h\/z∈ps
section
variable{n:Nat}{bX:Nat->Int}{L:Nat->Nat->Prop}{h:Nat}{G:FG}
theorem BD.step{lt:Nat->Nat->Bool}{z:Nat}{ps:List Nat}(H:BD n bX L h (z::ps) G)(h1:1<=h)(hl:∀G,Lh n G bX h L lt)(tr:∀a b c,L a b->L b c->L a c) :
  BD n bX L h ps (gH lt h [z] G)/\((gH lt h [z] G).R h).length=(G.R h).length+1:=by
 obtain⟨z1,z2,z3⟩:=H.pr z σ;have hnd:=Ζ.1 H.nd;obtain⟨c1,c2,c3,c4,c5⟩:=wm H.ff h1 (hl G) tr H.ring (iM.2 z2) (λy hy hm=>by simp at hm;subst hm;exact z3 hy) H.mem (λy hy=>by simp at hy;subst hy;exact z1) H.top (λy hy=>by cases hy);obtain⟨s1,s2,s3,s4⟩:=rE lt h [z] G;have rt:∀g y,wO n (gH lt h [z] G) bX g y↔wO n G bX g y:=λg y=>by unfold wO;rw[s1]
 have mem':∀y,y∈(gH lt h [z] G).R h↔y∈G.R h\/y=z:=λy=>by rw[c3.mem_iff];simp
 refine⟨⟨c1,⟨λg hg=>?_,λg y hg=>?_,λg t s hg hR=>?_⟩,c2,c4,λy hy=>?_,hnd.2,λy hy=>?_,λy hy=>?_⟩,by rw[c3.length_eq];simp⟩
 ·have hgh:g≠h:=λe=>hg (by rw[e]);rw[s4 g hgh];refine c5 _ (H.fr.ring g hg) (λy hy=>?_);have hm:=(H.fr.mem g y hg).1 hy;refine⟨λhm2=>hgh ?_,λhm2=>hgh ?_⟩
  ·have:=(H.mem y hm2).2.2;have:=hm.2.2.2;omega
  ·simp at hm2;subst hm2;have:=z1.2.2;have:=hm.2.2.2;omega
 ·have hgh:g≠h:=λe=>hg (by rw[e]);rw[s4 g hgh,s1];exact H.fr.mem g y hg
 ·have hgh:g≠h:=λe=>hg (by rw[e]);rw[s4 g hgh] at hR;exact H.fr.top g t s hg hR
 ·rw[rt];rcases(mem' y).1 hy with hy|rfl
  ·exact H.mem y hy
  ·exact z1
 ·obtain⟨y1,y2,y3⟩:=H.pr y (by simp[hy]);have Tu:y≠z:=λe=>hnd.1 (e▸hy);refine⟨(rt h y).2 y1,iM.1 (c5 [y] (iM.2 y2) (λw hw=>by simp at hw;subst hw;exact⟨y3,by simpa using Tu⟩)),λhm=>?_⟩;rcases(mem' y).1 hm with hm|hm
  ·exact y3 hm
  ·exact Tu hm
 ·rcases H.all y ((rt h y).1 hy) with a|a
  ·exact Α ((mem' y).2 (Α a))
  ·rcases ρ.1 a with a|a
   ·exact Α ((mem' y).2 (Β a))
   ·exact Β a
theorem DZ(h:Nat)(G:FG):qw h G=min 1 (G.R h).length:=by
 unfold qw;cases G.R h with
 |nil=>simp
 |cons t s=>simp
theorem J8{lt:Nat->Nat->Bool}(h1:1<=h)(hl:∀G,Lh n G bX h L lt)(tr:∀a b c,L a b->L b c->L a c):∀(T:List Int) (G:FG) (q:Nat),BD n bX L h (Jo T) G->
  BD n bX L h [] (qX lt h T G q).1/\((qX lt h T G q).1.up=G.up/\(qX lt h T G q).1.mr=G.mr/\(qX lt h T G q).1.K=G.K/\∀g,g≠h->(qX lt h T G q).1.R g=G.R g)/\
   ((qX lt h T G q).1.R h).Perm (G.R h++Jo T)/\(qX lt h T G q).2+min 1 ((qX lt h T G q).1.R h).length=q+oU T+min 1 (G.R h).length
 | [],G,q,H=>⟨H,⟨rfl,rfl,rfl,λ_ _=>rfl⟩,by simp[Jo,qX],by simp[qX,oU]⟩
 |y::t,G,q,H=>by
  rw[tZ] at H;unfold qX
  by_cases e:y=-1
  ·rw[Δ e] at H ⊢;obtain⟨r1,r2,r3,r4⟩:=J8 h1 hl tr t G q H;refine⟨r1,r2,by rw[tZ,Δ e];exact r3,?_⟩;have:oU (y::t)=oU t:=by unfold oU;rw[List.filter_cons_of_neg (by simpa using e)]
   rw[this];exact r4
  ·rw[Γ e] at H ⊢;obtain⟨k1,k2⟩:=H.step h1 hl tr;obtain⟨s1,s2,s3,s4⟩:=rE lt h [y.toNat] G;obtain⟨r1,r2,r3,r4⟩:=J8 h1 hl tr t _ (q+qw h G) k1;have hp:((gH lt h [y.toNat] G).R h).Perm (G.R h++[y.toNat]):=by
    obtain⟨z1,z2,z3⟩:=H.pr y.toNat σ;exact(wm H.ff h1 (hl G) tr H.ring (iM.2 z2) (λw hw hm=>by simp at hm;subst hm;exact z3 hw) H.mem (λw hw=>by simp at hw;subst hw;exact z1) H.top (λw hw=>by cases hw)).2.2.1
   refine⟨r1,⟨r2.1.trans s1,r2.2.1.trans s2,r2.2.2.1.trans s3,λg hg=>(r2.2.2.2 g hg).trans (s4 g hg)⟩,?_,?_⟩
   ·rw[tZ,Γ e];exact r3.trans ((hp.append_right (Jo t)).trans σ)
   ·have:oU (y::t)=oU t+1:=by unfold oU;rw[List.filter_cons_of_pos (by simpa using e)];rfl
    rw[this];rw[DZ] at r4;rw[DZ];omega
theorem TT.degs{T:List Int}(H:TT n bX L h T [] G):(Jo T).Pairwise (λa b=>(G.K a).length≠(G.K b).length):=by
 unfold Jo;rw[List.pairwise_filterMap,List.pairwise_iff_getElem];intro i j hi hj hij a ha b hb;have f:∀(i:Nat) (hi:i<T.length) (a:Nat),(if T[i]=-1 then none else some T[i].toNat)=some a->(G.K a).length=i:=λi hi a ha=>by
  rcases H.tab i T[i] (ε hi) with e|⟨z,e1,_,e2,_⟩
  ·rw[Δ e] at ha;cases ha
  ·rw[Γ ω] at ha;have:T[i].toNat=a:=by injection ha
   obtain rfl:z=a:=ω;exact e2
 rw[f i hi a ha,f j hj b hb];omega
theorem TT.ri{T:List Int}(H:TT n bX L h T [] G):BD n bX L h (Jo T) G:=by
 have hm:∀z,z∈Jo T↔(z:Int)∈T:=λz=>by
  unfold Jo;rw[List.mem_filterMap];constructor
  ·rintro⟨y,hy,e⟩
   by_cases e1:y=-1
   ·rw[Δ e1] at e;cases e
   ·rw[Γ e1] at e;have e2:y.toNat=z:=by injection e
    obtain⟨i,hi⟩:=List.mem_iff_getElem?.1 hy;rcases H.tab i y hi with e3|⟨w,e3,_⟩
    ·exact absurd e3 e1
    ·rw[show(z:Int)=y by omega];exact hy
  ·intro hz;exact⟨z,hz,by rw[Γ ω];simp⟩
 refine⟨H.ff,H.fr,by rw[H.zero];exact Ring.nil _,λt s e=>(by rw[H.zero] at e;cases e),λy hy=>(by rw[H.zero] at hy;cases hy),H.degs.imp (λ{a b} hab e=>hab (by rw[e])),λz hz=>?_,λz hz=>?_⟩
 ·obtain⟨i,hi⟩:=List.mem_iff_getElem?.1 ((hm z).1 hz);rcases H.tab i z hi with e3|⟨w,e3,e4,_⟩
  ·omega
  ·obtain rfl:z=w:=ω;exact⟨e4,H.one z e4,by rw[H.zero];simp⟩
 ·rcases H.all z hz with a|a
  ·cases a
  ·exact Β ((hm z).2 a)
end
structure xC(A:NS)(G:FG):Prop where
 ff:FF A.cs.length G (λy=>(A.c y).i) (dB A) (λ_=>0)
 fr:FR A.cs.length G (λy=>(A.c y).i) (dB A) none
theorem FR.all{n:Nat}{G:FG}{bX:Nat->Int}{L:Nat->Nat->Prop}(H:FR n G bX L none)(h:Nat):Ring G.nx (G.R h)/\(∀y,y∈G.R h↔1<=h/\wO n G bX h y)/\∀t s,G.R h=t::s->∀y,y∈s->L t y:=
 ⟨H.ring h σ,λy=>H.mem h y σ,λt s e=>H.top h t s σ e⟩
section
variable{A:NS}{G:FG}
theorem xC.tL(I:xC A G){h:Int}{m:Nat}(hm:dN A h=some m):wO A.cs.length G (λy=>(A.c y).i) h.toNat m/\1<=h.toNat:=by
 have h0:0<h:=by
  apply ϙ;intro hn;rw[qm hn] at hm;cases hm
 obtain⟨h1,h2,h3⟩:=(iY h0).1 hm;refine⟨⟨h1,?_,by show(A.c m).i=_;rw[h2];omega⟩,by omega⟩;rcases I.ff.Gu m h1 with e|⟨p,hp,e,_⟩
 ·exact e
 ·have ho:=I.ff.ord m p h1 e;have hh:=(I.ff.home m p h1 e).1;have hh':(A.c m).i=(A.c p).i:=hh;rcases h3 p hp (by rw[←hh',h2]) with e2|e2
  ·subst e2;exact absurd ho pE
  ·exact absurd ho (p9 e2)
theorem xC.jL(I:xC A G){h:Nat}{t:Nat}{s:List Nat}(hR:G.R h=t::s):dN A (h:Int)=some t/\1<=h/\t<A.cs.length/\G.up t=-1/\(A.c t).i=h:=by
 obtain⟨r1,r2,r3⟩:=I.fr.all h;obtain⟨h1,t1,t2,t3⟩:=(r2 t).1 (by rw[hR];simp);have t3':(A.c t).i=(h:Int):=t3;refine⟨?_,h1,t1,t2,t3'⟩;cases hm:dN A (h:Int) with
 |none=>
  have:=(jF ω).1 hm;have hp:0<dD A (h:Int):=fM.2 ⟨t,t1,t3',ω⟩;omega
 |some m=>
  obtain⟨m1,m2⟩:=I.tL hm;rw[π] at m1;have hmem:=(r2 m).2 ⟨h1,m1⟩;rw[hR] at hmem;rcases ρ.1 hmem with e|e
  ·rw[e]
  ·have a1:=r3 t s hR m e;obtain⟨_,_,h3⟩:=(iY ω).1 hm;rcases h3 t t1 t3' with e2|e2
   ·rw[e2]
   ·exact absurd a1 (p9 e2)
theorem xC.Ip(I:xC A G){h:Nat}(hR:G.R h=[]):dN A (h:Int)=none:=by
 cases hm:dN A (h:Int) with
 |none=>rfl
 |some m=>
  obtain⟨m1,m2⟩:=I.tL hm;rw[π] at m1 m2;have:=((I.fr.all h).2.1 m).2 ⟨m2,m1⟩;rw[hR] at this;cases this
theorem xC.first(I:xC A G){h:Nat}{t:Nat}{s:List Nat}(hR:G.R h=t::s){y:Nat}(hy:y<A.cs.length)(hh:(A.c y).i=h)(hne:y≠t):dB A t y:=by
 obtain⟨m1,m2,_⟩:=I.jL hR;obtain⟨_,_,h3⟩:=(iY ω).1 m1;exact(h3 y hy hh).resolve_left hne
theorem xC.out(I:xC A G){h:Nat}{z:Nat}(hz:z∈G.R h):1<=h/\z<A.cs.length/\G.up z=-1/\(A.c z).i=h/\bY A (z:Int)=true:=by
 obtain⟨h1,t1,t2,t3⟩:=((I.fr.all h).2.1 z).1 hz;have t3':(A.c z).i=(h:Int):=t3;exact⟨h1,t1,t2,t3',(aj _ _).2 ⟨t1,ω⟩⟩
end
def nu(A:NS)(a b:Nat):Bool:=decide (dB A a b)
theorem yZ(A:NS)(n:Nat)(G:FG)(bX:Nat->Int)(h:Nat):Lh n G bX h (dB A) (nu A):=λa b _ _ _ _ hne=>
 ⟨λe=>by unfold nu at e;simpa using e,λe=>by
  unfold nu at e;have e':¬dB A a b:=by simpa using e
  exact (jc hne).resolve_left e'⟩
def pM(h x:Nat)(rs:List Nat)(G:FG):FG:={ vI (x::rs) (bM G x) with R:=ah G.R h [] }
def tK(A:NS)(h x:Nat)(rs:List Nat)(G:FG):TD:=tid (nu A) rs ⟨[],pM h x rs G,0⟩
def sF(A:NS)(h x:Nat)(rs:List Nat)(G:FG):FG×Nat:=qX (nu A) h (tK A h x rs G).T (tK A h x rs G).G 0
section
variable{A:NS}{G:FG}
theorem aa6(I:xC A G)(ok:A.Ok){h x:Nat}{s:List Nat}(hR:G.R h=x::s) :
  (Ring (bM G x).nx (x::(kl (G.K x)++s))/\(∀z,z∈x::(kl (G.K x)++s)->z<A.cs.length))/\
  TT A.cs.length (λy=>((bg A x).c y).i) (dB A) h [] (kl (G.K x)++s) (pM h x (kl (G.K x)++s) G)/\
  (∀z,z<A.cs.length->((bg A (x:Int)).c z).i=(h:Int)->bY A (z:Int)=true)/\
  BD A.cs.length (λy=>((bg A x).c y).i) (dB A) h (Jo (tK A h x (kl (G.K x)++s) G).T) (tK A h x (kl (G.K x)++s) G).G/\(tK A h x (kl (G.K x)++s) G).G.R h=[]/\
  xC (bg A x) (sF A h x (kl (G.K x)++s) G).1/\
  (tK A h x (kl (G.K x)++s) G).q+(sF A h x (kl (G.K x)++s) G).2<=(G.K x).length+s.length/\
  (tK A h x (kl (G.K x)++s) G).q+((sF A h x (kl (G.K x)++s) G).1.R h).length=(G.K x).length+s.length/\
  (((sF A h x (kl (G.K x)++s) G).1.R h).Pairwise (λa b=>((sF A h x (kl (G.K x)++s) G).1.K a).length≠((sF A h x (kl (G.K x)++s) G).1.K b).length))/\
  (∀g,g≠h->(sF A h x (kl (G.K x)++s) G).1.R g=G.R g)/\(∀y,y∈(tK A h x (kl (G.K x)++s) G).T->y=-1\/0<=y)/\(tK A h x (kl (G.K x)++s) G).T.length<=A.cs.length+1/\(sF A h x (kl (G.K x)++s) G).1.mr=(tK A h x (kl (G.K x)++s) G).G.mr:=by
 obtain⟨m1,h1,hx,ux,hxh⟩:=I.jL hR;obtain⟨_,_,_,_,hin⟩:=I.out (h:=h) (z:=x) (by rw[hR];simp);have hc:=λy=>yA hin y;have hcl:=fD A (x:Int);have h0:(0:Int)<(A.c x).i:=ω;obtain⟨rF,r1,r2⟩:=I.ff.raise hx ux h0;have mx:=I.ff.free x hx ux;have YH:=Ao G ux;have K1:=zO G x;obtain⟨q1,q2,q3⟩:=I.fr.all h;rw[hR] at q1;have x8:∀z,G.up z=-1->z∉G.K x:=λz hz=>I.ff.rQ hx hz;have TP:Ring (bM G x).nx (x::(kl (G.K x)++s)):=by
  have:=r2 [] s q1 (λz hz=>x8 z (((q2 z).1 (by rw[hR];exact hz)).2.2.1));exact this
 have sr:∀z,z∈s->wO A.cs.length G (λy=>(A.c y).i) h z:=λz hz=>((q2 z).1 (by rw[hR];simp[hz])).2;have kr:∀z,z∈G.K x->z<A.cs.length/\G.up z=x/\(A.c z).i=h:=λz hz=>by
  obtain⟨k1,k2⟩:=I.ff.kid x z hx hz;have k3:(A.c z).i=(A.c x).i:=(I.ff.home z x k1 k2).1;exact⟨k1,k2,ω⟩
 have rsm:∀z,z∈kl (G.K x)++s↔z∈G.K x\/z∈s:=λz=>by simp[Kk]
 have aar:∀z,z∈x::(kl (G.K x)++s)->z<A.cs.length/\(bM G x).up z=-1/\0<(A.c z).i:=λz hz=>by
  rw[YH];rcases ρ.1 hz with rfl|hz
  ·exact⟨hx,by rw[ux];split<;>rfl,h0⟩
  ·rcases(rsm z).1 hz with hz|hz
   ·exact⟨(kr z hz).1,by rw[Δ hz],by have:=(kr z hz).2.2;omega⟩
   ·have a:=sr z hz;have a3:(A.c z).i=h:=a.2.2;exact⟨a.1,by rw[Γ (x8 z a.2.1)];exact a.2.1,ω⟩
 have hnd:=Ζ.1 TP.nd;obtain⟨p1,p2,p3⟩:=MK (x::(kl (G.K x)++s)) (bM G x) rF TP aar;obtain⟨e1,e2,e3,e4⟩:=yV (x::(kl (G.K x)++s)) (bM G x);have up3:∀z,(pM h x (kl (G.K x)++s) G).up z=if z∈G.K x then -1 else G.up z:=λz=>by
  show(vI (x::(kl (G.K x)++s)) (bM G x)).up z=_
  rw[e1,YH]
 have K3:(pM h x (kl (G.K x)++s) G).K=ah G.K x []:=by
  show(vI (x::(kl (G.K x)++s)) (bM G x)).K=_
  rw[e3,K1]
 have upx:(pM h x (kl (G.K x)++s) G).up x=-1:=by rw[up3,ux];split<;>rfl
 have oq:∀z,z≠x->((bg A (x:Int)).c z).i=(A.c z).i:=λz hz=>by rw[hc,Γ hz]
 have yo:((bg A (x:Int)).c x).i=0:=by rw[hc,Δ rfl];rfl
 have F3:FF A.cs.length (pM h x (kl (G.K x)++s) G) (λy=>((bg A (x:Int)).c y).i) (dB A) (λ_=>0):=by
  refine(p1.cO (ah G.R h [])).mono (λy p hy hu ho=>?_) (λy hy h2=>?_)
  ·have hu':(pM h x (kl (G.K x)++s) G).up y=p:=hu;have hyx:y≠x:=λe=>by subst e;rw[upx] at hu';omega
   have hpx:p≠x:=λe=>by
    have hk:=(p1.cO (ah G.R h [])).above hy hu;have hk2:y∈(pM h x (kl (G.K x)++s) G).K p:=hk.2;rw[K3,e,bK] at hk2;cases hk2
   have hh:=p1.home y p hy hu;have Cj:(A.c y).i=(A.c p).i:=hh.1;have hh2:0<(A.c y).i:=hh.2;exact⟨by simp only[oq y hyx,oq p hpx];exact Cj,by simp only[oq y hyx];exact hh2,ho⟩
  ·by_cases e:y=x
   ·subst e;exact⟨upx,by show(pM h y (kl (G.K y)++s) G).K y=[];rw[K3,bK],p2 y σ⟩
   ·have h3:¬0<(A.c y).i:=by simp only[oq y e] at h2;exact h2
    exact p1.alone y hy h3
 have rt3:∀g z,wO A.cs.length (pM h x (kl (G.K x)++s) G) (λy=>((bg A (x:Int)).c y).i) g z->1<=g->z≠x/\(A.c z).i=g/\(z∈G.K x\/G.up z=-1):=λg z hz hg=>by
  obtain⟨a1,a2,a3⟩:=hz;have hzx:z≠x:=λe=>by subst e;simp only[yo] at a3;omega
  simp only[oq z hzx] at a3;rw[up3] at a2;refine⟨hzx,a3,?_⟩
  split at a2
  ·rename_i hk;exact Α hk
  ·exact Β a2
 have R3:∀g,g≠h->(pM h x (kl (G.K x)++s) G).R g=G.R g:=λg hg=>aZ _ _ hg;have fr3:FR A.cs.length (pM h x (kl (G.K x)++s) G) (λy=>((bg A (x:Int)).c y).i) (dB A) (some h):=by
  refine⟨λg hg=>?_,λg z hg=>?_,λg t s' hg hR'=>?_⟩
  all_goals have hgh:g≠h:=λe=>hg (by rw[e])
  ·rw[R3 g hgh];obtain⟨a1,a2,_⟩:=I.fr.all g;have hz:∀z,z∈G.R g->G.up z=-1/\(A.c z).i=g:=λz hz=>⟨((a2 z).1 hz).2.2.1,((a2 z).1 hz).2.2.2⟩
   refine p3 _ (r1 _ a1 (λhm=>hgh (by have:=(hz x hm).2;omega)) (λz hm=>x8 z (hz z hm).1)) (λz hm hm2=>?_);have hzg:=(hz z hm).2;rcases ρ.1 hm2 with e|hm2
   ·subst e;exact hgh ω
   ·rcases(rsm z).1 hm2 with hm2|hm2
    ·have:=(kr z hm2).2.2;exact hgh ω
    ·have:(A.c z).i=h:=(sr z hm2).2.2;exact hgh ω
  ·rw[R3 g hgh,(I.fr.all g).2.1 z];constructor
   ·rintro⟨a0,a1,a2,a3⟩;have a3':(A.c z).i=g:=a3;have hzx:z≠x:=λe=>by subst e;exact hgh ω
    exact⟨a0,a1,by rw[up3,Γ (x8 z a2)];exact a2,by simp only[oq z hzx];exact a3'⟩
   ·rintro⟨a0,a1,a2,a3⟩;obtain⟨b1,b2,b3⟩:=rt3 g z ⟨a1,a2,a3⟩ a0;rcases b3 with b3|b3
    ·have:=(kr z b3).2.2;exact absurd (show g=h by omega) hgh
    ·exact⟨a0,a1,b3,b2⟩
  ·rw[R3 g hgh] at hR';exact(I.fr.all g).2.2 t s' hR'
 have T3:TT A.cs.length (λy=>((bg A (x:Int)).c y).i) (dB A) h [] (kl (G.K x)++s) (pM h x (kl (G.K x)++s) G):=by
  refine⟨F3,fr3,bK _ _ _,λz hz=>?_,λd y hy=>by simp at hy,hnd.2,λz hz=>?_,λz hz=>?_⟩
  ·obtain⟨b1,b2,b3⟩:=rt3 h z hz h1;refine p2 z ?_;simp only[ρ,rsm];rcases b3 with b3|b3
   ·exact Β (Α b3)
   ·have:=(q2 z).2 ⟨h1,hz.1,b3,b2⟩;rw[hR] at this;rcases ρ.1 this with e|e
    ·exact absurd e b1
    ·exact Β (Β e)
  ·have hzx:z≠x:=λe=>hnd.1 (e▸hz);have a:=aar z (by simp[hz]);refine⟨a.1,by rw[up3,←YH];exact a.2.1,?_⟩;simp only[oq z hzx];rcases(rsm z).1 hz with b|b
   ·exact(kr z b).2.2
   ·exact(sr z b).2.2
  ·obtain⟨b1,b2,b3⟩:=rt3 h z hz h1;left;rw[rsm];rcases b3 with b3|b3
   ·exact Α b3
   ·have:=(q2 z).2 ⟨h1,hz.1,b3,b2⟩;rw[hR] at this;rcases ρ.1 this with e|e
    ·exact absurd e b1
    ·exact Β e
 obtain⟨t1,t2,t3,t4⟩:=UR h1 (λG=>yZ A A.cs.length G _ h) (kl (G.K x)++s) ⟨[],pM h x (kl (G.K x)++s) G,0⟩ T3 σ;have eD:tid (nu A) (kl (G.K x)++s) ⟨[],pM h x (kl (G.K x)++s) G,0⟩=tK A h x (kl (G.K x)++s) G:=rfl;rw[eD] at t1 t2 t3 t4;have Zr:=t1.ri;obtain⟨u1,u2,u3,u4⟩:=J8 h1 (λG=>yZ A A.cs.length G _ h) (λa b c=>dI) _ _ 0 Zr;have e4':qX (nu A) h (tK A h x (kl (G.K x)++s) G).T (tK A h x (kl (G.K x)++s) G).G 0=sF A h x (kl (G.K x)++s) G:=rfl;rw[e4'] at u1 u2 u3 u4;rw[t1.zero,ϛ] at u3;rw[t1.zero] at u4;have hlen:=u3.length_eq;rw[NB] at hlen
 have ho0:oU (TD.mk [] (pM h x (kl (G.K x)++s) G) 0).T=0:=rfl;have hl2:(kl (G.K x)++s).length=(G.K x).length+s.length:=by rw[υ,Um]
 have hq0:(TD.mk [] (pM h x (kl (G.K x)++s) G) 0).q=0:=rfl;rw[ho0,hl2,hq0] at t2;simp only[List.length_nil] at u4;refine⟨⟨TP,λz hz=>(aar z hz).1⟩,T3,λz hz hh=>?_,Zr,t1.zero,⟨?_,?_⟩,?_,?_,?_,?_,λy hy=>?_,t4,u2.2.1⟩
 ·have hzx:z≠x:=λe=>by subst e;rw[yo] at hh;omega
  rw[oq z hzx] at hh;exact(aj _ _).2 ⟨hz,ω⟩
 ·rw[hcl];refine u1.ff.mono (λy p hy hu ho=>?_) (λy hy h2=>u1.ff.alone y hy h2);have hh:=u1.ff.home y p hy hu;have Cj:((bg A (x:Int)).c y).i=((bg A (x:Int)).c p).i:=hh.1;have hh2:0<((bg A (x:Int)).c y).i:=hh.2;have hyx:y≠x:=λe=>by rw[e,yo] at hh2;omega
  have hpx:p≠x:=λe=>by rw[e,yo] at Cj;omega
  exact⟨hh.1,hh.2,(fE (by rw[hc,Γ hpx]) (by rw[hc,Γ hyx])).2 ho⟩
 ·rw[hcl];have mm:∀g y,y∈(sF A h x (kl (G.K x)++s) G).1.R g↔1<=g/\y<A.cs.length/\(sF A h x (kl (G.K x)++s) G).1.up y=-1/\((bg A (x:Int)).c y).i=g:=λg y=>by
   by_cases e:g=h
   ·subst e;constructor
    ·intro hm;exact⟨h1,u1.mem y hm⟩
    ·rintro⟨_,a⟩;rcases u1.all y a with b|b
     ·exact b
     ·cases b
   ·exact u1.fr.mem g y (by simp;exact e)
  refine⟨λg _=>?_,λg y _=>mm g y,λg t s' _ hR' y hy=>?_⟩
  ·by_cases e:g=h
   ·subst e;exact u1.ring
   ·exact u1.fr.ring g (by simp;exact e)
  ·have hL:dB A t y:=by
    by_cases e:g=h
    ·subst e;exact u1.top t s' hR' y hy
    ·exact u1.fr.top g t s' (by simp;exact e) hR' y hy
   have ht:=(mm g t).1 (by rw[hR'];simp);have hy':=(mm g y).1 (by rw[hR'];simp[hy]);have htx:t≠x:=λe=>by subst e;rw[yo] at ht;omega
   have hyx:y≠x:=λe=>by subst e;rw[yo] at hy';omega
   exact(fE (by rw[hc,Γ htx]) (by rw[hc,Γ hyx])).2 hL
 ·omega
 ·omega
 ·rw[u2.2.2.1];exact u3.symm.pairwise (l:=Jo _) t1.degs (λ{a b} h=>Ne.symm h)
 ·intro g hg;rw[u2.2.2.2 g hg,t3];exact R3 g hg
 ·obtain⟨i,hi⟩:=List.mem_iff_getElem?.1 hy;rcases t1.tab i y hi with e|⟨z,e,_⟩
  ·exact Α e
  ·exact Β ω
end
end Go.Proofs.YtnpdakpagnpanaaGreat
namespace Go.Proofs.YtnpdakpagnpanaaGreat
open Tryz
open Go Go.RowKit
theorem Gw{w:World}{base g n cap:Nat}{l:List Int}(h:w.ownsRow base 3 1 (.slice (some ⟨g,0,none⟩) n cap) n (bz l))(j:Nat)(x:Int):(w.setCell ⟨g,j,none⟩ (.int .i64 x)).ownsRow base 3 1 (.slice (some ⟨g,0,none⟩) n cap) n (bz (l.set j x)):=by
 have hl:l.length=n:=by have:=h.1;rw[gQ] at this;omega
 rcases h.2 with⟨h1,_⟩|⟨g',cap',cur,h1,hb,hg,hn,hc,hs,ht⟩
 ·cases h1
 ·cases h1;refine⟨by rw[gQ,Ι];omega,Β ⟨g,cap,cur.setIfInBounds j (.int .i64 x),rfl,by simpa using hb,?_,hn,hc,ζ,?_⟩⟩
  ·simp[World.setCell,Array.getElem?_modify,hg]
  ·rw[Array.toList_setIfInBounds]
   by_cases hj:j<n
   ·rw[List.take_set,ht];unfold bz;rw[List.map_set]
   ·rw[List.take_set_of_le ω,ht,List.set_eq_of_length_le ω]
section
variable{w:World}{B:FB}{F:List Nat}{gt ct:Nat}{A:NS}{st:Nat}{G:FG}
theorem fC.own{w0 w1 w2:World}{e:TypeId}{size k:Nat}{v:Value}{xs:List Value}(h:fC w1 B F gt ct A st G)(hb:∀x,x∈B.blk F gt->x<w0.heap.size)(ho:w1.ownsRow w0.heap.size e size v k xs)(hu:ae v.ownBlock.toList w1 w2):fC w2 B F gt ct A st G:=
 h.upd hu (λx hx hm=>by
  have h1:=(ho.lt x (by simpa using hx)).1;have h2:=hb x hm
  omega)
theorem Oc(M:fC w B F gt ct A st G){rs:List Nat}{v:Value}{h:Nat}{bX:Nat->Int}(h1:1<=h)(hin:∀z,z<A.cs.length->bX z=h->bY A (z:Int)=true)(H:TT A.cs.length bX (dB A) h [] rs G)(hv:j6 w [B.c,B.bn,B.bp,B.bl] v (qj rs)) :
  Calls prog 219 #[.pointer (some ⟨B.n0,0,none⟩),v] w λe w'=>∃v',e=.returned v'/\w'.ownsRow w.heap.size 3 1 v' (tid (nu A) rs ⟨[],G,0⟩).T.length (bz (tid (nu A) rs ⟨[],G,0⟩).T)/\
   fC w' B F gt ct A (cK st (tid (nu A) rs ⟨[],G,0⟩).q) (tid (nu A) rs ⟨[],G,0⟩).G/\ae [B.c,B.bn,B.bp,B.bl] w w':=by
 have hc1:=M.cells.ok.c1;have hz:=fF M.cells.nH;have hlr:rs.length<=A.cs.length:=jC _ _ H.nd (λz hz=>(H.xr z hz).1);obtain⟨a,cap,rfl,hcap,hcap2,hel⟩:=hv;rw[mP] at hcap ⊢;have hlt:=M.lt;obtain⟨g1,g2,g3,g4,g5,g6,g7⟩:=M.d3;obtain⟨e1,e2,e3,e4,e5⟩:=M.d2;obtain⟨D,hD⟩:∃D,tid (nu A) rs ⟨[],G,0⟩=D:=⟨_,rfl⟩;rw[hD];have hbl:∀y,y∈[B.c,B.bn,B.bp,B.bl]->y<w.heap.size:=λy hy=>by
  simp only[ρ,ς,or_false] at hy;rcases hy with rfl|rfl|rfl|rfl
  ·exact M.cells.lt _ M.cells.mem
  ·exact hlt _ (by simp[FB.blk])
  ·exact hlt _ (by simp[FB.blk])
  ·exact hlt _ (by simp[FB.blk])
 have Zj:=χ hlt;have H0:=χ (ψ M (ψ H (ψ hD (ψ hel (ψ hbl hz)))));clear M H hD hel hbl hz hlt;generalize hrl:rs.length=len at *;have UN:=χ hrl;clear hrl
 go_enter func219,ntmps219
 go_wp2
 go_loopw [5,12] (λs5 s12 wr=>∃ (i:Nat) (T:List Int) (G':FG) (q:Nat),i<=len/\s12=.int .i64 (i:Int)/\tid (nu A) (rs.drop i) ⟨T,G',q⟩=D/\TT A.cs.length bX (dB A) h T (rs.drop i) G'/\T.length<=A.cs.length+1/\
  wr.ownsRow w.heap.size 3 1 s5 T.length (bz T)/\fC wr B F gt ct A (cK st q) G'/\ae [B.c,B.bn,B.bp,B.bl] w wr) (λ_ s12 _=>len-(intOf s12).toNat)
 case atStart=>
  obtain⟨M,H,hD,hel,hbl,hz⟩:=H0.out;exact⟨0,[],G,0,ω,rfl,hD,H,σ,World.ownsRow_nil _ _ _ _,by rw[hz];exact M,ae.refl _ _⟩
 case round=>
  obtain⟨i,T,G',q,hi,rfl,hD,hT,Qm,ho,hM,hu⟩:=hrel;rename World=>wr
  by_cases hil:i<len
  ·obtain⟨x,hx⟩:∃x,rs[i]?=some x:=⟨_,ε (by rw[UN.out];exact hil)⟩;have hdr:rs.drop i=x::rs.drop (i+1):=by
    rw[Ϟ (by rw[UN.out];exact hil)]
    congr 1
    rw[ε (by rw[UN.out];exact hil)] at hx
    injection hx
   rw[hdr] at hD hT;obtain⟨gr,off,rfl,hgl,wy,hcx⟩:=H0.out.2.2.2.1 i (x:Int) (by unfold qj;rw[ϒ,hx];rfl);have hcx:=hu.kept hcx wy;have V5:(i:Int)<(len:Int):=ω;have hw1:IntKind.i64.wrap ((i:Int)+1)=(i:Int)+1:=Μ _ ω;have HR:=χ (ψ hD (ψ hT (ψ ho (ψ hM hu))));clear hD hT ho hM hu hx hdr;go_wp2;obtain⟨D1,hD1⟩:∃D1,KV (nu A) (oU T+1) T x G' q=D1:=⟨_,rfl⟩;have HD1:=χ hD1;clear hD1
   go_loopg [5,7] (oU T+1) (λfu s5 s7 wr2=>∃ (T1:List Int) (x1:Nat) (G1:FG) (q1:Nat),s7=.int .i64 (x1:Int)/\KV (nu A) fu T1 x1 G1 q1=D1/\oU T1<fu/\TT A.cs.length bX (dB A) h T1 (x1::rs.drop (i+1)) G1/\T1.length<=A.cs.length+1/\
    wr2.ownsRow w.heap.size 3 1 s5 T1.length (bz T1)/\fC wr2 B F gt ct A (cK st q1) G1/\ae [B.c,B.bn,B.bp,B.bl] w wr2)
   case atStart=>exact⟨T,x,G',q,rfl,HD1.out,ω,HR.out.2.1,Qm,HR.out.2.2.1,HR.out.2.2.2.1,HR.out.2.2.2.2⟩
   case round=>
    rename Nat=>fu;obtain⟨T1,x1,G1,q1,rfl,hI,Cs,hT1,hTl1,ho1,hM1,hu1⟩:=hrel;rename World=>wr2;obtain⟨fv,rfl⟩:∃fv,fu=fv+1:=⟨fu-1,ω⟩;have Ce:=hT1.xr x1 σ;have hx1:=Ce.1;have hx1I:(x1:Int)<(A.cs.length:Int):=ω;have hq2:=hM1.h2;have hp2:=hM1.p2 hx1;have hdn:=hT1.ff.Cz hx1;obtain⟨d,hd⟩:∃d,(G1.K x1).length=d:=⟨_,rfl⟩;rw[hd] at hp2 hdn;have HI:=χ (ψ hI (ψ Cs (ψ hT1 (ψ hM1 (ψ hu1 (ψ ho1 (ψ hd Ce)))))));clear hI Cs hT1 hM1 hu1 hd Ce hx1;obtain⟨a5,c5,rfl,hc5⟩:=aV ho1;clear ho1;go_wp2
    go_loopw [5] (λs5 wr3=>∃m:Nat,T1.length+m<=max T1.length (d+1)/\wr3.ownsRow w.heap.size 3 1 s5 (T1.length+m) (bz (T1++List.replicate m (-1)))/\fC wr3 B F gt ct A (cK st q1) G1/\ae [B.c,B.bn,B.bp,B.bl] w wr3) (λs5 _=>match s5 with | .slice _ l _=>d+1-l|_=>0)
    case atStart=>
     obtain⟨hI,Cs,hT1,hM1,hu1,ho1,hd,Ce⟩:=HI.out;exact⟨0,ω,by simpa using ho1,hM1,hu1⟩
    case round=>
     obtain⟨m,hm,ho,hM,hu⟩:=hrel;rename World=>wr3;obtain⟨a,c,rfl,hc⟩:=aV ho
     by_cases hmd:T1.length+m<=d
     ·have hmdI:((T1.length+m:Nat):Int)<=(d:Int):=ω;have hsz3:=hu.size;have HU:=χ (ψ hM hu);clear hM hu
      go_wp2_with (first
       |(at_builtin;refine bI rfl _ _ 77 rfl w.heap.size 3 (.int .i64 0) 1 8 underlying77 gI rfl δ _ _ _ rfl (ho) [.int .i64 (-1)] rfl (by simp[Value.oneCell']) (by first|rfl|(rw[Κ];rfl)) μ ω (ω) ?_;intro v2 w2 ho2 hu2 nC)
       | fail)
      obtain⟨hM,hu⟩:=HU.out;obtain⟨a2,c2,rfl,_⟩:=aV ho2;refine⟨⟨m+1,ω,?_,hM.own Zj.out ho hu2,hu.own ho (Θ _) hu2⟩,ζ⟩;rw[List.replicate_succ',←ϋ,dO];exact ho2
     ·have hm':m=d+1-T1.length:=ω;have hP:T1++List.replicate m (-1)=jV T1 d:=by unfold jV;rw[hm']
      rw[hP] at ho;obtain⟨hI,Cs,hT1,hM1,hu1,ho1,hd,Ce⟩:=HI.out;obtain⟨s0,s1,s2⟩:=hT1.step (yZ A A.cs.length G1 _ h) h1;rw[hd] at s0 s1 s2;unfold KV at hI;rw[hd] at hI;have hPl:=Fy T1 d;have hPn:T1.length+m=(jV T1 d).length:=ω;rw[hPn] at ho ⊢;obtain⟨P,eP⟩:∃P,jV T1 d=P:=⟨_,rfl⟩;rw[eP] at ho s0 s1 s2 hI hPl ⊢;obtain⟨g,cp,hv,hbg,hgs,hcp1,hcp2,hcell,X4⟩:=fQ ho ω;have hcd:wr3.cell? ⟨g,d,none⟩=some (.int .i64 (P.getD d (-1))):=hcell d _ (by unfold bz;rw[ϒ,s0];rfl);have hfd:=X4 d;rw[hv] at ho ⊢;have hPlI:(d:Int)<(P.length:Int):=by clear s0 s1 s2 hI;omega
      have hni:¬(P.length:Int)<=(d:Int):=by clear s0 s1 s2 hI;omega
      have abk:g∉B.blk F gt:=λhm=>by have:=Zj.out g hm;omega
      have HPL:=χ hPl;clear hPl
      by_cases hy:P.getD d (-1)=-1
      ·rw[Δ hy] at hI;rw[hy] at hcd;have HS:=χ (ψ hM (ψ hu (ψ ho (ψ (s1 hy) hI))));clear hI Cs hT1 hM1 hu1 ho1 hd Ce s0 s1 s2 hM hu ho hcell X4 hv eP hP hy HI hPn;go_wp2;obtain⟨hM,hu,ho,hpl,hI⟩:=HS.out;obtain⟨hD,hT,_,_,_⟩:=HR.out;have hD2:tid (nu A) (rs.drop (i+1)) ⟨P.set d x1,G1,q1⟩=D:=by
        have:tid (nu A) (x::rs.drop (i+1)) ⟨T,G',q⟩=tid (nu A) (rs.drop (i+1)) (KV (nu A) (oU T+1) T x G' q):=rfl;rw[this,HD1.out,←hI] at hD;exact hD
       refine⟨⟨i+1,P.set d x1,G1,q1,ω,by go_num,hD2,hpl.1,by rw[Ι];have:=HPL.out;omega,?_,hM.upd ((ae.refl [g] wr3).setCell (Α σ) _) (λy hy=>by simp at hy;subst hy;exact abk),hu.setCell (Β hbg) _⟩,by simp[intOf];omega⟩;rw[Ι];exact Gw ho d x1
      ·rw[Γ hy] at hI;obtain⟨z,ez,hzn,hzx,hzh,hoc,st1,st2⟩:=s2 hy;rw[ez] at hcd hI;rw[π] at hI;have wM:=Ce.1;have hin1:bY A (x1:Int)=true:=hin x1 wM Ce.2.2;have hinz:bY A (z:Int)=true:=hin z hzn hzh;have hzm:((z:Int) == -1)=false:=σ;have hu0:ae [g] wr3 (wr3.setCell ⟨g,d,none⟩ (.int .i64 (-1))):=(ae.refl [g] wr3).setCell (Α σ) _;have hgc:B.n0∉[g]:=by simp;intro e;exact abk (by rw[←e];simp[FB.blk])
       have hM2:=hM.upd hu0 (λy hy=>by simp at hy;subst hy;exact abk);have ka:=fB hM2.cells z x1 hinz hin1;have hn0:(wr3.setCell ⟨g,d,none⟩ (.int .i64 (-1))).cell? ⟨B.n0,0,none⟩=some (.pointer (some ⟨B.c,0,none⟩)):=hM2.h0;have ho2:=Gw ho d (-1);obtain⟨wq,hwq⟩:∃wq,wr3.setCell ⟨g,d,none⟩ (.int .i64 (-1))=wq:=⟨_,rfl⟩;rw[hwq] at hM2 ka hn0 ho2 hu0;have huq:ae [B.c,B.bn,B.bp,B.bl] w wq:=hwq▸hu.setCell (Β hbg) _;have HS:=χ (ψ hM2 (ψ huq (ψ ho2 (ψ hI (ψ hoc (ψ st1 (ψ st2 (ψ hT1 Cs))))))));cases hb:decide (dB A z x1) with
       |true=>
        rw[hb] at ka;have kz:=λW st' (hW:fC W B F gt ct A st' G1)=>Cb hW (x:=z) (y:=x1) hzn wM (λk t e=>(hT1.ff.kid z k hzn (by rw[e];simp)).1) (Χ (hT1.ff.Cz hzn) hc1);have KZ:=χ kz;have HB:=χ hb;clear hI Cs hT1 hM1 hu1 ho1 hd Ce s0 s1 s2 hM hu ho hcell X4 hv eP hP hy HI hPn st1 st2 hoc hM2 huq ho2 ez kz hb
        go_wp2_with (first
         |((go_at_call 164;(with_reducible refine(ka).mono ?_));rintro e w5 ⟨rfl,Q3,bW⟩;(have k5:=KZ.out w5 _ (HS.out.1.setSt bW Q3));(have Qe:=χ bW);clear Q3 bW ka)
         |((go_at_call 225;(with_reducible refine(k5).mono ?_));rintro e w6 ⟨rfl,vE,iX⟩;(have HU6:=χ (ψ vE iX));clear vE iX k5)
         | fail)
        go_roundg fv
        case measure=>omega
        case rel=>
         obtain⟨hM2,huq,ho2,hI,hoc,st1,st2,hT1,Cs⟩:=HS.out;have hlt2:nu A z x1=true:=HB.out;rw[hlt2,Δ rfl] at hI;obtain⟨vE,iX⟩:=HU6.out;have bW:=Qe.out;have hg1:∀y,y∈[B.c,B.bn,B.bp,B.bl]->y≠g:=λy hy e=>by have:=H0.out.2.2.2.2.1 y hy;omega
         rw[iN] at vE;refine⟨P.set d (-1),z,eO G1 x1 z,q1+1,rfl,hI,ω,st1 hlt2,by rw[Ι];have:=HPL.out;omega,?_,vE,?_⟩
         ·rw[Ι];exact ak (ak ho2 bW (λy hy hm=>by simp[Value.ownBlock] at hy hm;exact hg1 B.c σ ω)) iX (λy hy hm=>by simp[Value.ownBlock] at hy;subst hy;exact hg1 g (by simp at hm;rcases hm with e|e|e<;>simp[e]) rfl)
         ·exact(huq.trans (bW.mono σ)).trans (iX.mono (λy hy=>by simp at hy;rcases hy with e|e|e<;>simp[e]))
       |false=>
        rw[hb] at ka;have kz:=λW st' (hW:fC W B F gt ct A st' G1)=>Cb hW (x:=x1) (y:=z) wM hzn (λk t e=>(hT1.ff.kid x1 k wM (by rw[e];simp)).1) (Χ (hT1.ff.Cz wM) hc1);have KZ:=χ kz;have HB:=χ hb;clear hI Cs hT1 hM1 hu1 ho1 hd Ce s0 s1 s2 hM hu ho hcell X4 hv eP hP hy HI hPn st1 st2 hoc hM2 huq ho2 ez kz hb
        go_wp2_with (first
         |((go_at_call 164;(with_reducible refine(ka).mono ?_));rintro e w5 ⟨rfl,Q3,bW⟩;(have k5:=KZ.out w5 _ (HS.out.1.setSt bW Q3));(have Qe:=χ bW);clear Q3 bW ka)
         |((go_at_call 225;(with_reducible refine(k5).mono ?_));rintro e w6 ⟨rfl,vE,iX⟩;(have HU6:=χ (ψ vE iX));clear vE iX k5)
         | fail)
        go_roundg fv
        case measure=>omega
        case rel=>
         obtain⟨hM2,huq,ho2,hI,hoc,st1,st2,hT1,Cs⟩:=HS.out;have hlt2:nu A z x1=false:=HB.out;rw[hlt2,Γ σ] at hI;obtain⟨vE,iX⟩:=HU6.out;have bW:=Qe.out;have hg1:∀y,y∈[B.c,B.bn,B.bp,B.bl]->y≠g:=λy hy e=>by have:=H0.out.2.2.2.2.1 y hy;omega
         rw[iN] at vE;refine⟨P.set d (-1),x1,eO G1 z x1,q1+1,rfl,hI,ω,st2 hlt2,by rw[Ι];have:=HPL.out;omega,?_,vE,?_⟩
         ·rw[Ι];exact ak (ak ho2 bW (λy hy hm=>by simp[Value.ownBlock] at hy hm;exact hg1 B.c σ ω)) iX (λy hy hm=>by simp[Value.ownBlock] at hy;subst hy;exact hg1 g (by simp at hm;rcases hm with e|e|e<;>simp[e]) rfl)
         ·exact(huq.trans (bW.mono σ)).trans (iX.mono (λy hy=>by simp at hy;rcases hy with e|e|e<;>simp[e]))
  ·obtain rfl:i=len:=ω;have hdr:rs.drop i=[]:=List.drop_eq_nil_of_le (by have:=UN.out;omega);rw[hdr] at hD;have hD2:(⟨T,G',q⟩:TD)=D:=hD;subst hD2;have HR:=χ (ψ ho (ψ hM hu));clear hT ho hM hu hD hdr;go_wp2;go_ret;exact⟨_,rfl,HR.out.1,HR.out.2.1,HR.out.2.2⟩
end
end Go.Proofs.YtnpdakpagnpanaaGreat
namespace Go.Proofs.YtnpdakpagnpanaaGreat
open Tryz
def Af(l:List Nat)(x:Nat):List Nat:=(l.dropWhile (λz=>z != x)).tail++l.takeWhile (λz=>z != x)
theorem Dn{l:List Nat}{x:Nat}(hx:x∈l)(hn:l.Nodup):∃a b,l=a++x::b/\x∉a/\x∉b/\l.takeWhile (λz=>z != x)=a/\(l.dropWhile (λz=>z != x)).tail=b:=by
 obtain⟨a,b,rfl⟩:=List.append_of_mem hx;rw[θ,Ζ] at hn;have h1:x∉a:=λh=>hn.2.2 x h x σ rfl;have hp:∀z,z∈a->(z != x)=true:=λz hz=>by simp;intro e;subst e;exact h1 hz
 refine⟨a,b,rfl,h1,hn.2.1.1,?_,?_⟩
 ·rw[List.takeWhile_append_of_pos hp,List.takeWhile_cons_of_neg σ];simp
 ·rw[List.dropWhile_append_of_pos hp,List.dropWhile_cons_of_neg σ];rfl
theorem KO{l:List Nat}{x:Nat}(hx:x∈l)(hn:l.Nodup):∃a b,l=a++x::b/\Af l x=b++a/\x∉a/\x∉b:=by
 obtain⟨a,b,h1,h2,h3,h4,h5⟩:=Dn hx hn;exact⟨a,b,h1,by unfold Af;rw[h4,h5],h2,h3⟩
def dM(h x:Nat)(G:FG):FG:=
 { (match G.R h with|[]=>prt G x|t::_=>Nj (prt G x) t x) with
  up:=ah G.up x (-1),mr:=ah G.mr x false,K:=ah G.K (G.up x).toNat (Af (G.K (G.up x).toNat) x),R:=match G.R h with|[]=>G.R|t::s=>ah G.R h (t::x::s) }
def rY:Nat->Nat->Nat->FG->FG
 |0,_,_,G=>G
 |f+1,h,x,G=>if G.up x=-1 then G else if G.mr x=false then{ G with mr:=ah G.mr x true } else rY f h (G.up x).toNat (dM h x G)
def marks(n:Nat)(G:FG):Nat:=((List.range n).filter G.mr).length
theorem BC{p:Nat->Bool}{x:Nat}{b:Bool}:∀l:List Nat,l.Nodup->x∈l->(l.filter (ah p x b)).length+(if p x then 1 else 0)=(l.filter p).length+(if b then 1 else 0)
 | [],_,h=>by cases h
 |y::t,hn,hx=>by
  rw[Ζ] at hn
  by_cases e:y=x
  ·subst e;have hc:t.filter (ah p y b)=t.filter p:=List.filter_congr (λz hz=>aZ _ _ (λe=>hn.1 (e▸hz)));have h1:ah p y b y=b:=bK _ _ _;rw[List.filter_cons,List.filter_cons,h1,hc];cases b<;>cases p y<;>simp
  ·have ih:=BC (p:=p) (b:=b) t hn.2 (by rcases ρ.1 hx with h|h;exact absurd h.symm e;exact h);have h1:ah p x b y=p y:=aZ _ _ e;rw[List.filter_cons,List.filter_cons,h1];cases p y<;>simp<;>omega
theorem qL{n:Nat}{G:FG}{x:Nat}{b:Bool}{mr:Nat->Bool}(hx:x<n)(hm:mr=ah G.mr x b)(G':FG)(e:G'.mr=mr):marks n G'+(if G.mr x then 1 else 0)=marks n G+(if b then 1 else 0):=by
 unfold marks;rw[e,hm];exact BC _ List.nodup_range (by simpa using hx)
section
variable{n:Nat}{G:FG}{bX:Nat->Int}{L M:Nat->Nat->Prop}{ex:Nat->Nat}
theorem xN(H:FF n G bX L ex)(R:FR n G bX M none){h x p t:Nat}{s:List Nat}(hR:G.R h=t::s)(hx:x<n)(ux:G.up x=p)(hpx:p≠x)(hh:bX x=h)(hL:M t x) :
  FF n (dM h x G) bX L (λc=>if c=p then ex c+1 else ex c)/\FR n (dM h x G) bX M none/\(dM h x G).up=ah G.up x (-1)/\(dM h x G).mr=ah G.mr x false/\(dM h x G).K=ah G.K p (Af (G.K p) x)/\
   (dM h x G).R=ah G.R h (t::x::s)/\(∃a b,G.K p=a++x::b/\Af (G.K p) x=b++a)/\G.nx x=(Af (G.K p) x).headD x:=by
 obtain⟨hp,hxk⟩:=H.above hx ux;obtain⟨q1,q2,q3⟩:=R.all h;obtain⟨h1,ht,ut,htm⟩:=(q2 t).1 (by rw[hR];simp);have M9:=H.ring p hp;obtain⟨a,b,eK,eA,xa,xb⟩:=KO hxk M9.nd;have hkp:∀z,z∈G.K p->z<n/\G.up z=p:=λz hz=>H.kid p z hp hz;have Vn:Ring G.nx (x::(b++a)):=by rw[eK] at M9;exact Ring.Vv (a:=a) (b:=x::b) M9
 have hmem:∀z,z∈x::(b++a)↔z∈G.K p:=λz=>by rw[eK];simp;grind
 have hall:∀z,z∈x::(b++a)->z<n:=λz hz=>(hkp z ((hmem z).1 hz)).1;obtain⟨p1,p2⟩:=H.rg.part Vn hall;have hpm:G.pv x∈G.K p:=by
  rw[←hmem];rcases List.eq_nil_or_concat (b++a) with e|⟨c,y,e⟩
  ·rw[e] at Vn;have e1:=iM.1 Vn;have:=H.rg.pn x hx;rw[e1] at this;rw[this];simp
  ·rw[List.concat_eq_append] at e;have:=H.rg.last (x:=x) (y:=y) (a:=c) (by rw[List.cons_append,←e];exact Vn) (hall y (by rw[e];simp));rw[this,e];simp
 have hpv:=hkp _ hpm;have htx:t≠x:=λe=>by subst e;omega
 have htp:t≠G.pv x:=λe=>by rw[←e] at hpv;omega
 have ux':(dM h x G).up=ah G.up x (-1):=rfl;have mx':(dM h x G).mr=ah G.mr x false:=rfl;have K':(dM h x G).K=ah G.K p (b++a):=by show ah G.K (G.up x).toNat _=_;rw[ux,π,eA]
 have R':(dM h x G).R=ah G.R h (t::x::s):=by show(match G.R h with|[]=>G.R|t::s=>ah G.R h (t::x::s))=_;rw[hR]
 have nx':(dM h x G).nx=dP (dP G.nx x (G.pv x)) t x:=by unfold dM;rw[hR];rfl
 have pv':(dM h x G).pv=jw (dP G.nx x (G.pv x)) (jw G.nx G.pv x (G.pv x)) t x:=by unfold dM;rw[hR];rfl
 have far:∀l,Ring G.nx l->x∉l->G.pv x∉l->t∉l->Ring (dM h x G).nx l:=λl hl e1 e2 e3=>by rw[nx'];exact(hl.mU e1 e2).mU e3 e1
 have Ot:∀y,y≠x->(dM h x G).up y=G.up y:=λy hy=>by rw[ux',aZ _ _ hy]
 have upx:(dM h x G).up x=-1:=by rw[ux',bK]
 have Kp:(dM h x G).K p=b++a:=by rw[K',bK]
 have Kn:∀y,y≠p->(dM h x G).K y=G.K y:=λy hy=>by rw[K',aZ _ _ hy]
 have abj:∀y,y<n->y≠p->x∉G.K y:=λy hy hyp hm=>hyp (by have:=(H.kid y x hy hm).2;omega);have hpos:(0:Int)<bX p/\(0:Int)<bX x:=by
  have:=H.home x p hx ux;exact⟨by rw[←this.1];exact this.2,this.2⟩
 have hlen:(G.K p).length=(b++a).length+1:=by rw[eK];simp;omega
 have mono:∀c,c≠x->(G.K c).length+(if G.mr c then 1 else 0)+ex c<=((dM h x G).K c).length+(if(dM h x G).mr c then 1 else 0)+(if c=p then ex c+1 else ex c):=λc hc=>by
  rw[mx',aZ _ _ hc]
  by_cases e:c=p
  ·rw[e,Kp,hlen,Δ rfl];omega
  ·rw[Kn c e,Γ e];omega
 refine⟨⟨?_,λy z hy hz=>?_,λy hy=>?_,λy hy=>?_,λy q hy hu=>?_,λy q hy hu=>?_,λy hy h0=>?_,λy hy hu=>?_,λy d hy=>?_⟩,⟨λg _=>?_,λg y _=>?_,λg t' s' _ hR'=>?_⟩,ux',mx',by rw[eA];exact K',R',⟨a,b,eK,eA⟩,by rw[eA];exact(je.1 Vn).2.1⟩
 ·rw[nx',pv'];exact(H.rg.swap hx hpv.1).swap ht hx
 ·by_cases e:y=p
  ·subst e;rw[Kp] at hz;have hzk:z∈G.K y:=(hmem z).1 (by simp at hz ⊢;exact Β hz);have hzx:z≠x:=λe=>by subst e;simp at hz;rcases hz with h|h;exact xb h;exact xa h
   rw[Ot z hzx];exact H.kid y z hy hzk
  ·rw[Kn y e] at hz;have hzx:z≠x:=λe2=>abj y hy e (e2▸hz);rw[Ot z hzx];exact H.kid y z hy hz
 ·by_cases e:y=x
  ·subst e;exact Α upx
  ·rw[Ot y e];rcases H.Gu y hy with e1|⟨q,hq,e1,e2⟩
   ·exact Α e1
   ·refine Β ⟨q,hq,e1,?_⟩
    by_cases e3:q=p
    ·subst e3;rw[Kp];rcases ρ.1 ((hmem y).2 e2) with e4|e4
     ·exact absurd e4 e
     ·exact e4
    ·rw[Kn q e3];exact e2
 ·by_cases e:y=p
  ·subst e;rw[Kp,nx'];exact p2.mU (λhm=>by have:=(hkp t ((hmem t).1 (by simp at hm ⊢;exact Β hm))).2;omega) (λhm=>by simp at hm;rcases hm with h|h;exact xb h;exact xa h)
  ·rw[Kn y e];exact far _ (H.ring y hy) (abj y hy e) (λhm=>e (by have:=(H.kid y _ hy hm).2;omega)) (H.rQ hy ut)
 ·have hyx:y≠x:=λe=>by subst e;rw[upx] at hu;omega
  rw[Ot y hyx] at hu;exact H.home y q hy hu
 ·have hyx:y≠x:=λe=>by subst e;rw[upx] at hu;omega
  rw[Ot y hyx] at hu;exact H.ord y q hy hu
 ·obtain⟨a1,a2,a3⟩:=H.alone y hy h0;have hyx:y≠x:=λe=>h0 (by rw[e];exact hpos.2);have hyp:y≠p:=λe=>h0 (by rw[e];exact hpos.1);have hyv:y≠G.pv x:=λe=>by rw[←e] at hpv;omega
  have RS:y≠t:=λe=>h0 (by rw[e,htm];omega);exact⟨by rw[Ot y hyx];exact a1,by rw[Kn y hyp];exact a2,by rw[nx',iZ RS hyx,iZ hyx hyv];exact a3⟩
 ·rw[mx']
  by_cases e:y=x
  ·rw[e,bK]
  ·rw[Ot y e] at hu;rw[aZ _ _ e];exact H.free y hy hu
 ·by_cases e:y=p
  ·subst e;rw[Kp];have m1:few (dM h x G) (λc=>if c=y then ex c+1 else ex c) (b++a) d<=few G ex (b++a) d:=JN d (λc hc=>mono c (λe=>by subst e;simp at hc;rcases hc with h|h;exact xb h;exact xa h));have m2:few G ex (G.K y) d=few G ex (x::(b++a)) d:=Hr _ _ (by rw[eK];exact Φ (l₁:=a) (l₂:=x::b)) d;rw[GL] at m2;have m3:=H.cnt y d hy;omega
  ·rw[Kn y e];exact Χ (JN d (λc hc=>mono c (λe2=>abj y hy e (e2▸hc)))) (H.cnt y d hy)
 ·obtain⟨r1,r2,_⟩:=R.all g
  by_cases e:g=h
  ·subst e;rw[R',bK,nx'];have hs1:Ring (dP G.nx x (G.pv x)) (t::s):=by
    rw[←hR];exact r1.mU (λhm=>by have:=((r2 x).1 hm).2.2.1;omega) (λhm=>by have:=((r2 _).1 hm).2.2.1;omega)
   exact Ring.join hs1 p1 (λz hz hm=>by
    simp at hm;subst hm;have:=((r2 z).1 (by rw[hR];exact hz)).2.2.1
    omega)
  ·rw[R',aZ _ _ e];exact far _ r1 (λhm=>by have:=((r2 x).1 hm).2.2.1;omega) (λhm=>by have:=((r2 _).1 hm).2.2.1;omega) (λhm=>e (by have:=((r2 t).1 hm).2.2.2;omega))
 ·rw[R'];have old:=(R.all g).2.1 y
  by_cases e:g=h
  ·subst e;rw[bK];have:y∈t::x::s↔y=x\/y∈G.R g:=by rw[hR];simp;grind
   rw[this,old]
   by_cases e2:y=x
   ·subst e2;simp[upx,h1,hx,hh]
   ·rw[Ot y e2];simp[e2,wO]
  ·rw[aZ _ _ e,old]
   by_cases e2:y=x
   ·subst e2;constructor
    ·rintro⟨_,_,a2,_⟩;omega
    ·rintro⟨_,_,_,a3⟩;exact absurd (show g=h by omega) e
   ·rw[Ot y e2];exact Iff.rfl
 ·rw[R'] at hR'
  by_cases e:g=h
  ·subst e;rw[bK] at hR';have e1:t=t':=by injection hR'
   have e2:x::s=s':=by injection hR'
   subst e1 e2;intro y hy;rcases ρ.1 hy with rfl|hy
   ·exact hL
   ·exact q3 t s hR y hy
  ·rw[aZ _ _ e] at hR';exact(R.all g).2.2 t' s' hR'
theorem J9(YC:∀a,¬L a a){h t:Nat}:∀(f p:Nat) (s:List Nat) (G:FG),FF n G bX L (λc=>if c=p then 1 else 0)->FR n G bX M none->G.R h=t::s->p<n->bX p=h->1<=h->(∀y,y<n->bX y=h->y≠t->M t y)->marks n G<f->
  FF n (rY f h p G) bX L (λ_=>0)/\FR n (rY f h p G) bX M none/\(∃s',(rY f h p G).R h=t::s')/\(∀g,g≠h->(rY f h p G).R g=G.R g)/\
   (G.R h).length<=((rY f h p G).R h).length/\((rY f h p G).R h).length+marks n (rY f h p G)<=(G.R h).length+marks n G+1/\marks n (rY f h p G)<=marks n G+1/\(∀y,G.up y=-1->(rY f h p G).up y=-1)
 |0,p,s,G,H,R,hR,hp,hh,h1,hf,hm=>ω
 |f+1,p,s,G,H,R,hR,hp,hh,h1,hf,hm=>by
  unfold rY
  by_cases e:G.up p=-1
  ·rw[Δ e];refine⟨⟨H.rg,H.kid,H.Gu,H.ring,H.home,H.ord,H.alone,H.free,λx d hx=>?_⟩,R,⟨s,hR⟩,λ_ _=>rfl,Θ _,ω,ω,λ_ h=>h⟩
   rw [uQ (G:=G) (ex:=λc=>if c=p then 1 else 0) d (λc hc=>by
    have hcp:c≠p:=λe2=>H.rQ hx e (e2▸hc)
    rw [Γ hcp])]
   exact H.cnt x d hx
  ·rw[Γ e]
   by_cases e2:G.mr p=false
   ·rw[Δ e2];have hmk:=qL (G:=G) (b:=true) hp rfl { G with mr:=ah G.mr p true } rfl;rw[e2] at hmk;simp only[Ϣ,if_false,if_true] at hmk;refine⟨⟨H.rg,H.kid,H.Gu,H.ring,H.home,H.ord,H.alone,λy hy hu=>?_,λx d hx=>?_⟩,⟨R.ring,R.mem,R.top⟩,⟨s,hR⟩,λ_ _=>rfl,Θ _,by show(G.R h).length+_<=_;omega,by omega,λ_ h=>h⟩
    ·have hyp:y≠p:=λe3=>e (e3▸hu)
     show ah G.mr p true y=false
     rw[aZ _ _ hyp];exact H.free y hy hu
    ·have:=uQ (G:=G) (G':={ G with mr:=ah G.mr p true }) (ex:=λc=>if c=p then 1 else 0) (ex':=λ_=>0) (l:=G.K x) d (λc hc=>by
      by_cases e3:c=p
      ·subst e3
       show(G.K c).length+(if ah G.mr c true c=true then 1 else 0)+0=_
       rw[bK,e2];simp
      ·show(G.K c).length+(if ah G.mr p true c=true then 1 else 0)+0=_
       rw [aZ _ _ e3,Γ e3])
     show few { G with mr:=ah G.mr p true } (λ_=>0) (G.K x) d<=d
     rw[this];exact H.cnt x d hx
   ·rw[Γ e2];obtain⟨q,hq,uq,hpq⟩:=(H.Gu p hp).resolve_left e;rw[uq,π];have hqp:q≠p:=λe3=>by subst e3;exact YC _ (H.ord q q hp uq)
    have htp:p≠t:=λe3=>by
     subst e3;have:=((R.all h).2.1 p).1 (by rw[hR];simp);exact e this.2.2.1
    obtain⟨o1,o2,o3,o4,o5,o6,o7,_⟩:=xN H R hR hp uq hqp hh (hf p hp hh htp);have hqh:bX q=h:=by have:=(H.home p q hp uq).1;omega
    have hmk:=qL (G:=G) (b:=false) hp rfl (dM h p G) o4;have e2':G.mr p=true:=by simpa using e2
    rw[e2'] at hmk;simp only[Ϣ,if_false,if_true] at hmk;have o1':FF n (dM h p G) bX L (λc=>if c=q then 1 else 0):=by
     refine⟨o1.rg,o1.kid,o1.Gu,o1.ring,o1.home,o1.ord,o1.alone,o1.free,λx d hx=>?_⟩;have Zm:(dM h p G).up p=-1:=by rw[o3,bK]
     rw [uQ (G:=dM h p G) (ex:=λc=>if c=q then (if c=p then 1 else 0)+1 else if c=p then 1 else 0) d (λc hc=>by
      have hcp:c≠p:=λe3=>o1.rQ hx Zm (e3▸hc)
      rw [Γ hcp])]
     exact o1.cnt x d hx
    have oR:(dM h p G).R h=t::p::s:=by rw[o6,bK]
    obtain⟨r1,r2,r3,r4,r5,r6,r7,r8⟩:=J9 YC f q (p::s) (dM h p G) o1' o2 oR hq hqh h1 hf ω;rw[oR] at r5 r6;rw[hR];simp only[Ω] at r5 r6 ⊢;refine⟨r1,r2,r3,λg hg=>by rw[r4 g hg,o6,aZ _ _ hg],ω,ω,ω,λy hy=>r8 y ?_⟩;have hyp:y≠p:=λe3=>e (e3▸hy);rw[o3,aZ _ _ hyp];exact hy
end
def dF(n h x:Nat)(G:FG):FG:=if G.up x=-1 then G else rY (marks n (dM h x G)+1) h (G.up x).toNat (dM h x G)
def K6(h x:Nat)(G:FG):FG:={ G with R:=ah G.R h (x::Af (G.R h) x) }
def fZ(A':NS)(h x:Nat)(G:FG):FG:=if G.up x≠-1/\nu A' x (G.up x).toNat=true then dF A'.cs.length h x G else G
def lI(A':NS)(h x:Nat)(G:FG):FG:=if kY ((fZ A' h x G).R h)≠x/\nu A' x (kY ((fZ A' h x G).R h)).toNat=true then K6 h x (fZ A' h x G) else fZ A' h x G
def y8(A':NS)(h x:Nat)(G:FG):Nat:=(if G.up x=-1 then 0 else 1)+(if kY ((fZ A' h x G).R h)=x then 0 else 1)
def PE(l k:List Nat)(x:Nat):List Nat:=l.takeWhile (λz=>z != x)++(k++(l.dropWhile (λz=>z != x)).tail)
def nG(h x:Nat)(G:FG):FG:={ prt (bM G x) x with R:=ah G.R h (PE (G.R h) (kl (G.K x)) x) }
def Tq(A':NS)(h x:Nat)(G:FG):FG:=gH (nu A') h [x] G
def yc(A':NS)(a b:Nat)(G:FG):FG:=match G.R b with
 | []=>{ G with R:=ah G.R b [] }
 |x::r=>{ gH (nu A') a (x::r) G with R:=ah (gH (nu A') a (x::r) G).R b [] }
def Vr(a b:Nat)(G:FG):Nat:=if G.R b=[] then 0 else qw a G
section
variable{A:NS}{G:FG}
theorem Vk{n:Nat}{bX:Nat->Int}{L M:Nat->Nat->Prop}(YC:∀a,¬L a a){h x t p:Nat}{s:List Nat}(H:FF n G bX L (λ_=>0))(H1:FF n (dM h x G) bX L (λc=>if c=p then 0+1 else 0))(R:FR n (dM h x G) bX M none)(hR:G.R h=t::s)(lL:(dM h x G).R h=t::x::s)(hRo:∀g,g≠h->(dM h x G).R g=G.R g)
  (ux:G.up x=p) (hup:(dM h x G).up=ah G.up x (-1)) (hmr:(dM h x G).mr=ah G.mr x false) (hx:x<n) (hp:p<n) (hh:bX p=h) (h1:1<=h) (hf:∀y,y<n->bX y=h->y≠t->M t y) :
  FF n (dF n h x G) bX L (λ_=>0)/\FR n (dF n h x G) bX M none/\(∃s',(dF n h x G).R h=t::s')/\(∀g,g≠h->(dF n h x G).R g=G.R g)/\(dF n h x G).up x=-1/\
   (G.R h).length<=((dF n h x G).R h).length/\((dF n h x G).R h).length+marks n (dF n h x G)<=(G.R h).length+marks n G+2/\marks n (dF n h x G)<=marks n G+1:=by
 have e:dF n h x G=rY (marks n (dM h x G)+1) h p (dM h x G):=by unfold dF;rw[ux,Γ ω,π]
 rw[e];obtain⟨r1,r2,r3,r4,r5,r6,r7,r8⟩:=J9 (M:=M) YC (marks n (dM h x G)+1) p (x::s) (dM h x G) (by simpa using H1) R lL hp hh h1 hf ω;have hmk:=qL (G:=G) (b:=false) hx rfl (dM h x G) hmr;simp only[Ϣ,if_false] at hmk;rw[lL] at r5 r6;rw[hR];simp only[Ω] at r5 r6 ⊢;exact⟨r1,r2,r3,λg hg=>(r4 g hg).trans (hRo g hg),r8 x (by rw[hup,bK]),ω,ω,ω⟩
theorem FR.imp{n:Nat}{bX:Nat->Int}{L M:Nat->Nat->Prop}{g:Option Nat}(R:FR n G bX L g)(h:∀g t s,G.R g=t::s->∀y,y∈s->L t y->M t y):FR n G bX M g:=
 ⟨R.ring,R.mem,λg t s hg hR y hy=>h g t s hR y hy (R.top g t s hg hR y hy)⟩
theorem MZ(I:xC A G){x h:Nat}{k s0:Int}(hB:jf A x k s0=true)(hx:x<A.cs.length)(hh:(A.c x).i=h)(h1:1<=h) :
  ∃t s,G.R h=t::s/\(∀p:Nat,G.up x=p->p≠x/\
   FF A.cs.length (dM h x G) (λy=>(A.c y).i) (dB (aA A x k s0)) (λc=>if c=p then 0+1 else 0)/\FR A.cs.length (dM h x G) (λy=>(A.c y).i) (λa y=>y≠x->dB (aA A x k s0) a y) none/\(dM h x G).R h=t::x::s/\
   (∀y,y<A.cs.length->(A.c y).i=h->y≠t->y≠x->dB (aA A x k s0) t y))/\
  FF A.cs.length (fZ (aA A x k s0) h x G) (λy=>(A.c y).i) (dB (aA A x k s0)) (λ_=>0)/\FR A.cs.length (fZ (aA A x k s0) h x G) (λy=>(A.c y).i) (λa y=>y≠x->dB (aA A x k s0) a y) none/\
   (∃s',(fZ (aA A x k s0) h x G).R h=t::s')/\(∀g,g≠h->(fZ (aA A x k s0) h x G).R g=G.R g)/\((fZ (aA A x k s0) h x G).up x=-1\/(t≠x/\dB (aA A x k s0) t x))/\
   (G.R h).length<=((fZ (aA A x k s0) h x G).R h).length/\((fZ (aA A x k s0) h x G).R h).length+marks A.cs.length (fZ (aA A x k s0) h x G)<=(G.R h).length+marks A.cs.length G+2/\marks A.cs.length (fZ (aA A x k s0) h x G)<=marks A.cs.length G+1:=by
 have hc:=uo hB hx;have hle:=uJ hB;rw[π] at hle;have low:∀a y,y≠x->dB A a y->dB (aA A x k s0) a y:=λa y hy hl=>by
  by_cases e:a=x
  ·subst e;exact mD hl (by rw[hc,Γ hy]) (by rw[hc,Δ rfl];exact hle)
  ·exact(fE (by rw[hc,Γ e]) (by rw[hc,Γ hy])).2 hl
 obtain⟨t,s,hR⟩:∃t s,G.R h=t::s:=by
  cases hRR:G.R h with
  |nil=>
   have h2:=I.Ip hRR;have h3:=(jF (A:=A) (h:=(h:Int)) ω).1 h2;have:0<dD A (h:Int):=fM.2 ⟨x,hx,hh,ω⟩;omega
  |cons t s=>exact⟨t,s,rfl⟩
 have yU:∀y,y<A.cs.length->(A.c y).i=h->y≠t->y≠x->dB (aA A x k s0) t y:=λy hy XU RS hyx=>low t y hyx (I.first hR hy XU RS);have F':FF A.cs.length G (λy=>(A.c y).i) (λa y=>y≠x->dB (aA A x k s0) a y) (λ_=>0):=I.ff.mono (λy p hy hu ho=>⟨(I.ff.home y p hy hu).1,(I.ff.home y p hy hu).2,λhyx=>low p y hyx ho⟩) I.ff.alone;have R':FR A.cs.length G (λy=>(A.c y).i) (λa y=>y≠x->dB (aA A x k s0) a y) none:=I.fr.imp (λg t s hR y hy hl hyx=>low t y hyx hl)
 have off:∀p:Nat,G.up x=p->p≠x/\FF A.cs.length (dM h x G) (λy=>(A.c y).i) (dB (aA A x k s0)) (λc=>if c=p then 0+1 else 0)/\FR A.cs.length (dM h x G) (λy=>(A.c y).i) (λa y=>y≠x->dB (aA A x k s0) a y) none/\(dM h x G).R h=t::x::s/\
   ((dM h x G).up=ah G.up x (-1)/\(dM h x G).mr=ah G.mr x false/\∀g,g≠h->(dM h x G).R g=G.R g):=λp hp=>by
  have hpx:p≠x:=λe=>by subst e;exact pE (I.ff.ord p p hx hp)
  obtain⟨o1,o2,o3,o4,o5,o6,_,_⟩:=xN F' R' hR hx hp hpx hh (λh=>absurd rfl h);refine⟨hpx,o1.mono (λy q hy hu ho=>⟨(o1.home y q hy hu).1,(o1.home y q hy hu).2,ho (λe=>?_)⟩) o1.alone,o2,by rw[o6,bK],o3,o4,λg hg=>by rw[o6,aZ _ _ hg]⟩;subst e;rw[o3,bK] at hu;omega
 refine⟨t,s,hR,λp hp=>⟨(off p hp).1,(off p hp).2.1,(off p hp).2.2.1,(off p hp).2.2.2.1,yU⟩,?_⟩
 by_cases hup:G.up x=-1
 ·have e:fZ (aA A x k s0) h x G=G:=by unfold fZ;rw[Γ (by simp[hup])]
  rw[e];exact⟨F'.mono (λy p hy hu ho=>⟨(F'.home y p hy hu).1,(F'.home y p hy hu).2,ho (λe=>by subst e;omega)⟩) F'.alone,R',⟨s,hR⟩,λ_ _=>rfl,Α hup,Θ _,ω,ω⟩
 ·obtain⟨p,hp,ux,_⟩:=(I.ff.Gu x hx).resolve_left hup;have Xx:(A.c p).i=h:=by have:(A.c x).i=(A.c p).i:=(I.ff.home x p hx ux).1;omega
  cases hl:nu (aA A x k s0) x (G.up x).toNat with
  |true=>
   have e:fZ (aA A x k s0) h x G=dF A.cs.length h x G:=by unfold fZ;rw[Δ ⟨hup,hl⟩,gD]
   rw[e];obtain⟨o0,o1,o2,o3,o4,o5,o6⟩:=off p ux;obtain⟨r1,r2,r3,r4,r5,r6,r7,r8⟩:=by
    have e':dF A.cs.length h x G=rY (marks A.cs.length (dM h x G)+1) h p (dM h x G):=by unfold dF;rw[ux,Γ ω,π]
    have:=J9 (M:=λa y=>y≠x->dB (aA A x k s0) a y) (L:=dB (aA A x k s0)) (λa=>pE) (marks A.cs.length (dM h x G)+1) p (x::s) (dM h x G) (by simpa using o1) o2 o3 hp Xx h1 (λy hy XU RS hyx=>yU y hy XU RS hyx) ω;rw[←e'] at this;exact this
   have hmk:=qL (G:=G) (b:=false) hx rfl (dM h x G) o5;simp only[Ϣ,if_false] at hmk;rw[o3] at r5 r6;rw[hR];simp only[Ω] at r5 r6 ⊢;exact⟨r1,r2,r3,λg hg=>(r4 g hg).trans (o6 g hg),Α (r8 x (by rw[o4,bK])),ω,ω,ω⟩
  |false=>
   have e:fZ (aA A x k s0) h x G=G:=by unfold fZ;rw[Γ (by simp[hl])]
   rw[e];have hpx:p≠x:=(off p ux).1;have hnl:dB (aA A x k s0) p x:=by
    rw[ux,π] at hl;unfold nu at hl;have:¬dB (aA A x k s0) x p:=by simpa using hl
    exact(jc hpx).resolve_right this
   have htx:t≠x:=λe=>by
    subst e;have:=(I.jL hR).2.2.2.1;omega
   refine⟨F'.mono (λy q hy hu ho=>⟨(F'.home y q hy hu).1,(F'.home y q hy hu).2,?_⟩) F'.alone,R',⟨s,hR⟩,λ_ _=>rfl,Β ⟨htx,?_⟩,Θ _,ω,ω⟩
   ·by_cases e2:y=x
    ·subst e2;obtain rfl:q=p:=ω;exact hnl
    ·exact ho e2
   ·by_cases e2:p=t
    ·subst e2;exact hnl
    ·exact dI (yU p hp Xx e2 hpx) hnl
theorem aay(I:xC A G){x h:Nat}{k s0:Int}(hB:jf A x k s0=true)(hx:x<A.cs.length)(hh:(A.c x).i=h)(h1:1<=h) :
  xC (aA A x k s0) (lI (aA A x k s0) h x G)/\(∀g,g≠h->(lI (aA A x k s0) h x G).R g=G.R g)/\(G.R h).length<=((lI (aA A x k s0) h x G).R h).length/\
   ((lI (aA A x k s0) h x G).R h).length+marks A.cs.length (lI (aA A x k s0) h x G)<=(G.R h).length+marks A.cs.length G+2/\marks A.cs.length (lI (aA A x k s0) h x G)<=marks A.cs.length G+1:=by
 obtain⟨t,s,hR,_,f1,f2,⟨s',lL⟩,f4,f5,f6,f7,f8⟩:=MZ I hB hx hh h1;have hi:∀y,((aA A x k s0).c y).i=(A.c y).i:=iH hB hx;have hl:=gD A x k s0;obtain⟨q1,q2,q3⟩:=f2.all h;rw[lL] at q1;have hnd:=Ζ.1 q1.nd;have hF:∀G',FF A.cs.length G' (λy=>(A.c y).i) (dB (aA A x k s0)) (λ_=>0)->FF (aA A x k s0).cs.length G' (λy=>((aA A x k s0).c y).i) (dB (aA A x k s0)) (λ_=>0):=λG' H=>by
  rw[hl,show(λy=>((aA A x k s0).c y).i)=(λy=>(A.c y).i) from funext hi];exact H
 have hRR:∀G',FR A.cs.length G' (λy=>(A.c y).i) (dB (aA A x k s0)) none->FR (aA A x k s0).cs.length G' (λy=>((aA A x k s0).c y).i) (dB (aA A x k s0)) none:=λG' H=>by
  rw[hl,show(λy=>((aA A x k s0).c y).i)=(λy=>(A.c y).i) from funext hi];exact H
 have xg:∀g,g≠h->x∉(fZ (aA A x k s0) h x G).R g:=λg hg hm=>by
  have:=(((f2.all g).2.1 x).1 hm).2.2.2;simp only at this;omega
 by_cases hc:kY ((fZ (aA A x k s0) h x G).R h)≠x/\nu (aA A x k s0) x (kY ((fZ (aA A x k s0) h x G).R h)).toNat=true
 ·have e:lI (aA A x k s0) h x G=K6 h x (fZ (aA A x k s0) h x G):=by unfold lI;rw[Δ hc]
  rw[e];rw[lL] at hc;have htx:t≠x:=λe2=>hc.1 (by rw[e2];rfl);have hlt:dB (aA A x k s0) x t:=by
   have:=hc.2;unfold nu kY at this;simpa using this
  have ux:(fZ (aA A x k s0) h x G).up x=-1:=f5.resolve_right (λh'=>p9 hlt h'.2);have hm:x∈t::s':=by rw[←lL];exact(q2 x).2 ⟨h1,hx,ux,hh⟩
  obtain⟨a,b,e1,e2,xa,xb⟩:=KO hm q1.nd;have eR:(K6 h x (fZ (aA A x k s0) h x G)).R h=x::(b++a):=by
   show ah _ h _ h=_
   rw[bK,lL,e2]
  have eR':∀g,g≠h->(K6 h x (fZ (aA A x k s0) h x G)).R g=(fZ (aA A x k s0) h x G).R g:=λg hg=>aZ _ _ hg;have hmm:∀z,z∈x::(b++a)↔z∈t::s':=λz=>by rw[e1];simp;grind
  have hlen:(x::(b++a)).length=((fZ (aA A x k s0) h x G).R h).length:=by rw[lL,e1];simp;omega
  refine⟨⟨hF _ (f1.cO _),hRR _ ⟨λg _=>?_,λg y _=>?_,λg t' s'' _ hR' y hy=>?_⟩⟩,λg hg=>by rw[eR' g hg,f4 g hg],by rw[eR,hlen];exact f6,by rw[eR,hlen];exact f7,f8⟩
  ·by_cases eg:g=h
   ·subst eg;rw[eR];rw[e1] at q1;exact Ring.Vv (a:=a) (b:=x::b) q1
   ·rw[eR' g eg];exact(f2.all g).1
  ·by_cases eg:g=h
   ·subst eg;rw[eR,hmm,←lL];exact q2 y
   ·rw[eR' g eg];exact(f2.all g).2.1 y
  ·by_cases eg:g=h
   ·subst eg;rw[eR] at hR';have e3:x=t':=by injection hR'
    have e4:b++a=s'':=by injection hR'
    subst e3 e4;have hy2:=(hmm y).1 (by simp only[ρ];exact Β hy);have hyx:y≠x:=λe=>by subst e;simp at hy;rcases hy with h|h;exact xb h;exact xa h
    rcases ρ.1 hy2 with rfl|hy2
    ·exact hlt
    ·exact dI hlt (q3 t s' lL y hy2 hyx)
   ·rw[eR' g eg] at hR';have hyx:y≠x:=λe=>xg g eg (by rw[hR',←e];simp[hy]);exact(f2.all g).2.2 t' s'' hR' y hy hyx
 ·have e:lI (aA A x k s0) h x G=fZ (aA A x k s0) h x G:=by unfold lI;rw[Γ hc]
  rw[e];refine⟨⟨hF _ f1,hRR _ (f2.imp (λg t' s'' hR' y hy hl2=>?_))⟩,f4,f6,f7,f8⟩
  by_cases eyx:y=x
  ·by_cases eg:g=h
   ·subst eg;rw[lL] at hR' hc;have e3:t=t':=by injection hR'
    have e4:s'=s'':=by injection hR'
    subst e3 e4 eyx;have hty:t≠y:=λe=>hnd.1 (e▸hy);have:¬dB (aA A y k s0) y t:=λhlt=>hc ⟨λe=>hty (by have:(t:Int)=(y:Int):=e;omega),by unfold nu kY;simpa using hlt⟩;exact(jc hty).resolve_right this
   ·subst eyx;exact absurd (by rw[hR'];simp[hy]) (xg g eg)
  ·exact hl2 eyx
end
theorem BD.done{n:Nat}{bX:Nat->Int}{L:Nat->Nat->Prop}{h:Nat}{G:FG}(H:BD n bX L h [] G)(h1:1<=h):FR n G bX L none:=by
 refine⟨λg _=>?_,λg y _=>?_,λg t s _ hR=>?_⟩
 all_goals by_cases e:g=h
 ·subst e;exact H.ring
 ·exact H.fr.ring g (by simp;exact e)
 ·subst e;constructor
  ·intro hm;exact⟨h1,H.mem y hm⟩
  ·rintro⟨_,a⟩;rcases H.all y a with b|b
   ·exact b
   ·cases b
 ·exact H.fr.mem g y (by simp;exact e)
 ·subst e;exact H.top t s hR
 ·exact H.fr.top g t s (by simp;exact e) hR
section
variable{A:NS}{G:FG}
theorem ZV(n:Nat):xC (NS.new n) FG.none:=by
 have hz:∀y,((NS.new n).c y).i=0:=λy=>by rw[NS.tV];rfl
 refine⟨⟨⟨λx hx=>hx,λx hx=>hx,λ_ _=>rfl,λ_ _=>rfl⟩,λx y _ hy=>(by cases hy),λy _=>Α rfl,λx _=>Ring.nil _,λy p _ hu=>?_,λy p _ hu=>?_,λy _ _=>⟨rfl,rfl,rfl⟩,λy _ _=>rfl,λx d _=>Nat.zero_le _⟩,⟨λh _=>Ring.nil _,λh y _=>?_,λh t s _ e=>(by cases e)⟩⟩
 ·have:(-1:Int)=p:=hu;omega
 ·have:(-1:Int)=p:=hu;omega
 ·constructor
  ·intro hm;cases hm
  ·rintro⟨h1,_,_,h2⟩;simp only[hz] at h2;omega
theorem Wn(I:xC A G):xC (aU A) G:=by
 have e1:(aU A).cs=A.cs:=by unfold aU;split<;>rfl
 have e2:∀y,(aU A).c y=A.c y:=λy=>by unfold NS.c;rw[e1]
 have e3:(λy=>((aU A).c y).i)=(λy=>(A.c y).i):=funext (λy=>by rw[e2]);refine⟨?_,?_⟩
 ·rw[e1,e3];exact I.ff.mono (λy p hy hu ho=>⟨(I.ff.home y p hy hu).1,(I.ff.home y p hy hu).2,(fE (e2 p) (e2 y)).2 ho⟩) I.ff.alone
 ·rw[e1,e3];exact I.fr.imp (λg t s _ y _ hl=>(fE (e2 t) (e2 y)).2 hl)
theorem aad(I:xC A G)(ok:A.Ok){h x:Nat}(k s:Int)(hB:rG A h x=true) :
  xC (aO A h x k s) (Tq (aO A h x k s) h x G)/\((Tq (aO A h x k s) h x G).R h).length=(G.R h).length+1/\(∀g,g≠h->(Tq (aO A h x k s) h x G).R g=G.R g)/\(Tq (aO A h x k s) h x G).mr=G.mr/\1<=h/\x<A.cs.length/\
   bY (aO A h x k s) (x:Int)=true/\(∀t s',G.R h=t::s'->bY (aO A h x k s) (t:Int)=true)/\(aO A h x k s).cs.length=A.cs.length:=by
 obtain⟨b1,b2,b3⟩:=(fP _ _ _).1 hB;have b4:=(aC _ _).1 b1;have b5:=(ic _ _).1 b2;have hx:x<A.cs.length:=ω;have h1:1<=h:=ω;have eP:aO A h x k s=iW A x ⟨h,k,s⟩:=by unfold aO;rw[hB];rfl
 have hc:∀y,(aO A h x k s).c y=if y=x then⟨h,k,s⟩ else A.c y:=λy=>by rw[eP,lg];simp[hx]
 have hl:(aO A h x k s).cs.length=A.cs.length:=by rw[eP,fO]
 have x0:¬0<(A.c x).i:=λh'=>by
  have:bY A (x:Int)=true:=(aj _ _).2 ⟨hx,h'⟩;rw[this] at b3;cases b3
 obtain⟨ax,kx,nx⟩:=I.ff.alone x hx x0;have bX:∀y,y≠x->((aO A h x k s).c y).i=(A.c y).i:=λy hy=>by rw[hc,Γ hy]
 have yo:((aO A h x k s).c x).i=h:=by rw[hc,Δ rfl]
 have inx:∀y,0<(A.c y).i->y≠x:=λy hy e=>x0 (e▸hy);have RV:∀a y,a≠x->y≠x->(dB (aO A h x k s) a y↔dB A a y):=λa y ha hy=>fE (by rw[hc,Γ ha]) (by rw[hc,Γ hy])
 have F':FF A.cs.length G (λy=>((aO A h x k s).c y).i) (dB (aO A h x k s)) (λ_=>0):=I.ff.mono (λy p hy hu ho=>by
  have hh:=I.ff.home y p hy hu;have hy1:0<(A.c y).i:=hh.2;have hp1:0<(A.c p).i:=by have:(A.c y).i=(A.c p).i:=hh.1;omega
  have e1:=inx y hy1;have e2:=inx p hp1;exact⟨by simp only[bX y e1,bX p e2];exact hh.1,by simp only[bX y e1];exact hy1,(RV p y e2 e1).2 ho⟩) (λy hy h0=>by
  by_cases e:y=x
  ·subst e;exact⟨ax,kx,nx⟩
  ·simp only [bX y e] at h0;exact I.ff.alone y hy h0)
 have mR:∀g z,z∈G.R g->z≠x/\(A.c z).i=g/\1<=g:=λg z hz=>by
  have:=I.out hz;exact⟨inx z (by have:=this.2.2.2.1;omega),this.2.2.2.1,this.1⟩
 have mm:∀g z,z≠x->(z∈G.R g↔1<=g/\z<A.cs.length/\G.up z=-1/\((aO A h x k s).c z).i=g):=λg z hz=>by rw[bX z hz];exact(I.fr.all g).2.1 z
 have H:BD A.cs.length (λy=>((aO A h x k s).c y).i) (dB (aO A h x k s)) h [x] G:=by
  refine⟨F',⟨λg _=>(I.fr.all g).1,λg z hg=>?_,λg t s' _ hR y hy=>?_⟩,(I.fr.all h).1,λt s' hR y hy=>?_,λz hz=>?_,σ,λz hz=>?_,λz hz=>?_⟩
  ·by_cases e:z=x
   ·subst e;constructor
    ·intro hm;exact absurd rfl (mR g z hm).1
    ·rintro⟨_,_,_,h2⟩;simp only[yo] at h2;exact absurd (by congr 1;omega:some g=some h) hg
   ·exact mm g z e
  ·have e1:=(mR g t (by rw[hR];simp)).1;have e2:=(mR g y (by rw[hR];simp[hy])).1;exact(RV t y e1 e2).2 ((I.fr.all g).2.2 t s' hR y hy)
  ·have e1:=(mR h t (by rw[hR];simp)).1;have e2:=(mR h y (by rw[hR];simp[hy])).1;exact(RV t y e1 e2).2 ((I.fr.all h).2.2 t s' hR y hy)
  ·exact((mm h z (mR h z hz).1).1 hz).2
  ·simp at hz;subst hz;exact⟨⟨hx,ax,yo⟩,nx,λhm=>(mR h z hm).1 rfl⟩
  ·by_cases e:z=x
   ·exact Β (by simp[e])
   ·exact Α ((mm h z e).2 ⟨h1,hz⟩)
 obtain⟨r1,r2⟩:=H.step h1 (λG=>yZ _ _ _ _ _) (λa b c=>dI);obtain⟨s1,s2,s3,s4⟩:=rE (nu (aO A h x k s)) h [x] G;refine⟨⟨by rw[hl];exact r1.ff,by rw[hl];exact r1.done h1⟩,r2,s4,s2,h1,hx,(aj _ _).2 ⟨by rw[hl];exact hx,by rw[yo];omega⟩,λt s' hR=>?_,hl⟩;have:=I.out (h:=h) (z:=t) (by rw[hR];simp);exact(aj _ _).2 ⟨by rw[hl];exact this.2.1,by rw[bX t (mR h t (by rw[hR];simp)).1];omega⟩
theorem Zv(I:xC A G)(ok:A.Ok){a b:Nat}(hj:gJ A a b=true) :
  xC (az A a b) (yc (az A a b) a b G)/\((yc (az A a b) a b G).R a).length=(G.R a).length+(G.R b).length/\(yc (az A a b) a b G).R b=[]/\(∀g,g≠a->g≠b->(yc (az A a b) a b G).R g=G.R g)/\(yc (az A a b) a b G).mr=G.mr/\a≠b/\
   (∀t g s',G.R g=t::s'->bY (az A a b) (t:Int)=true):=by
 obtain⟨j1,j2,j3⟩:=(dG _ _ _).1 hj;have a4:=(aC _ _).1 j1;have b4:=(aC _ _).1 j2;have hab:a≠b:=λe=>j3 (by rw[e]);have h1:1<=a:=ω;have h2:1<=b:=ω;have hl:=eY A a b;have bX:∀y,y<A.cs.length->((az A a b).c y).i=if(A.c y).i=b then(a:Int) else(A.c y).i:=λy hy=>by
  rw[oO hj];simp only
  by_cases e:(A.c y).i=b
  ·rw[Δ ⟨e,hy⟩,Δ e]
  ·rw[Γ (λh=>e h.1),Γ e]
 have RV:=nY hj;have eL:∀x y,dB (az A a b) x y=dB A x y:=λx y=>propext (RV x y)
 have F':FF A.cs.length G (λy=>((az A a b).c y).i) (dB (az A a b)) (λ_=>0):=I.ff.mono (λy p hy hu ho=>by
  have hh:=I.ff.home y p hy hu;have hp:=(I.ff.above hy hu).1;have e1:(A.c y).i=(A.c p).i:=hh.1;have e2:0<(A.c y).i:=hh.2;refine⟨by simp only[bX y hy,bX p hp,e1],?_,(RV p y).2 ho⟩;simp only[bX y hy]
  split<;>omega) (λy hy h0=>I.ff.alone y hy (λh'=>h0 (by
   have e2:0<(A.c y).i:=h'
   simp only [bX y hy];split<;>omega)))
 have rt:∀g z,wO A.cs.length G (λy=>((az A a b).c y).i) g z↔z<A.cs.length/\G.up z=-1/\(if(A.c z).i=b then(a:Int) else(A.c z).i)=g:=λg z=>by
  unfold wO;constructor
  ·rintro⟨x1,x2,x3⟩;exact⟨x1,x2,by rw[←bX z x1];exact x3⟩
  ·rintro⟨x1,x2,x3⟩;exact⟨x1,x2,by show((az A a b).c z).i=_;rw[bX z x1];exact x3⟩
 have inj:∀t g s',G.R g=t::s'->bY (az A a b) (t:Int)=true:=λt g s' hR=>by
  have:=I.out (h:=g) (z:=t) (by rw[hR];simp);refine(aj _ _).2 ⟨by rw[hl];exact this.2.1,?_⟩;rw[bX t this.2.1]
  split<;>omega
 have oth:∀g,g≠a->g≠b->∀z,z∈G.R g↔1<=g/\wO A.cs.length G (λy=>((az A a b).c y).i) g z:=λg ga gb z=>by
  rw[rt,(I.fr.all g).2.1 z];unfold wO;simp only;constructor
  ·rintro⟨x0,x1,x2,x3⟩;exact⟨x0,x1,x2,by rw[Γ ω];exact x3⟩
  ·rintro⟨x0,x1,x2,x3⟩;refine⟨x0,x1,x2,?_⟩
   split at x3
   ·omega
   ·exact x3
 have Wm:∀g t s',G.R g=t::s'->∀y,y∈s'->dB (az A a b) t y:=λg t s' hR y hy=>(RV t y).2 ((I.fr.all g).2.2 t s' hR y hy);have ab:∀z,(z∈G.R a\/z∈G.R b)↔wO A.cs.length G (λy=>((az A a b).c y).i) a z:=λz=>by
  rw[rt,(I.fr.all a).2.1 z,(I.fr.all b).2.1 z];unfold wO;simp only;constructor
  ·rintro(⟨_,x1,x2,x3⟩|⟨_,x1,x2,x3⟩)
   ·exact⟨x1,x2,by rw[Γ ω];exact x3⟩
   ·exact⟨x1,x2,by rw[Δ x3]⟩
  ·rintro⟨x1,x2,x3⟩
   split at x3
   ·rename_i e;exact Β ⟨h2,x1,x2,e⟩
   ·exact Α ⟨h1,x1,x2,x3⟩
 have nb:∀z,¬wO A.cs.length G (λy=>((az A a b).c y).i) b z:=λz hz=>by
  rw[rt] at hz;have x3:=hz.2.2
  split at x3<;>omega
 cases hRb:G.R b with
 |nil=>
  have e:yc (az A a b) a b G={ G with R:=ah G.R b [] }:=by unfold yc;rw[hRb]
  have eR:({ G with R:=ah G.R b [] }:FG).R=G.R:=by
   show ah G.R b []=G.R
   funext z;unfold ah;by_cases ez:z=b
   ·rw[Δ ez,ez,hRb]
   ·rw[Γ ez]
  rw[e];refine⟨⟨by rw[hl];exact F'.cO _,?_⟩,by rw[eR];simp,bK _ _ _,λg _ hg=>aZ _ _ hg,rfl,hab,inj⟩;rw[hl];refine⟨λg _=>by rw[eR];exact(I.fr.all g).1,λg y _=>?_,λg t s _ hR=>by rw[eR] at hR;exact Wm g t s hR⟩;rw[eR]
  by_cases ga:g=a
  ·subst ga;have:=ab y;rw[hRb] at this;simp only[ς,or_false] at this;rw[this];exact⟨λh=>⟨h1,h⟩,λh=>h.2⟩
  ·by_cases gb:g=b
   ·subst gb;rw[hRb];constructor
    ·intro hm;cases hm
    ·rintro⟨_,hz⟩;exact absurd hz (nb y)
   ·exact oth g ga gb y
 |cons x r=>
  have e:yc (az A a b) a b G={ gH (nu (az A a b)) a (x::r) G with R:=ah (gH (nu (az A a b)) a (x::r) G).R b [] }:=by unfold yc;rw[hRb]
  rw[e];have rb:=(I.fr.all b).1;rw[hRb] at rb
  obtain ⟨c1,c2,c3,c4,c5⟩:=wm (lt:=nu (az A a b)) (h:=a) F' h1 (yZ _ _ _ _ _) (λ_ _ _=>dI) (I.fr.all a).1 rb (λz hz hm=>by
    have x1:=(I.out hz).2.2.2.1;have x2:=(I.out (h:=b) (z:=z) (by rw[hRb];exact hm)).2.2.2.1
    omega) (λz hz=>(ab z).1 (Α hz)) (λz hz=>(ab z).1 (Β (by rw [hRb];exact hz))) (Wm a) (Wm b x r hRb)
  obtain⟨s1,s2,s3,s4⟩:=rE (nu (az A a b)) a (x::r) G;generalize gH (nu (az A a b)) a (x::r) G=G1 at *;have WB:ah G1.R b [] a=G1.R a:=aZ _ _ hab;have eRg:∀g,g≠a->g≠b->ah G1.R b [] g=G.R g:=λg ga gb=>(aZ _ _ gb).trans (s4 g ga);refine⟨⟨by rw[hl];exact c1.cO _,?_⟩,?_,bK _ _ _,eRg,s2,hab,inj⟩
  ·rw[hl];refine⟨λg _=>?_,λg y _=>?_,λg t s _ hR=>?_⟩
   all_goals by_cases ga:g=a
   ·subst ga
    show Ring G1.nx (ah G1.R b [] g)
    rw[WB];exact c2
   ·show Ring G1.nx (ah G1.R b [] g)
    by_cases gb:g=b
    ·rw[gb,bK];exact Ring.nil _
    ·rw[eRg g ga gb];refine c5 _ (I.fr.all g).1 (λz hz=>?_);have x0:=(I.out hz).2.2.2.1;exact⟨λhm=>ga (by have:=(I.out hm).2.2.2.1;omega),λhm=>gb (by have:=(I.out (h:=b) (z:=z) (by rw[hRb];exact hm)).2.2.2.1;omega)⟩
   ·subst ga
    show y∈ah G1.R b [] g↔1<=g/\y<_/\G1.up y=-1/\_
    rw[WB,c3.mem_iff,s1];have:=ab y;rw[hRb] at this;rw[τ,this];exact⟨λh=>⟨h1,h⟩,λh=>h.2⟩
   ·show y∈ah G1.R b [] g↔1<=g/\y<_/\G1.up y=-1/\_
    rw[s1]
    by_cases gb:g=b
    ·subst gb;rw[bK];constructor
     ·intro hm;cases hm
     ·rintro⟨_,hz⟩;exact absurd hz (nb y)
    ·rw[eRg g ga gb];exact oth g ga gb y
   ·subst ga;have hR':ah G1.R b [] g=t::s:=hR;rw[WB] at hR';exact c4 t s hR'
   ·have hR':ah G1.R b [] g=t::s:=hR
    by_cases gb:g=b
    ·rw[gb,bK] at hR';cases hR'
    ·rw[eRg g ga gb] at hR';exact Wm g t s hR'
  ·show(ah G1.R b [] a).length=_
   rw[WB,c3.length_eq,υ]
end
section
variable{A:NS}{G:FG}
theorem Wx(I:xC A G){x h t:Nat}{s:List Nat}(hR:G.R h=t::s)(hx:x<A.cs.length)(hh:(A.c x).i=h)(htx:t≠x) :
  (∀p:Nat,G.up x=p->p≠x/\p<A.cs.length/\(A.c p).i=h/\FF A.cs.length (dM h x G) (λy=>(A.c y).i) (dB A) (λc=>if c=p then 0+1 else 0)/\FR A.cs.length (dM h x G) (λy=>(A.c y).i) (dB A) none/\(dM h x G).R h=t::x::s)/\
  FF A.cs.length (dF A.cs.length h x G) (λy=>(A.c y).i) (dB A) (λ_=>0)/\FR A.cs.length (dF A.cs.length h x G) (λy=>(A.c y).i) (dB A) none/\(∃s',(dF A.cs.length h x G).R h=t::s')/\(∀g,g≠h->(dF A.cs.length h x G).R g=G.R g)/\(dF A.cs.length h x G).up x=-1/\
   (G.R h).length<=((dF A.cs.length h x G).R h).length/\((dF A.cs.length h x G).R h).length+marks A.cs.length (dF A.cs.length h x G)<=(G.R h).length+marks A.cs.length G+2/\marks A.cs.length (dF A.cs.length h x G)<=marks A.cs.length G+1:=by
 obtain⟨m1,h1,ht,ut,hth⟩:=I.jL hR;have off:∀p:Nat,G.up x=p->(p≠x/\p<A.cs.length/\(A.c p).i=h/\FF A.cs.length (dM h x G) (λy=>(A.c y).i) (dB A) (λc=>if c=p then 0+1 else 0)/\FR A.cs.length (dM h x G) (λy=>(A.c y).i) (dB A) none/\(dM h x G).R h=t::x::s)/\
   ((dM h x G).up=ah G.up x (-1)/\(dM h x G).mr=ah G.mr x false/\∀g,g≠h->(dM h x G).R g=G.R g):=λp hp=>by
  have hpx:p≠x:=λe=>by subst e;exact pE (I.ff.ord p p hx hp)
  obtain⟨o1,o2,o3,o4,o5,o6,_,_⟩:=xN I.ff I.fr hR hx hp hpx hh (I.first hR hx hh (Ne.symm htx));have Xx:(A.c x).i=(A.c p).i:=(I.ff.home x p hx hp).1;exact⟨⟨hpx,(I.ff.above hx hp).1,ω,o1,o2,by rw[o6,bK]⟩,o3,o4,λg hg=>by rw[o6,aZ _ _ hg]⟩
 refine⟨λp hp=>(off p hp).1,?_⟩
 by_cases hup:G.up x=-1
 ·have e:dF A.cs.length h x G=G:=by unfold dF;rw[Δ hup]
  rw[e];exact⟨I.ff,I.fr,⟨s,hR⟩,λ_ _=>rfl,hup,Θ _,ω,ω⟩
 ·obtain⟨p,hp,ux,_⟩:=(I.ff.Gu x hx).resolve_left hup;obtain⟨⟨o0,_,Xx,o1,o2,o3⟩,o4,o5,o6⟩:=off p ux;exact Vk (λa=>pE) I.ff o1 o2 hR o3 o6 ux o4 o5 hx hp Xx h1 (λy hy XU RS=>I.first hR hy XU RS)
theorem abb(I:xC A G)(ok:A.Ok){x h t:Nat}{s:List Nat}(hR:G.R h=t::s)(hx:x<A.cs.length)(ux:G.up x=-1)(hh:(A.c x).i=h)(htx:t≠x) :
  xC (bg A x) (nG h x G)/\kY ((nG h x G).R h)=t/\((nG h x G).R h).length+1=(G.R h).length+(G.K x).length/\(∀g,g≠h->(nG h x G).R g=G.R g)/\marks A.cs.length (nG h x G)<=marks A.cs.length G:=by
 obtain⟨m1,h1,ht,ut,hth⟩:=I.jL hR;have h0:(0:Int)<(A.c x).i:=ω;have hin:bY A (x:Int)=true:=(aj _ _).2 ⟨hx,h0⟩;have hc:=λy=>yA hin y;have hcl:=fD A (x:Int);obtain⟨q1,q2,q3⟩:=I.fr.all h;have hm:x∈G.R h:=(q2 x).2 ⟨h1,hx,ux,hh⟩;obtain⟨a,b,e1,xa,xb,e2,e3⟩:=Dn hm q1.nd;have hmid:PE (G.R h) (kl (G.K x)) x=a++(kl (G.K x)++b):=by unfold PE;rw[e2,e3]
 obtain⟨a',ea⟩:∃a',a=t::a':=by
  rw[hR] at e1;cases a with
  |nil=>simp at e1;exact absurd e1.1 htx
  |cons y a'=>simp at e1;exact⟨a',by rw[e1.1]⟩
 obtain⟨rF,r1,r2⟩:=I.ff.raise hx ux h0;have YH:=Ao G ux;have mr1:=Jj G (I.ff.free x hx ux);have K1:=zO G x;have x8:∀z,G.up z=-1->z∉G.K x:=λz hz=>I.ff.rQ hx hz;have rr:∀z,z∈G.R h->z<A.cs.length/\G.up z=-1/\(A.c z).i=h:=λz hz=>((q2 z).1 hz).2;have kr:∀z,z∈G.K x->z<A.cs.length/\G.up z=x/\(A.c z).i=h:=λz hz=>by
  obtain⟨k1,k2⟩:=I.ff.kid x z hx hz;have k3:(A.c z).i=(A.c x).i:=(I.ff.home z x k1 k2).1;exact⟨k1,k2,ω⟩
 rw[e1] at q1;have g1:=r2 a b q1 (λz hz=>x8 z (rr z (by rw[e1];exact hz)).2.1);have g2:Ring (bM G x).nx (x::((kl (G.K x)++b)++a)):=Ring.Vv (a:=a) (b:=x::(kl (G.K x)++b)) g1;have mm:∀z,z∈x::((kl (G.K x)++b)++a)↔z∈G.R h\/z∈G.K x:=λz=>by rw[e1];simp[Kk];grind
 have all:∀z,z∈x::((kl (G.K x)++b)++a)->z<A.cs.length/\(bM G x).up z=-1/\(A.c z).i=h:=λz hz=>by
  rw[YH];rcases(mm z).1 hz with hz|hz
  ·exact⟨(rr z hz).1,by rw[Γ (x8 z (rr z hz).2.1)];exact(rr z hz).2.1,(rr z hz).2.2⟩
  ·exact⟨(kr z hz).1,by rw[Δ hz],(kr z hz).2.2⟩
 obtain⟨p1,p2⟩:=rF.rg.part g2 (λz hz=>(all z hz).1);have hnd:=Ζ.1 g2.nd;have hpm:(bM G x).pv x∈x::((kl (G.K x)++b)++a):=by
  rcases List.eq_nil_or_concat ((kl (G.K x)++b)++a) with e|⟨c,y,e⟩
  ·rw[e] at g2;have e1:=iM.1 g2;have:=rF.rg.pn x hx;rw[e1] at this;rw[this];simp
  ·rw[List.concat_eq_append] at e;have:=rF.rg.last (x:=x) (y:=y) (a:=c) (by rw[List.cons_append,←e];exact g2) (all y (by rw[e];simp)).1;rw[this,e];simp
 have hpv:=all _ hpm;have p3:Ring (dP (bM G x).nx x ((bM G x).pv x)) (a++(kl (G.K x)++b)):=Ring.Vv (a:=kl (G.K x)++b) (b:=a) p2;have F2:=rF.Nj hx hpv.1 (all x σ).2.1 hpv.2.1 h0 (by have:=hpv.2.2;show 0<(A.c _).i;omega);have R2:(nG h x G).R h=a++(kl (G.K x)++b):=by show ah G.R h _ h=_;rw[bK,hmid]
 have R2':∀g,g≠h->(nG h x G).R g=G.R g:=λg hg=>aZ _ _ hg;have up2:(nG h x G).up=(bM G x).up:=rfl;have K2:(nG h x G).K=ah G.K x []:=K1;have nx2:(nG h x G).nx=dP (bM G x).nx x ((bM G x).pv x):=rfl;have oq:∀z,z≠x->((bg A (x:Int)).c z).i=(A.c z).i:=λz hz=>by rw[hc,Γ hz]
 have yo:((bg A (x:Int)).c x).i=0:=by rw[hc,Δ rfl];rfl
 have RV:∀y z,y≠x->z≠x->(dB (bg A (x:Int)) y z↔dB A y z):=λy z hy hz=>fE (by rw[hc,Γ hy]) (by rw[hc,Γ hz]);have F3:FF A.cs.length (nG h x G) (λy=>((bg A (x:Int)).c y).i) (dB (bg A (x:Int))) (λ_=>0):=by
  refine(F2.cO _).mono (λy p hy hu ho=>?_) (λy hy h2=>?_)
  ·have hu':(bM G x).up y=p:=hu;have hyx:y≠x:=λe=>by subst e;rw[(all y σ).2.1] at hu';omega
   have hpx:p≠x:=λe=>by
    have hk2:y∈(bM G x).K p:=(rF.above hy hu').2;rw[K1,e,bK] at hk2;cases hk2
   have Cj:(A.c y).i=(A.c p).i:=(rF.home y p hy hu').1;have hh2:0<(A.c y).i:=(rF.home y p hy hu').2;exact⟨by simp only[oq y hyx,oq p hpx];exact Cj,by simp only[oq y hyx];exact hh2,(RV p y hpx hyx).2 ho⟩
  ·by_cases e:y=x
   ·subst e;exact⟨(all y σ).2.1,by show(bM G y).K y=[];rw[K1,bK],iM.1 p1⟩
   ·have h3:¬0<(A.c y).i:=by simp only[oq y e] at h2;exact h2
    exact F2.alone y hy h3
 have htop:∀y,y∈a'++(kl (G.K x)++b)->y≠x/\dB A t y:=λy hy=>by
  have hyx:y≠x:=λe=>by
   subst e;refine hnd.1 ?_;rw[ea];simp only[τ,ρ] at hy ⊢;rcases hy with h|h|h
   ·exact Β (Β h)
   ·exact Α (Α h)
   ·exact Α (Β h)
  refine⟨hyx,?_⟩;simp only[τ,Kk] at hy;have old:y∈s->dB A t y:=λh=>q3 t s hR y h;rw[hR,ea] at e1;simp only[List.cons_append,List.cons.injEq,true_and] at e1;rcases hy with h|h|h
  ·exact old (by rw[e1];simp[h])
  ·exact I.first hR (kr y h).1 (kr y h).2.2 (λe=>by have:=(kr y h).2.1;rw[e,ut] at this;omega)
  ·exact old (by rw[e1];simp[h])
 refine⟨⟨by rw[hcl];exact F3,?_⟩,by rw[R2,ea];rfl,?_,R2',?_⟩
 ·rw[hcl];refine⟨λg _=>?_,λg y _=>?_,λg t' s' _ hR' y hy=>?_⟩
  all_goals by_cases eg:g=h
  ·rw[eg,R2,nx2];exact p3
  ·rw[R2' g eg,nx2];have old:=(I.fr.all g);have hz:∀z,z∈G.R g->G.up z=-1/\(A.c z).i=g:=λz hz=>⟨((old.2.1 z).1 hz).2.2.1,((old.2.1 z).1 hz).2.2.2⟩
   have hr:=r1 _ old.1 (λhm=>eg (by have:=(hz x hm).2;omega)) (λz hm=>x8 z (hz z hm).1);exact hr.mU (λhm=>eg (by have:=(hz x hm).2;omega)) (λhm=>eg (by have:=(hz _ hm).2;have:=hpv.2.2;omega))
  ·rw[eg,R2,up2];have:y∈a++(kl (G.K x)++b)↔y≠x/\(y∈G.R h\/y∈G.K x):=by
    rw[←mm];constructor
    ·intro hm;refine⟨λe=>hnd.1 (by rw[e] at hm;simp only[τ] at hm ⊢;rcases hm with h|h|h;exact Β h;exact Α (Α h);exact Α (Β h)),?_⟩;simp only[ρ,τ] at hm ⊢;rcases hm with h|h|h
     ·exact Β (Β h)
     ·exact Β (Α (Α h))
     ·exact Β (Α (Β h))
    ·rintro⟨hyx,hm⟩;simp only[ρ,τ] at hm ⊢;rcases hm with h|(h|h)|h
     ·exact absurd h hyx
     ·exact Β (Α h)
     ·exact Β (Β h)
     ·exact Α h
   rw[this];constructor
   ·rintro⟨hyx,hm⟩;have:=all y ((mm y).2 hm);exact⟨h1,this.1,this.2.1,by simp only[oq y hyx];exact this.2.2⟩
   ·rintro⟨_,a1,a2,a3⟩;have hyx:y≠x:=λe=>by subst e;simp only[yo] at a3;omega
    simp only[oq y hyx] at a3;rw[YH] at a2;refine⟨hyx,?_⟩
    split at a2
    ·rename_i hk;exact Β hk
    ·exact Α ((q2 y).2 ⟨h1,a1,a2,a3⟩)
  ·rw[R2' g eg,up2,(I.fr.all g).2.1 y];constructor
   ·rintro⟨a0,a1,a2,a3⟩;have a3':(A.c y).i=g:=a3;have hyx:y≠x:=λe=>by subst e;exact eg ω
    exact⟨a0,a1,by rw[YH,Γ (x8 y a2)];exact a2,by simp only[oq y hyx];exact a3'⟩
   ·rintro⟨a0,a1,a2,a3⟩;have hyx:y≠x:=λe=>by subst e;simp only[yo] at a3;omega
    simp only[oq y hyx] at a3;rw[YH] at a2
    split at a2
    ·rename_i hk
     have:=(kr y hk).2.2;exact absurd (show g=h by omega) eg
    ·exact⟨a0,a1,a2,a3⟩
  ·rw[eg,R2,ea] at hR';have e4:t=t':=by injection hR'
   have e5:a'++(kl (G.K x)++b)=s':=by injection hR'
   subst e4 e5;have:=htop y hy;exact(RV t y htx this.1).2 this.2
  ·rw[R2' g eg] at hR';have xt:t'≠x:=λe=>eg (by have:=(I.out (h:=g) (z:=t') (by rw[hR'];simp)).2.2.2.1;rw[e] at this;omega);have xy:y≠x:=λe=>eg (by have:=(I.out (h:=g) (z:=y) (by rw[hR'];simp[hy])).2.2.2.1;rw[e] at this;omega);exact(RV t' y xt xy).2 ((I.fr.all g).2.2 t' s' hR' y hy)
 ·rw[R2,e1];simp[Um];omega
 ·unfold marks;have:(nG h x G).mr=(bM G x).mr:=rfl;rw[this];rw[←List.countP_eq_length_filter,←List.countP_eq_length_filter];refine List.countP_mono_left (λz _ hz=>?_);rw[mr1] at hz
  split at hz
  ·cases hz
  ·exact hz
end
end Go.Proofs.YtnpdakpagnpanaaGreat
namespace Go.Proofs.YtnpdakpagnpanaaGreat
open Tryz
open Go Go.RowKit
section
variable{w:World}{B:FB}{F:List Nat}{gt ct:Nat}{A:NS}{st:Nat}{G:FG}
theorem L8{α:Type}(f:Nat->α)(x:Nat)(u v:α):ah (ah f x u) x v=ah f x v:=by
 funext z;unfold ah;split<;>rfl
theorem fC.kids(M:fC w B F gt ct A st G)(p:Nat)(l:List Nat)(d v:Int)(hd:d=(l.length:Int))(hv:v=kY l) :
  fC ((w.setCell ⟨B.bl,p*4+2,none⟩ (.int .i64 d)).setCell ⟨B.bl,p*4+1,none⟩ (.int .i64 v)) B F gt ct A st { G with K:=ah G.K p l }:=by
 refine M.Ld (up:=G.up) (mr:=G.mr) ν ?_;unfold nU;simp only[Ez,jP,←hv,←hd];exact qG (tO M.pl p d) p v
theorem fC.acB(M:fC w B F gt ct A st G)(p:Nat)(l:List Nat)(d v u:Int)(hd:d=(l.length:Int))(hv:v=kY l) :
  fC (((w.setCell ⟨B.bl,p*4+2,none⟩ (.int .i64 d)).setCell ⟨B.bl,p*4+1,none⟩ (.int .i64 u)).setCell ⟨B.bl,p*4+1,none⟩ (.int .i64 v)) B F gt ct A st { G with K:=ah G.K p l }:=by
 refine M.Ld (up:=G.up) (mr:=G.mr) ν ?_;unfold nU;simp only[Ez,jP,←hv,←hd];have:=qG (qG (tO M.pl p d) p u) p v;rw[L8] at this;exact this
theorem fC.lone(M:fC w B F gt ct A st G)(x:Nat):fC ((w.setCell ⟨B.bl,x*4,none⟩ (.int .i64 (-1))).setCell ⟨B.bl,x*4+3,none⟩ (.bool false)) B F gt ct A st { G with up:=ah G.up x (-1),mr:=ah G.mr x false }:=by
 refine M.Ld (K:=G.K) ν ?_;exact ql (sZ M.pl x (-1)) x false
theorem tQ{c:Code}{K:Exit->Act->World->Prop}{a:Act}{W:World}(R:World->Prop)(h:R W)(k:∀W',R W'->Code.wp prog c K a W'):Code.wp prog c K a W:=k W h
theorem JJ(M:fC w B F gt ct A st G){q x p t:Nat}{s:List Nat}(hq:q<A.hs.length)(hx:x<A.cs.length)(hp:p<A.cs.length)(ux:G.up x=p)(hR:G.R q=t::s)(ht:t<A.cs.length)
  (hl:(G.K p).length=(Af (G.K p) x).length+1) (hl2:(G.K p).length<=65536) (hn:G.nx x=(Af (G.K p) x).headD x) (hxa:x∉Af (G.K p) x) :
  Calls prog 221 #[.pointer (some ⟨B.n0,0,none⟩),.int .i64 (q:Int),.int .i64 (x:Int)] w λe w'=>e=.returned (.tuple #[])/\fC w' B F gt ct A st (dM q x G)/\ae [B.bn,B.bp,B.bl] w w':=by
 have h2:=M.h2;have h1:=M.h1;have CE:(x:Int)<(A.cs.length:Int):=ω;have hpI:(p:Int)<(A.cs.length:Int):=ω;have px0:=M.p0 hx;rw[ux] at px0;have pp1:=M.p1 hp;have pp2:=M.p2 hp;have fp1:=M.pl.free (p*4+1);have fp2:=M.pl.free (p*4+2);have eg:dM q x G={ nx:=dP (dP G.nx x (G.pv x)) t x,pv:=jw (dP G.nx x (G.pv x)) (jw G.nx G.pv x (G.pv x)) t x,up:=ah G.up x (-1),mr:=ah G.mr x false,K:=ah G.K p (Af (G.K p) x),R:=ah G.R q (t::x::s) }:=by
  unfold dM;rw[hR,ux];rfl
 rw[eg];have hw1:IntKind.i64.wrap (((G.K p).length:Int)-1)=((Af (G.K p) x).length:Int):=by rw[Μ _ ω];omega
 obtain⟨g1,g2,g3,g4,g5,g6,g7⟩:=M.d3;obtain⟨e1,e2,e3,e4,e5⟩:=M.d2;have hlt:=M.lt;have hkn:∀W,fC W B F gt ct A st { G with K:=ah G.K p (Af (G.K p) x) }->Calls prog 226 #[.pointer (some ⟨B.br,0,none⟩),.int .i64 (x:Int)] W λe w'=>e=.returned (.tuple #[.int .i64 (G.nx x:Int),.bool true])/\w'=W:=λW hW=>Dv hW.rings hx
 have Ed:∀W,fC W B F gt ct A st { G with K:=ah G.K p (Af (G.K p) x) }->Calls prog 217 #[.pointer (some ⟨B.br,0,none⟩),.int .i64 (x:Int)] W λe w'=>e=.returned (.bool true)/\zm w' B.br B.bn B.bp A.cs.length (dP G.nx x (G.pv x)) (jw G.nx G.pv x (G.pv x))/\ae [B.bn,B.bp] W w':=λW hW=>yR hW.rings hx;cases hA:Af (G.K p) x with
 |nil=>
  rw[hA] at hn hw1 hl Ed hkn;have hn':G.nx x=x:=hn;rw[hn'] at hkn;obtain⟨W5,QR⟩:∃W5,W5=(w.setCell ⟨B.bl,p*4+2,none⟩ (.int .i64 0)).setCell ⟨B.bl,p*4+1,none⟩ (.int .i64 (-1)):=⟨_,rfl⟩;have M5:fC W5 B F gt ct A st { G with K:=ah G.K p [] }:=by rw[QR];exact M.kids p [] 0 (-1) rfl rfl
  have bW:ae [B.bl] w W5:=by rw[QR];exact ν
  go_enter func221,ntmps221
  go_wp2
  go_region
  have KP:=χ Ed;have KN:=χ hkn;have H5:=χ (ψ M5 (ψ bW QR));have HM:=χ (ψ M (ψ hlt hR));clear Ed hkn M5 bW QR M hlt hR eg hA hn hn' hl ux hxa;have QV:=λW (hW:ae [] W5 W)=>KN.out W (H5.out.1.ag hW);have Zl:=λW (hW:ae [] W5 W)=>KP.out W (H5.out.1.ag hW);rw[H5.out.2.2] at QV Zl
  go_wp2_with (first
   |((go_at_call 226;(with_reducible refine(QV _ β).mono ?_));rintro e w9 ⟨rfl,zu⟩;rw[zu];clear zu w9)
   |((go_at_call 217;(with_reducible refine(Zl _ β).mono ?_));rintro e w6 ⟨rfl,ZP,iX⟩)
   | fail)
  have U6:ae [B.bn,B.bp] W5 w6:=by rw[H5.out.2.2];exact ae.trans β iX
  have M6:=((H5.out.1)).cO U6 ZP;have kS:ae [B.bn,B.bp,B.bl] w w6:=(H5.out.2.1.mono σ).trans ((U6).mono (λz hz=>by simp at hz;rcases hz with e|e<;>simp[e]));have q2:=M6.h2;have q0:=M6.p0 hx;have q3:=M6.p3 hx;have f0:=M6.pl.free (x*4);have f3:=M6.pl.free (x*4+3);have H6:=χ (ψ M6 kS);clear M6 kS ZP iX QV Zl
  go_region
  go_wp2;refine tQ (λW=>fC W B F gt ct A st { nx:=dP G.nx x (G.pv x),pv:=jw G.nx G.pv x (G.pv x),up:=ah G.up x (-1),mr:=ah G.mr x false,K:=ah G.K p [],R:=G.R }/\ae [B.bn,B.bp,B.bl] w W) ?_ ?_
  ·have kS:=H6.out.2;exact⟨(H6.out.1.lone x).drewN 1,ν⟩
  rintro w7 ⟨M7,kS⟩;have ks:=λW (hW:ae [] w7 W)=>jY (M7.rings.ag hW) ht hx;have m:∀x,x≠B.bn->x≠B.bp->x∉[B.bn,B.bp]:=λx h1 h2=>by simp[h1,h2]
  have r1:∀W,ae [B.bn,B.bp] w7 W->W.cell? ⟨B.n0,1,none⟩=some (.pointer (some ⟨B.br,0,none⟩)):=λW hW=>hW.kept M7.h1 (m _ e2 e3);have r3:∀W,ae [B.bn,B.bp] w7 W->W.cell? ⟨B.n0,3,none⟩=some (.slice (some ⟨gt,0,none⟩) A.hs.length ct):=λW hW=>hW.kept M7.h3 (m _ e2 e3);have rt:∀W,ae [B.bn,B.bp] w7 W->W.cell? ⟨gt,q,none⟩=some (.int .i64 (t:Int)):=λW hW=>by
   have:=hW.kept (M7.top hq) (m _ g6 g7);rw[show kY ((({ nx:=dP G.nx x (G.pv x),pv:=jw G.nx G.pv x (G.pv x),up:=ah G.up x (-1),mr:=ah G.mr x false,K:=ah G.K p [],R:=G.R }:FG)).R q)=t from by show kY (G.R q)=t;rw[HM.out.2.2];rfl] at this;exact this
  have hqI:(q:Int)<(A.hs.length:Int):=ω;have H7:=χ (ψ M7 kS);clear M7 kS q2 q0 q3 f0 f3
  go_region_held3 (ae [B.bn,B.bp] w7) (exact ν)
   (first
    | ((go_at_call 223;(with_reducible refine (ks _ β).mono ?_));rintro e w8 ⟨rfl,hR8,wD⟩;(have Ca:ae [B.bn,B.bp] w7 w8:=ae.trans ν wD)))
  go_wp2;go_end0;refine⟨rfl,((H7.out.1.cO Ca hR8).MS q (t::x::s) (by show _=kY (G.R q);rw[HM.out.2.2];rfl)).drewN 0,H7.out.2.trans (Ca.mono (λz hz=>by simp at hz;rcases hz with e|e<;>simp[e]))⟩
 |cons y r=>
  rw[hA] at hn hw1 hl Ed hkn;have hn':G.nx x=y:=hn;rw[hA] at hxa;have hyx:y≠x:=λe=>hxa (by simp[e]);have hyxI:((y:Int) == (x:Int))=false:=ζ;rw[hn'] at hkn;obtain⟨W4,TF⟩:∃W4,W4=(w.setCell ⟨B.bl,p*4+2,none⟩ (.int .i64 (((y::r).length:Nat):Int))).setCell ⟨B.bl,p*4+1,none⟩ (.int .i64 (-1)):=⟨_,rfl⟩;obtain⟨W5,QR⟩:∃W5,W5=((w.setCell ⟨B.bl,p*4+2,none⟩ (.int .i64 (((y::r).length:Nat):Int))).setCell ⟨B.bl,p*4+1,none⟩ (.int .i64 (-1))).setCell ⟨B.bl,p*4+1,none⟩ (.int .i64 (y:Int)):=⟨_,rfl⟩
  have M5:fC W5 B F gt ct A st { G with K:=ah G.K p (y::r) }:=by rw[QR];exact M.acB p (y::r) _ (y:Int) (-1) rfl rfl
  have bW:ae [B.bl] w W5:=by rw[QR];exact ν
  have fU:ae [B.bl] w W4:=by rw[TF];exact ν
  have kn4:∀W,ae [] W4 W->Calls prog 226 #[.pointer (some ⟨B.br,0,none⟩),.int .i64 (x:Int)] W λe w'=>e=.returned (.tuple #[.int .i64 (y:Int),.bool true])/\w'=W:=λW hW=>by
   have:=Dv (M.rings.upd (fU.then hW) (by simp;exact Ne.symm g1) (by simp;exact Ne.symm g2) (by simp;exact Ne.symm g3)) hx;rw[hn'] at this;exact this
  have Zl:∀W,ae [] W5 W->Calls prog 217 #[.pointer (some ⟨B.br,0,none⟩),.int .i64 (x:Int)] W λe w'=>e=.returned (.bool true)/\zm w' B.br B.bn B.bp A.cs.length (dP G.nx x (G.pv x)) (jw G.nx G.pv x (G.pv x))/\ae [B.bn,B.bp] W w':=λW hW=>Ed W (M5.ag hW);rw[TF] at kn4;rw[QR] at Zl;have QV:=kn4;have H5:=χ (ψ M5 (ψ bW QR));have HM:=χ (ψ M (ψ hlt hR));clear Ed hkn M5 bW QR M hlt hR eg hA hn hn' hl ux hxa TF fU kn4;generalize (((y::r).length:Nat):Int)=dl at *
  go_enter func221,ntmps221
  go_wp2
  go_region
  go_wp2_with (first
   |((go_at_call 226;(with_reducible refine(QV _ β).mono ?_));rintro e w9 ⟨rfl,zu⟩;rw[zu];clear zu w9)
   |((go_at_call 217;(with_reducible refine(Zl _ β).mono ?_));rintro e w6 ⟨rfl,ZP,iX⟩)
   | fail)
  have U6:ae [B.bn,B.bp] W5 w6:=by rw[H5.out.2.2];exact ae.trans β iX
  have M6:=((H5.out.1)).cO U6 ZP;have kS:ae [B.bn,B.bp,B.bl] w w6:=(H5.out.2.1.mono σ).trans ((U6).mono (λz hz=>by simp at hz;rcases hz with e|e<;>simp[e]));have q2:=M6.h2;have q0:=M6.p0 hx;have q3:=M6.p3 hx;have f0:=M6.pl.free (x*4);have f3:=M6.pl.free (x*4+3);have H6:=χ (ψ M6 kS);clear M6 kS ZP iX QV Zl
  go_region
  go_wp2;refine tQ (λW=>fC W B F gt ct A st { nx:=dP G.nx x (G.pv x),pv:=jw G.nx G.pv x (G.pv x),up:=ah G.up x (-1),mr:=ah G.mr x false,K:=ah G.K p (y::r),R:=G.R }/\ae [B.bn,B.bp,B.bl] w W) ?_ ?_
  ·have kS:=H6.out.2;exact⟨(H6.out.1.lone x).drewN 1,ν⟩
  rintro w7 ⟨M7,kS⟩;have ks:=λW (hW:ae [] w7 W)=>jY (M7.rings.ag hW) ht hx;have m:∀x,x≠B.bn->x≠B.bp->x∉[B.bn,B.bp]:=λx h1 h2=>by simp[h1,h2]
  have r1:∀W,ae [B.bn,B.bp] w7 W->W.cell? ⟨B.n0,1,none⟩=some (.pointer (some ⟨B.br,0,none⟩)):=λW hW=>hW.kept M7.h1 (m _ e2 e3);have r3:∀W,ae [B.bn,B.bp] w7 W->W.cell? ⟨B.n0,3,none⟩=some (.slice (some ⟨gt,0,none⟩) A.hs.length ct):=λW hW=>hW.kept M7.h3 (m _ e2 e3);have rt:∀W,ae [B.bn,B.bp] w7 W->W.cell? ⟨gt,q,none⟩=some (.int .i64 (t:Int)):=λW hW=>by
   have:=hW.kept (M7.top hq) (m _ g6 g7);rw[show kY ((({ nx:=dP G.nx x (G.pv x),pv:=jw G.nx G.pv x (G.pv x),up:=ah G.up x (-1),mr:=ah G.mr x false,K:=ah G.K p (y::r),R:=G.R }:FG)).R q)=t from by show kY (G.R q)=t;rw[HM.out.2.2];rfl] at this;exact this
  have hqI:(q:Int)<(A.hs.length:Int):=ω;have H7:=χ (ψ M7 kS);clear M7 kS q2 q0 q3 f0 f3
  go_region_held3 (ae [B.bn,B.bp] w7) (exact ν)
   (first
    | ((go_at_call 223;(with_reducible refine (ks _ β).mono ?_));rintro e w8 ⟨rfl,hR8,wD⟩;(have Ca:ae [B.bn,B.bp] w7 w8:=ae.trans ν wD)))
  go_wp2;go_end0;refine⟨rfl,((H7.out.1.cO Ca hR8).MS q (t::x::s) (by show _=kY (G.R q);rw[HM.out.2.2];rfl)).drewN 0,H7.out.2.trans (Ca.mono (λz hz=>by simp at hz;rcases hz with e|e<;>simp[e]))⟩
theorem fC.marked(M:fC w B F gt ct A st G)(x:Nat):fC (w.setCell ⟨B.bl,x*4+3,none⟩ (.bool true)) B F gt ct A st { G with mr:=ah G.mr x true }:=by
 refine M.Ld (up:=G.up) (K:=G.K) ν ?_;exact ql M.pl x true
theorem Fx{bX:Nat->Int}{L Mx:Nat->Nat->Prop}(YC:∀a,¬L a a)(M:fC w B F gt ct A st G){q p t:Nat}{s:List Nat}(hq:q<A.hs.length)(H:FF A.cs.length G bX L (λc=>if c=p then 1 else 0))(R:FR A.cs.length G bX Mx none)(hR:G.R q=t::s)(hp:p<A.cs.length)(hh:bX p=q)(h1:1<=q)
  (hf:∀y,y<A.cs.length->bX y=q->y≠t->Mx t y) :
  Calls prog 222 #[.pointer (some ⟨B.n0,0,none⟩),.int .i64 (q:Int),.int .i64 (p:Int)] w λe w'=>e=.returned (.tuple #[])/\fC w' B F gt ct A st (rY (marks A.cs.length G+1) q p G)/\ae [B.bn,B.bp,B.bl] w w':=by
 have hc1:=M.cells.ok.c1;obtain⟨D,hD⟩:∃D,rY (marks A.cs.length G+1) q p G=D:=⟨_,rfl⟩;rw[hD];have H0:=χ (ψ M (ψ H (ψ R (ψ hR (ψ hD hf)))));clear M H R hR hD hf
 go_enter func222,ntmps222
 go_wp2
 go_loopg [2] (marks A.cs.length G+1) (λfu s2 wr=>∃(p':Nat) (s':List Nat) (G':FG),s2=.int .i64 (p':Int)/\FF A.cs.length G' bX L (λc=>if c=p' then 1 else 0)/\FR A.cs.length G' bX Mx none/\G'.R q=t::s'/\p'<A.cs.length/\bX p'=q/\marks A.cs.length G'<fu/\rY fu q p' G'=D/\fC wr B F gt ct A st G'/\ae [B.bn,B.bp,B.bl] w wr)
 case atStart=>exact⟨p,s,G,rfl,H0.out.2.1,H0.out.2.2.1,H0.out.2.2.2.1,hp,hh,ω,H0.out.2.2.2.2.1,H0.out.1,ae.refl _ _⟩
 case round=>
  rename Nat=>fu;obtain⟨p',s',G',rfl,H,R,hR,hp',hh',hm,hcas,hM,hu⟩:=hrel;rename World=>wr;obtain⟨fv,rfl⟩:∃fv,fu=fv+1:=⟨fu-1,ω⟩;have hpI:(p':Int)<(A.cs.length:Int):=ω;have q2:=hM.h2;have p0:=hM.p0 hp';have p3:=hM.p3 hp';have f3:=hM.pl.free (p' * 4+3);unfold rY at hcas;have HR:=χ (ψ H (ψ R (ψ hR (ψ hM hu))))
  by_cases e:G'.up p'=-1
  ·rw[Δ e] at hcas;rw[e] at p0;subst hcas;clear H R hR hM hu e H0;go_wp2;go_end0;exact⟨rfl,HR.out.2.2.2.1,HR.out.2.2.2.2⟩
  ·rw[Γ e] at hcas;obtain⟨pp,Vx,Y3,_⟩:=(H.Gu p' hp').resolve_left e;rw[Y3] at p0 hcas;rw[π] at hcas;cases hb:G'.mr p' with
   |false=>
    rw[hb] at p3 hcas;rw[Δ rfl] at hcas;have HC:=χ hcas;clear H R hR hM hu e hcas hb Y3 H0;go_wp2;refine bodyPost_ret (v:=.tuple #[]) (by simp[results,results222,go_sem]) rfl ?_;exact⟨rfl,by rw[←HC.out];exact HR.out.2.2.2.1.marked p',HR.out.2.2.2.2.setCell (Α σ) _⟩
   |true=>
    rw[hb] at p3 hcas;rw[Γ σ] at hcas;have hqp:pp≠p':=λe3=>by subst e3;exact YC _ (H.ord pp pp hp' Y3)
    have htp:p'≠t:=λe3=>by
     subst e3;have:=((R.all q).2.1 p').1 (by rw[hR];simp);exact e this.2.2.1
    obtain⟨o1,o2,o3,o4,o5,o6,⟨a,b,eK,eA⟩,o8⟩:=xN H R hR hp' Y3 hqp hh' (H0.out.2.2.2.2.2 p' hp' hh' htp);have ht:=(((R.all q).2.1 t).1 (by rw[hR];simp)).2.1;have hnd:=(H.ring pp Vx).nd;have hka:(G'.K pp).length=(Af (G'.K pp) p').length+1:=by rw[eA,eK];simp;omega
    have hkb:(G'.K pp).length<=65536:=Χ (H.Cz Vx) hc1;have hxa:p'∉Af (G'.K pp) p':=by
     rw[eA];rw[eK,θ,Ζ] at hnd;intro hm2;rcases τ.1 hm2 with h'|h'
     ·exact hnd.2.1.1 h'
     ·exact hnd.2.2 p' h' p' σ rfl
    have ko:=λW (hW:ae [] wr W)=>JJ (hM.ag hW) hq hp' Vx Y3 hR ht hka hkb o8 hxa;have hmk:=qL (G:=G') (b:=false) hp' rfl (dM q p' G') o4;rw[hb] at hmk;simp only[Ϣ,if_false,if_true] at hmk;have o1':FF A.cs.length (dM q p' G') bX L (λc=>if c=pp then 1 else 0):=by
     refine⟨o1.rg,o1.kid,o1.Gu,o1.ring,o1.home,o1.ord,o1.alone,o1.free,λx d hx=>?_⟩;have Zm:(dM q p' G').up p'=-1:=by rw[o3,bK]
     rw [uQ (G:=dM q p' G') (ex:=λc=>if c=pp then (if c=p' then 1 else 0)+1 else if c=p' then 1 else 0) d (λc hc=>by
      have hcp:c≠p':=λe3=>o1.rQ hx Zm (e3▸hc)
      rw [Γ hcp])]
     exact o1.cnt x d hx
    have Xx:bX pp=q:=by have:=(H.home p' pp hp' Y3).1;omega
    have HS:=χ (ψ o1' (ψ o2 (ψ o6 (ψ hcas hmk))));clear H R hR hM hu e hcas hb Y3 o1 o1' o2 o3 o4 o5 o6 o8 eK eA hnd hka hkb hxa hmk
    go_wp2_with (first
     |((go_at_call 221;(with_reducible refine(ko _ β).mono ?_));rintro e w2 ⟨rfl,hM2,hu2⟩)
     | fail)
    go_roundg fv
    case measure=>omega
    case rel=>
     obtain⟨o1,o2,o6,hcas,hmk⟩:=HS.out;exact⟨pp,p'::s',dM q p' G',rfl,o1,o2,by rw[o6,bK],Vx,Xx,ω,hcas,hM2,HR.out.2.2.2.2.trans hu2⟩
theorem zw{bX:Nat->Int}{L Mx:Nat->Nat->Prop}(YC:∀a,¬L a a)(M:fC w B F gt ct A st G){q x t:Nat}{s:List Nat}(hq:q<A.hs.length)(hx:x<A.cs.length)(H0:FF A.cs.length G bX (λa y=>y≠x->L a y) (λ_=>0))(hR:G.R q=t::s)(ht:t<A.cs.length)(h1:1<=q)
  (hp:∀p:Nat,G.up x=p->p≠x/\bX p=q/\FF A.cs.length (dM q x G) bX L (λc=>if c=p then 0+1 else 0)/\FR A.cs.length (dM q x G) bX Mx none/\(dM q x G).R q=t::x::s)
  (hf:∀y,y<A.cs.length->bX y=q->y≠t->Mx t y) :
  Calls prog 215 #[.pointer (some ⟨B.n0,0,none⟩),.int .i64 (q:Int),.int .i64 (x:Int)] w λe w'=>e=.returned (.tuple #[])/\fC w' B F gt ct A st (dF A.cs.length q x G)/\ae [B.bn,B.bp,B.bl] w w':=by
 have hc1:=M.cells.ok.c1;have q2:=M.h2;have p0:=M.p0 hx;have CE:(x:Int)<(A.cs.length:Int):=ω
 by_cases e:G.up x=-1
 ·have eg:dF A.cs.length q x G=G:=by unfold dF;rw[Δ e]
  rw[eg];rw[e] at p0;have HM:=χ M;clear M H0 hR hp hf e eg
  go_enter func215,ntmps215
  go_wp2;go_end0;exact⟨rfl,HM.out,ae.refl _ _⟩
 ·obtain⟨p,hpn,ux,hxk⟩:=(H0.Gu x hx).resolve_left e;obtain⟨hpx,Xx,o1,o2,o3⟩:=hp p ux;have eg:dF A.cs.length q x G=rY (marks A.cs.length (dM q x G)+1) q p (dM q x G):=by unfold dF;rw[ux,Γ ω,π]
  rw[eg];rw[ux] at p0;have M9:=H0.ring p hpn;obtain⟨a,b,eK,eA,xa,xb⟩:=KO hxk M9.nd;have hka:(G.K p).length=(Af (G.K p) x).length+1:=by rw[eA,eK];simp;omega
  have hkb:(G.K p).length<=65536:=Χ (H0.Cz hpn) hc1;have hxa:x∉Af (G.K p) x:=by rw[eA];simp;exact⟨xb,xa⟩
  have hnx:G.nx x=(Af (G.K p) x).headD x:=by
   rw[eK] at M9;have:=Ring.Vv (a:=a) (b:=x::b) M9;rw[eA];exact(je.1 this).2.1
  have ko:=λW (hW:ae [] w W)=>JJ (M.ag hW) hq hx hpn ux hR ht hka hkb hnx hxa;have o1':FF A.cs.length (dM q x G) bX L (λc=>if c=p then 1 else 0):=by simpa using o1
  have kc:=λW (hM:fC W B F gt ct A st (dM q x G))=>Fx YC hM hq o1' o2 o3 hpn Xx h1 hf;have HM:=χ (ψ M kc);clear M H0 hR hp hf e eg kc o1 o1' o2 o3 eK eA hka hkb hxa hnx ux M9
  go_enter func215,ntmps215
  go_wp2_with (first
   |((go_at_call 221;(with_reducible refine(ko _ β).mono ?_));rintro e w2 ⟨rfl,hM2,hu2⟩;(have ZJ:=HM.out.2 _ hM2);(have HU:=χ hu2);clear hM2 hu2 ko)
   |((go_at_call 222;(with_reducible refine(ZJ).mono ?_));rintro e w3 ⟨rfl,jo,hu3⟩)
   | fail)
  go_end0;exact⟨rfl,jo,HU.out.trans hu3⟩
end
end Go.Proofs.YtnpdakpagnpanaaGreat
