/-
  Lemmas.
-/
import Derived.Deep.OwnRows
import Derived.Test.YtnpdakpagnpanaaGreatE03
set_option linter.all false
set_option maxHeartbeats 8000000
set_option maxRecDepth 10000
namespace Go.Proofs.YtnpdakpagnpanaaGreat
open Tryz
def Dn(nx:Nat->Nat):List Nat->Nat->Prop
 | [],_=>True
 |x::t,z=>nx x=t.headD z/\Dn nx t z
def Ei(a b:List Nat)(z:Nat):(a++b).headD z=a.headD (b.headD z):=by grind
def wh{nx:Nat->Nat}:∀(a b:List Nat) (z:Nat),Dn nx (a++b) z↔Dn nx a (b.headD z)/\Dn nx b z
 | [],b,z=>by simp[Dn]
 |x::t,b,z=>by
  show(nx x=(t++b).headD z/\Dn nx (t++b) z)↔(nx x=t.headD (b.headD z)/\Dn nx t (b.headD z))/\Dn nx b z
  rw[wh t b z,Ei,and_assoc]
def Dn.far{nx nx':Nat->Nat}:∀{l:List Nat} {z:Nat},Dn nx l z->(∀w,w∈l->nx' w=nx w)->Dn nx' l z
 | [],_,_,_=>trivial
 |x::t,z,h,e=>⟨(e x σ).trans h.1,Dn.far h.2 (λw hw=>e w (by simp[hw]))⟩
def Ring(nx:Nat->Nat)(l:List Nat):Prop:=l.Nodup/\Dn nx l (l.headD 0)
def Ring.nil(nx:Nat->Nat):Ring nx []:=⟨Ϡ,trivial⟩
def Ring.nd{nx:Nat->Nat}{l:List Nat}(h:Ring nx l):l.Nodup:=h.1
def jy{nx:Nat->Nat}{x:Nat}{t:List Nat}:Ring nx (x::t)↔(x::t).Nodup/\nx x=t.headD x/\Dn nx t x:=Iff.rfl
def jr{nx:Nat->Nat}{x:Nat}:Ring nx [x]↔nx x=x:=by
 rw[jy];simp[Dn]
def Ring.far{nx a:Nat->Nat}{l:List Nat}(h:Ring nx l)(e:∀w,w∈l->a w=nx w):Ring a l:=⟨h.1,h.2.far e⟩
def SN{a b:List Nat}(h:(a++b).Nodup):(b++a).Nodup:=(Φ (l₁:=a) (l₂:=b)).nodup_iff.1 h
def Ring.XE{nx:Nat->Nat}:∀{a b:List Nat},Ring nx (a++b)->Ring nx (b++a)
 | [],b,h=>by simpa using h
 |a0::a,[],h=>by simpa using h
 |a0::a,b0::b,h=>by
  refine⟨SN h.1,?_⟩;have h2:=(wh _ _ _).1 h.2;exact(wh _ _ _).2 ⟨h2.2,h2.1⟩
def dP(nx:Nat->Nat)(x y:Nat):Nat->Nat:=λz=>if z=x then nx y else if z=y then nx x else nx z
def jO(nx pv:Nat->Nat)(x y:Nat):Nat->Nat:=λz=>if z=nx x then y else if z=nx y then x else pv z
def jv{nx:Nat->Nat}{x y z:Nat}(a:z≠x)(b:z≠y):dP nx x y z=nx z:=by unfold dP;rw[Γ a,Γ b]
def Ring.nJ{nx:Nat->Nat}{l:List Nat}(h:Ring nx l){x y:Nat}(b:x∉l)(c:y∉l):Ring (dP nx x y) l:=
 h.far (λw a=>jv (λe=>b (e▸a)) (λe=>c (e▸a)))
def Ring.join{nx:Nat->Nat}{x y:Nat}{s t:List Nat}(h:Ring nx (x::s))(k:Ring nx (y::t))(d:∀z,z∈x::s->z∉y::t):Ring (dP nx x y) (x::t++y::s):=by
 obtain⟨j,m,n⟩:=jy.1 h;obtain⟨l,u,o⟩:=jy.1 k;have f:=Ζ.1 j;have g:=Ζ.1 l;have i:y≠x:=λe=>d x σ (by simp[e]);have v:dP nx x y x=nx y:=by unfold dP;rw[Δ rfl]
 have p:dP nx x y y=nx x:=by unfold dP;rw[Γ i,Δ rfl]
 refine jy.2 ⟨?_,?_,?_⟩
 .have:(x::t++y::s).Perm ((x::s)++(y::t)):=by
   grind
  refine this.nodup_iff.2 (θ.2 ⟨j,l,λa q b r e=>?_⟩);subst e;exact d a q r
 .show dP nx x y x=(t++y::s).headD x
  grind
 .show Dn (dP nx x y) (t++y::s) x
  refine(wh _ _ _).2 ⟨?_,?_,?_⟩
  .exact o.far (λw c=>jv (λe=>d x σ (by grind)) (λe=>g.1 (e▸c)))
  .rw[p,m]
  .exact n.far (λw c=>jv (λe=>f.1 (e▸c)) (λe=>d w (by simp[c]) (by subst e;simp)))
def Ring.cut{nx:Nat->Nat}{x y:Nat}{a b:List Nat}(h:Ring nx (x::a++y::b)):Ring (dP nx x y) (x::b)/\Ring (dP nx x y) (y::a):=by
 have t:Ring nx (x::(a++y::b)):=h;obtain⟨n,o,p⟩:=jy.1 t;have g:=(wh _ _ _).1 p;obtain⟨q,r,s⟩:Dn nx a y/\nx y=b.headD x/\Dn nx b x:=⟨g.1,g.2.1,g.2.2⟩;have f:=Ζ.1 n;have i:=θ.1 f.2;have k:=Ζ.1 i.2.1;have j:y≠x:=λe=>f.1 (by subst e;simp);have u:dP nx x y x=nx y:=by unfold dP;rw[Δ rfl]
 have v:dP nx x y y=nx x:=by unfold dP;rw[Γ j,Δ rfl]
 have l:x∉b:=λc=>f.1 (by simp[c]);have z:x∉a:=λc=>f.1 (by simp[c]);have m:y∉a:=λc=>i.2.2 y c y σ rfl
 refine ⟨jy.2 ⟨Ζ.2 ⟨l,k.2⟩,by rw [u,r],s.far (λw d=>jv (λe=>l (e▸d)) (λe=>k.1 (e▸d)))⟩,
  jy.2 ⟨Ζ.2 ⟨m,i.1⟩,?_,q.far (λw d=>jv (λe=>z (e▸d)) (λe=>m (e▸d)))⟩⟩
 rw[v,o,Ei];rfl
structure Rg(n:Nat)(nx pv:Nat->Nat):Prop where
 nn:∀x,x<n->nx x<n
 pp:∀x,x<n->pv x<n
 pn:∀x,x<n->pv (nx x)=x
 np:∀x,x<n->nx (pv x)=x
section
variable{n:Nat}{nx pv:Nat->Nat}
def Rg.inj(h:Rg n nx pv){x y:Nat}(a:x<n)(b:y<n)(e:nx x=nx y):x=y:=by
 rw[←h.pn x a,←h.pn y b,e]
def Rg.swap(h:Rg n nx pv){x y:Nat}(d:x<n)(f:y<n):Rg n (dP nx x y) (jO nx pv x y):=by
 refine⟨λz a=>?_,λz a=>?_,λz a=>?_,λz a=>?_⟩
 .unfold dP
  split
  .exact h.nn y f
  .split
   .exact h.nn x d
   .exact h.nn z a
 .unfold jO
  split
  .exact f
  .split
   .exact d
   .exact h.pp z a
 .unfold dP jO
  by_cases c:z=x
  .rw[Δ c]
   by_cases b:nx y=nx x
   .rw[Δ b,c];exact h.inj f d b
   .grind
  .rw[Γ c]
   by_cases b:z=y
   .grind
   .rw[Γ b,Γ (λe=>c (h.inj a d e)),Γ (λe=>b (h.inj a f e))];exact h.pn z a
 .unfold dP jO
  by_cases c:z=nx x
  .grind
  .rw[Γ c]
   by_cases b:z=nx y
   .grind
   .rw[Γ b,Γ (λe=>c (by rw[←e,h.np z a])),Γ (λe=>b (by rw[←e,h.np z a]))];exact h.np z a
def Rg.last(h:Rg n nx pv){x y:Nat}{a:List Nat}(d:Ring nx (x::a++[y]))(e:y<n):pv x=y:=by
 have b:Ring nx (x::(a++[y])):=d;have c:=(wh _ _ _).1 (jy.1 b).2.2;have:nx y=x:=c.2.1;rw[←this];exact h.pn y e
def Rg.part(h:Rg n nx pv){x:Nat}{l:List Nat}(c:Ring nx (x::l))(f:∀z,z∈x::l->z<n):Ring (dP nx x (pv x)) [x]/\Ring (dP nx x (pv x)) l:=by
 have g:x<n:=f x σ;rcases List.eq_nil_or_concat l with rfl|⟨a,y,e⟩
 .have d:=jr.1 c;have i:pv x=x:=by have:=h.pn x g;rw[d] at this;exact this
  rw[i];refine⟨jr.2 ?_,Ring.nil _⟩;unfold dP;rw[Δ rfl];exact d
 .have j:l=a++[y]:=by rw[e,List.concat_eq_append]
  subst j;have k:y<n:=f y σ;rw[h.last c k];have:=Ring.cut (b:=[]) c;exact⟨this.1,Ring.XE (a:=[y]) (b:=a) this.2⟩
end
def Rn(t:List Nat)(z:Nat):t.headD z=t.getD 0 z:=by cases t<;>rfl
def Dn.at{nx:Nat->Nat}:∀{l:List Nat} {z:Nat},Dn nx l z->∀k (hk:k<l.length),nx l[k]=l.getD (k+1) z
 | [],_,_,k,hk=>by simp at hk
 |x::t,z,h,0,hk=>by
  show nx x=(x::t).getD 1 z
  rw[h.1,Rn];simp[φ]
 |x::t,z,h,k+1,hk=>by
  have:=Dn.at h.2 k (by grind)
  show nx (t[k]'(by grind))=(x::t).getD (k+1+1) z
  rw[this];simp[φ]
def Ring.at{nx:Nat->Nat}{x:Nat}{t:List Nat}(h:Ring nx (x::t))(k:Nat)(a:k<(x::t).length):nx (x::t)[k]=(x::t).getD (k+1) x:=Dn.at h.2 k a
def jR:∀(n:Nat) (l:List Nat),l.Nodup->(∀x,x∈l->x<n)->l.length<=n
 |0,l,_,h=>by
  cases l with
  |nil=>simp
  |cons x t=>have:=h x σ;omega
 |n+1,l,hd,h=>by
  by_cases hm:n∈l
  .have h1:=jR n (l.erase n) (hd.erase n) (λx hx=>by
    have h2:=(List.Nodup.mem_erase_iff hd).1 hx;have:=h x h2.2
    omega)
   rw[List.length_erase_of_mem hm] at h1;omega
  .have:=jR n l hd (λx hx=>by
    have:=h x hx;have:x≠n:=λe=>hm (e▸hx)
    omega)
   omega
def ru(l:List Nat):List Int:=l.map (λx:Nat=>(x:Int))
def nD(l:List Nat):(ru l).length=l.length:=by unfold ru;simp
def U4(a b:List Nat):ru (a++b)=ru a++ru b:=by unfold ru;simp


open Go Go.RowKit

structure Ai(w:World)(br bn bp n:Nat)(nx pv:Nat->Nat):Prop where
 head:aQ w br 235 2 (λj=>[Value.slice (some bn) n n,.slice (some bp) n n].getD j undef)
 nr:aQ w bn 3 n (λj=>.int .i64 (nx j:Int))
 pr:aQ w bp 3 n (λj=>.int .i64 (pv j:Int))
 ne:br≠bn/\br≠bp/\bn≠bp
 le:n<=65536
 rg:Rg n nx pv
section
variable{w:World}{br bn bp n:Nat}{nx pv:Nat->Nat}
def Ai.upd{w':World}{F:List Nat}(h:Ai w br bn bp n nx pv)(a:ae F w w')(b:br∉F)(c:bn∉F)(d:bp∉F):Ai w' br bn bp n nx pv:=
 ⟨h.head.upd a b,h.nr.upd a c,h.pr.upd a d,h.ne,h.le,h.rg⟩
def Ai.ag{w':World}(h:Ai w br bn bp n nx pv)(a:ae [] w w'):Ai w' br bn bp n nx pv:=h.upd a σ σ σ
def Ai.h0(h:Ai w br bn bp n nx pv):w.cell? (br:Nat)=some (.slice (some (bn:Nat)) n n):=h.head.cellAt 0 ω rfl
def Ai.h1(h:Ai w br bn bp n nx pv):w.cell? ⟨br,1,none⟩=some (.slice (some (bp:Nat)) n n):=h.head.cellAt 1 ω rfl
def Ai.lt(h:Ai w br bn bp n nx pv):br<w.heap.size/\bn<w.heap.size/\bp<w.heap.size:=⟨h.head.lt,h.nr.lt,h.pr.lt⟩
end
def Qj:(prog.info? 3).map (λi=>(i.zero,i.size,i.bytes))=some (some (.int .i64 0),1,8):=by kernel_rfl
def IE(w:World)(n:Nat):aQ (w.alloc (.cells (madeCells #[(0:Int)] n) 3)) w.heap.size 3 n (λj=>(madeCells #[(0:Int)] n).toList.getD j undef):=by
 refine⟨madeCells #[(0:Int)] n,?_,by simp[madeCells],λj a=>?_⟩
 .show(w.heap.push _)[w.heap.size]?=_;simp
 .simp[madeCells,φ,a]
def KC(n:Nat)(w:World)(h:n<=65536):
  Calls prog 87 #[(n:Int)] w λe w'=>∃br bn bp,e=.returned (.tuple #[(br:Nat),(0:Int)])/\Ai w' br bn bp n id id/\ae [] w w'/\w.heap.size<=br/\w.heap.size<=bn/\w.heap.size<=bp:=by
 have p:=run_make_row' (P:=prog) 77 3 (.int .i64 0) 8 underlying77 Qj rfl .i64 .i64 n ω ω
 go_enter func87,ntmps87
 go_wp2
 go_region
 all_goals
  go_wp2
  go_loopw [19] (λi wr=>∃ (bn bp k:Nat) (f g:Nat->Value),k<=n/\i=.int .i64 k/\aQ wr (w.heap.size+1+1) 235 2 (λj=>[Value.slice (some bn) n n,.slice (some bp) n n].getD j undef)/\
   aQ wr bn 3 n f/\aQ wr bp 3 n g/\(∀j,j<k->f j=.int .i64 (j:Int)/\g j=.int .i64 (j:Int))/\(w.heap.size<=bn/\w.heap.size<=bp/\bn≠bp/\bn<w.heap.size+1+1/\bp<w.heap.size+1+1)/\ae [] w wr) (λi _=>n-(intOf i).toNat)
  case atStart=>
   have v:=IE w n;have q:=IE (w.alloc (.cells (madeCells #[(0:Int)] n) 3)) n;rw[Κ] at q;have r:=λE F=>eO ((w.alloc (.cells (madeCells #[(0:Int)] n) 3)).alloc (.cells (madeCells #[(0:Int)] n) 3)) [E,F] 235;simp only[Κ] at r
   first
    |exact⟨w.heap.size,w.heap.size+1,0,_,_,ω,rfl,(r _ _).drew,((v.alloc _).alloc _).drew,(q.alloc _).drew,ω,ω,β⟩
    |exact⟨w.heap.size+1,w.heap.size,0,_,_,ω,rfl,(r _ _).drew,(q.alloc _).drew,((v.alloc _).alloc _).drew,ω,ω,β⟩
  case round=>
   obtain⟨bn,bp,k,f,g,G,rfl,a,b,c,d,y,l⟩:=hrel;rename World=>wr
   by_cases m:k<n
   .have H:=a.cellAt 0 ω rfl;have I:=a.cellAt 1 ω rfl;have J:=b.cell k m;have K:=c.cell k m;have L:=b.free k;have M:=c.free k;have C:(k:Int)<(n:Int):=ω;obtain⟨t,u,z,A,B⟩:=y;have D:=χ (ψ d (ψ a (ψ b (ψ c l))));clear d a b c l p;go_wp2
    go_region
    all_goals
     go_wp2
     go_roundw
     case rel=>
      obtain⟨d,a,b,c,l⟩:=D.out;refine⟨bn,bp,k+1,_,_,ω,by go_num,(a.far _ _ ζ).far _ _ ζ,(b.set _ _).far _ _ ζ,(c.far _ _ ζ).set _ _,λj o=>?_,⟨t,u,z,A,B⟩,((l.setCell (Β (by simpa using t)) _).setCell (Β (by simpa using u)) _).drew⟩
      by_cases e:j=k
      .subst e;simp
      .simp only[Γ e];exact d j ω
     case measure=>simp[intOf];omega
   .obtain rfl:k=n:=ω;go_wp2;go_ret2;exact⟨_,bn,bp,rfl,⟨a,b.ext (λj o=>(d j o).1),c.ext (λj o=>(d j o).2),ω,h,⟨λx s=>s,λx s=>s,λ_ _=>rfl,λ_ _=>rfl⟩⟩,l,ω,ω,ω⟩
def Ww{w:World}{br bn bp n:Nat}{nx pv:Nat->Nat}(h:Ai w br bn bp n nx pv)(x:Int)(b:Bool)(d:b=decide (0<=x/\x<n)):
  Calls prog 224 #[br,x] w λe w'=>e=.returned b/\w'=w:=by
 have f:=h.h0;clear h;rw[d]
 by_cases a:0<=x
 .by_cases c:x<n
  .go_enter func224,ntmps224
   go_wp2;go_ret;exact⟨bF (by simp[a,c]),rfl⟩
  .go_enter func224,ntmps224
   go_wp2;go_ret;exact⟨bF (by simp[a,c]),rfl⟩
 .go_enter func224,ntmps224
  go_wp2;go_ret;exact⟨bF ζ,rfl⟩
section
variable{w:World}{br bn bp n:Nat}{nx pv:Nat->Nat}
def vC(h:Ai w br bn bp n nx pv){x:Nat}(a:x<n):Calls prog 224 #[(br:Nat),(x:Int)] w λe w'=>e=.returned true/\w'=w:=
 Ww h x true ζ
def Em(h:Ai w br bn bp n nx pv){x:Nat}(a:x<n):Calls prog 226 #[(br:Nat),(x:Int)] w λe w'=>e=.returned (.tuple #[(nx x:Int),true])/\w'=w:=by
 have c:=h.h0;have d:=h.nr.cell x a;have b:=vC h a;have f:(x:Int)<(n:Int):=ω;clear h
 go_enter func226,ntmps226
 go_wp2_with (((with_reducible refine aP b ?_)))
 go_ret2;exact⟨rfl,rfl⟩
def CW(nx:Nat->Nat)(x y j:Nat):(if j=y then Value.int .i64 (nx x:Int) else if j=x then Value.int .i64 (nx y:Int) else Value.int .i64 (nx j:Int))=.int .i64 (dP nx x y j:Int):=by
 unfold dP
 grind
def Cy(nx pv:Nat->Nat)(x y j:Nat):(if j=nx x then Value.int .i64 (y:Int) else if j=nx y then Value.int .i64 (x:Int) else Value.int .i64 (pv j:Int))=.int .i64 (jO nx pv x y j:Int):=by
 unfold jO
 grind
def lu(h:Ai w br bn bp n nx pv){x y:Nat}(g:x<n)(i:y<n):Calls prog 223 #[(br:Nat),(x:Int),(y:Int)] w λe w'=>
  e=.returned true/\Ai w' br bn bp n (dP nx x y) (jO nx pv x y)/\ae [bn,bp] w w':=by
 have B:=h.h0;have C:=h.h1;have D:=h.nr.cell x g;have E:=h.nr.cell y i;have F:=h.nr.free x;have G:=h.nr.free y;have q:=h.rg.nn x g;have r:=h.rg.nn y i;have I:=h.pr.cell (nx x) q;have J:=h.pr.cell (nx y) r;have K:=h.pr.free (nx x);have g1:=h.pr.free (nx y);have p:=vC h g;have s:=vC h i;obtain⟨l,m,c⟩:=h.ne;obtain⟨v,z,A⟩:=h.lt;have L:(x:Int)<(n:Int):=ω;have M:(y:Int)<(n:Int):=ω;have N:(nx x:Int)<(n:Int):=ω;have O:(nx y:Int)<(n:Int):=ω;have H:=χ h;clear h;generalize f:nx x=a at *;generalize k:nx y=b at *
 by_cases d:x=y
 .subst d;rw[f] at k;subst k
  go_enter func223,ntmps223
  go_wp2_with (first
   | ((with_reducible refine aP p ?_)))
  go_region
  go_wp2
  go_region
  go_wp2
  go_region
  go_wp2;go_ret;have h:=H.out;refine⟨rfl,⟨((((h.head.far _ _ l).far _ _ l).far _ _ m).far _ _ m),((((h.nr.set _ _).set _ _).far _ _ c).far _ _ c).ext (λj o=>?_),((((h.pr.far _ _ (Ne.symm c)).far _ _ (Ne.symm c)).set _ _).set _ _).ext (λj o=>?_),h.ne,h.le,h.rg.swap g i⟩,ν⟩
  .have:=CW nx x x j;rw[f] at this;exact this
  .have:=Cy nx pv x x j;rw[f] at this;exact this
 .have t:y≠x:=λe=>d e.symm;have u:a≠b:=λe=>d (H.out.rg.inj g i (by rw[f,k,e]))
  go_enter func223,ntmps223
  go_wp2_with (first
   |((with_reducible refine aP p ?_))
   | ((with_reducible refine aP s ?_)))
  go_region
  go_wp2
  go_region
  go_wp2
  go_region
  go_wp2;go_ret;have h:=H.out;refine⟨rfl,⟨((((h.head.far _ _ l).far _ _ l).far _ _ m).far _ _ m),((((h.nr.set _ _).set _ _).far _ _ c).far _ _ c).ext (λj o=>?_),((((h.pr.far _ _ (Ne.symm c)).far _ _ (Ne.symm c)).set _ _).set _ _).ext (λj o=>?_),h.ne,h.le,h.rg.swap g i⟩,ν⟩
  .have:=CW nx x y j;rw[f,k] at this;exact this
  .have:=Cy nx pv x y j;rw[f,k] at this;exact this
def zi(h:Ai w br bn bp n nx pv){x:Nat}(a:x<n):Calls prog 217 #[(br:Nat),(x:Int)] w λe w'=>
  e=.returned true/\Ai w' br bn bp n (dP nx x (pv x)) (jO nx pv x (pv x))/\ae [bn,bp] w w':=by
 have i:=h.h1;have j:=h.pr.cell x a;have d:=vC h a;have f:=lu h a (h.rg.pp x a);have k:(x:Int)<(n:Int):=ω;clear h
 go_enter func217,ntmps217
 go_wp2_with (first
  |((with_reducible refine aP d ?_))
  | (((with_reducible refine f.mono ?_));rintro e g ⟨rfl,b,c⟩))
 go_ret;exact⟨rfl,b,c⟩
def Jw(h:Ai w br bn bp n nx pv){x:Nat}{t:List Nat}(K:Ring nx (x::t))(E:∀z,z∈x::t->z<n):Calls prog 218 #[(br:Nat),(x:Int)] w λe w'=>
  ∃v,e=.returned v/\w'.ownsRow w.heap.size 3 1 v (x::t).length (aZ (ru (x::t)))/\ae [] w w':=by
 have L:x<n:=E x σ;have m:(x::t).length<=n:=jR n (x::t) K.nd E;have N:=h.le;obtain⟨l1,l2,l3⟩:=h.lt;have c0:=h.h0;have d0:=h.nr.cell x L;have O:=vC h L;have Dy:(x:Int)<(n:Int):=ω;have d:∀(W:World) (y:Nat),ae [] w W->y<n->W.cell? ⟨bn,y,none⟩=some ((nx y:Int):V):=λW y A g=>A.was (h.nr.cell y g);have P:∀(W:World),ae [] w W->W.cell? (br:Nat)=some (.slice (some (bn:Nat)) n n):=λW A=>A.was h.h0;have D:=χ (ψ K (ψ E d))
 have u:(w.alloc (.cells #[(x:Int)] 3)).ownsRow w.heap.size 3 1 (.slice (some w.heap.size) 1 1) 1 [.int .i64 (x:Int)]:=qz w [.int .i64 (x:Int)] 3 w.heap.size 1 1 rfl (Θ _) μ;have Q:=χ u;clear h K E d u
 go_enter func218,ntmps218
 go_wp2_with (first
  | ((with_reducible refine aP O ?_)))
 go_loopw [5,6] (λJ s6 wr=>∃k:Nat,k<(x::t).length/\s6=.int .i64 ((nx ((x::t).getD k 0):Nat):Int)/\wr.ownsRow w.heap.size 3 1 J (k+1) (aZ (ru ((x::t).take (k+1))))/\ae [] w wr) (λJ _ _=>match J with | .slice _ l _=>n-l|_=>0)
 case atStart=>exact⟨0,σ,rfl,Q.out,β⟩
 case round=>
  obtain⟨k,B,rfl,j,r⟩:=hrel;rename World=>wr;obtain⟨a,c,rfl,hc⟩:=bz j;have p:=D.out.1.at k B;have q:(x::t).getD k 0=(x::t)[k]:=by rw[φ,ε B];rfl
  rw[q,p]
  by_cases b:k+1<(x::t).length
  .obtain⟨y,g⟩:∃y,(x::t)[k+1]?=some y:=⟨_,ε b⟩;have f:(x::t).getD (k+1) x=y:=by rw[φ,g];rfl
   have R:y≠x:=λe=>by
    have hp:=List.pairwise_iff_getElem.1 (List.nodup_iff_pairwise_ne.1 D.out.1.nd) 0 (k+1) σ b ω;rw[ε b] at g;have S:(x::t)[k+1]=y:=by injection g
    exact hp (by rw[S,e];rfl)
   have G:y<n:=D.out.2.1 _ (Η g);have o:(x::t).take (k+1+1)=(x::t).take (k+1)++[y]:=by rw[ώ,g];rfl
   have C:(x::t).getD (k+1) 0=y:=by rw[φ,g];rfl
   rw[f];have T:=χ (ψ b (ψ o (ψ C r)));have U:=r.size;have X:k+1<n:=ω;clear p q f o C b B g m;have XN:(y:Int)<(n:Int):=ω;have Y:((y:Int) == (x:Int))=false:=ζ;have d1:=λW A=>D.out.2.2 W y A G;have Z:=χ r
   go_wp2_with (((at_builtin;refine bD rfl _ _ 77 rfl w.heap.size 3 (.int .i64 0) 1 8 underlying77 gN rfl δ _ _ _ rfl (j) [.int .i64 (y:Int)] rfl (by simp[Value.oneCell']) (by first|rfl|(rw[Κ];rfl)) μ ω (ω) ?_;intro v2 M s F oq);(have H:ae [] w M:=Z.out.own j (Θ _) F)))
   obtain⟨b,o,C,_⟩:=T.out;obtain⟨a2,c2,rfl,_⟩:=bz s;refine⟨⟨k+1,b,by rw[C],?_,H⟩,ζ⟩;rw[o,U4,dO];exact s
  .have i:k+1=(x::t).length:=ω;have f:(x::t).getD (k+1) x=x:=by rw[φ,List.getElem?_eq_none ω];rfl
   rw[f];have o:(x::t).take (k+1)=x::t:=List.take_of_length_le ω;rw[o] at j;have I:=χ (ψ j (ψ r i));clear p q f o b B j i m;go_wp2;go_ret;obtain⟨j,r,i⟩:=I.out;exact⟨_,rfl,i▸j,r⟩
end
end Go.Proofs.YtnpdakpagnpanaaGreat
namespace Go.Proofs.YtnpdakpagnpanaaGreat
open Tryz
structure FG where
 nx:Nat->Nat
 pv:Nat->Nat
 up:Nat->Int
 mr:Nat->Bool
 K:Nat->List Nat
 R:Nat->List Nat
def FG.none:FG:=⟨id,id,λ_=>-1,λ_=>false,λ_=>[],λ_=>[]⟩
def mi(l:List Nat):Int:=match l with|[]=>-1|x::_=>(x:Int)
def ah{α:Type}(f:Nat->α)(x:Nat)(v:α):Nat->α:=λz=>if z=x then v else f z
def Om(G:FG)(x y:Nat):FG:={ G with nx:=dP G.nx x y,pv:=jO G.nx G.pv x y }
def prt(G:FG)(x:Nat):FG:=Om G x (G.pv x)
def yZ(lt:Bool)(R l:List Nat):List Nat:=match R with
 | []=>l
 |t::s=>match l with
  | []=>t::s
  |x::r=>if lt then x::s++t::r else t::r++x::s
def gP(lt:Nat->Nat->Bool)(h:Nat)(l:List Nat)(G:FG):FG:=match G.R h,l with
 |t::s,x::r=>{ Om G t x with R:=ah G.R h (yZ (lt x t) (t::s) (x::r)) }
 |_,l=>{ G with R:=ah G.R h l }
def qZ(h:Nat)(G:FG):Nat:=if G.R h=[] then 0 else 1
def eB(G:FG)(y x:Nat):FG:=
 let G1:=match G.K x with|[]=>G|k::_=>Om G k y
 { G1 with up:=ah G.up y x,mr:=ah G.mr y false,K:=ah G.K x (match G.K x with|[]=>[y]|k::t=>y::(t++[k])) }
def bI(G:FG)(x:Nat):FG:=match G.K x with
 | []=>G
 |k::t=>{ Om G x k with up:=ah (λz=>if z∈k::t then -1 else G.up z) x (-1),mr:=ah (λz=>if z∈k::t then false else G.mr z) x false,K:=ah G.K x [] }


open Go Go.RowKit

def D6(u k d:Nat->Int)(m:Nat->Bool)(j:Nat):Value:=if j % 4=0 then .int .i64 (u (j / 4)) else if j % 4=1 then .int .i64 (k (j / 4)) else if j % 4=2 then .int .i64 (d (j / 4)) else .bool (m (j / 4))
def Aw(u k d:Nat->Int)(m:Nat->Bool)(x:Nat):D6 u k d m (x*4)=.int .i64 (u x):=by unfold D6;rw[Δ ω,show x*4 / 4=x by omega]
def Ay(u k d:Nat->Int)(m:Nat->Bool)(x:Nat):D6 u k d m (x*4+1)=.int .i64 (k x):=by unfold D6;rw[Γ ω,Δ ω,show(x*4+1) / 4=x by omega]
def AL(u k d:Nat->Int)(m:Nat->Bool)(x:Nat):D6 u k d m (x*4+2)=.int .i64 (d x):=by unfold D6;rw[Γ ω,Γ ω,Δ ω,show(x*4+2) / 4=x by omega]
def Aq(u k d:Nat->Int)(m:Nat->Bool)(x:Nat):D6 u k d m (x*4+3)=.bool (m x):=by unfold D6;rw[Γ ω,Γ ω,Γ ω,show(x*4+3) / 4=x by omega]
def four(j:Nat):∃a,j=a*4\/j=a*4+1\/j=a*4+2\/j=a*4+3:=⟨j / 4,ω⟩
section
variable{w:World}{b m:Nat}{e:TypeId}{u k d:Nat->Int}{mr:Nat->Bool}
def vD(h:aQ w b e m (D6 u k d mr))(x:Nat)(v:Int):aQ (w.setCell ⟨b,x*4,none⟩ (.int .i64 v)) b e m (D6 (ah u x v) k d mr):=by
 refine(h.set _ _).ext (λj _=>?_);obtain⟨a,rfl|rfl|rfl|rfl⟩:=four j
 .rw[Aw,Aw];unfold ah
  grind
 .rw[Ay,Ay,Γ ω]
 .rw[AL,AL,Γ ω]
 .rw[Aq,Aq,Γ ω]
def rU(h:aQ w b e m (D6 u k d mr))(x:Nat)(v:Int):aQ (w.setCell ⟨b,x*4+1,none⟩ (.int .i64 v)) b e m (D6 u (ah k x v) d mr):=by
 refine(h.set _ _).ext (λj _=>?_);obtain⟨a,rfl|rfl|rfl|rfl⟩:=four j
 .rw[Aw,Aw,Γ ω]
 .rw[Ay,Ay];unfold ah
  grind
 .rw[AL,AL,Γ ω]
 .rw[Aq,Aq,Γ ω]
def uV(h:aQ w b e m (D6 u k d mr))(x:Nat)(v:Int):aQ (w.setCell ⟨b,x*4+2,none⟩ (.int .i64 v)) b e m (D6 u k (ah d x v) mr):=by
 refine(h.set _ _).ext (λj _=>?_);obtain⟨a,rfl|rfl|rfl|rfl⟩:=four j
 .rw[Aw,Aw,Γ ω]
 .rw[Ay,Ay,Γ ω]
 .rw[AL,AL];unfold ah
  grind
 .rw[Aq,Aq,Γ ω]
def rH(h:aQ w b e m (D6 u k d mr))(x:Nat)(v:Bool):aQ (w.setCell ⟨b,x*4+3,none⟩ (.bool v)) b e m (D6 u k d (ah mr x v)):=by
 refine(h.set _ _).ext (λj _=>?_);obtain⟨a,rfl|rfl|rfl|rfl⟩:=four j
 .rw[Aw,Aw,Γ ω]
 .rw[Ay,Ay,Γ ω]
 .rw[AL,AL,Γ ω]
 .rw[Aq,Aq];unfold ah
  grind
end
def GK(K:Nat->List Nat)(x:Nat)(l:List Nat):(λz=>mi (ah K x l z))=ah (λz=>mi (K z)) x (mi l):=by
 funext z;unfold ah;split<;>rfl
def kV(K:Nat->List Nat)(x:Nat)(l:List Nat):(λz=>((ah K x l z).length:Int))=ah (λz=>((K z).length:Int)) x (l.length:Int):=by
 funext z;unfold ah;split<;>rfl
def oZ(G:FG):Nat->Value:=D6 G.up (λx=>mi (G.K x)) (λx=>((G.K x).length:Int)) G.mr
def Y8(G:FG)(x:Nat):oZ G (x*4)=.int .i64 (G.up x):=Aw _ _ _ _ x
def YP(G:FG)(x:Nat):oZ G (x*4+1)=.int .i64 (mi (G.K x)):=Ay _ _ _ _ x
def XO(G:FG)(x:Nat):oZ G (x*4+2)=.int .i64 ((G.K x).length:Int):=AL _ _ _ _ x
def ZE(G:FG)(x:Nat):oZ G (x*4+3)=.bool (G.mr x):=Aq _ _ _ _ x
def jE(R:Nat->List Nat)(m:Nat):List Int:=(List.range m).map (λh=>mi (R h))
def wD(R:Nat->List Nat)(m:Nat):(jE R m).length=m:=by unfold jE;simp
def PR(R:Nat->List Nat){m h:Nat}(a:h<m):(jE R m).getD h 0=mi (R h):=by unfold jE;simp[φ,a]
def Ry(R:Nat->List Nat)(m h:Nat)(l:List Nat):(jE R m).set h (mi l)=jE (ah R h l) m:=by
 unfold jE ah;apply List.ext_getElem σ
 grind
structure FB where
 n0:Nat
 c:Nat
 br:Nat
 bn:Nat
 bp:Nat
 bl:Nat
structure fD(w:World)(B:FB)(F:List Nat)(gt ct:Nat)(A:NS)(st:Nat)(G:FG):Prop where
 head:aQ w B.n0 196 4 (λj=>[Value.pointer (some B.c),.pointer (some B.br),.slice (some B.bl) A.cs.length A.cs.length,.slice (some gt) A.hs.length ct].getD j undef)
 cells:aD w B.c F A st
 rings:Ai w B.br B.bn B.bp A.cs.length G.nx G.pv
 pl:aQ w B.bl 198 (A.cs.length*4) (oZ G)
 ai:IZ w gt ct (jE G.R A.hs.length)
 d1:B.n0∉F/\B.br∉F/\B.bn∉F/\B.bp∉F/\B.bl∉F/\gt∉F
 d2:B.n0≠B.br/\B.n0≠B.bn/\B.n0≠B.bp/\B.n0≠B.bl/\B.n0≠gt
 d3:B.bl≠B.br/\B.bl≠B.bn/\B.bl≠B.bp/\B.bl≠gt/\gt≠B.br/\gt≠B.bn/\gt≠B.bp
def FB.blk(B:FB)(F:List Nat)(gt:Nat):List Nat:=B.n0::B.br::B.bn::B.bp::B.bl::gt::F
section
variable{w:World}{B:FB}{F:List Nat}{gt ct:Nat}{A:NS}{st:Nat}{G:FG}
def fD.lt(h:fD w B F gt ct A st G):∀x,x∈B.blk F gt->x<w.heap.size:=by
 intro x a;have c:=h.head.lt;have b:=h.rings.lt;have d:=h.pl.lt;have e:=h.ai.lt;simp only[FB.blk,ρ] at a;rcases a with rfl|rfl|rfl|rfl|rfl|rfl|a
 .exact c
 .exact b.1
 .exact b.2.1
 .exact b.2.2
 .exact d
 .exact e
 .exact h.cells.lt x a
def fD.h0(h:fD w B F gt ct A st G):w.cell? B.n0=some (B.c:V):=h.head.cellAt 0 ω rfl
def fD.h1(h:fD w B F gt ct A st G):w.cell? ⟨B.n0,1,none⟩=some (B.br:V):=h.head.cellAt 1 ω rfl
def fD.h2(h:fD w B F gt ct A st G):w.cell? ⟨B.n0,2,none⟩=some (.slice (some B.bl) A.cs.length A.cs.length):=h.head.cellAt 2 ω rfl
def fD.h3(h:fD w B F gt ct A st G):w.cell? ⟨B.n0,3,none⟩=some (.slice (some (gt:Nat)) A.hs.length ct):=h.head.cellAt 3 ω rfl
def fD.p0(h:fD w B F gt ct A st G){x:Nat}(a:x<A.cs.length):w.cell? ⟨B.bl,x*4,none⟩=some (.int .i64 (G.up x)):=h.pl.cellAt _ ω (Y8 G x)
def fD.p1(h:fD w B F gt ct A st G){x:Nat}(a:x<A.cs.length):w.cell? ⟨B.bl,x*4+1,none⟩=some (.int .i64 (mi (G.K x))):=h.pl.cellAt _ ω (YP G x)
def fD.p2(h:fD w B F gt ct A st G){x:Nat}(a:x<A.cs.length):w.cell? ⟨B.bl,x*4+2,none⟩=some (((G.K x).length:Int):V):=h.pl.cellAt _ ω (XO G x)
def fD.p3(h:fD w B F gt ct A st G){x:Nat}(a:x<A.cs.length):w.cell? ⟨B.bl,x*4+3,none⟩=some (.bool (G.mr x)):=h.pl.cellAt _ ω (ZE G x)
def fD.top(h:fD w B F gt ct A st G){q:Nat}(a:q<A.hs.length):w.cell? ⟨gt,q,none⟩=some (.int .i64 (mi (G.R q))):=by
 rw[h.ai.cell q (by rw[wD];exact a),PR _ a]
def fD.cap(h:fD w B F gt ct A st G):A.hs.length<=ct/\ct<=9223372036854775807:=by have:=h.ai.cap;rwa[wD] at this
def fD.cn(h:fD w B F gt ct A st G):B.n0≠B.c/\B.br≠B.c/\B.bn≠B.c/\B.bp≠B.c/\B.bl≠B.c/\gt≠B.c:=by
 have a:=h.cells.mem;exact⟨λe=>h.d1.1 (e▸a),λe=>h.d1.2.1 (e▸a),λe=>h.d1.2.2.1 (e▸a),λe=>h.d1.2.2.2.1 (e▸a),λe=>h.d1.2.2.2.2.1 (e▸a),λe=>h.d1.2.2.2.2.2 (e▸a)⟩
def fD.upd{w':World}{S:List Nat}(h:fD w B F gt ct A st G)(a:ae S w w')(c:∀x,x∈S->x∉B.blk F gt):fD w' B F gt ct A st G:=by
 have k:∀x,x∈B.blk F gt->x∉S:=λx b hs=>c x hs b;exact⟨h.head.upd a (k _ (by simp[FB.blk])),h.cells.upd a (λx b d=>c x b (by simp[FB.blk,d])),h.rings.upd a (k _ (by simp[FB.blk])) (k _ (by simp[FB.blk])) (k _ (by simp[FB.blk])),h.pl.upd a (k _ (by simp[FB.blk])),h.ai.upd a (k _ (by simp[FB.blk])),h.d1,h.d2,h.d3⟩
def fD.ag{w':World}(h:fD w B F gt ct A st G)(a:ae [] w w'):fD w' B F gt ct A st G:=h.upd a σ
def fD.cK{w':World}{F':List Nat}{A':NS}{b:Nat}(h:fD w B F gt ct A st G)(c:ae F w w')(r:aD w' B.c F' A' b)(s:∀x,x∈F'->x∈F\/w.heap.size<=x)(d:A'.cs.length=A.cs.length)(i:A'.hs.length=A.hs.length):fD w' B F' gt ct A' b G:=by
 have f:=h.d1;have g:=h.lt;have a:∀x,x<w.heap.size->x∉F->x∉F':=λx t p q=>by rcases s x q with e|e;exact p e;omega
 have j:=g B.n0 (by simp[FB.blk]);have k:=g B.br (by simp[FB.blk]);have l:=g B.bn (by simp[FB.blk]);have m:=g B.bp (by simp[FB.blk]);have n:=g B.bl (by simp[FB.blk]);have o:=g gt (by simp[FB.blk]);exact⟨by rw[d,i];exact h.head.upd c f.1,r,by rw[d];exact h.rings.upd c f.2.1 f.2.2.1 f.2.2.2.1,by rw[d];exact h.pl.upd c f.2.2.2.2.1,by rw[i];exact h.ai.upd c f.2.2.2.2.2,⟨a _ j f.1,a _ k f.2.1,a _ l f.2.2.1,a _ m f.2.2.2.1,a _ n f.2.2.2.2.1,a _ o f.2.2.2.2.2⟩,h.d2,h.d3⟩
def fD.setSt{w':World}{a:Nat}(h:fD w B F gt ct A st G)(c:ae [B.c] w w')(d:aD w' B.c F A a):fD w' B F gt ct A a G:=
 h.cK (c.mono (λx b=>by simp at b;rw[b];exact h.cells.mem)) d (λx b=>Α b) rfl rfl
def fD.dm{w':World}{nx pv:Nat->Nat}(h:fD w B F gt ct A st G)(a:ae [B.bn,B.bp] w w')(j:Ai w' B.br B.bn B.bp A.cs.length nx pv):fD w' B F gt ct A st { G with nx:=nx,pv:=pv }:=by
 obtain⟨k,l,n,o,p,q⟩:=h.d1;obtain⟨r,b,c,s,t⟩:=h.d2;obtain⟨g1,g2,d,u,v,e,f⟩:=h.d3;have m:∀x,x≠B.bn->x≠B.bp->x∉[B.bn,B.bp]:=λx g i=>by simp[g,i]
 exact⟨h.head.upd a (m _ b c),h.cells.upd a (λx y z=>by grind),j,h.pl.upd a (m _ g2 d),h.ai.upd a (m _ e f),h.d1,h.d2,h.d3⟩
def fD.Ls{w':World}{up:Nat->Int}{mr:Nat->Bool}{K:Nat->List Nat}(h:fD w B F gt ct A st G)(a:ae [B.bl] w w')(f:aQ w' B.bl 198 (A.cs.length*4) (oZ { G with up:=up,mr:=mr,K:=K })):fD w' B F gt ct A st { G with up:=up,mr:=mr,K:=K }:=by
 obtain⟨g,i,j,k,l,n⟩:=h.d1;obtain⟨o,p,q,b,r⟩:=h.d2;obtain⟨g1,g2,c,d,s,t,u⟩:=h.d3;have m:∀x,x≠B.bl->x∉[B.bl]:=λx e=>by simp[e]
 exact⟨h.head.upd a (m _ b),h.cells.upd a (λx v y=>by grind),h.rings.upd a (m _ (Ne.symm g1)) (m _ (Ne.symm g2)) (m _ (Ne.symm c)),f,h.ai.upd a (m _ (Ne.symm d)),h.d1,h.d2,h.d3⟩
def fD.iT(h:fD w B F gt ct A st G)(q:Nat)(l:List Nat):fD (w.setCell ⟨gt,q,none⟩ (.int .i64 (mi l))) B F gt ct A st { G with R:=ah G.R q l }:=by
 obtain⟨i,j,k,n,o,p⟩:=h.d1;obtain⟨r,s,t,u,b⟩:=h.d2;obtain⟨g1,g2,v,c,d,e,f⟩:=h.d3;have a:ae [gt] w (w.setCell ⟨gt,q,none⟩ (.int .i64 (mi l))):=(ae.refl _ _).setCell (Α σ) _;have m:∀x,x≠gt->x∉[gt]:=λx g=>by simp[g]
 refine⟨h.head.upd a (m _ b),h.cells.upd a (λx y z=>by grind),h.rings.upd a (m _ (Ne.symm d)) (m _ (Ne.symm e)) (m _ (Ne.symm f)),h.pl.upd a (m _ c),?_,h.d1,h.d2,h.d3⟩;have:=h.ai.set q (mi l);rwa[Ry] at this
def fD.drewN(h:fD w B F gt ct A st G)(k:Nat):fD (w.drewN k) B F gt ct A st G:=h.ag ((ae.refl [] w).drewN k)
end
def Cz(w:World):Calls prog 88 #[] w λe w'=>e=.returned (.agg #[(-1:Int),(-1:Int),(0:Int),false])/\ae [] w w':=by
 go_enter func88,ntmps88
 go_wp2;exact bodyPost_ret (v:=.agg #[(-1:Int),(-1:Int),(0:Int),false]) (by simp[results,results88,go_sem]) rfl ⟨rfl,(ae.refl _ _).alloc _⟩
section
variable{w:World}{B:FB}{F:List Nat}{gt ct:Nat}{A:NS}{st:Nat}{G:FG}
def Lj(R:Nat->List Nat)(m h:Nat)(l:List Nat)(e:mi l=mi (R h)):jE (ah R h l) m=jE R m:=by
 unfold jE ah
 grind
def fD.Pd(h:fD w B F gt ct A st G)(q:Nat)(l:List Nat)(e:mi l=mi (G.R q)):fD w B F gt ct A st { G with R:=ah G.R q l }:=
 ⟨h.head,h.cells,h.rings,h.pl,by rw[Lj G.R _ q l e];exact h.ai,h.d1,h.d2,h.d3⟩
def zR(M:fD w B F gt ct A st G){q x:Nat}(r:List Nat)(hq:q<A.hs.length)(Y:bY A (x:Int)=true)(Z:∀t s,G.R q=t::s->bY A (t:Int)=true):
  Calls prog 220 #[B.n0,(q:Int),(x:Int)] w λe w'=>e=.returned (.tuple #[])/\
   fD w' B F gt ct A (dw st (qZ q G)) (gP (λa b=>decide (dA A a b)) q (x::r) G)/\ae [B.c,B.bn,B.bp,gt] w w':=by
 have U:=M.cells.oG;have h3:=M.h3;have d:=M.top hq;have C:=M.ai.free q;have hqI:(q:Int)<(A.hs.length:Int):=ω;cases h:G.R q with
 |nil=>
  rw[h] at d;have D:qZ q G=0:=by unfold qZ;rw[Δ h]
  have E:gP (λa b=>decide (dA A a b)) q (x::r) G={ G with R:=ah G.R q (x::r) }:=by unfold gP;rw[h]
  rw[D,E,fG U];have K:=χ (M.iT q (x::r));clear M h D E Y Z;unfold mi at d;generalize Wn:A.hs.length=hl at *
  go_enter func220,ntmps220
  go_wp2;refine bodyPost_ret (v:=.tuple #[]) (by simp[results,results220,go_sem]) rfl ?_;exact⟨rfl,K.out,(ae.refl _ _).setCell (Α σ) _⟩
 |cons t s=>
  have H:=Z t s h;obtain⟨Q,hx2⟩:=(aj _ _).1 Y;obtain⟨S,ht2⟩:=(aj _ _).1 H;rw[h] at d;have D:qZ q G=1:=by unfold qZ;rw[Γ (by rw[h];simp)]
  have E:gP (λa b=>decide (dA A a b)) q (x::r) G={ Om G t x with R:=ah G.R q (yZ (decide (dA A x t)) (t::s) (x::r)) }:=by unfold gP;rw[h]
  rw[D,E];have ks:=λW (c:ae [] w W)=>lu (M.rings.ag c) S Q;obtain⟨g1,g2,g3,g4,g5,g6,g7⟩:=M.d3;obtain⟨e1,e2,e3,e4,e5⟩:=M.d2;have m:∀x,x≠B.bn->x≠B.bp->x∉[B.bn,B.bp]:=λx X h2=>by simp[X,h2]
  have r1:∀W,ae [B.bn,B.bp] w W->W.cell? ⟨B.n0,1,none⟩=some (B.br:V):=λW c=>c.kept M.h1 (m _ e2 e3);have r3:∀W,ae [B.bn,B.bp] w W->W.cell? ⟨B.n0,3,none⟩=some (.slice (some (gt:Nat)) A.hs.length ct):=λW c=>c.kept M.h3 (m _ e2 e3);have rt:∀W,ae [B.bn,B.bp] w W->W.cell? ⟨gt,q,none⟩=some ((t:Int):V):=λW c=>c.kept d (m _ g6 g7);have k:w.cell? ⟨gt,q,none⟩=some ((t:Int):V):=d;have htn:((t:Int) == -1)=false:=σ;have K:=χ M;have HR:=χ h;clear M h D E Z d;generalize Wn:A.hs.length=hl at *
  go_enter func220,ntmps220
  go_wp2
  go_region_held3 (ae [B.bn,B.bp] w) (exact ν)
   (first
    | (((with_reducible refine (ks _ β).mono ?_));rintro e j ⟨rfl,qh,z⟩;(have f:ae [B.bn,B.bp] w j:=ae.trans ν z)))
  have g:=K.out.dm f qh;have L:=λW (c:ae [] j W)=>fA (g.cells.ag c) x t Y H;have N:=g.cn;have O:∀x,x≠B.c->x∉[B.c]:=λx X=>by simp[X]
  have r0:∀W,ae [B.c] j W->W.cell? B.n0=some (B.c:V):=λW c=>c.kept g.h0 (O _ N.1);have o:∀W,ae [B.c] j W->W.cell? ⟨B.n0,3,none⟩=some (.slice (some (gt:Nat)) hl ct):=λW c=>by rw[←Wn];exact c.kept g.h3 (O _ N.1)
  have p:∀W,ae [B.c] j W->W.cell? ⟨gt,q,none⟩=some ((t:Int):V):=λW c=>c.kept (rt _ f) (O _ N.2.2.2.2.2);have u:∀W,ae [B.c] j W->W.frozen? ⟨gt,q,none⟩=false:=λW c=>c.ay (rt _ f) (O _ N.2.2.2.2.2) (f.ay k (m _ g6 g7) C);have jZ:=χ (ψ g f);clear g ks r1 r3 rt k f qh z K C;obtain⟨b,T⟩:∃b,decide (dA A x t)=b:=⟨_,rfl⟩;rw[T] at L;have I:=χ T;clear T;go_wp2
  go_region_held3 (ae [B.c] j) (exact ν)
   (first
    | (((with_reducible refine (L _ β).mono ?_));rintro e w2 ⟨rfl,l,n⟩;(have y:ae [B.c] j w2:=ae.trans ν n)))
  have d3:=o _ y;have dt:=p _ y;have df:=u _ y;have i:=jZ.out.1.setSt y l;have P:ae [B.c,B.bn,B.bp,gt] w w2:=(jZ.out.2.mono σ).trans (y.mono σ);cases b with
  |false=>
   have J:=χ (ψ i P);clear i P r0 o p u L y l n;go_wp2;go_end0;rw[I.out];exact⟨rfl,J.out.1.Pd q (t::r++x::s) (by rw[show({ G with nx:=dP G.nx t x,pv:=jO G.nx G.pv t x }:FG).R q=t::s from HR.out];rfl),J.out.2⟩
  |true=>
   have J:=χ (ψ i P);clear i P r0 o p u L y l n;go_wp2;go_end0;rw[I.out];exact⟨rfl,J.out.1.iT q (x::s++t::r),J.out.2.setCell (Α σ) _⟩
def fD.under(M:fD w B F gt ct A st G)(x y:Nat)(l:List Nat)(v d:Int)(a:v=mi l)(b:d=(l.length:Int)):
  fD ((((w.setCell ⟨B.bl,x*4+1,none⟩ (.int .i64 v)).setCell ⟨B.bl,x*4+2,none⟩ (.int .i64 d)).setCell ⟨B.bl,y*4,none⟩ (.int .i64 (x:Int))).setCell ⟨B.bl,y*4+3,none⟩ (.bool false)) B F gt ct A st { G with up:=ah G.up y x,mr:=ah G.mr y false,K:=ah G.K x l }:=by
 refine M.Ls ν ?_;unfold oZ;simp only[GK,kV,←a,←b];exact rH (vD (uV (rU M.pl x v) x d) y x) y false
def BV(M:fD w B F gt ct A st G){x y:Nat}(hx:x<A.cs.length)(X:y<A.cs.length)(Y:∀k t,G.K x=k::t->k<A.cs.length)(hl:(G.K x).length<=65536):
  Calls prog 225 #[B.n0,(y:Int),(x:Int)] w λe w'=>e=.returned (.tuple #[])/\
   fD w' B F gt ct A st (eB G y x)/\ae [B.bn,B.bp,B.bl] w w':=by
 have h2:=M.h2;have Dy:(x:Int)<(A.cs.length:Int):=ω;have XN:(y:Int)<(A.cs.length:Int):=ω;have g:=M.p1 hx;have c:=M.p2 hx;have i:=M.p0 X;have j:=M.p3 X;have q:=M.pl.free (x*4+1);have r:=M.pl.free (x*4+2);have s:=M.pl.free (y*4);have u:=M.pl.free (y*4+3);have d:IntKind.i64.wrap (((G.K x).length:Int)+1)=((G.K x).length:Int)+1:=Μ _ ω;cases l:G.K x with
 |nil=>
  rw[l] at g c d;unfold mi at g;have v:eB G y x={ G with up:=ah G.up y x,mr:=ah G.mr y false,K:=ah G.K x [y] }:=by unfold eB;rw[l]
  rw[v];have R:=χ M;clear M v l Y;generalize Q:A.cs.length=n at *;simp only[List.length_nil] at c d
  go_enter func225,ntmps225
  go_wp2
  go_region
  go_wp2;go_end0;exact⟨rfl,(R.out.under x y [y] y 1 rfl rfl).drewN 1,ν⟩
 |cons k t=>
  have T:=Y k t l;rw[l] at g c d hl;simp only[Ω] at c d hl;unfold mi at g;have v:eB G y x={ Om G k y with up:=ah G.up y x,mr:=ah G.mr y false,K:=ah G.K x (y::(t++[k])) }:=by unfold eB;rw[l]
  rw[v];have ks:=λW (b:ae [] w W)=>lu (M.rings.ag b) T X;obtain⟨g1,g2,f,g4,g5,g6,g7⟩:=M.d3;obtain⟨e1,e2,e3,e4,e5⟩:=M.d2;have m:∀x,x≠B.bn->x≠B.bp->x∉[B.bn,B.bp]:=λx h1 h2=>by simp[h1,h2]
  have r1:∀W,ae [B.bn,B.bp] w W->W.cell? ⟨B.n0,1,none⟩=some (B.br:V):=λW b=>b.kept M.h1 (m _ e2 e3);have rx:∀W,ae [B.bn,B.bp] w W->W.cell? ⟨B.bl,x*4+1,none⟩=some ((k:Int):V):=λW b=>b.kept g (m _ g2 f);have R:=χ M;have C:=λW (b:ae [B.bn,B.bp] w W)=>b.kept c (m _ g2 f);have D:=λW (b:ae [B.bn,B.bp] w W)=>b.kept i (m _ g2 f);have E:=λW (b:ae [B.bn,B.bp] w W)=>b.kept j (m _ g2 f);have H:=λW (b:ae [B.bn,B.bp] w W)=>b.ay g (m _ g2 f) q;have I:=λW (b:ae [B.bn,B.bp] w W)=>b.ay c (m _ g2 f) r
  have J:=λW (b:ae [B.bn,B.bp] w W)=>b.ay i (m _ g2 f) s;have L:=λW (b:ae [B.bn,B.bp] w W)=>b.ay j (m _ g2 f) u;have N:w.cell? ⟨B.bl,x*4+1,none⟩=some ((k:Int):V):=g;have H2:=χ (ψ C (ψ D (ψ E (ψ H (ψ I (ψ J L))))));clear M v l Y C D E H I J L g c i j q r s u;generalize Q:A.cs.length=n at *;generalize o:t.length=tl at *;have O:((tl:Int)+1+1)=(((y::(t++[k])).length:Nat):Int):=by first|(simp[o];done)|(simp[o];omega)
  have U:=χ O;clear O o
  go_enter func225,ntmps225
  go_wp2
  go_region
  go_wp2
  go_region_held3 (ae [B.bn,B.bp] w) (exact ν)
   (first
    | (((with_reducible refine (ks _ β).mono ?_));rintro e S ⟨rfl,Z,p⟩;(have a:ae [B.bn,B.bp] w S:=ae.trans ν p)))
  have q1:=rx _ a;obtain⟨q2,q3,q4,q5,q6,q7,q8⟩:=H2.out;have q2:=q2 _ a;have q3:=q3 _ a;have q4:=q4 _ a;have q5:=q5 _ a;have q6:=q6 _ a;have q7:=q7 _ a;have q8:=q8 _ a;have h:Ai S B.br B.bn B.bp A.cs.length (dP G.nx k y) (jO G.nx G.pv k y):=by rw[Q];exact Z
  have P:=R.out.dm a h;have HF:=χ (ψ P a);clear P a Z h p ks r1 rx N R H2;go_wp2;go_end0;have hU:ae [B.bn,B.bp,B.bl] w S:=HF.out.2.mono (λz hz=>by simp at hz;rcases hz with rfl|rfl<;>simp);exact⟨rfl,HF.out.1.under x y (y::(t++[k])) y _ rfl U.out,ν⟩
def fD.ab4(M:fD w B F gt ct A st G)(x:Nat):
  fD ((((w.setCell ⟨B.bl,x*4,none⟩ (.int .i64 (-1))).setCell ⟨B.bl,x*4+1,none⟩ (.int .i64 (-1))).setCell ⟨B.bl,x*4+2,none⟩ (.int .i64 0)).setCell ⟨B.bl,x*4+3,none⟩ (.bool false)) B F gt ct A st { G with up:=ah G.up x (-1),mr:=ah G.mr x false,K:=ah G.K x [] }:=by
 refine M.Ls ν ?_;unfold oZ;simp only[GK,kV];exact rH (uV (rU (vD M.pl x (-1)) x (-1)) x 0) x false
def G7(l:List Nat)(up:Nat->Int):Nat->Int:=λz=>if z∈l then -1 else up z
def Gp(l:List Nat)(mr:Nat->Bool):Nat->Bool:=λz=>if z∈l then false else mr z
def Vr(l:List Nat)(x:Nat)(up:Nat->Int):ah (G7 l up) x (-1)=G7 (l++[x]) up:=by
 funext z;unfold ah G7
 grind
def VT(l:List Nat)(x:Nat)(mr:Nat->Bool):ah (Gp l mr) x false=Gp (l++[x]) mr:=by
 funext z;unfold ah Gp
 grind
def Ue(up:Nat->Int):G7 [] up=up:=by funext z;unfold G7;simp
def Wz(mr:Nat->Bool):Gp [] mr=mr:=by funext z;unfold Gp;simp
def CV(M:fD w B F gt ct A st G){x:Nat}(O:x<A.cs.length)(hr:Ring G.nx (G.K x))(L:∀z,z∈G.K x->z<A.cs.length):
  Calls prog 216 #[B.n0,(x:Int)] w λe w'=>e=.returned (.tuple #[])/\
   fD w' B F gt ct A st (bI G x)/\ae [B.bn,B.bp,B.bl] w w':=by
 have hc1:=M.cells.ok.c1;have h2:=M.h2;have Dy:(x:Int)<(A.cs.length:Int):=ω;have Q:=M.p1 O;cases N:G.K x with
 |nil=>
  rw[N] at Q;unfold mi at Q;have R:bI G x=G:=by unfold bI;rw[N]
  rw[R];have q:=χ M;clear M R N L hr;generalize c:A.cs.length=n at *
  go_enter func216,ntmps216
  go_wp2;refine bodyPost_ret (v:=.tuple #[]) (by simp[results,results216,go_sem]) rfl ?_;exact⟨rfl,q.out,ae.refl _ _⟩
 |cons k t=>
  rw[N] at Q hr L;have px1':w.cell? ⟨B.bl,x*4+1,none⟩=some ((k:Int):V):=Q;have R:bI G x={ Om G x k with up:=ah (G7 (k::t) G.up) x (-1),mr:=ah (Gp (k::t) G.mr) x false,K:=ah G.K x [] }:=by unfold bI;rw[N];rfl
  rw[R];have hkk:((k:Int) == -1)=false:=σ;have h1:=M.h1;have V4:=Jw M.rings hr L;have r:(k::t).length<=A.cs.length:=jR A.cs.length (k::t) hr.nd L;have hkn:k<A.cs.length:=L k σ;have q:=χ (ψ M L);clear M R N L Q hr;generalize c:A.cs.length=n at *
  go_enter func216,ntmps216
  go_wp2_with ((((with_reducible refine V4.mono ?_));rintro e w1 ⟨v1,rfl,u,C⟩;rw[←nD] at u;obtain⟨g,cap,rfl,hZ,hb⟩:=IZ.jd u (by simp[ru]);rw[nD] at *))
  obtain⟨g1,g2,g3,g4,g5,g6,g7⟩:=q.out.1.d3;obtain⟨e1,e2,e3,e4,e5⟩:=q.out.1.d2;have S:=q.out.1.lt;have lbl:=S B.bl (by simp[FB.blk]);have T:=q.out.1.ag C;have s:fD w1 B F gt ct A st { G with up:=G7 ((k::t).take 0) G.up,mr:=Gp ((k::t).take 0) G.mr,K:=G.K }:=by rw[List.take_zero,Ue,Wz];exact T
  have jZ:=χ (ψ s (ψ C hZ));have U:g≠B.bl:=ω;clear T s C hZ u S V4 h1 h2;have X:(k::t).length=t.length+1:=rfl;rw[X] at r;generalize htl:t.length=tl at *;obtain⟨d,P⟩:∃d,tl+1=d:=⟨_,rfl⟩;have Y:(tl:Int)+1=(d:Int):=ω;rw[P] at X r ⊢;rw[Y];clear Y htl P
  go_loopw [24] (λJ wr=>∃j:Nat,j<=d/\J=.int .i64 (j:Int)/\fD wr B F gt ct A st { G with up:=G7 ((k::t).take j) G.up,mr:=Gp ((k::t).take j) G.mr,K:=G.K }/\IZ wr g cap (ru (k::t))/\ae [B.bl] w wr) (λJ _=>d-(intOf J).toNat)
  case atStart=>exact⟨0,ω,rfl,jZ.out.1,jZ.out.2.2,jZ.out.2.1.mono σ⟩
  case round=>
   obtain⟨j,hj,rfl,a,i,f⟩:=hrel;rename World=>wr
   by_cases hjl:j<d
   .obtain⟨z,D⟩:∃z,(k::t)[j]?=some z:=⟨_,ε ω⟩;have Z:z<n:=c▸q.out.2 z (Η D);have hc:=i.cell j (by rw[nD];omega);have hgz:(ru (k::t)).getD j 0=(z:Int):=by unfold ru;rw[φ,ϑ,D];rfl
    rw[hgz] at hc;have q2:=a.h2;rw[c] at q2;have o:=a.p0 (x:=z) (by rw[c];exact Z);have p:=a.p3 (x:=z) (by rw[c];exact Z);have f0:=a.pl.free (z*4);have f3:=a.pl.free (z*4+3);have hzI:(z:Int)<(n:Int):=ω;have Gr:(j:Int)<(d:Int):=ω;have hw1:IntKind.i64.wrap ((j:Int)+1)=(j:Int)+1:=Μ _ ω;have E:(k::t).take (j+1)=(k::t).take j++[z]:=by rw[ώ,D];rfl
    have HR:=χ (ψ a (ψ i (ψ f E)));clear a i f E D hgz;go_wp2
    go_region
    go_wp2;obtain⟨a,i,f,E⟩:=HR.out;refine⟨⟨j+1,ω,by go_num,?_,(i.upd ((ae.refl [B.bl] wr).setCell (Α σ) _) (by simpa using U)).upd (((ae.refl [B.bl] _).setCell (Α σ) _).drew) (by simpa using U),ν⟩,by simp[intOf];omega⟩;rw[E,←Vr,←VT];refine(a.Ls (up:=ah (G7 ((k::t).take j) G.up) z (-1)) (mr:=ah (Gp ((k::t).take j) G.mr) z false) (K:=G.K) ν ?_).drewN 1;exact rH (vD a.pl z (-1)) z false
   .obtain rfl:j=d:=ω;have E:(k::t).take j=k::t:=List.take_of_length_le ω;rw[E] at a;have ks:=λW (m:ae [] wr W)=>lu (a.rings.ag m) (x:=x) (y:=k) (by rw[c];exact O) (by rw[c];exact hkn);have q1:=a.h1;have q2:∀W,ae [B.bn,B.bp] wr W->W.cell? ⟨B.n0,2,none⟩=some (.slice (some B.bl) n n):=λW m=>by
     have:=m.kept a.h2 (by simp;exact⟨e2,e3⟩);rwa[c] at this
    have o:=λW (m:ae [B.bn,B.bp] wr W)=>m.kept (a.p0 (x:=x) (by rw[c];exact O)) (by simp;exact⟨g2,g3⟩);have H:=λW (m:ae [B.bn,B.bp] wr W)=>m.kept (a.p1 (x:=x) (by rw[c];exact O)) (by simp;exact⟨g2,g3⟩);have I:=λW (m:ae [B.bn,B.bp] wr W)=>m.kept (a.p2 (x:=x) (by rw[c];exact O)) (by simp;exact⟨g2,g3⟩);have p:=λW (m:ae [B.bn,B.bp] wr W)=>m.kept (a.p3 (x:=x) (by rw[c];exact O)) (by simp;exact⟨g2,g3⟩);have HR:=χ (ψ a (ψ f (ψ o (ψ H (ψ I p)))));clear a i f E o H I p q jZ
    go_wp2_with ((((with_reducible refine(ks _ β).mono ?_));rintro e w2 ⟨rfl,h,b⟩;(have q3:=q2 _ b)))
    obtain⟨a,f,o,H,I,p⟩:=HR.out;have o:=o _ b;have H:=H _ b;have I:=I _ b;have p:=p _ b;have f0:=(a.dm b h).pl.free (x*4);have f1:=(a.dm b h).pl.free (x*4+1);have f2:=(a.dm b h).pl.free (x*4+2);have f3:=(a.dm b h).pl.free (x*4+3);have pW:=χ (a.dm b h);have HU:=χ (ψ f b);clear a h f b ks q1 q2 HR
    go_region_with ((((with_reducible refine(Cz _).mono ?_));rintro e w3 ⟨rfl,hu3⟩;(have l:ae [] w2 w3:=ae.trans β hu3);(have v0:=l.was o);(have v1:=l.was H);(have v2:=l.was I);(have v3:=l.was p);(have v4:=l.was q3);(have z0:=l.ay o σ f0);(have z1:=l.ay H σ f1);(have z2:=l.ay I σ f2);(have z3:=l.ay p σ f3)))
    all_goals
     go_wp2;go_end0;have hU:ae [B.bn,B.bp,B.bl] w w3:=((HU.out.1.mono σ).trans (HU.out.2.mono (λz D=>by simp at D;rcases D with rfl|rfl<;>simp))).trans (l.mono σ);exact⟨rfl,(pW.out.ag l).ab4 x,ν⟩
end
end Go.Proofs.YtnpdakpagnpanaaGreat
namespace Go.Proofs.YtnpdakpagnpanaaGreat
open Tryz
def few(G:FG)(ex:Nat->Nat)(l:List Nat)(d:Nat):Nat:=(l.filter (λc=>decide ((G.K c).length+(if G.mr c then 1 else 0)+ex c<d))).length
structure FF(n:Nat)(G:FG)(bZ:Nat->Int)(L:Nat->Nat->Prop)(ex:Nat->Nat):Prop where
 rg:Rg n G.nx G.pv
 kid:∀x y,x<n->y∈G.K x->y<n/\G.up y=x
 Ik:∀y,y<n->G.up y=-1\/∃p:Nat,p<n/\G.up y=p/\y∈G.K p
 ring:∀x,x<n->Ring G.nx (G.K x)
 home:∀y p:Nat,y<n->G.up y=p->bZ y=bZ p/\0<bZ y
 ord:∀y p:Nat,y<n->G.up y=p->L p y
 alone:∀y,y<n->¬0<bZ y->G.up y=-1/\G.K y=[]/\G.nx y=y
 free:∀y,y<n->G.up y=-1->G.mr y=false
 cnt:∀x d,x<n->few G ex (G.K x) d<=d
structure FR(n:Nat)(G:FG)(bZ:Nat->Int)(L:Nat->Nat->Prop)(g:Option Nat):Prop where
 ring:∀h,some h≠g->Ring G.nx (G.R h)
 mem:∀h y:Nat,some h≠g->(y∈G.R h↔1<=h/\y<n/\G.up y=-1/\bZ y=h)
 top:∀h t s,some h≠g->G.R h=t::s->∀y,y∈s->L t y
section
variable{n:Nat}{G:FG}{bZ:Nat->Int}{L:Nat->Nat->Prop}{ex:Nat->Nat}
def FF.yH(H:FF n G bZ L ex){x:Nat}(a:x<n):(G.K x).length<=n:=jR n _ (H.ring x a).nd (λy b=>(H.kid x y a b).1)
def FF.above(H:FF n G bZ L ex){y p:Nat}(b:y<n)(h:G.up y=p):p<n/\y∈G.K p:=by
 rcases H.Ik y b with a|⟨q,c,a,d⟩
 .omega
 .grind
def abk(G:FG)(ex:Nat->Nat)(l:List Nat)(d:Nat):few G ex l d<=l.length:=List.length_filter_le _ _
def IK(G:FG)(ex:Nat->Nat){l a:List Nat}(h:l.Perm a)(d:Nat):few G ex l d=few G ex a d:=(h.filter _).length_eq
def wm{G G':FG}{ex ex':Nat->Nat}{l:List Nat}(d:Nat)(h:∀c,c∈l->(G'.K c).length+(if G'.mr c then 1 else 0)+ex' c=(G.K c).length+(if G.mr c then 1 else 0)+ex c):few G' ex' l d=few G ex l d:=by
 unfold few
 congr 1
 exact List.filter_congr (λc a=>by rw[h c a])
def JV{G G':FG}{ex ex':Nat->Nat}{l:List Nat}(d:Nat)(h:∀c,c∈l->(G.K c).length+(if G.mr c then 1 else 0)+ex c<=(G'.K c).length+(if G'.mr c then 1 else 0)+ex' c):few G' ex' l d<=few G ex l d:=by
 unfold few
 induction l with
 |nil=>simp
 |cons c t a=>
  grind
def KO(G:FG)(ex:Nat->Nat)(c:Nat)(l:List Nat)(d:Nat):few G ex (c::l) d=(if(G.K c).length+(if G.mr c then 1 else 0)+ex c<d then 1 else 0)+few G ex l d:=by
 unfold few
 grind
def bG{α:Type}(f:Nat->α)(x:Nat)(v:α):ah f x v x=v:=by unfold ah;rw[Δ rfl]
def aY{α:Type}(f:Nat->α){x z:Nat}(v:α)(h:z≠x):ah f x v z=f z:=by unfold ah;rw[Γ h]
def ZH(l:List Nat)(y:Nat):List Nat:=match l with|[]=>[y]|k::t=>y::(t++[k])
def FP(l:List Nat)(y:Nat):(ZH l y).Perm (y::l):=by
 cases l with
 |nil=>exact ό _
 |cons k t=>exact List.Perm.cons y (Φ (l₁:=t) (l₂:=[k]))
def nE(G:FG)(y x:Nat):(eB G y x).up=ah G.up y x:=rfl
def CU(G:FG)(y x:Nat):(eB G y x).mr=ah G.mr y false:=rfl
def sU(G:FG)(y x:Nat):(eB G y x).K=ah G.K x (ZH (G.K x) y):=rfl
def vR(G:FG)(y x:Nat):(eB G y x).R=G.R:=by unfold eB;cases G.K x<;>rfl
def CJ(G:FG)(y x:Nat):(eB G y x).nx=match G.K x with|[]=>G.nx|k::_=>dP G.nx k y:=by unfold eB;cases G.K x<;>rfl
def UM(G:FG)(y x:Nat):(eB G y x).pv=match G.K x with|[]=>G.pv|k::_=>jO G.nx G.pv k y:=by unfold eB;cases G.K x<;>rfl
def FF.under(H:FF n G bZ L ex){x y:Nat}(w:x<n)(I:y<n)(S:G.up x=-1)(T:G.up y=-1)(A:x≠y)(R:bZ y=bZ x)(J:0<bZ x)(U:L x y)(K:G.nx y=y)(W:(G.K y).length=(G.K x).length)(B:ex y=0):
  FF n (eB G y x) bZ L ex/\(∀z,z<n->z≠y->G.up z=-1->(eB G y x).nx z=G.nx z)/\(∀l:List Nat,Ring G.nx l->y∉l->(∀z,z∈l->z∉G.K x)->Ring (eB G y x).nx l):=by
 have u:∀a z,a<n->z∈G.K a->z≠x/\z≠y:=λa z g f=>by
  have:=(H.kid a z g f).2
  grind
 have m:∀z,z≠y->z∉G.K x->(eB G y x).nx z=G.nx z:=λz h j=>by
  rw[CJ];cases s:G.K x with
  |nil=>rfl
  |cons k t=>exact jv (λe=>j (by rw[s,e];simp)) h
 have D:∀z,G.up z=-1->z∉G.K x:=λz i q=>by
  have:=(H.kid x z w q).2;omega
 have E:∀l:List Nat,Ring G.nx l->y∉l->(∀z,z∈l->z∉G.K x)->Ring (eB G y x).nx l:=λl v h j=>v.far (λz f=>m z (λe=>h (e▸f)) (j z f));have o:∀z,z∈ZH (G.K x) y↔z=y\/z∈G.K x:=λz=>by rw[(FP _ _).mem_iff];simp
 refine⟨⟨?_,λa z g f=>?_,λz f=>?_,λa g=>?_,λz p f i=>?_,λz p f i=>?_,λz f h=>?_,λz f i=>?_,λa d g=>?_⟩,λz f h j=>m z h (D z j),E⟩
 .rw[CJ,UM];cases s:G.K x with
  |nil=>exact H.rg
  |cons k t=>exact H.rg.swap (H.kid x k w (by rw[s];simp)).1 I
 .rw[sU] at f;rw[nE]
  by_cases e:a=x
  .subst e;rw[bG,o] at f;rcases f with rfl|f
   .exact⟨I,bG _ _ _⟩
   .exact⟨(H.kid a z g f).1,by rw[aY _ _ (u a z g f).2];exact(H.kid a z g f).2⟩
  .rw[aY _ _ e] at f;exact⟨(H.kid a z g f).1,by rw[aY _ _ (u a z g f).2];exact(H.kid a z g f).2⟩
 .rw[nE,sU]
  by_cases e:z=y
  .subst e;exact Β ⟨x,w,bG _ _ _,by rw[bG,o];exact Α rfl⟩
  .rw[aY _ _ e];rcases H.Ik z f with h|⟨p,hp,h,j⟩
   .exact Α h
   .refine Β ⟨p,hp,h,?_⟩
    by_cases r:p=x
    .rw[r,bG,o];rw[r] at j;exact Β j
    .rw[aY _ _ r];exact j
 .rw[sU]
  by_cases e:a=x
  .subst e;rw[bG,CJ];have v:=H.ring a g;cases s:G.K a with
   |nil=>exact jr.2 K
   |cons k t=>
    rw[s] at v
    have O:=Ring.join v (jr.2 K) (λz f q=>by
     grind)
    exact Ring.XE (a:=[k]) (b:=y::t) O
  .rw[aY _ _ e]
   exact E _ (H.ring a g) (λq=>(u a y g q).2 rfl) (λz f q=>e (by
    have:=(H.kid a z g f).2;have:=(H.kid x z w q).2
    omega))
 .rw[nE] at i
  by_cases e:z=y
  .subst e;rw[bG] at i
   grind
  .rw[aY _ _ e] at i;exact H.home z p f i
 .rw[nE] at i
  by_cases e:z=y
  .subst e;rw[bG] at i
   grind
  .rw[aY _ _ e] at i;exact H.ord z p f i
 .have F:z≠y:=λe=>h (by rw[e,R];exact J);have r:z≠x:=λe=>h (by rw[e];exact J);obtain⟨C,M,N⟩:=H.alone z f h;exact⟨by rw[nE,aY _ _ F];exact C,by rw[sU,aY _ _ r];exact M,by rw[m z F (D z C)];exact N⟩
 .rw[nE] at i;rw[CU]
  by_cases e:z=y
  .subst e;rw[bG]
  .rw[aY _ _ e] at i ⊢;exact H.free z f i
 .have old:∀b:Nat,b<n->few (eB G y x) ex (G.K b) d=few G ex (G.K b) d:=λb P=>wm d (λc Q=>by
   have:=u b c P Q
   rw [sU,CU,aY _ _ this.1,aY _ _ this.2])
  by_cases e:a=x
  .subst e;rw[show(eB G y a).K a=ZH (G.K a) y from bG _ _ _,IK _ _ (FP _ _),KO,old a g,sU,CU,bG,aY _ _ (Ne.symm A),B];have h:=H.cnt a d g;have j:=abk G ex (G.K a) d
   grind
  .rw[show(eB G y x).K a=G.K a from aY _ _ e,old a g];exact H.cnt a d g
end
def lh(T:List Int)(d:Nat):List Int:=T++List.replicate (d+1-T.length) (-1)
def p9(T:List Int):Nat:=(T.filter (λy=>decide (y≠-1))).length
structure TD where
 T:List Int
 G:FG
 q:Nat
def LD(lt:Nat->Nat->Bool):Nat->List Int->Nat->FG->Nat->TD
 |0,T,x,G,q=>⟨T,G,q⟩
 |f+1,T,x,G,q=>
  if(lh T (G.K x).length).getD (G.K x).length (-1)=-1 then⟨(lh T (G.K x).length).set (G.K x).length x,G,q⟩
  else if lt ((lh T (G.K x).length).getD (G.K x).length (-1)).toNat x then LD lt f ((lh T (G.K x).length).set (G.K x).length (-1)) ((lh T (G.K x).length).getD (G.K x).length (-1)).toNat (eB G x ((lh T (G.K x).length).getD (G.K x).length (-1)).toNat) (q+1)
  else LD lt f ((lh T (G.K x).length).set (G.K x).length (-1)) x (eB G ((lh T (G.K x).length).getD (G.K x).length (-1)).toNat x) (q+1)
def tid(lt:Nat->Nat->Bool):List Nat->TD->TD
 | [],D=>D
 |x::rs,D=>tid lt rs (LD lt (p9 D.T+1) D.T x D.G D.q)
def FT(T:List Int)(d:Nat):(lh T d).length=max T.length (d+1):=by unfold lh;simp;omega
def ZK(a b:List Int):p9 (a++b)=p9 a+p9 b:=by unfold p9;simp
def YW(k:Nat):p9 (List.replicate k (-1))=0:=by
 unfold p9
 grind
def Y3(T:List Int)(d:Nat):p9 (lh T d)=p9 T:=by unfold lh;rw[ZK,YW];omega
def Gj:∀(T:List Int) (d:Nat) (v u:Int),T[d]?=some u->p9 (T.set d v)+(if u=-1 then 0 else 1)=p9 T+(if v=-1 then 0 else 1)
 | [],d,v,u,h=>by simp at h
 |a::t,0,v,u,h=>by
  have e:a=u:=by simpa using h
  subst e;have c:∀z:Int,p9 (z::t)=(if z=-1 then 0 else 1)+p9 t:=λz=>by
   unfold p9
   by_cases hz:z=-1
   .rw[List.filter_cons_of_neg (by simpa using hz),Δ hz];omega
   .rw[List.filter_cons_of_pos (by simpa using hz),Γ hz];simp;omega
  show p9 (v::t)+_=_
  rw[c,c];omega
 |a::t,d+1,v,u,h=>by
  have ih:=Gj t d v u (by simpa using h);have c:∀l:List Int,p9 (a::l)=(if a=-1 then 0 else 1)+p9 l:=λl=>by
   unfold p9
   by_cases hz:a=-1
   .rw[List.filter_cons_of_neg (by simpa using hz),Δ hz];omega
   .rw[List.filter_cons_of_pos (by simpa using hz),Γ hz];simp;omega
  show p9 (a::t.set d v)+_=_
  rw[c,c];omega
def xS(n:Nat)(G:FG)(bZ:Nat->Int)(h:Nat)(z:Nat):Prop:=z<n/\G.up z=-1/\bZ z=h
structure TT(n:Nat)(bZ:Nat->Int)(L:Nat->Nat->Prop)(h:Nat)(T:List Int)(xs:List Nat)(G:FG):Prop where
 ff:FF n G bZ L (λ_=>0)
 fr:FR n G bZ L (some h)
 zero:G.R h=[]
 one:∀y,xS n G bZ h y->G.nx y=y
 tab:∀(d:Nat) (y:Int),T[d]?=some y->y=-1\/∃z:Nat,y=z/\xS n G bZ h z/\(G.K z).length=d/\z∉xs
 nd:xs.Nodup
 xr:∀z,z∈xs->xS n G bZ h z
 all:∀z,xS n G bZ h z->z∈xs\/(z:Int)∈T
section
variable{n:Nat}{bZ:Nat->Int}{L:Nat->Nat->Prop}{h:Nat}{T:List Int}{xs:List Nat}{G:FG}
def TT.pad(H:TT n bZ L h T xs G)(d:Nat):TT n bZ L h (lh T d) xs G:=by
 refine⟨H.ff,H.fr,H.zero,H.one,λe y a=>?_,H.nd,H.xr,λz b=>(H.all z b).imp id (λc=>by unfold lh;simp[c])⟩;unfold lh at a
 by_cases f:e<T.length
 .rw[Ρ f] at a;exact H.tab e y a
 .grind
def vv(T:List Int)(d:Nat)(v z:Int):z∈T.set d v↔(z=v/\d<T.length)\/∃e,e≠d/\T[e]?=some z:=by
 rw[List.mem_iff_getElem?];constructor
 .grind
 .rintro(⟨rfl,b⟩|⟨e,a,c⟩)
  .exact⟨d,by grind⟩
  .exact⟨e,by grind⟩
def TT.place{x:Nat}{j:List Nat}(H:TT n bZ L h T (x::j) G){d:Nat}(q:(G.K x).length=d)(l:T[d]?=some (-1)):TT n bZ L h (T.set d x) j G:=by
 have c:=Ζ.1 H.nd;have g:d<T.length:=(List.getElem?_eq_some_iff.1 l).1;refine⟨H.ff,H.fr,H.zero,H.one,λe y b=>?_,c.2,λz i=>H.xr z (by simp[i]),λz i=>?_⟩
 .rw[ύ] at b
  by_cases f:d=e
  .rw[Δ f,Δ ω] at b
   injection b with b
   exact Β ⟨x,b.symm,H.xr x σ,ω,c.1⟩
  .rw[Γ f] at b;rcases H.tab e y b with a|⟨z,a,m,o,p⟩
   .exact Α a
   .grind
 .rcases H.all z i with a|a
  .rcases ρ.1 a with rfl|a
   .exact Β ((vv _ _ _ _).2 (Α ⟨rfl,g⟩))
   .exact Α a
  .obtain⟨e,f⟩:=List.mem_iff_getElem?.1 a;refine Β ((vv _ _ _ _).2 (Β ⟨e,λk=>?_,f⟩));subst k
   grind
def TT.link{x z c lo:Nat}{l:List Nat}(H:TT n bZ L h T (x::l) G){d:Nat}(hd:(G.K x).length=d)(hT:T[d]?=some (z:Int))(hl:(c=x/\lo=z)\/(c=z/\lo=x))(hL:L c lo)(h1:1<=h):
  TT n bZ L h (T.set d (-1)) (c::l) (eB G lo c):=by
 have D:=Ζ.1 H.nd;have Dm:=H.xr x σ;obtain⟨m,e,RU,S,o⟩:∃m:Nat,(z:Int)=m/\xS n G bZ h m/\(G.K m).length=d/\m∉x::l:=by
  rcases H.tab d z hT with Q|Q
  .omega
  .exact Q
 obtain rfl:z=m:=ω;have M:z≠x:=λe=>o (by simp[e]);have N:z∉l:=λu=>o (by simp[u]);have i:xS n G bZ h c:=by grind
 have f:xS n G bZ h lo:=by grind
 have W:(G.K c).length=d:=by grind
 have X:(G.K lo).length=d:=by grind
 have E:c≠lo:=by grind
 have q:c∉l:=by grind
 have r:lo∉l:=by grind
 have hs:=H.one lo f;have Y:(0:Int)<bZ c:=by rw[i.2.2];omega
 obtain⟨U,A,B⟩:=H.ff.under i.1 f.1 i.2.1 f.2.1 E (by rw[f.2.2,i.2.2]) Y hL hs ω rfl;have YM:∀w,w≠lo->(eB G lo c).up w=G.up w:=λw b=>by rw[nE,aY _ _ b]
 have Z:(eB G lo c).up lo=c:=by rw[nE,bG]
 have rt:∀g w,xS n (eB G lo c) bZ g w↔xS n G bZ g w/\w≠lo:=λg w=>by
  unfold xS
  grind
 have kn:∀w,w≠c->(eB G lo c).K w=G.K w:=λw b=>by rw[sU,aY _ _ b]
 have O:∀g,some g≠some h->∀w,w∈G.R g->w≠lo/\w∉G.K c:=λg j w b=>by
  have u:=(H.fr.mem g w j).1 b;refine⟨λe=>j ?_,λhk=>?_⟩
  .subst e;have:=f.2.2;have:=u.2.2.2;congr 1;omega
  .have:=(H.ff.kid c w i.1 hk).2;omega
 refine⟨U,⟨λg j=>?_,λg w j=>?_,λg t s j P=>?_⟩,by rw[vR];exact H.zero,λw b=>?_,λe y F=>?_,Ζ.2 ⟨q,D.2⟩,λw b=>?_,λw b=>?_⟩
 .rw[vR];exact B _ (H.fr.ring g j) (λu=>(O g j lo u).1 rfl) (λw b=>(O g j w b).2)
 .rw[vR,H.fr.mem g w j];constructor
  .rintro⟨v,J,R,K⟩;have b:w≠lo:=λe=>j (by subst e;have:=f.2.2;congr 1;omega);exact⟨v,J,by grind,K⟩
  .grind
 .rw[vR] at P;exact H.fr.top g t s j P
 .obtain⟨k,p⟩:=(rt h w).1 b;rw[A w k.1 p k.2.1];exact H.one w k
 .rw[ύ] at F
  by_cases C:d=e
  .grind
  .rw[Γ C] at F;rcases H.tab e y F with v|⟨w,v,J,R,K⟩
   .exact Α v
   .grind
 .rcases ρ.1 b with rfl|b
  .grind
  .exact(rt h w).2 ⟨H.xr w (by simp[b]),λe=>r (e▸b)⟩
 .obtain⟨b,p⟩:=(rt h w).1 b;have fin:w=x\/w=z->w∈c::l:=λhc=>by
   grind
  rcases H.all w b with a|a
  .grind
  .obtain⟨e,C⟩:=List.mem_iff_getElem?.1 a
   by_cases I:e=d
   .grind
   .exact Β ((vv _ _ _ _).2 (Β ⟨e,I,C⟩))
def getD_some{T:List Int}{d:Nat}(a:d<T.length):T[d]?=some (T.getD d (-1)):=by
 grind
def Lp(n:Nat)(G:FG)(bZ:Nat->Int)(h:Nat)(L:Nat->Nat->Prop)(lt:Nat->Nat->Bool):Prop:=∀a b,a<n->b<n->bZ a=h->bZ b=h->a≠b->(lt a b=true->L a b)/\(lt a b=false->L b a)
def TT.step{lt:Nat->Nat->Bool}{x:Nat}{f:List Nat}(H:TT n bZ L h T (x::f) G)(o:Lp n G bZ h L lt)(l:1<=h):
  (lh T (G.K x).length)[(G.K x).length]?=some ((lh T (G.K x).length).getD (G.K x).length (-1))/\
  ((lh T (G.K x).length).getD (G.K x).length (-1)=-1->TT n bZ L h ((lh T (G.K x).length).set (G.K x).length x) f G/\p9 ((lh T (G.K x).length).set (G.K x).length x)=p9 T+1)/\
  ((lh T (G.K x).length).getD (G.K x).length (-1)≠-1->∃z:Nat,(lh T (G.K x).length).getD (G.K x).length (-1)=z/\z<n/\z≠x/\bZ z=h/\p9 ((lh T (G.K x).length).set (G.K x).length (-1))+1=p9 T/\
   (lt z x=true->TT n bZ L h ((lh T (G.K x).length).set (G.K x).length (-1)) (z::f) (eB G x z))/\(lt z x=false->TT n bZ L h ((lh T (G.K x).length).set (G.K x).length (-1)) (x::f) (eB G z x))):=by
 have hp:=H.pad (G.K x).length;have p:=Y3 T (G.K x).length;have i:=FT T (G.K x).length;generalize lh T (G.K x).length=P at *;have a:P[(G.K x).length]?=some (P.getD (G.K x).length (-1)):=getD_some ω;refine⟨a,λe=>?_,λe=>?_⟩
 .rw[e] at a;refine⟨hp.place rfl a,?_⟩;have:=Gj P (G.K x).length x (-1) a
  grind
 .rcases hp.tab _ _ a with c|⟨z,c,d,q,m⟩
  .exact absurd c e
  .rw[c] at a;have b:z≠x:=λe=>m (by simp[e]);have j:=hp.xr x σ;have k:=o z x d.1 j.1 d.2.2 j.2.2 b;have:=Gj P (G.K x).length (-1) z a;rw[Δ rfl,Γ ω] at this;exact⟨z,c,d.1,b,d.2.2,ω,λg=>hp.link rfl a (Β ⟨rfl,rfl⟩) (k.1 g) l,λg=>hp.link rfl a (Α ⟨rfl,rfl⟩) (k.2 g) l⟩
def NG{lt:Nat->Nat->Bool}{l:List Nat}(i:1<=h)(j:∀G,Lp n G bZ h L lt):∀(f:Nat) (T:List Int) (x:Nat) (G:FG) (q:Nat),TT n bZ L h T (x::l) G->p9 T<f->
  TT n bZ L h (LD lt f T x G q).T l (LD lt f T x G q).G/\p9 (LD lt f T x G q).T+(LD lt f T x G q).q=p9 T+1+q/\(LD lt f T x G q).G.R=G.R/\(LD lt f T x G q).T.length<=max T.length (n+1)
 |0,T,x,G,q,H,hf=>ω
 |f+1,T,x,G,q,H,hf=>by
  obtain⟨w,m,o⟩:=H.step (j G) i;have u:=H.ff.yH (H.xr x σ).1;have v:=FT T (G.K x).length;unfold LD
  by_cases e:(lh T (G.K x).length).getD (G.K x).length (-1)=-1
  .rw[Δ e];obtain⟨a,b⟩:=m e;exact⟨a,by grind,rfl,by grind⟩
  .rw[Γ e];obtain⟨z,p,_,_,_,y,r,s⟩:=o e;rw[p,π];cases k:lt z x with
   |true=>
    rw[Δ rfl];obtain⟨c,t,d,g⟩:=NG i j f _ z _ (q+1) (r k) ω;exact⟨c,ω,d.trans (vR _ _ _),by rw[Ι] at g;omega⟩
   |false=>
    rw[Γ σ];obtain⟨c,t,d,g⟩:=NG i j f _ x _ (q+1) (s k) ω;exact⟨c,ω,d.trans (vR _ _ _),by rw[Ι] at g;omega⟩
def Wv{lt:Nat->Nat->Bool}(b:1<=h)(c:∀G,Lp n G bZ h L lt):∀(a:List Nat) (D:TD),TT n bZ L h D.T a D.G->D.T.length<=n+1->
  TT n bZ L h (tid lt a D).T [] (tid lt a D).G/\p9 (tid lt a D).T+(tid lt a D).q=p9 D.T+a.length+D.q/\(tid lt a D).G.R=D.G.R/\(tid lt a D).T.length<=n+1
 | [],D,H,hlen=>⟨H,by simp[tid],rfl,hlen⟩
 |x::a,D,H,hlen=>by
  obtain⟨d,k,f,l⟩:=NG b c (p9 D.T+1) D.T x D.G D.q H ω;obtain⟨g,m,i,j⟩:=Wv b c a _ d ω;have e:tid lt (x::a) D=tid lt a (LD lt (p9 D.T+1) D.T x D.G D.q):=rfl;rw[e];exact⟨g,by grind,i.trans f,j⟩
end
section
variable{n:Nat}{G:FG}{bZ:Nat->Int}{L:Nat->Nat->Prop}{ex:Nat->Nat}
def FF.sN(H:FF n G bZ L ex){a x:Nat}(c:x<n)(d:G.up a=-1):a∉G.K x:=λb=>by
 have:=(H.kid x a c b).2;omega
def FF.Om(H:FF n G bZ L ex){a b:Nat}(l:a<n)(m:b<n)(o:G.up a=-1)(p:G.up b=-1)(f:0<bZ a)(g:0<bZ b):FF n (Om G a b) bZ L ex:=
 ⟨H.rg.swap l m,H.kid,H.Ik,λx c=>(H.ring x c).nJ (H.sN c o) (H.sN c p),H.home,H.ord,λy k d=>by
  obtain⟨h,i,j⟩:=H.alone y k d
  exact ⟨h,i,by show dP G.nx a b y=y;rw [jv (λe=>d (by rw [e];exact f)) (λe=>d (by rw [e];exact g))];exact j⟩,H.free,H.cnt⟩
def FF.dm(H:FF n G bZ L ex)(R:Nat->List Nat):FF n { G with R:=R } bZ L ex:=⟨H.rg,H.kid,H.Ik,H.ring,H.home,H.ord,H.alone,H.free,H.cnt⟩
def FF.mono{L':Nat->Nat->Prop}{c:Nat->Int}(H:FF n G bZ L ex)(d:∀y p:Nat,y<n->G.up y=p->L p y->c y=c p/\0<c y/\L' p y)(e:∀y,y<n->¬0<c y->G.up y=-1/\G.K y=[]/\G.nx y=y):FF n G c L' ex:=
 ⟨H.rg,H.kid,H.Ik,H.ring,λy p a b=>⟨(d y p a b (H.ord y p a b)).1,(d y p a b (H.ord y p a b)).2.1⟩,λy p a b=>(d y p a b (H.ord y p a b)).2.2,e,H.free,H.cnt⟩
def kl(l:List Nat):List Nat:=match l with|[]=>[]|k::t=>t++[k]
def Oc(l:List Nat):(kl l).Perm l:=by
 cases l with
 |nil=>exact ό _
 |cons k t=>exact Φ (l₁:=t) (l₂:=[k])
def Ni{l:List Nat}{z:Nat}:z∈kl l↔z∈l:=(Oc l).mem_iff
def UB(l:List Nat):(kl l).length=l.length:=(Oc l).length_eq
def Pf(G:FG)(x:Nat):(bI G x).R=G.R:=by unfold bI;cases G.K x<;>rfl
def AQ(G:FG)(x:Nat):(bI G x).K=ah G.K x []:=by
 unfold bI;cases a:G.K x with
 |nil=>funext z;unfold ah;by_cases e:z=x<;>simp[e,a]
 |cons k t=>rfl
def CB(G:FG){x:Nat}(b:G.up x=-1)(z:Nat):(bI G x).up z=if z∈G.K x then -1 else G.up z:=by
 unfold bI;cases a:G.K x with
 |nil=>simp
 |cons k t=>
  show ah (λz=>if z∈k::t then(-1:Int) else G.up z) x (-1) z=_
  unfold ah
  grind
def KI(G:FG){x:Nat}(b:G.mr x=false)(z:Nat):(bI G x).mr z=if z∈G.K x then false else G.mr z:=by
 unfold bI;cases a:G.K x with
 |nil=>simp
 |cons k t=>
  show ah (λz=>if z∈k::t then false else G.mr z) x false z=_
  unfold ah
  grind
def Ct(G:FG)(x:Nat):(bI G x).nx=match G.K x with|[]=>G.nx|k::_=>dP G.nx x k:=by unfold bI;cases G.K x<;>rfl
def T9(G:FG)(x:Nat):(bI G x).pv=match G.K x with|[]=>G.pv|k::_=>jO G.nx G.pv x k:=by unfold bI;cases G.K x<;>rfl
def FF.raise(H:FF n G bZ L ex){x:Nat}(r:x<n)(F:G.up x=-1)(R:0<bZ x):
  FF n (bI G x) bZ L ex/\(∀l,Ring G.nx l->x∉l->(∀z,z∈l->z∉G.K x)->Ring (bI G x).nx l)/\
   (∀a b,Ring G.nx (a++x::b)->(∀z,z∈a++x::b->z∉G.K x)->Ring (bI G x).nx (a++x::(kl (G.K x)++b))):=by
 have J:=H.free x r F;have up:=CB G F;have mr:=KI G J;have v:∀z,z≠x->z∉G.K x->(bI G x).nx z=G.nx z:=λz i q=>by
  rw[Ct];cases s:G.K x with
  |nil=>rfl
  |cons k t=>exact jv i (λe=>q (by rw[s,e];simp))
 have B:∀l,Ring G.nx l->x∉l->(∀z,z∈l->z∉G.K x)->Ring (bI G x).nx l:=λl P i q=>P.far (λz m=>v z (λe=>i (e▸m)) (q z m));have o:∀a,a<n->a≠x->∀z,z∈G.K a->z≠x/\z∉G.K x:=λa g Q z m=>by
  have:=(H.kid a z g m).2;exact⟨λe=>by subst e;omega,λA=>by have:=(H.kid x z r A).2;omega⟩
 have w:∀a,a≠x->(bI G x).K a=G.K a:=λa g=>by rw[AQ,aY _ _ g]
 have C:(bI G x).K x=[]:=by rw[AQ,bG]
 refine⟨⟨?_,λa y g f=>?_,λy f=>?_,λa g=>?_,λy p f j=>?_,λy p f j=>?_,λy f i=>?_,λy f j=>?_,λa d g=>?_⟩,B,λa b D E=>?_⟩
 .rw[Ct,T9];cases s:G.K x with
  |nil=>exact H.rg
  |cons k t=>exact H.rg.swap r (H.kid x k r (by rw[s];simp)).1
 .by_cases e:a=x
  .grind
  .rw[w a e] at f;have:=o a g e y f;exact⟨(H.kid a y g f).1,by rw[up,Γ this.2];exact(H.kid a y g f).2⟩
 .rw[up]
  by_cases e:y∈G.K x
  .grind
  .rw[Γ e];rcases H.Ik y f with i|⟨p,hp,i,q⟩
   .exact Α i
   .grind
 .by_cases e:a=x
  .subst e;rw[C];exact Ring.nil _
  .rw[w a e];exact B _ (H.ring a g) (λA=>(o a g e x A).1 rfl) (λz m=>(o a g e z m).2)
 .rw[up] at j
  split at j
  .omega
  .exact H.home y p f j
 .rw[up] at j
  split at j
  .omega
  .exact H.ord y p f j
 .obtain⟨I,S,T⟩:=H.alone y f i;have K:y≠x:=λe=>i (by rw[e];exact R);have M:y∉G.K x:=H.sN r I
  grind
 .rw[up] at j;rw[mr]
  split
  .rfl
  .rename_i u
   rw[Γ u] at j;exact H.free y f j
 .by_cases e:a=x
  .subst e;rw[C];exact Nat.zero_le _
  .rw [w a e,wm (G:=G) (ex:=ex) d (λc U=>by
    grind)]
   exact H.cnt a d g
 .have u:=H.ring x r;rw[Ct];cases s:G.K x with
  |nil=>simpa[kl] using D
  |cons k t=>
   rw[s] at u E;have i:Ring G.nx (x::(b++a)):=Ring.XE (a:=a) (b:=x::b) D;have q:=Ring.join i u (λz m=>E z (by simp only[ρ,τ] at m ⊢;rcases m with h|h|h<;>simp[h]));have N:Ring (dP G.nx x k) ((x::(t++k::b))++a):=by simpa using q
   have O:=Ring.XE N;simpa[kl] using O
def wP(l:List Nat)(G:FG):FG:=l.foldl prt G
def zP:∀(l:List Nat) (G:FG),(wP l G).up=G.up/\(wP l G).mr=G.mr/\(wP l G).K=G.K/\(wP l G).R=G.R
 | [],G=>⟨rfl,rfl,rfl,rfl⟩
 |x::t,G=>by
  obtain⟨h1,h2,h3,h4⟩:=zP t (prt G x);exact⟨h1,h2,h3,h4⟩
def O5:∀(l:List Nat) (G:FG),FF n G bZ L ex->Ring G.nx l->(∀z,z∈l->z<n/\G.up z=-1/\0<bZ z)->
  FF n (wP l G) bZ L ex/\(∀z,z∈l->(wP l G).nx z=z)/\(∀c,Ring G.nx c->(∀z,z∈c->z∉l)->Ring (wP l G).nx c)
 | [],G,H,hr,hl=>⟨H,λz b=>(by cases b),λc h _=>h⟩
 |x::t,G,H,hr,hl=>by
  have g:=hl x σ;obtain⟨o,p⟩:=H.rg.part hr (λz b=>(hl z b).1);have d:G.pv x∈x::t:=by
   rcases List.eq_nil_or_concat t with rfl|⟨a,y,e⟩
   .have s:=jr.1 hr;have:=H.rg.pn x g.1;rw[s] at this;simp[this]
   .rw[List.concat_eq_append] at e;subst e;have:=H.rg.last (x:=x) (y:=y) (a:=a) hr (hl y σ).1;rw[this];simp
  have hp:=hl _ d;have u:FF n (prt G x) bZ L ex:=H.Om g.1 hp.1 g.2.1 hp.2.1 g.2.2 hp.2.2;have i:=Ζ.1 hr.nd;obtain⟨q,r,k⟩:=O5 t (prt G x) u p (λz b=>hl z (by simp[b]));refine⟨q,λz b=>?_,λc v j=>k c (v.nJ (λf=>j x f σ) (λf=>j _ f d)) (λz b f=>j z b (by simp[f]))⟩;rcases ρ.1 b with rfl|b
  .exact jr.1 (k [z] o (λy m=>by simp at m;subst m;exact i.1))
  .exact r z b
def NJ(b:Bool)(R l:List Nat):(yZ b R l).Perm (R++l):=by
 unfold yZ
 grind
def tH(lt:Nat->Nat->Bool)(h:Nat)(l:List Nat)(G:FG):(gP lt h l G).up=G.up/\(gP lt h l G).mr=G.mr/\(gP lt h l G).K=G.K/\∀g,g≠h->(gP lt h l G).R g=G.R g:=by
 unfold gP
 split
 .exact⟨rfl,rfl,rfl,λg a=>aY _ _ a⟩
 .exact⟨rfl,rfl,rfl,λg a=>aY _ _ a⟩
def xE{lt:Nat->Nat->Bool}{h x:Nat}{r:List Nat}(H:FF n G bZ L ex)(O:1<=h)(E:Lp n G bZ h L lt)(tr:∀a b c,L a b->L b c->L a c)(w:Ring G.nx (G.R h))(A:Ring G.nx (x::r))(p:∀z,z∈G.R h->z∉x::r)
  (B:∀z,z∈G.R h->xS n G bZ h z) (F:∀z,z∈x::r->xS n G bZ h z) (I:∀t s,G.R h=t::s->∀y,y∈s->L t y) (J:∀y,y∈r->L x y):
  FF n (gP lt h (x::r) G) bZ L ex/\Ring (gP lt h (x::r) G).nx ((gP lt h (x::r) G).R h)/\((gP lt h (x::r) G).R h).Perm (G.R h++x::r)/\
   (∀t s,(gP lt h (x::r) G).R h=t::s->∀y,y∈s->L t y)/\(∀i,Ring G.nx i->(∀z,z∈i->z∉G.R h/\z∉x::r)->Ring (gP lt h (x::r) G).nx i):=by
 cases d:G.R h with
 |nil=>
  have e:gP lt h (x::r) G={ G with R:=ah G.R h (x::r) }:=by unfold gP;rw[d]
  rw[e];have k:ah G.R h (x::r) h=x::r:=bG _ _ _;simp only[k];exact⟨H.dm _,A,ό _,λt s e y v=>by injection e with e1 e2;subst e1 e2;exact J y v,λi h _=>h⟩
 |cons t s=>
  have e:gP lt h (x::r) G={ Om G t x with R:=ah G.R h (yZ (lt x t) (t::s) (x::r)) }:=by unfold gP;rw[d]
  rw[e];rw[d] at w p B;have f:=B t σ;have g:=F x σ;have l:x≠t:=λe=>p t σ (by simp[e]);have q:(0:Int)<bZ t/\(0:Int)<bZ x:=⟨by rw[f.2.2];omega,by rw[g.2.2];omega⟩;have K:=E x t g.1 f.1 g.2.2 f.2.2 l;have k:ah G.R h (yZ (lt x t) (t::s) (x::r)) h=yZ (lt x t) (t::s) (x::r):=bG _ _ _;have u:Ring (dP G.nx t x) (t::r++x::s):=Ring.join w A p;have C:=I t s d;simp only[k];refine⟨(H.Om f.1 g.1 f.2.1 g.2.1 q.1 q.2).dm _,?_,NJ _ _ _,λt' M D y v=>?_,λi m j=>m.nJ (λo=>(j t o).1 σ) (λo=>(j x o).2 σ)⟩
  .show Ring (dP G.nx t x) _
   unfold yZ;simp only;cases N:lt x t with
   |true=>exact Ring.XE (a:=t::r) (b:=x::s) u
   |false=>exact u
  .unfold yZ at D
   grind
end
def sS(lt:Nat->Nat->Bool)(h:Nat):List Int->FG->Nat->FG×Nat
 | [],G,q=>(G,q)
 |y::t,G,q=>if y=-1 then sS lt h t G q else sS lt h t (gP lt h [y.toNat] G) (q+qZ h G)
def Jc(T:List Int):List Nat:=T.filterMap (λy=>if y=-1 then none else some y.toNat)
def vE(y:Int)(t:List Int):Jc (y::t)=if y=-1 then Jc t else y.toNat::Jc t:=by
 unfold Jc;rw[List.filterMap_cons];split<;>rename_i h<;>by_cases e:y=-1<;>simp_all
def OM:∀T:List Int,(Jc T).length=p9 T
 | []=>rfl
 |y::t=>by
  rw[vE];have ih:=OM t;unfold p9 at *
  by_cases e:y=-1
  .rw[Δ e,List.filter_cons_of_neg (by simpa using e)];exact ih
  .rw[Γ e,List.filter_cons_of_pos (by simpa using e)];simp[ih]
structure CO(n:Nat)(bZ:Nat->Int)(L:Nat->Nat->Prop)(h:Nat)(ps:List Nat)(G:FG):Prop where
 ff:FF n G bZ L (λ_=>0)
 fr:FR n G bZ L (some h)
 ring:Ring G.nx (G.R h)
 top:∀t s,G.R h=t::s->∀y,y∈s->L t y
 mem:∀y,y∈G.R h->xS n G bZ h y
 nd:ps.Nodup
 pr:∀z,z∈ps->xS n G bZ h z/\G.nx z=z/\z∉G.R h
 all:∀z,xS n G bZ h z->z∈G.R h\/z∈ps
section
variable{n:Nat}{bZ:Nat->Int}{L:Nat->Nat->Prop}{h:Nat}{G:FG}
def CO.step{lt:Nat->Nat->Bool}{z:Nat}{A:List Nat}(H:CO n bZ L h (z::A) G)(K:1<=h)(M:∀G,Lp n G bZ h L lt)(tr:∀a b c,L a b->L b c->L a c):
  CO n bZ L h A (gP lt h [z] G)/\((gP lt h [z] G).R h).length=(G.R h).length+1:=by
 obtain⟨q,B,N⟩:=H.pr z σ;have m:=Ζ.1 H.nd;obtain⟨C,D,r,E,u⟩:=xE H.ff K (M G) tr H.ring (jr.2 B) (λy f i=>by grind) H.mem (λy f=>by grind) H.top (λy f=>by cases f);obtain⟨v,O,P,o⟩:=tH lt h [z] G;have rt:∀g y,xS n (gP lt h [z] G) bZ g y↔xS n G bZ g y:=λg y=>by unfold xS;rw[v]
 have l:∀y,y∈(gP lt h [z] G).R h↔y∈G.R h\/y=z:=λy=>by rw[r.mem_iff];simp
 refine⟨⟨C,⟨λg j=>?_,λg y j=>?_,λg t s j x=>?_⟩,D,E,λy f=>?_,m.2,λy f=>?_,λy f=>?_⟩,by rw[r.length_eq];simp⟩
 .have d:g≠h:=λe=>j (by rw[e]);rw[o g d];refine u _ (H.fr.ring g j) (λy f=>?_);have i:=(H.fr.mem g y j).1 f;refine⟨λk=>d ?_,λk=>d ?_⟩
  .have:=(H.mem y k).2.2;have:=i.2.2.2;omega
  .simp at k;subst k;have:=q.2.2;have:=i.2.2.2;omega
 .have d:g≠h:=λe=>j (by rw[e]);rw[o g d,v];exact H.fr.mem g y j
 .have d:g≠h:=λe=>j (by rw[e]);rw[o g d] at x;exact H.fr.top g t s j x
 .rw[rt];rcases(l y).1 f with f|rfl
  .exact H.mem y f
  .exact q
 .obtain⟨F,I,J⟩:=H.pr y (by simp[f]);have p:y≠z:=λe=>m.1 (e▸f);refine⟨(rt h y).2 F,jr.1 (u [y] (jr.2 I) (λw Q=>by grind)),λi=>?_⟩;rcases(l y).1 i with i|i
  .exact J i
  .exact p i
 .rcases H.all y ((rt h y).1 f) with a|a
  .grind
  .grind
def Eg(h:Nat)(G:FG):qZ h G=min 1 (G.R h).length:=by
 unfold qZ;cases G.R h with
 |nil=>simp
 |cons t s=>simp
def LQ{lt:Nat->Nat->Bool}(f:1<=h)(i:∀G,Lp n G bZ h L lt)(tr:∀a b c,L a b->L b c->L a c):∀(T:List Int) (G:FG) (q:Nat),CO n bZ L h (Jc T) G->
  CO n bZ L h [] (sS lt h T G q).1/\((sS lt h T G q).1.up=G.up/\(sS lt h T G q).1.mr=G.mr/\(sS lt h T G q).1.K=G.K/\∀g,g≠h->(sS lt h T G q).1.R g=G.R g)/\
   ((sS lt h T G q).1.R h).Perm (G.R h++Jc T)/\(sS lt h T G q).2+min 1 ((sS lt h T G q).1.R h).length=q+p9 T+min 1 (G.R h).length
 | [],G,q,H=>⟨H,⟨rfl,rfl,rfl,λ_ _=>rfl⟩,by simp[Jc,sS],by simp[sS,p9]⟩
 |y::t,G,q,H=>by
  rw[vE] at H;unfold sS
  by_cases e:y=-1
  .rw[Δ e] at H ⊢;obtain⟨j,d,k,l⟩:=LQ f i tr t G q H;refine⟨j,d,by rw[vE,Δ e];exact k,?_⟩;have:p9 (y::t)=p9 t:=by unfold p9;rw[List.filter_cons_of_neg (by simpa using e)]
   rw[this];exact l
  .rw[Γ e] at H ⊢;obtain⟨p,z⟩:=H.step f i tr;obtain⟨r,s,u,v⟩:=tH lt h [y.toNat] G;obtain⟨j,d,k,l⟩:=LQ f i tr t _ (q+qZ h G) p;have hp:((gP lt h [y.toNat] G).R h).Perm (G.R h++[y.toNat]):=by
    obtain⟨A,x,B⟩:=H.pr y.toNat σ;exact(xE H.ff f (i G) tr H.ring (jr.2 x) (λw m C=>by grind) H.mem (λw m=>by grind) H.top (λw m=>by cases m)).2.2.1
   refine⟨j,⟨d.1.trans r,d.2.1.trans s,d.2.2.1.trans u,λg o=>(d.2.2.2 g o).trans (v g o)⟩,?_,?_⟩
   .rw[vE,Γ e];exact k.trans ((hp.append_right (Jc t)).trans σ)
   .have:p9 (y::t)=p9 t+1:=by unfold p9;rw[List.filter_cons_of_pos (by simpa using e)];rfl
    rw[this];rw[Eg] at l;rw[Eg];omega
def TT.degs{T:List Int}(H:TT n bZ L h T [] G):(Jc T).Pairwise (λa b=>(G.K a).length≠(G.K b).length):=by
 unfold Jc;rw[List.pairwise_filterMap,List.pairwise_iff_getElem];intro i j c k d a g b l;have f:∀(i:Nat) (c:i<T.length) (a:Nat),(if T[i]=-1 then none else some T[i].toNat)=some a->(G.K a).length=i:=λi c a g=>by
  rcases H.tab i T[i] (ε c) with e|⟨z,m,_,o,_⟩
  .grind
  .grind
 grind
def TT.ri{T:List Int}(H:TT n bZ L h T [] G):CO n bZ L h (Jc T) G:=by
 have m:∀z,z∈Jc T↔(z:Int)∈T:=λz=>by
  unfold Jc;rw[List.mem_filterMap];constructor
  .rintro⟨y,c,e⟩
   by_cases l:y=-1
   .grind
   .rw[Γ l] at e;obtain⟨i,f⟩:=List.mem_iff_getElem?.1 c;rcases H.tab i y f with d|⟨w,d,_⟩
    .exact absurd d l
    .grind
  .grind
 refine⟨H.ff,H.fr,by rw[H.zero];exact Ring.nil _,λt s e=>(by rw[H.zero] at e;cases e),λy c=>(by rw[H.zero] at c;cases c),H.degs.imp (λ{a b} g e=>g (by rw[e])),λz j=>?_,λz j=>?_⟩
 .obtain⟨i,f⟩:=List.mem_iff_getElem?.1 ((m z).1 j);rcases H.tab i z f with d|⟨w,d,k,_⟩
  .omega
  .obtain rfl:z=w:=ω;exact⟨k,H.one z k,by rw[H.zero];simp⟩
 .rcases H.all z j with a|a
  .cases a
  .grind
end
structure yQ(A:NS)(G:FG):Prop where
 ff:FF A.cs.length G (λy=>(A.c y).i) (dA A) (λ_=>0)
 fr:FR A.cs.length G (λy=>(A.c y).i) (dA A) none
def FR.all{n:Nat}{G:FG}{bZ:Nat->Int}{L:Nat->Nat->Prop}(H:FR n G bZ L none)(h:Nat):Ring G.nx (G.R h)/\(∀y,y∈G.R h↔1<=h/\xS n G bZ h y)/\∀t s,G.R h=t::s->∀y,y∈s->L t y:=
 ⟨H.ring h σ,λy=>H.mem h y σ,λt s e=>H.top h t s σ e⟩
section
variable{A:NS}{G:FG}
def yQ.vM(I:yQ A G){h:Int}{m:Nat}(c:dB A h=some m):xS A.cs.length G (λy=>(A.c y).i) h.toNat m/\1<=h.toNat:=by
 have i:0<h:=by
  apply Ϙ;intro f;rw[rX f] at c;cases c
 obtain⟨a,l,g⟩:=(jB i).1 c;refine⟨⟨a,?_,by grind⟩,ω⟩;rcases I.ff.Ik m a with e|⟨p,hp,e,_⟩
 .exact e
 .have d:=I.ff.ord m p a e;have j:=(I.ff.home m p a e).1;have k:(A.c m).i=(A.c p).i:=j;rcases g p hp (by grind) with b|b
  .subst b;exact absurd d qp
  .exact absurd d (rA b)
def yQ.kH(I:yQ A G){h:Nat}{t:Nat}{s:List Nat}(g:G.R h=t::s):dB A (h:Int)=some t/\1<=h/\t<A.cs.length/\G.up t=-1/\(A.c t).i=h:=by
 obtain⟨r,i,l⟩:=I.fr.all h;obtain⟨j,c,n,o⟩:=(i t).1 (by rw[g];simp);have b:(A.c t).i=(h:Int):=o;refine⟨?_,j,c,n,b⟩;cases f:dB A (h:Int) with
 |none=>
  have:=(jV ω).1 f;have hp:0<cZ A (h:Int):=fO.2 ⟨t,c,b,ω⟩;omega
 |some m=>
  obtain⟨k,u⟩:=I.vM f;rw[π] at k;have a:=(i m).2 ⟨j,k⟩;rw[g] at a;rcases ρ.1 a with e|e
  .rw[e]
  .have q:=l t s g m e;obtain⟨_,_,p⟩:=(jB ω).1 f;rcases p t c b with d|d
   .rw[d]
   .exact absurd q (rA d)
def yQ.IM(I:yQ A G){h:Nat}(d:G.R h=[]):dB A (h:Int)=none:=by
 cases c:dB A (h:Int) with
 |none=>rfl
 |some m=>
  obtain⟨a,b⟩:=I.vM c;rw[π] at a b;have:=((I.fr.all h).2.1 m).2 ⟨b,a⟩
  grind
def yQ.first(I:yQ A G){h:Nat}{t:Nat}{s:List Nat}(b:G.R h=t::s){y:Nat}(f:y<A.cs.length)(g:(A.c y).i=h)(c:y≠t):dA A t y:=by
 obtain⟨a,d,_⟩:=I.kH b;obtain⟨_,_,e⟩:=(jB ω).1 a
 grind
def yQ.out(I:yQ A G){h:Nat}{z:Nat}(f:z∈G.R h):1<=h/\z<A.cs.length/\G.up z=-1/\(A.c z).i=h/\bY A (z:Int)=true:=by
 obtain⟨c,b,d,e⟩:=((I.fr.all h).2.1 z).1 f;have a:(A.c z).i=(h:Int):=e;exact⟨c,b,d,a,(aj _ _).2 ⟨b,ω⟩⟩
end
def nR(A:NS)(a b:Nat):Bool:=decide (dA A a b)
def Ab(A:NS)(n:Nat)(G:FG)(bZ:Nat->Int)(h:Nat):Lp n G bZ h (dA A) (nR A):=λa b _ _ _ _ c=>
 ⟨λe=>by unfold nR at e;simpa using e,λe=>by
  unfold nR at e;have d:¬dA A a b:=by simpa using e
  exact (jA c).resolve_left d⟩
def qQ(h x:Nat)(rs:List Nat)(G:FG):FG:={ wP (x::rs) (bI G x) with R:=ah G.R h [] }
def uI(A:NS)(h x:Nat)(rs:List Nat)(G:FG):TD:=tid (nR A) rs ⟨[],qQ h x rs G,0⟩
def uu(A:NS)(h x:Nat)(rs:List Nat)(G:FG):FG×Nat:=sS (nR A) h (uI A h x rs G).T (uI A h x rs G).G 0
section
variable{A:NS}{G:FG}
def abW(I:yQ A G)(ok:A.Ok){h x:Nat}{s:List Nat}(X:G.R h=x::s):
  (Ring (bI G x).nx (x::(kl (G.K x)++s))/\(∀z,z∈x::(kl (G.K x)++s)->z<A.cs.length))/\
  TT A.cs.length (λy=>((aS A x).c y).i) (dA A) h [] (kl (G.K x)++s) (qQ h x (kl (G.K x)++s) G)/\
  (∀z,z<A.cs.length->((aS A (x:Int)).c z).i=(h:Int)->bY A (z:Int)=true)/\
  CO A.cs.length (λy=>((aS A x).c y).i) (dA A) h (Jc (uI A h x (kl (G.K x)++s) G).T) (uI A h x (kl (G.K x)++s) G).G/\(uI A h x (kl (G.K x)++s) G).G.R h=[]/\
  yQ (aS A x) (uu A h x (kl (G.K x)++s) G).1/\
  (uI A h x (kl (G.K x)++s) G).q+(uu A h x (kl (G.K x)++s) G).2<=(G.K x).length+s.length/\
  (uI A h x (kl (G.K x)++s) G).q+((uu A h x (kl (G.K x)++s) G).1.R h).length=(G.K x).length+s.length/\
  (((uu A h x (kl (G.K x)++s) G).1.R h).Pairwise (λa b=>((uu A h x (kl (G.K x)++s) G).1.K a).length≠((uu A h x (kl (G.K x)++s) G).1.K b).length))/\
  (∀g,g≠h->(uu A h x (kl (G.K x)++s) G).1.R g=G.R g)/\(∀y,y∈(uI A h x (kl (G.K x)++s) G).T->y=-1\/0<=y)/\(uI A h x (kl (G.K x)++s) G).T.length<=A.cs.length+1/\(uu A h x (kl (G.K x)++s) G).1.mr=(uI A h x (kl (G.K x)++s) G).G.mr:=by
 obtain⟨m1,C,Z,ux,hxh⟩:=I.kH X;obtain⟨_,_,_,_,hin⟩:=I.out (h:=h) (z:=x) (by rw[X];simp);have hc:=λy=>zN hin y;have M:=fF A (x:Int);have h0:(0:Int)<(A.c x).i:=ω;obtain⟨rF,r1,r2⟩:=I.ff.raise Z ux h0;have mx:=I.ff.free x Z ux;have N:=CB G ux;have K1:=AQ G x;obtain⟨q1,q2,q3⟩:=I.fr.all h;rw[X] at q1;have Ex:∀z,G.up z=-1->z∉G.K x:=λz f=>I.ff.sN Z f;have Vy:Ring (bI G x).nx (x::(kl (G.K x)++s)):=by
  have:=r2 [] s q1 (λz f=>Ex z (((q2 z).1 (by grind)).2.2.1));exact this
 have sr:∀z,z∈s->xS A.cs.length G (λy=>(A.c y).i) h z:=λz f=>((q2 z).1 (by grind)).2;have kr:∀z,z∈G.K x->z<A.cs.length/\G.up z=x/\(A.c z).i=h:=λz f=>by
  obtain⟨k1,k2⟩:=I.ff.kid x z Z f;have k3:(A.c z).i=(A.c x).i:=(I.ff.home z x k1 k2).1
  grind
 have q:∀z,z∈kl (G.K x)++s↔z∈G.K x\/z∈s:=λz=>by simp[Ni]
 have E:∀z,z∈x::(kl (G.K x)++s)->z<A.cs.length/\(bI G x).up z=-1/\0<(A.c z).i:=λz f=>by
  rw[N];rcases ρ.1 f with rfl|f
  .grind
  .rcases(q z).1 f with f|f
   .grind
   .have a:=sr z f;have K:(A.c z).i=h:=a.2.2;exact⟨a.1,by rw[Γ (Ex z a.2.1)];exact a.2.1,ω⟩
 have O:=Ζ.1 Vy.nd;obtain⟨p1,p2,p3⟩:=O5 (x::(kl (G.K x)++s)) (bI G x) rF Vy E;obtain⟨e1,e2,e3,e4⟩:=zP (x::(kl (G.K x)++s)) (bI G x);have up3:∀z,(qQ h x (kl (G.K x)++s) G).up z=if z∈G.K x then -1 else G.up z:=λz=>by
  show(wP (x::(kl (G.K x)++s)) (bI G x)).up z=_
  rw[e1,N]
 have K3:(qQ h x (kl (G.K x)++s) G).K=ah G.K x []:=by
  show(wP (x::(kl (G.K x)++s)) (bI G x)).K=_
  rw[e3,K1]
 have P:(qQ h x (kl (G.K x)++s) G).up x=-1:=by grind
 have zu:∀z,z≠x->((aS A (x:Int)).c z).i=(A.c z).i:=λz f=>by rw[hc,Γ f]
 have Q:((aS A (x:Int)).c x).i=0:=by rw[hc,Δ rfl];rfl
 have F3:FF A.cs.length (qQ h x (kl (G.K x)++s) G) (λy=>((aS A (x:Int)).c y).i) (dA A) (λ_=>0):=by
  refine(p1.dm (ah G.R h [])).mono (λy p m W ho=>?_) (λy m h2=>?_)
  .have hu':(qQ h x (kl (G.K x)++s) G).up y=p:=W;have R:y≠x:=λe=>by subst e;rw[P] at hu';omega
   have hpx:p≠x:=λe=>by
    have hk:=(p1.dm (ah G.R h [])).above m W;have S:y∈(qQ h x (kl (G.K x)++s) G).K p:=hk.2;rw[K3,e,bG] at S;cases S
   have w:=p1.home y p m W
   grind
  .by_cases e:y=x
   .subst e;exact⟨P,by show(qQ h y (kl (G.K y)++s) G).K y=[];rw[K3,bG],p2 y σ⟩
   .have h3:¬0<(A.c y).i:=by simp only[zu y e] at h2;exact h2
    exact p1.alone y m h3
 have F:∀g z,xS A.cs.length (qQ h x (kl (G.K x)++s) G) (λy=>((aS A (x:Int)).c y).i) g z->1<=g->z≠x/\(A.c z).i=g/\(z∈G.K x\/G.up z=-1):=λg z f u=>by
  obtain⟨B,H,K⟩:=f
  grind
 have R3:∀g,g≠h->(qQ h x (kl (G.K x)++s) G).R g=G.R g:=λg u=>aY _ _ u;have fr3:FR A.cs.length (qQ h x (kl (G.K x)++s) G) (λy=>((aS A (x:Int)).c y).i) (dA A) (some h):=by
  refine⟨λg u=>?_,λg z u=>?_,λg t s' u r=>?_⟩
  all_goals have j:g≠h:=λe=>u (by rw[e])
  .rw[R3 g j];obtain⟨B,H,_⟩:=I.fr.all g;have f:∀z,z∈G.R g->G.up z=-1/\(A.c z).i=g:=λz f=>⟨((H z).1 f).2.2.1,((H z).1 f).2.2.2⟩
   refine p3 _ (r1 _ B (λJ=>j (by grind)) (λz J=>Ex z (f z J).1)) (λz J n=>?_);have hzg:=(f z J).2;rcases ρ.1 n with e|n
   .subst e;exact j ω
   .rcases(q z).1 n with n|n
    .have:=(kr z n).2.2;exact j ω
    .have:(A.c z).i=h:=(sr z n).2.2;exact j ω
  .rw[R3 g j,(I.fr.all g).2.1 z];constructor
   .rintro⟨Y,B,H,K⟩;have a3':(A.c z).i=g:=K;have v:z≠x:=λe=>by subst e;exact j ω
    exact⟨Y,B,by grind,by grind⟩
   .rintro⟨Y,B,H,K⟩;obtain⟨b1,L,k⟩:=F g z ⟨B,H,K⟩ Y;rcases k with k|k
    .have:=(kr z k).2.2;exact absurd (show g=h by omega) j
    .exact⟨Y,B,k,L⟩
  .rw[R3 g j] at r;exact(I.fr.all g).2.2 t s' r
 have T3:TT A.cs.length (λy=>((aS A (x:Int)).c y).i) (dA A) h [] (kl (G.K x)++s) (qQ h x (kl (G.K x)++s) G):=by
  refine⟨F3,fr3,bG _ _ _,λz f=>?_,λd y m=>by simp at m,O.2,λz f=>?_,λz f=>?_⟩
  .obtain⟨b1,L,k⟩:=F h z f C;refine p2 z ?_;simp only[ρ,q];rcases k with k|k
   .exact Β (Α k)
   .have:=(q2 z).2 ⟨C,f.1,k,L⟩;rw[X] at this;rcases ρ.1 this with e|e
    .exact absurd e b1
    .exact Β (Β e)
  .have v:z≠x:=λe=>O.1 (e▸f);have a:=E z (by simp[f]);refine⟨a.1,by grind,?_⟩;simp only[zu z v];rcases(q z).1 f with b|b
   .exact(kr z b).2.2
   .exact(sr z b).2.2
  .obtain⟨b1,L,k⟩:=F h z f C;left;rw[q];rcases k with k|k
   .exact Α k
   .have:=(q2 z).2 ⟨C,f.1,k,L⟩;rw[X] at this;rcases ρ.1 this with e|e
    .exact absurd e b1
    .exact Β e
 obtain⟨D,t2,t3,t4⟩:=Wv C (λG=>Ab A A.cs.length G _ h) (kl (G.K x)++s) ⟨[],qQ h x (kl (G.K x)++s) G,0⟩ T3 σ;have eD:tid (nR A) (kl (G.K x)++s) ⟨[],qQ h x (kl (G.K x)++s) G,0⟩=uI A h x (kl (G.K x)++s) G:=rfl;rw[eD] at D t2 t3 t4;have T:=D.ri;obtain⟨o,u2,u3,u4⟩:=LQ C (λG=>Ab A A.cs.length G _ h) (λa b c=>dH) _ _ 0 T;have e4':sS (nR A) h (uI A h x (kl (G.K x)++s) G).T (uI A h x (kl (G.K x)++s) G).G 0=uu A h x (kl (G.K x)++s) G:=rfl;rw[e4'] at o u2 u3 u4;rw[D.zero,Ϛ] at u3;rw[D.zero] at u4;have U:=u3.length_eq;rw[OM] at U
 have ho0:p9 (TD.mk [] (qQ h x (kl (G.K x)++s) G) 0).T=0:=rfl;have hl2:(kl (G.K x)++s).length=(G.K x).length+s.length:=by rw[υ,UB]
 have hq0:(TD.mk [] (qQ h x (kl (G.K x)++s) G) 0).q=0:=rfl;rw[ho0,hl2,hq0] at t2;simp only[List.length_nil] at u4;refine⟨⟨Vy,λz f=>(E z f).1⟩,T3,λz f w=>?_,T,D.zero,⟨?_,?_⟩,?_,?_,?_,?_,λy m=>?_,t4,u2.2.1⟩
 .have v:z≠x:=λe=>by subst e;rw[Q] at w;omega
  rw[zu z v] at w;exact(aj _ _).2 ⟨f,ω⟩
 .rw[M];refine o.ff.mono (λy p m W ho=>?_) (λy m h2=>o.ff.alone y m h2);have w:=o.ff.home y p m W;have JN:((aS A (x:Int)).c y).i=((aS A (x:Int)).c p).i:=w.1;have hh2:0<((aS A (x:Int)).c y).i:=w.2;have R:y≠x:=λe=>by rw[e,Q] at hh2;omega
  have hpx:p≠x:=λe=>by rw[e,Q] at JN;omega
  exact⟨w.1,w.2,(fC (by grind) (by grind)).2 ho⟩
 .rw[M];have mm:∀g y,y∈(uu A h x (kl (G.K x)++s) G).1.R g↔1<=g/\y<A.cs.length/\(uu A h x (kl (G.K x)++s) G).1.up y=-1/\((aS A (x:Int)).c y).i=g:=λg y=>by
   by_cases e:g=h
   .subst e;constructor
    .intro J;exact⟨C,o.mem y J⟩
    .rintro⟨_,a⟩;rcases o.all y a with b|b
     .exact b
     .cases b
   .exact o.fr.mem g y (by simp;exact e)
  refine⟨λg _=>?_,λg y _=>mm g y,λg t s' _ r y m=>?_⟩
  .by_cases e:g=h
   .subst e;exact o.ring
   .exact o.fr.ring g (by simp;exact e)
  .have hL:dA A t y:=by
    by_cases e:g=h
    .subst e;exact o.top t s' r y m
    .exact o.fr.top g t s' (by simp;exact e) r y m
   have ht:=(mm g t).1 (by grind);have hy':=(mm g y).1 (by grind);have htx:t≠x:=λe=>by subst e;rw[Q] at ht;omega
   have R:y≠x:=λe=>by subst e;rw[Q] at hy';omega
   exact(fC (by grind) (by grind)).2 hL
 .omega
 .omega
 .rw[u2.2.2.1];exact u3.symm.pairwise (l:=Jc _) D.degs (λ{a b} h=>Ne.symm h)
 .intro g u;rw[u2.2.2.2 g u,t3];exact R3 g u
 .obtain⟨i,hi⟩:=List.mem_iff_getElem?.1 m;rcases D.tab i y hi with e|⟨z,e,_⟩
  .exact Α e
  .exact Β ω
