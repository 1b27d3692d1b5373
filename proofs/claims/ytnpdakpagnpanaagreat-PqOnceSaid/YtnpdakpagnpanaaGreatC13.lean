/-
  Lemmas for PqAlike: PqP, PqQ, PqV. Conditions: those of each lemma.
-/
import Derived.Test.YtnpdakpagnpanaaGreatC05
set_option linter.all false
set_option maxHeartbeats 8000000
set_option maxRecDepth 10000
namespace Go.Proofs.YtnpdakpagnpanaaGreat
open Tryz
open Go Go.RowKit
def St.Ok(S:St):Prop:=S.A.Ok/\S.R.Ok/\S.R.sl.length=S.A.cs.length/\∀x:Nat,S.R.v x=bY S.A (x:Int)
theorem fw.ok{K:jZ}{w:World}{p:Nat}{F:List Nat}{kd d:Int}{S:St}(h:fw K w p F kd d S):S.Ok:=aP.ok h
section
variable{S:St}
theorem Kv(h:S.A.Ok)(hz:dJ S.A=0):aU S.A=S.A:=by
 have h1:=h.h0;unfold dJ at hz
 split at hz
 ·rename_i e;unfold aU;rw[Δ e]
 ·exfalso;omega
theorem NY(ok:S.Ok)(a:Ac)(x g:Int)(hc:(a.run S x g).2.c≠0):a.run S x g=(S,sN (a.run S x g).2.c):=by
 unfold Ac.run at hc ⊢
 split
 ·rename_i e
  rw[Δ e] at hc;unfold si at hc ⊢;dsimp only at hc ⊢
  by_cases hz:dJ S.A=0
  ·rw[Kv ok.1 hz,Δ hz,hz];rfl
  ·rw[Γ hz] at hc;exact absurd rfl hc
 ·rename_i e1
  rw[Γ e1] at hc
  split
  ·rename_i e
   rw[Δ e] at hc;unfold kW at hc ⊢
   split
   ·rename_i e2
    rw[Δ e2] at hc;cases ht:kZ S.R with
    |none=>rfl
    |some y=>rw[ht] at hc;exact absurd rfl hc
   ·rfl
  ·rename_i e2
   rw[Γ e2] at hc
   split
   ·rename_i e
    rw[Δ e] at hc;unfold lD at hc ⊢;dsimp only at hc ⊢;cases hm:dN S.A a.a with
    |none=>rfl
    |some m=>rw[hm] at hc;exact absurd rfl hc
   ·rename_i e3
    rw[Γ e3] at hc
    split
    ·rename_i e
     rw[Δ e] at hc;unfold jN at hc ⊢;cases hm:dN S.A a.a with
     |none=>rfl
     |some m=>rw[hm] at hc;exact absurd rfl hc
    ·rename_i e4
     rw[Γ e4] at hc
     split
     ·rename_i e
      rw[Δ e] at hc;unfold mH at hc ⊢
      split
      ·rename_i e5
       rw[Δ e5] at hc
       split
       ·rfl
       ·rename_i e6
        rw[Γ e6] at hc;exact absurd rfl hc
      ·rfl
     ·rename_i e5
      rw[Γ e5] at hc
      split
      ·rename_i e
       rw[Δ e] at hc;unfold mG at hc ⊢
       split
       ·rename_i e6
        rw[Δ e6] at hc;exact absurd rfl hc
       ·rfl
      ·rename_i e6
       rw[Γ e6] at hc
       split
       ·rename_i e
        rw[Δ e] at hc;unfold nW at hc ⊢
        split
        ·rename_i e7
         rw[Δ e7] at hc;exact absurd rfl hc
        ·rfl
       ·rename_i e7
        rw[Γ e7] at hc
        split
        ·rename_i e
         rw[Δ e] at hc;unfold mW at hc ⊢;dsimp only at hc ⊢
         split
         ·rename_i e8
          rw[Δ e8] at hc;exact absurd rfl hc
         ·rfl
        ·rename_i e8
         rw[Γ e8] at hc
         split
         ·rename_i e
          rw[Δ e] at hc;unfold kV at hc ⊢;dsimp only at hc ⊢
          split
          ·rename_i e9
           rw[Δ e9] at hc;exact absurd rfl hc
          ·rfl
         ·rename_i e9
          rw[Γ e9] at hc
          split
          ·rename_i e
           rw[Δ e] at hc;unfold nX at hc ⊢;dsimp only at hc ⊢
           split
           ·rename_i e10
            rw[Δ e10] at hc;exact absurd rfl hc
           ·rfl
          ·rename_i e10
           rw[Γ e10] at hc;exact absurd rfl hc
theorem Ef{P:St×Rp->Prop}(a:Ac)(x g:Int)(h1:P (si S))(h2:P (kW S a.a a.k))(h3:P (lD S a.a))(h4:P (jN S a.a))(h5:P (mH S x g a.k))(h6:P (mG S x g))(h7:P (nW S a.a a.b))(h8:P (mW S a.a))(h9:P (kV S x g))(h10:P (nX S x g))(h0:P (S,sN 0)):P (a.run S x g):=by
 unfold Ac.run
 by_cases e:a.op=1
 ·rw[Δ e];exact h1
 rw[Γ e]
 by_cases e:a.op=2
 ·rw[Δ e];exact h2
 rw[Γ e]
 by_cases e:a.op=3
 ·rw[Δ e];exact h3
 rw[Γ e]
 by_cases e:a.op=4
 ·rw[Δ e];exact h4
 rw[Γ e]
 by_cases e:a.op=5
 ·rw[Δ e];exact h5
 rw[Γ e]
 by_cases e:a.op=6
 ·rw[Δ e];exact h6
 rw[Γ e]
 by_cases e:a.op=7
 ·rw[Δ e];exact h7
 rw[Γ e]
 by_cases e:a.op=8
 ·rw[Δ e];exact h8
 rw[Γ e]
 by_cases e:a.op=9
 ·rw[Δ e];exact h9
 rw[Γ e]
 by_cases e:a.op=10
 ·rw[Δ e];exact h10
 rw[Γ e];exact h0
theorem Rk(a:Ac)(x g:Int):(a.run S x g).1.q<=S.q+1:=by
 refine Ef (P:=λr=>r.1.q<=S.q+1) a x g (Nat.le_succ _) ?_ (Nat.le_succ _) ?_ ?_ ?_ ?_ (Nat.le_succ _) (Nat.le_succ _) (Nat.le_succ _) (Nat.le_succ _)
 ·unfold kW
  split
  ·cases kZ S.R with
   |none=>exact Nat.le_succ _
   |some y=>exact Θ _
  ·exact Nat.le_succ _
 ·unfold jN;cases dN S.A a.a with
  |none=>exact Nat.le_succ _
  |some m=>exact Nat.le_succ _
 ·unfold mH
  split
  ·split<;>exact Nat.le_succ _
  ·exact Nat.le_succ _
 ·unfold mG
  split<;>exact Nat.le_succ _
 ·unfold nW
  split<;>exact Nat.le_succ _
end
theorem FO{R R':AR}{x:Nat}(h:R.Ok)(hp:kZ R=some (x,R'))(y:Nat):R'.g y=if y=x then R.g x+1 else R.g y:=by
 obtain⟨_,h1,h2,_,h3,_⟩:=uO h hp;have e:R'.g y=(R.put x (R.g x+1,true)).g y:=by
  show(R'.sl.getD y (0,false)).1=((R.sl.set x (R.g x+1,true)).getD y (0,false)).1
  rw[h3]
 rw[e,AR.zo]
 by_cases e2:y=x
 ·rw[Δ ⟨e2,h1⟩,Δ e2]
 ·rw[Γ (λh=>e2 h.1),Γ e2]
theorem FM{R:AR}(x z:Nat):(gY R x).g z=R.g z:=by
 show(R.put x (R.g x,false)).g z=_
 rw[AR.zo]
 split
 ·rename_i e;rw[e.1]
 ·rfl
theorem SI(R:AR)(x g:Nat):iO R (x:Int) (g:Int)=true↔R.v x=true/\R.g x=g:=by
 constructor
 ·intro h;obtain⟨y,h1,h2,h3⟩:=vC h;have:x=y:=ω;subst this;exact⟨h3,ω⟩
 ·rintro⟨h1,rfl⟩;exact Gx h1
theorem Xe(A:NS)(h x k s i:Int):aY (aO A h x k s) i=aY A i:=by unfold aO;split;exact xK _ _ _ _;rfl
theorem SH(A:NS)(x i:Int):aY (bg A x) i=aY A i:=by unfold bg;split;exact xK _ _ _ _;rfl
theorem WJ(A:NS)(x k s i:Int):aY (aA A x k s) i=aY A i:=by unfold aA;split;exact xK _ _ _ _;rfl
theorem ZX(A:NS)(h x k s:Int):(aO A h x k s).hs=A.hs:=by unfold aO;split<;>rfl
theorem WL(A:NS)(x:Int):(bg A x).hs=A.hs:=by unfold bg;split<;>rfl
theorem abf(A:NS)(x k s:Int):(aA A x k s).hs=A.hs:=by unfold aA;split<;>rfl
theorem Dq{A:NS}{a b:Int}(hj:gJ A a b=true)(i:Int):aY (az A a b) i=(aY A i && !decide (i=b)):=by
 have h1:=(dG _ _ _).1 hj;have hb:=(aC _ _).1 h1.2.1;have e:aY (az A a b) i=true↔(aY A i && !decide (i=b))=true:=by
  rw[aC];unfold az;rw[Δ hj];simp only[Τ,aC,Bool.not_eq_true',decide_eq_false_iff_not,Ι];constructor
  ·rintro⟨a1,a2,a3⟩;have hne:i≠b:=λe=>by
    subst e;rw[φ,ώ ω] at a3;cases a3
   refine⟨⟨a1,a2,?_⟩,hne⟩;rw[φ,Ϗ ω,←φ] at a3;exact a3
  ·rintro⟨⟨a1,a2,a3⟩,hne⟩;refine⟨a1,a2,?_⟩;rw[φ,Ϗ ω,←φ];exact a3
 cases h2:aY (az A a b) i<;>cases h3:(aY A i && !decide (i=b))<;>simp_all
theorem NZ(A:NS)(a b:Int):(az A a b).hs.length=A.hs.length:=by unfold az;split;simp;rfl
theorem Qg{A:NS}(h:A.Ok)(i:Int)(hi:i<A.hs.length):aY (aU A) i=aY A i/\i<(aU A).hs.length:=by
 unfold aU
 split
 ·exact⟨rfl,hi⟩
 ·have e:aY (⟨A.hs++[true],A.cs⟩:NS) i=true↔aY A i=true:=by
   rw[aC,aC];constructor
   ·rintro⟨a1,a2,a3⟩;refine⟨a1,hi,?_⟩;rw[φ,Ρ ω,←φ] at a3;exact a3
   ·rintro⟨a1,a2,a3⟩;refine⟨a1,ζ,?_⟩;rw[φ,Ρ ω,←φ];exact a3
  refine⟨?_,ζ⟩;cases h2:aY (⟨A.hs++[true],A.cs⟩:NS) i<;>cases h3:aY A i<;>simp_all
structure zF(S:St)(ev gn:List (Int×Int))(hp:List Int):Prop where
 fe:∀p,p∈ev->∃x g:Nat,p=((x:Int),(g:Int))/\1<=g/\g<=S.R.g x
 fg:∀p,p∈gn->∃x g:Nat,p=((x:Int),(g:Int))/\g<=S.R.g x/\¬(S.R.v x=true/\S.R.g x=g)
 fh:∀h,h∈hp->aY S.A h=false/\h<S.A.hs.length/\1<=h
 fc:ev.length=gn.length+S.R.cnt
section
variable{S:St}{ev gn:List (Int×Int)}{hp:List Int}
theorem zF.stale(h:zF S ev gn hp){p:Int×Int}(hm:p∈gn):iO S.R p.1 p.2=false/\0<=p.2/\p.2<=S.R.g p.1.toNat:=by
 obtain⟨x,g,rfl,h1,h2⟩:=h.fg p hm;refine⟨?_,σ,ζ⟩;cases hl:iO S.R (x:Int) (g:Int) with
 |false=>rfl
 |true=>exact absurd ((SI _ _ _).1 hl) h2
theorem Ua(n m k:Nat)(A:NS):zF ⟨AR.new n m,A,k⟩ [] [] []:=
 ⟨λ_ h=>(by cases h),λ_ h=>(by cases h),λ_ h=>(by cases h),by show 0=0+(AR.new n m).cnt;rw[AR.E8]⟩
theorem zF.still(h:zF S ev gn hp){A':NS}{q':Nat}(hA:∀i,i<(S.A.hs.length:Int)->aY S.A i=false->aY A' i=false)(hl:S.A.hs.length<=A'.hs.length):zF ⟨S.R,A',q'⟩ ev gn hp:=
 ⟨h.fe,h.fg,λi hi=>⟨hA i (h.fh i hi).2.1 (h.fh i hi).1,by have:=(h.fh i hi).2.1;show i<(A'.hs.length:Int);omega,(h.fh i hi).2.2⟩,h.fc⟩
theorem zF.out(ok:S.Ok)(h:zF S ev gn hp)(x:Nat)(hv:S.R.v x=true):zF ⟨gY S.R x,bg S.A (x:Int),S.q⟩ ev (gn++[((x:Int),(S.R.g x:Int))]) hp:=by
 have hg:=EH ok.2.1 hv;refine⟨λp hp=>?_,λp hp=>?_,λi hi=>?_,?_⟩
 ·obtain⟨y,g,rfl,h1,h2⟩:=h.fe p hp;exact⟨y,g,rfl,h1,by show g<=(gY S.R x).g y;rw[FM];exact h2⟩
 ·rcases τ.1 hp with hp|hp
  ·obtain⟨y,g,rfl,h1,h2⟩:=h.fg p hp;refine⟨y,g,rfl,by show g<=(gY S.R x).g y;rw[FM];exact h1,?_⟩
   show ¬((gY S.R x).v y=true/\(gY S.R x).g y=g)
   rw[FM,LK hv];rintro⟨a1,a2⟩;simp at a1;exact h2 ⟨a1.1,a2⟩
  ·simp at hp;subst hp;refine⟨x,S.R.g x,rfl,by show S.R.g x<=(gY S.R x).g x;rw[FM];exact Θ _,?_⟩
   show ¬((gY S.R x).v x=true/\_)
   rw[LK hv];simp
 ·have:=h.fh i hi;exact⟨by show aY (bg S.A x) i=false;rw[SH];exact this.1,by show i<((bg S.A x).hs.length:Int);rw[WL];exact this.2.1,this.2.2⟩
 ·have:=h.fc;have h2:=hg.2
  show ev.length=_+(gY S.R x).cnt
  simp;omega
theorem zF.step(ok:S.Ok)(h:zF S ev gn hp)(a:Ac)(x g:Int)(hc:(a.run S x g).2.c=0) :
  (a.op=2->(∀p,p∈ev->p≠((a.run S x g).2.s,(a.run S x g).2.g))/\zF (a.run S x g).1 (ev++[((a.run S x g).2.s,(a.run S x g).2.g)]) gn hp)/\
  (a.op=4->zF (a.run S x g).1 ev (gn++[((a.run S x g).2.s,(a.run S x g).2.g)]) hp)/\
  (a.op=6->zF (a.run S x g).1 ev (gn++[(x,g)]) hp)/\
  (a.op=7->zF (a.run S x g).1 ev gn (hp++[a.b]))/\
  (a.op≠2->a.op≠4->a.op≠6->a.op≠7->zF (a.run S x g).1 ev gn hp):=by
 have hR:=ok.2.1;unfold Ac.run at hc ⊢
 by_cases e1:a.op=1
 ·rw[Δ e1];refine⟨λe=>ω,λe=>ω,λe=>ω,λe=>ω,λ_ _ _ _=>h.still (λi hi hn=>?_) ?_⟩
  ·rw[(Qg ok.1 i hi).1];exact hn
  ·unfold aU;split;exact Θ _;simp
 rw[Γ e1] at hc ⊢
 by_cases e2:a.op=2
 ·rw[Δ e2] at hc ⊢;refine⟨λ_=>?_,λe=>ω,λe=>ω,λe=>ω,λe=>absurd e2 e⟩;unfold kW at hc ⊢
  by_cases hB:aY S.A a.a=true
  ·rw[Δ hB] at hc ⊢;cases hT:kZ S.R with
   |none=>rw[hT] at hc;simp[sN] at hc
   |some y=>
    obtain⟨y,R'⟩:=y;have ht:=uO hR hT;dsimp only;refine⟨λp hp e=>?_,λp hp=>?_,λp hp=>?_,λi hi=>?_,?_⟩
    ·obtain⟨z,g',rfl,h1,h2⟩:=h.fe p hp;simp only[Prod.mk.injEq] at e;have:z=y:=ω;subst this;omega
    ·rcases τ.1 hp with hp|hp
     ·obtain⟨z,g',rfl,h1,h2⟩:=h.fe p hp;refine⟨z,g',rfl,h1,?_⟩
      show g'<=R'.g z
      rw[FO hR hT]
      split
      ·rename_i e;subst e;omega
      ·exact h2
     ·simp at hp;subst hp;refine⟨y,S.R.g y+1,σ,ω,?_⟩
      show _<=R'.g y
      rw[FO hR hT,Δ rfl];exact Θ _
    ·obtain⟨z,g',rfl,h1,h2⟩:=h.fg p hp;refine⟨z,g',rfl,?_,?_⟩
     ·show g'<=R'.g z
      rw[FO hR hT]
      split
      ·rename_i e;subst e;omega
      ·exact h1
     ·show ¬(R'.v z=true/\R'.g z=g')
      rw[FO hR hT,Ry hR hT];rintro⟨a1,a2⟩
      by_cases e:z=y
      ·rw[Δ e] at a2;subst e;omega
      ·rw[Γ e] at a2;have:decide ((z:Int)=(y:Int))=false:=ζ;rw[this] at a1;exact h2 ⟨by simpa using a1,a2⟩
    ·have:=h.fh i hi;exact⟨by show aY (aO S.A _ _ _ _) i=false;rw[Xe];exact this.1,by show i<((aO S.A _ _ _ _).hs.length:Int);rw[ZX];exact this.2.1,this.2.2⟩
    ·have:=h.fc;have h2:=ht.2.2.2.2.2.2
     show(ev++_).length=_+R'.cnt
     simp;omega
  ·rw[Γ hB] at hc;simp[sN] at hc
 rw[Γ e2] at hc ⊢
 by_cases e3:a.op=3
 ·rw[Δ e3];exact⟨λe=>absurd e e2,λe=>ω,λe=>ω,λe=>ω,λ_ _ _ _=>h⟩
 rw[Γ e3] at hc ⊢
 by_cases e4:a.op=4
 ·rw[Δ e4] at hc ⊢;refine⟨λe=>ω,λ_=>?_,λe=>ω,λe=>ω,λ_ e=>absurd e4 e⟩;unfold jN at hc ⊢;cases hm:dN S.A a.a with
  |none=>
   rw[hm] at hc;dsimp only at hc;unfold sN qB at hc;dsimp only at hc;rw[hm] at hc
   split at hc<;>simp[sN] at hc
  |some m=>exact h.out ok m (by rw[ok.2.2.2];exact(lH hm).2.2.2)
 rw[Γ e4] at hc ⊢
 by_cases e5:a.op=5
 ·rw[Δ e5];refine⟨λe=>ω,λe=>ω,λe=>ω,λe=>ω,λ_ _ _ _=>?_⟩;unfold mH
  split
  ·split
   ·exact h
   ·exact h.still (λi hi hn=>by rw[WJ];exact hn) (by rw[abf];exact Θ _)
  ·exact h
 rw[Γ e5] at hc ⊢
 by_cases e6:a.op=6
 ·rw[Δ e6] at hc ⊢;refine⟨λe=>ω,λe=>ω,λ_=>?_,λe=>ω,λ_ _ e=>absurd e6 e⟩;unfold mG at hc ⊢;cases hl:iO S.R x g with
  |false=>rw[hl,Γ σ] at hc;simp[sN] at hc
  |true=>
   rw[Δ rfl];obtain⟨y,rfl,rfl,hv⟩:=vC hl;exact h.out ok y hv
 rw[Γ e6] at hc ⊢
 by_cases e7:a.op=7
 ·rw[Δ e7] at hc ⊢;refine⟨λe=>ω,λe=>ω,λe=>ω,λ_=>?_,λ_ _ _ e=>absurd e7 e⟩;unfold nW at hc ⊢
  by_cases hj:gJ S.A a.a a.b=true
  ·rw[Δ hj];have hs:zF ⟨S.R,az S.A a.a a.b,S.q⟩ ev gn hp:=h.still (λi hi hn=>by rw[Dq hj,hn];rfl) (by rw[NZ];exact Θ _);refine⟨hs.fe,hs.fg,λi hi=>?_,hs.fc⟩;rcases τ.1 hi with hi|hi
   ·exact hs.fh i hi
   ·simp at hi;subst hi;have hb:=(aC _ _).1 ((dG _ _ _).1 hj).2.1;exact⟨by show aY (az S.A a.a a.b) a.b=false;rw[Dq hj];simp,by show a.b<((az S.A a.a a.b).hs.length:Int);rw[NZ];exact hb.2.1,hb.1⟩
  ·rw[Γ hj] at hc;unfold sN at hc;dsimp only at hc
   split at hc<;>simp[sN] at hc
 rw[Γ e7] at hc ⊢;refine⟨λe=>absurd e e2,λe=>absurd e e4,λe=>absurd e e6,λe=>absurd e e7,λ_ _ _ _=>?_⟩
 split
 ·exact h
 split
 ·exact h
 split
 ·exact h
 ·exact h
end
structure Q7(W:World)(b:Nat)(p0 p1 p2 p3 p4 p5 p6:Int):Prop where
 c0:W.cell? ⟨b,0,none⟩=some (.int .i64 p0):=by go_simp
 c1:W.cell? ⟨b,1,none⟩=some (.int .i64 p1):=by go_simp
 c2:W.cell? ⟨b,2,none⟩=some (.int .i64 p2):=by go_simp
 c3:W.cell? ⟨b,3,none⟩=some (.int .i64 p3):=by go_simp
 c4:W.cell? ⟨b,4,none⟩=some (.int .u32 p4):=by go_simp
 c5:W.cell? ⟨b,5,none⟩=some (.int .u8 p5):=by go_simp
 c6:W.cell? ⟨b,6,none⟩=some (.int .i64 p6):=by go_simp
theorem Q7.kept{W W':World}{S:List Nat}{b:Nat}{p0 p1 p2 p3 p4 p5 p6:Int}(h:Q7 W b p0 p1 p2 p3 p4 p5 p6)(hu:ae S W W')(hb:b∉S):Q7 W' b p0 p1 p2 p3 p4 p5 p6:=⟨hu.kept h.c0 hb,hu.kept h.c1 hb,hu.kept h.c2 hb,hu.kept h.c3 hb,hu.kept h.c4 hb,hu.kept h.c5 hb,hu.kept h.c6 hb⟩
theorem Q7.rules{W:World}{S:List Nat}{b:Nat}{p0 p1 p2 p3 p4 p5 p6:Int}(h:Q7 W b p0 p1 p2 p3 p4 p5 p6)(hb:b∉S):(∀X,ae S W X->X.cell? ⟨b,0,none⟩=some (.int .i64 p0))/\(∀X,ae S W X->X.cell? ⟨b,1,none⟩=some (.int .i64 p1))/\(∀X,ae S W X->X.cell? ⟨b,2,none⟩=some (.int .i64 p2))/\(∀X,ae S W X->X.cell? ⟨b,3,none⟩=some (.int .i64 p3))/\(∀X,ae S W X->X.cell? ⟨b,4,none⟩=some (.int .u32 p4))/\(∀X,ae S W X->X.cell? ⟨b,5,none⟩=some (.int .u8 p5))/\(∀X,ae S W X->X.cell? ⟨b,6,none⟩=some (.int .i64 p6)):=⟨λX hX=>hX.kept h.c0 hb,λX hX=>hX.kept h.c1 hb,λX hX=>hX.kept h.c2 hb,λX hX=>hX.kept h.c3 hb,λX hX=>hX.kept h.c4 hb,λX hX=>hX.kept h.c5 hb,λX hX=>hX.kept h.c6 hb⟩
structure Q2(W:World)(b:Nat)(p0 p1:Int):Prop where
 c0:W.cell? ⟨b,0,none⟩=some (.int .i64 p0):=by go_simp
 c1:W.cell? ⟨b,1,none⟩=some (.int .u32 p1):=by go_simp
theorem Q2.kept{W W':World}{S:List Nat}{b:Nat}{p0 p1:Int}(h:Q2 W b p0 p1)(hu:ae S W W')(hb:b∉S):Q2 W' b p0 p1:=⟨hu.kept h.c0 hb,hu.kept h.c1 hb⟩
theorem Q2.rules{W:World}{S:List Nat}{b:Nat}{p0 p1:Int}(h:Q2 W b p0 p1)(hb:b∉S):(∀X,ae S W X->X.cell? ⟨b,0,none⟩=some (.int .i64 p0))/\(∀X,ae S W X->X.cell? ⟨b,1,none⟩=some (.int .u32 p1)):=⟨λX hX=>hX.kept h.c0 hb,λX hX=>hX.kept h.c1 hb⟩
structure Q6(W:World)(b:Nat)(p0 p1 p2 p3 p4 p5:Int):Prop where
 c0:W.cell? ⟨b,0,none⟩=some (.int .i64 p0):=by go_simp
 c1:W.cell? ⟨b,1,none⟩=some (.int .i64 p1):=by go_simp
 c2:W.cell? ⟨b,2,none⟩=some (.int .i64 p2):=by go_simp
 c3:W.cell? ⟨b,3,none⟩=some (.int .u32 p3):=by go_simp
 c4:W.cell? ⟨b,4,none⟩=some (.int .i64 p4):=by go_simp
 c5:W.cell? ⟨b,5,none⟩=some (.int .i64 p5):=by go_simp
theorem Q6.kept{W W':World}{S:List Nat}{b:Nat}{p0 p1 p2 p3 p4 p5:Int}(h:Q6 W b p0 p1 p2 p3 p4 p5)(hu:ae S W W')(hb:b∉S):Q6 W' b p0 p1 p2 p3 p4 p5:=⟨hu.kept h.c0 hb,hu.kept h.c1 hb,hu.kept h.c2 hb,hu.kept h.c3 hb,hu.kept h.c4 hb,hu.kept h.c5 hb⟩
theorem Q6.rules{W:World}{S:List Nat}{b:Nat}{p0 p1 p2 p3 p4 p5:Int}(h:Q6 W b p0 p1 p2 p3 p4 p5)(hb:b∉S):(∀X,ae S W X->X.cell? ⟨b,0,none⟩=some (.int .i64 p0))/\(∀X,ae S W X->X.cell? ⟨b,1,none⟩=some (.int .i64 p1))/\(∀X,ae S W X->X.cell? ⟨b,2,none⟩=some (.int .i64 p2))/\(∀X,ae S W X->X.cell? ⟨b,3,none⟩=some (.int .u32 p3))/\(∀X,ae S W X->X.cell? ⟨b,4,none⟩=some (.int .i64 p4))/\(∀X,ae S W X->X.cell? ⟨b,5,none⟩=some (.int .i64 p5)):=⟨λX hX=>hX.kept h.c0 hb,λX hX=>hX.kept h.c1 hb,λX hX=>hX.kept h.c2 hb,λX hX=>hX.kept h.c3 hb,λX hX=>hX.kept h.c4 hb,λX hX=>hX.kept h.c5 hb⟩
structure Z6(W:World)(b:Nat):Prop where
 f0:W.frozen? ⟨b,0,none⟩=false:=by go_simp
 f1:W.frozen? ⟨b,1,none⟩=false:=by go_simp
 f2:W.frozen? ⟨b,2,none⟩=false:=by go_simp
 f3:W.frozen? ⟨b,3,none⟩=false:=by go_simp
 f4:W.frozen? ⟨b,4,none⟩=false:=by go_simp
 f5:W.frozen? ⟨b,5,none⟩=false:=by go_simp
theorem Z6.kept{W W':World}{S:List Nat}{b:Nat}{p0 p1 p2 p3 p4 p5:Int}(h:Z6 W b)(hc:Q6 W b p0 p1 p2 p3 p4 p5)(hu:ae S W W')(hb:b∉S):Z6 W' b:=⟨hu.aM hc.c0 hb h.f0,hu.aM hc.c1 hb h.f1,hu.aM hc.c2 hb h.f2,hu.aM hc.c3 hb h.f3,hu.aM hc.c4 hb h.f4,hu.aM hc.c5 hb h.f5⟩
theorem fw.fin{K:jZ}{w W w1 X:World}{p:Nat}{F F1 B:List Nat}{kd d:Int}{S:St}(hW:ae [] w W)(hF:∀x,x∈F->x<w.heap.size)(hP:fw K w1 p F1 kd d S)(hu:ae F W w1)(hf:∀x,x∈F1->x∈F\/W.heap.size<=x)(hX:ae B w1 X)(hB:∀b,b∈B->w.heap.size<=b/\b<W.heap.size):Goes F w X (λF'=>fw K X p F' kd d S):=by
 have hs:=hW.size;refine⟨F1,aP.upd hP hX (λb hb hm=>?_),((hW.mono σ).trans hu).joined hX (λb hb=>Β (hB b hb).1),λx hx=>?_⟩
 ·have:=hB b hb;rcases hf b hm with h|h
  ·have:=hF b h;omega
  ·omega
 ·rcases hf x hx with h|h
  ·exact Α h
  ·exact Β ω
section
variable{K:jZ}{w:World}{p:Nat}{F:List Nat}{kd d:Int}{S:St}
theorem XM(S:St):(si S).2.v=.agg #[.int .i64 (si S).2.c,.int .i64 (si S).2.h,.int .i64 0,.int .u32 0,.int .i64 0,.int .i64 0]:=rfl
theorem VS(S:St)(a k:Int):(kW S a k).2.v=.agg #[.int .i64 (kW S a k).2.c,.int .i64 0,.int .i64 (kW S a k).2.s,.int .u32 (kW S a k).2.g,.int .i64 0,.int .i64 0]:=by
 unfold kW
 split
 ·cases kZ S.R<;>rfl
 ·rfl
theorem VH(S:St)(a:Int):(lD S a).2.v=.agg #[.int .i64 (lD S a).2.c,.int .i64 0,.int .i64 (lD S a).2.s,.int .u32 (lD S a).2.g,.int .i64 (lD S a).2.k,.int .i64 0]:=by
 unfold lD;cases dN S.A a<;>rfl
theorem WN(S:St)(a:Int):(jN S a).2.v=.agg #[.int .i64 (jN S a).2.c,.int .i64 0,.int .i64 (jN S a).2.s,.int .u32 (jN S a).2.g,.int .i64 (jN S a).2.k,.int .i64 0]:=by
 unfold jN;cases dN S.A a<;>rfl
theorem Xw(S:St)(x y k:Int):(mH S x y k).2.v=.agg #[.int .i64 (mH S x y k).2.c,.int .i64 0,.int .i64 0,.int .u32 0,.int .i64 0,.int .i64 0]:=by
 unfold mH
 split
 ·split<;>rfl
 ·rfl
theorem VZ(S:St)(x y:Int):(mG S x y).2.v=.agg #[.int .i64 (mG S x y).2.c,.int .i64 0,.int .i64 0,.int .u32 0,.int .i64 (mG S x y).2.k,.int .i64 0]:=by
 unfold mG
 split<;>rfl
theorem Wd(S:St)(a b:Int):(nW S a b).2.v=.agg #[.int .i64 (nW S a b).2.c,.int .i64 0,.int .i64 0,.int .u32 0,.int .i64 0,.int .i64 0]:=by
 unfold nW
 split<;>rfl
theorem V6(S:St)(a:Int):(mW S a).2.v=.agg #[.int .i64 (mW S a).2.c,.int .i64 0,.int .i64 0,.int .u32 0,.int .i64 0,.int .i64 (mW S a).2.n]:=by
 unfold mW
 split<;>rfl
theorem X7(S:St)(x y:Int):(kV S x y).2.v=.agg #[.int .i64 (kV S x y).2.c,.int .i64 0,.int .i64 0,.int .u32 0,.int .i64 (kV S x y).2.k,.int .i64 0]:=by
 unfold kV
 split<;>rfl
theorem WU(S:St)(x y:Int):(nX S x y).2.v=.agg #[.int .i64 (nX S x y).2.c,.int .i64 (nX S x y).2.h,.int .i64 0,.int .u32 0,.int .i64 0,.int .i64 0]:=by
 unfold nX
 split<;>rfl
theorem Z5(h:fw K w p F kd d S)(a b s g o k x y:Int)(ha:vH a)(hk:vH k)(hy:0<=y/\y<=4294967295)(hq:S.q+1<=18446744073709551615) :
  Calls prog 26 #[.pointer (some ⟨p,0,none⟩),.agg #[.int .i64 1,.int .i64 a,.int .i64 b,.int .i64 s,.int .u32 g,.int .u8 o,.int .i64 k],.agg #[.int .i64 x,.int .u32 y]] w λe w'=>e=.returned (si S).2.v/\Goes F w w' (λF'=>fw K w' p F' kd d (si S).1):=by
 have hF:=aP.lt h;rw[XM];have kk:=λW (hW:ae [] w W)=>Qv (aP.ag h hW:fw K W p F kd d S);generalize si S=z at *;obtain⟨S2,rc,rh,rs,rg,rk,rn⟩:=z;dsimp only at *;clear h ha hk hy hq;have xV:w.heap.size+1+1∉F:=λe=>by have:=hF _ e;omega
 have xu:w.heap.size+1+1+1∉F:=λe=>by have:=hF _ e;omega
 have FIN:=χ (λ(W w1 X:World) (F1:List Nat) (hW:ae [] w W) (hP:fw K w1 p F1 kd d S2) (hu:ae F W w1) (hf:∀x,x∈F1->x∈F\/W.heap.size<=x) (hX:ae [w.heap.size+1+1,w.heap.size+1+1+1] w1 X) (hB:∀b,b∈[w.heap.size+1+1,w.heap.size+1+1+1]->w.heap.size<=b/\b<W.heap.size)=>fw.fin hW hF hP hu hf hX hB);clear hF
 go_enter func26,ntmps26
 (go_upto_region 2 with(fail);refine bG (λW=>Q7 W (w.heap.size) (1) a b s g o k/\Q2 W (w.heap.size+1) x y/\(Q6 W (w.heap.size+1+1) 0 0 0 0 0 0/\Z6 W (w.heap.size+1+1))/\(Q6 W (w.heap.size+1+1+1) 0 0 0 0 0 0/\Z6 W (w.heap.size+1+1+1))/\ae [] w W/\w.heap.size+4<=W.heap.size) ⟨{},{},⟨{},{}⟩,⟨{},{}⟩,β,σ⟩ ?_;rintro W ⟨⟨qo,qa,qb,qs,qg,qd,qk⟩,⟨qx,qy⟩,⟨ht,htz⟩,⟨hr,hrz⟩,hW,hs4⟩)
 have kk:=kk W hW
 go_wp2_with (first
  |((go_at_call 18;(with_reducible refine(kk).mono ?_));rintro e w1 ⟨rfl,F1,hP1,hu1,hf1⟩;(obtain⟨v0,v1,v2,v3,v4,v5⟩:=hr.kept hu1 xu;obtain⟨VX,XE,Og,VJ,WS,XY⟩:=hrz.kept hr hu1 xu;obtain⟨u0,u1,u2,u3,u4,u5⟩:=ht.kept hu1 xV;obtain⟨Xh,VU,We,XP,W9,V7⟩:=htz.kept ht hu1 xV))
  | fail)
 exact bodyPost_ret (v:=.agg #[.int .i64 rc,.int .i64 rh,.int .i64 0,.int .u32 0,.int .i64 0,.int .i64 0]) (by simp[results,results26,go_sem,v0,v1,v2,v3,v4,v5,u0,u1,u2,u3,u4,u5]) rfl ⟨rfl,FIN.out W w1 _ F1 hW hP1 hu1 hf1 (by(repeat(refine ae.setCell ?_ (Α σ) _));exact ae.refl _ _) (λb hb=>by simp at hb;omega)⟩
theorem aba(h:fw K w p F kd d S)(a b s g o k x y:Int)(ha:vH a)(hk:vH k)(hy:0<=y/\y<=4294967295)(hq:S.q+1<=18446744073709551615) :
  Calls prog 26 #[.pointer (some ⟨p,0,none⟩),.agg #[.int .i64 2,.int .i64 a,.int .i64 b,.int .i64 s,.int .u32 g,.int .u8 o,.int .i64 k],.agg #[.int .i64 x,.int .u32 y]] w λe w'=>e=.returned (kW S a k).2.v/\Goes F w w' (λF'=>fw K w' p F' kd d (kW S a k).1):=by
 have hF:=aP.lt h;rw[VS];have kk:=λW (hW:ae [] w W)=>PO (aP.ag h hW:fw K W p F kd d S) a k hk hq;generalize kW S a k=z at *;obtain⟨S2,rc,rh,rs,rg,rk,rn⟩:=z;dsimp only at *;clear h ha hk hy hq;have xV:w.heap.size+1+1∉F:=λe=>by have:=hF _ e;omega
 have xu:w.heap.size+1+1+1∉F:=λe=>by have:=hF _ e;omega
 have FIN:=χ (λ(W w1 X:World) (F1:List Nat) (hW:ae [] w W) (hP:fw K w1 p F1 kd d S2) (hu:ae F W w1) (hf:∀x,x∈F1->x∈F\/W.heap.size<=x) (hX:ae [w.heap.size+1+1,w.heap.size+1+1+1] w1 X) (hB:∀b,b∈[w.heap.size+1+1,w.heap.size+1+1+1]->w.heap.size<=b/\b<W.heap.size)=>fw.fin hW hF hP hu hf hX hB);clear hF
 go_enter func26,ntmps26
 (go_upto_region 2 with(fail);refine bG (λW=>Q7 W (w.heap.size) (2) a b s g o k/\Q2 W (w.heap.size+1) x y/\(Q6 W (w.heap.size+1+1) 0 0 0 0 0 0/\Z6 W (w.heap.size+1+1))/\(Q6 W (w.heap.size+1+1+1) 0 0 0 0 0 0/\Z6 W (w.heap.size+1+1+1))/\ae [] w W/\w.heap.size+4<=W.heap.size) ⟨{},{},⟨{},{}⟩,⟨{},{}⟩,β,σ⟩ ?_;rintro W ⟨⟨qo,qa,qb,qs,qg,qd,qk⟩,⟨qx,qy⟩,⟨ht,htz⟩,⟨hr,hrz⟩,hW,hs4⟩)
 have kk:=kk W hW
 go_wp2_with (first
  |((go_at_call 17;(with_reducible refine(kk).mono ?_));rintro e w1 ⟨rfl,F1,hP1,hu1,hf1⟩;(obtain⟨v0,v1,v2,v3,v4,v5⟩:=hr.kept hu1 xu;obtain⟨VX,XE,Og,VJ,WS,XY⟩:=hrz.kept hr hu1 xu;obtain⟨u0,u1,u2,u3,u4,u5⟩:=ht.kept hu1 xV;obtain⟨Xh,VU,We,XP,W9,V7⟩:=htz.kept ht hu1 xV))
  | fail)
 exact bodyPost_ret (v:=.agg #[.int .i64 rc,.int .i64 0,.int .i64 rs,.int .u32 rg,.int .i64 0,.int .i64 0]) (by simp[results,results26,go_sem,v0,v1,v2,v3,v4,v5,u0,u1,u2,u3,u4,u5]) rfl ⟨rfl,FIN.out W w1 _ F1 hW hP1 hu1 hf1 (by(repeat(refine ae.setCell ?_ (Α σ) _));exact ae.refl _ _) (λb hb=>by simp at hb;omega)⟩
theorem Y5(h:fw K w p F kd d S)(a b s g o k x y:Int)(ha:vH a)(hk:vH k)(hy:0<=y/\y<=4294967295)(hq:S.q+1<=18446744073709551615) :
  Calls prog 26 #[.pointer (some ⟨p,0,none⟩),.agg #[.int .i64 3,.int .i64 a,.int .i64 b,.int .i64 s,.int .u32 g,.int .u8 o,.int .i64 k],.agg #[.int .i64 x,.int .u32 y]] w λe w'=>e=.returned (lD S a).2.v/\Goes F w w' (λF'=>fw K w' p F' kd d (lD S a).1):=by
 have hF:=aP.lt h;rw[VH];have kk:=λW (hW:ae [] w W)=>OE (aP.ag h hW:fw K W p F kd d S) a ha;generalize lD S a=z at *;obtain⟨S2,rc,rh,rs,rg,rk,rn⟩:=z;dsimp only at *;clear h ha hk hy hq;have xV:w.heap.size+1+1∉F:=λe=>by have:=hF _ e;omega
 have xu:w.heap.size+1+1+1∉F:=λe=>by have:=hF _ e;omega
 have FIN:=χ (λ(W w1 X:World) (F1:List Nat) (hW:ae [] w W) (hP:fw K w1 p F1 kd d S2) (hu:ae F W w1) (hf:∀x,x∈F1->x∈F\/W.heap.size<=x) (hX:ae [w.heap.size+1+1,w.heap.size+1+1+1] w1 X) (hB:∀b,b∈[w.heap.size+1+1,w.heap.size+1+1+1]->w.heap.size<=b/\b<W.heap.size)=>fw.fin hW hF hP hu hf hX hB);clear hF
 go_enter func26,ntmps26
 (go_upto_region 2 with(fail);refine bG (λW=>Q7 W (w.heap.size) (3) a b s g o k/\Q2 W (w.heap.size+1) x y/\(Q6 W (w.heap.size+1+1) 0 0 0 0 0 0/\Z6 W (w.heap.size+1+1))/\(Q6 W (w.heap.size+1+1+1) 0 0 0 0 0 0/\Z6 W (w.heap.size+1+1+1))/\ae [] w W/\w.heap.size+4<=W.heap.size) ⟨{},{},⟨{},{}⟩,⟨{},{}⟩,β,σ⟩ ?_;rintro W ⟨⟨qo,qa,qb,qs,qg,qd,qk⟩,⟨qx,qy⟩,⟨ht,htz⟩,⟨hr,hrz⟩,hW,hs4⟩)
 have kk:=kk W hW
 go_wp2_with (first
  |((go_at_call 19;(with_reducible refine(kk).mono ?_));rintro e w1 ⟨rfl,F1,hP1,hu1,hf1⟩;(obtain⟨v0,v1,v2,v3,v4,v5⟩:=hr.kept hu1 xu;obtain⟨VX,XE,Og,VJ,WS,XY⟩:=hrz.kept hr hu1 xu;obtain⟨u0,u1,u2,u3,u4,u5⟩:=ht.kept hu1 xV;obtain⟨Xh,VU,We,XP,W9,V7⟩:=htz.kept ht hu1 xV))
  | fail)
 exact bodyPost_ret (v:=.agg #[.int .i64 rc,.int .i64 0,.int .i64 rs,.int .u32 rg,.int .i64 rk,.int .i64 0]) (by simp[results,results26,go_sem,v0,v1,v2,v3,v4,v5,u0,u1,u2,u3,u4,u5]) rfl ⟨rfl,FIN.out W w1 _ F1 hW hP1 hu1 hf1 (by(repeat(refine ae.setCell ?_ (Α σ) _));exact ae.refl _ _) (λb hb=>by simp at hb;omega)⟩
theorem aa3(h:fw K w p F kd d S)(a b s g o k x y:Int)(ha:vH a)(hk:vH k)(hy:0<=y/\y<=4294967295)(hq:S.q+1<=18446744073709551615) :
  Calls prog 26 #[.pointer (some ⟨p,0,none⟩),.agg #[.int .i64 4,.int .i64 a,.int .i64 b,.int .i64 s,.int .u32 g,.int .u8 o,.int .i64 k],.agg #[.int .i64 x,.int .u32 y]] w λe w'=>e=.returned (jN S a).2.v/\Goes F w w' (λF'=>fw K w' p F' kd d (jN S a).1):=by
 have hF:=aP.lt h;rw[WN];have kk:=λW (hW:ae [] w W)=>QE (aP.ag h hW:fw K W p F kd d S) a ha;generalize jN S a=z at *;obtain⟨S2,rc,rh,rs,rg,rk,rn⟩:=z;dsimp only at *;clear h ha hk hy hq;have xV:w.heap.size+1+1∉F:=λe=>by have:=hF _ e;omega
 have xu:w.heap.size+1+1+1∉F:=λe=>by have:=hF _ e;omega
 have FIN:=χ (λ(W w1 X:World) (F1:List Nat) (hW:ae [] w W) (hP:fw K w1 p F1 kd d S2) (hu:ae F W w1) (hf:∀x,x∈F1->x∈F\/W.heap.size<=x) (hX:ae [w.heap.size+1+1,w.heap.size+1+1+1] w1 X) (hB:∀b,b∈[w.heap.size+1+1,w.heap.size+1+1+1]->w.heap.size<=b/\b<W.heap.size)=>fw.fin hW hF hP hu hf hX hB);clear hF
 go_enter func26,ntmps26
 (go_upto_region 2 with(fail);refine bG (λW=>Q7 W (w.heap.size) (4) a b s g o k/\Q2 W (w.heap.size+1) x y/\(Q6 W (w.heap.size+1+1) 0 0 0 0 0 0/\Z6 W (w.heap.size+1+1))/\(Q6 W (w.heap.size+1+1+1) 0 0 0 0 0 0/\Z6 W (w.heap.size+1+1+1))/\ae [] w W/\w.heap.size+4<=W.heap.size) ⟨{},{},⟨{},{}⟩,⟨{},{}⟩,β,σ⟩ ?_;rintro W ⟨⟨qo,qa,qb,qs,qg,qd,qk⟩,⟨qx,qy⟩,⟨ht,htz⟩,⟨hr,hrz⟩,hW,hs4⟩)
 have kk:=kk W hW
 go_wp2_with (first
  |((go_at_call 22;(with_reducible refine(kk).mono ?_));rintro e w1 ⟨rfl,F1,hP1,hu1,hf1⟩;(obtain⟨v0,v1,v2,v3,v4,v5⟩:=hr.kept hu1 xu;obtain⟨VX,XE,Og,VJ,WS,XY⟩:=hrz.kept hr hu1 xu;obtain⟨u0,u1,u2,u3,u4,u5⟩:=ht.kept hu1 xV;obtain⟨Xh,VU,We,XP,W9,V7⟩:=htz.kept ht hu1 xV))
  | fail)
 exact bodyPost_ret (v:=.agg #[.int .i64 rc,.int .i64 0,.int .i64 rs,.int .u32 rg,.int .i64 rk,.int .i64 0]) (by simp[results,results26,go_sem,v0,v1,v2,v3,v4,v5,u0,u1,u2,u3,u4,u5]) rfl ⟨rfl,FIN.out W w1 _ F1 hW hP1 hu1 hf1 (by(repeat(refine ae.setCell ?_ (Α σ) _));exact ae.refl _ _) (λb hb=>by simp at hb;omega)⟩
theorem ZY(h:fw K w p F kd d S)(a b s g o k x y:Int)(ha:vH a)(hk:vH k)(hy:0<=y/\y<=4294967295)(hq:S.q+1<=18446744073709551615) :
  Calls prog 26 #[.pointer (some ⟨p,0,none⟩),.agg #[.int .i64 5,.int .i64 a,.int .i64 b,.int .i64 s,.int .u32 g,.int .u8 o,.int .i64 k],.agg #[.int .i64 x,.int .u32 y]] w λe w'=>e=.returned (mH S x y k).2.v/\Goes F w w' (λF'=>fw K w' p F' kd d (mH S x y k).1):=by
 have hF:=aP.lt h;rw[Xw];have kk:=λW (hW:ae [] w W)=>Dy (aP.ag h hW:fw K W p F kd d S) x y k hy hk;generalize mH S x y k=z at *;obtain⟨S2,rc,rh,rs,rg,rk,rn⟩:=z;dsimp only at *;clear h ha hk hy hq;have xV:w.heap.size+1+1∉F:=λe=>by have:=hF _ e;omega
 have xu:w.heap.size+1+1+1∉F:=λe=>by have:=hF _ e;omega
 have FIN:=χ (λ(W w1 X:World) (F1:List Nat) (hW:ae [] w W) (hP:fw K w1 p F1 kd d S2) (hu:ae F W w1) (hf:∀x,x∈F1->x∈F\/W.heap.size<=x) (hX:ae [w.heap.size+1+1,w.heap.size+1+1+1] w1 X) (hB:∀b,b∈[w.heap.size+1+1,w.heap.size+1+1+1]->w.heap.size<=b/\b<W.heap.size)=>fw.fin hW hF hP hu hf hX hB);clear hF
 go_enter func26,ntmps26
 (go_upto_region 2 with(fail);refine bG (λW=>Q7 W (w.heap.size) (5) a b s g o k/\Q2 W (w.heap.size+1) x y/\(Q6 W (w.heap.size+1+1) 0 0 0 0 0 0/\Z6 W (w.heap.size+1+1))/\(Q6 W (w.heap.size+1+1+1) 0 0 0 0 0 0/\Z6 W (w.heap.size+1+1+1))/\ae [] w W/\w.heap.size+4<=W.heap.size) ⟨{},{},⟨{},{}⟩,⟨{},{}⟩,β,σ⟩ ?_;rintro W ⟨⟨qo,qa,qb,qs,qg,qd,qk⟩,⟨qx,qy⟩,⟨ht,htz⟩,⟨hr,hrz⟩,hW,hs4⟩)
 have kk:=kk W hW
 go_wp2_with (first
  |((go_at_call 31;(with_reducible refine(kk).mono ?_));rintro e w1 ⟨rfl,F1,hP1,hu1,hf1⟩;(obtain⟨v0,v1,v2,v3,v4,v5⟩:=hr.kept hu1 xu;obtain⟨VX,XE,Og,VJ,WS,XY⟩:=hrz.kept hr hu1 xu;obtain⟨u0,u1,u2,u3,u4,u5⟩:=ht.kept hu1 xV;obtain⟨Xh,VU,We,XP,W9,V7⟩:=htz.kept ht hu1 xV))
  | fail)
 exact bodyPost_ret (v:=.agg #[.int .i64 rc,.int .i64 0,.int .i64 0,.int .u32 0,.int .i64 0,.int .i64 0]) (by simp[results,results26,go_sem,v0,v1,v2,v3,v4,v5,u0,u1,u2,u3,u4,u5]) rfl ⟨rfl,FIN.out W w1 _ F1 hW hP1 hu1 hf1 (by(repeat(refine ae.setCell ?_ (Α σ) _));exact ae.refl _ _) (λb hb=>by simp at hb;omega)⟩
theorem ZB(h:fw K w p F kd d S)(a b s g o k x y:Int)(ha:vH a)(hk:vH k)(hy:0<=y/\y<=4294967295)(hq:S.q+1<=18446744073709551615) :
  Calls prog 26 #[.pointer (some ⟨p,0,none⟩),.agg #[.int .i64 6,.int .i64 a,.int .i64 b,.int .i64 s,.int .u32 g,.int .u8 o,.int .i64 k],.agg #[.int .i64 x,.int .u32 y]] w λe w'=>e=.returned (mG S x y).2.v/\Goes F w w' (λF'=>fw K w' p F' kd d (mG S x y).1):=by
 have hF:=aP.lt h;rw[VZ];have kk:=λW (hW:ae [] w W)=>PS (aP.ag h hW:fw K W p F kd d S) x y hy;generalize mG S x y=z at *;obtain⟨S2,rc,rh,rs,rg,rk,rn⟩:=z;dsimp only at *;clear h ha hk hy hq;have xV:w.heap.size+1+1∉F:=λe=>by have:=hF _ e;omega
 have xu:w.heap.size+1+1+1∉F:=λe=>by have:=hF _ e;omega
 have FIN:=χ (λ(W w1 X:World) (F1:List Nat) (hW:ae [] w W) (hP:fw K w1 p F1 kd d S2) (hu:ae F W w1) (hf:∀x,x∈F1->x∈F\/W.heap.size<=x) (hX:ae [w.heap.size+1+1,w.heap.size+1+1+1] w1 X) (hB:∀b,b∈[w.heap.size+1+1,w.heap.size+1+1+1]->w.heap.size<=b/\b<W.heap.size)=>fw.fin hW hF hP hu hf hX hB);clear hF
 go_enter func26,ntmps26
 (go_upto_region 2 with(fail);refine bG (λW=>Q7 W (w.heap.size) (6) a b s g o k/\Q2 W (w.heap.size+1) x y/\(Q6 W (w.heap.size+1+1) 0 0 0 0 0 0/\Z6 W (w.heap.size+1+1))/\(Q6 W (w.heap.size+1+1+1) 0 0 0 0 0 0/\Z6 W (w.heap.size+1+1+1))/\ae [] w W/\w.heap.size+4<=W.heap.size) ⟨{},{},⟨{},{}⟩,⟨{},{}⟩,β,σ⟩ ?_;rintro W ⟨⟨qo,qa,qb,qs,qg,qd,qk⟩,⟨qx,qy⟩,⟨ht,htz⟩,⟨hr,hrz⟩,hW,hs4⟩)
 have kk:=kk W hW
 go_wp2_with (first
  |((go_at_call 44;(with_reducible refine(kk).mono ?_));rintro e w1 ⟨rfl,F1,hP1,hu1,hf1⟩;(obtain⟨v0,v1,v2,v3,v4,v5⟩:=hr.kept hu1 xu;obtain⟨VX,XE,Og,VJ,WS,XY⟩:=hrz.kept hr hu1 xu;obtain⟨u0,u1,u2,u3,u4,u5⟩:=ht.kept hu1 xV;obtain⟨Xh,VU,We,XP,W9,V7⟩:=htz.kept ht hu1 xV))
  | fail)
 exact bodyPost_ret (v:=.agg #[.int .i64 rc,.int .i64 0,.int .i64 0,.int .u32 0,.int .i64 rk,.int .i64 0]) (by simp[results,results26,go_sem,v0,v1,v2,v3,v4,v5,u0,u1,u2,u3,u4,u5]) rfl ⟨rfl,FIN.out W w1 _ F1 hW hP1 hu1 hf1 (by(repeat(refine ae.setCell ?_ (Α σ) _));exact ae.refl _ _) (λb hb=>by simp at hb;omega)⟩
theorem Y2(h:fw K w p F kd d S)(a b s g o k x y:Int)(ha:vH a)(hk:vH k)(hy:0<=y/\y<=4294967295)(hq:S.q+1<=18446744073709551615) :
  Calls prog 26 #[.pointer (some ⟨p,0,none⟩),.agg #[.int .i64 7,.int .i64 a,.int .i64 b,.int .i64 s,.int .u32 g,.int .u8 o,.int .i64 k],.agg #[.int .i64 x,.int .u32 y]] w λe w'=>e=.returned (nW S a b).2.v/\Goes F w w' (λF'=>fw K w' p F' kd d (nW S a b).1):=by
 have hF:=aP.lt h;rw[Wd];have kk:=λW (hW:ae [] w W)=>Pg (aP.ag h hW:fw K W p F kd d S) a b;generalize nW S a b=z at *;obtain⟨S2,rc,rh,rs,rg,rk,rn⟩:=z;dsimp only at *;clear h ha hk hy hq;have xV:w.heap.size+1+1∉F:=λe=>by have:=hF _ e;omega
 have xu:w.heap.size+1+1+1∉F:=λe=>by have:=hF _ e;omega
 have FIN:=χ (λ(W w1 X:World) (F1:List Nat) (hW:ae [] w W) (hP:fw K w1 p F1 kd d S2) (hu:ae F W w1) (hf:∀x,x∈F1->x∈F\/W.heap.size<=x) (hX:ae [w.heap.size+1+1,w.heap.size+1+1+1] w1 X) (hB:∀b,b∈[w.heap.size+1+1,w.heap.size+1+1+1]->w.heap.size<=b/\b<W.heap.size)=>fw.fin hW hF hP hu hf hX hB);clear hF
 go_enter func26,ntmps26
 (go_upto_region 2 with(fail);refine bG (λW=>Q7 W (w.heap.size) (7) a b s g o k/\Q2 W (w.heap.size+1) x y/\(Q6 W (w.heap.size+1+1) 0 0 0 0 0 0/\Z6 W (w.heap.size+1+1))/\(Q6 W (w.heap.size+1+1+1) 0 0 0 0 0 0/\Z6 W (w.heap.size+1+1+1))/\ae [] w W/\w.heap.size+4<=W.heap.size) ⟨{},{},⟨{},{}⟩,⟨{},{}⟩,β,σ⟩ ?_;rintro W ⟨⟨qo,qa,qb,qs,qg,qd,qk⟩,⟨qx,qy⟩,⟨ht,htz⟩,⟨hr,hrz⟩,hW,hs4⟩)
 have kk:=kk W hW
 go_wp2_with (first
  |((go_at_call 20;(with_reducible refine(kk).mono ?_));rintro e w1 ⟨rfl,F1,hP1,hu1,hf1⟩;(obtain⟨v0,v1,v2,v3,v4,v5⟩:=hr.kept hu1 xu;obtain⟨VX,XE,Og,VJ,WS,XY⟩:=hrz.kept hr hu1 xu;obtain⟨u0,u1,u2,u3,u4,u5⟩:=ht.kept hu1 xV;obtain⟨Xh,VU,We,XP,W9,V7⟩:=htz.kept ht hu1 xV))
  | fail)
 exact bodyPost_ret (v:=.agg #[.int .i64 rc,.int .i64 0,.int .i64 0,.int .u32 0,.int .i64 0,.int .i64 0]) (by simp[results,results26,go_sem,v0,v1,v2,v3,v4,v5,u0,u1,u2,u3,u4,u5]) rfl ⟨rfl,FIN.out W w1 _ F1 hW hP1 hu1 hf1 (by(repeat(refine ae.setCell ?_ (Α σ) _));exact ae.refl _ _) (λb hb=>by simp at hb;omega)⟩
theorem ZW(h:fw K w p F kd d S)(a b s g o k x y:Int)(ha:vH a)(hk:vH k)(hy:0<=y/\y<=4294967295)(hq:S.q+1<=18446744073709551615) :
  Calls prog 26 #[.pointer (some ⟨p,0,none⟩),.agg #[.int .i64 8,.int .i64 a,.int .i64 b,.int .i64 s,.int .u32 g,.int .u8 o,.int .i64 k],.agg #[.int .i64 x,.int .u32 y]] w λe w'=>e=.returned (mW S a).2.v/\Goes F w w' (λF'=>fw K w' p F' kd d (mW S a).1):=by
 have hF:=aP.lt h;rw[V6];have kk:=λW (hW:ae [] w W)=>Ew (aP.ag h hW:fw K W p F kd d S) a ha;generalize mW S a=z at *;obtain⟨S2,rc,rh,rs,rg,rk,rn⟩:=z;dsimp only at *;clear h ha hk hy hq;have xV:w.heap.size+1+1∉F:=λe=>by have:=hF _ e;omega
 have xu:w.heap.size+1+1+1∉F:=λe=>by have:=hF _ e;omega
 have FIN:=χ (λ(W w1 X:World) (F1:List Nat) (hW:ae [] w W) (hP:fw K w1 p F1 kd d S2) (hu:ae F W w1) (hf:∀x,x∈F1->x∈F\/W.heap.size<=x) (hX:ae [w.heap.size+1+1,w.heap.size+1+1+1] w1 X) (hB:∀b,b∈[w.heap.size+1+1,w.heap.size+1+1+1]->w.heap.size<=b/\b<W.heap.size)=>fw.fin hW hF hP hu hf hX hB);clear hF
 go_enter func26,ntmps26
 (go_upto_region 2 with(fail);refine bG (λW=>Q7 W (w.heap.size) (8) a b s g o k/\Q2 W (w.heap.size+1) x y/\(Q6 W (w.heap.size+1+1) 0 0 0 0 0 0/\Z6 W (w.heap.size+1+1))/\(Q6 W (w.heap.size+1+1+1) 0 0 0 0 0 0/\Z6 W (w.heap.size+1+1+1))/\ae [] w W/\w.heap.size+4<=W.heap.size) ⟨{},{},⟨{},{}⟩,⟨{},{}⟩,β,σ⟩ ?_;rintro W ⟨⟨qo,qa,qb,qs,qg,qd,qk⟩,⟨qx,qy⟩,⟨ht,htz⟩,⟨hr,hrz⟩,hW,hs4⟩)
 have kk:=kk W hW
 go_wp2_with (first
  |((go_at_call 32;(with_reducible refine(kk).mono ?_));rintro e w1 ⟨rfl,F1,hP1,hu1,hf1⟩;(obtain⟨v0,v1,v2,v3,v4,v5⟩:=hr.kept hu1 xu;obtain⟨VX,XE,Og,VJ,WS,XY⟩:=hrz.kept hr hu1 xu;obtain⟨u0,u1,u2,u3,u4,u5⟩:=ht.kept hu1 xV;obtain⟨Xh,VU,We,XP,W9,V7⟩:=htz.kept ht hu1 xV))
  | fail)
 exact bodyPost_ret (v:=.agg #[.int .i64 rc,.int .i64 0,.int .i64 0,.int .u32 0,.int .i64 0,.int .i64 rn]) (by simp[results,results26,go_sem,v0,v1,v2,v3,v4,v5,u0,u1,u2,u3,u4,u5]) rfl ⟨rfl,FIN.out W w1 _ F1 hW hP1 hu1 hf1 (by(repeat(refine ae.setCell ?_ (Α σ) _));exact ae.refl _ _) (λb hb=>by simp at hb;omega)⟩
theorem ZM(h:fw K w p F kd d S)(a b s g o k x y:Int)(ha:vH a)(hk:vH k)(hy:0<=y/\y<=4294967295)(hq:S.q+1<=18446744073709551615) :
  Calls prog 26 #[.pointer (some ⟨p,0,none⟩),.agg #[.int .i64 9,.int .i64 a,.int .i64 b,.int .i64 s,.int .u32 g,.int .u8 o,.int .i64 k],.agg #[.int .i64 x,.int .u32 y]] w λe w'=>e=.returned (kV S x y).2.v/\Goes F w w' (λF'=>fw K w' p F' kd d (kV S x y).1):=by
 have hF:=aP.lt h;rw[X7];have kk:=λW (hW:ae [] w W)=>uH (aP.ag h hW:fw K W p F kd d S) x y hy;generalize kV S x y=z at *;obtain⟨S2,rc,rh,rs,rg,rk,rn⟩:=z;dsimp only at *;clear h ha hk hy hq;have xV:w.heap.size+1+1∉F:=λe=>by have:=hF _ e;omega
 have xu:w.heap.size+1+1+1∉F:=λe=>by have:=hF _ e;omega
 have FIN:=χ (λ(W w1 X:World) (F1:List Nat) (hW:ae [] w W) (hP:fw K w1 p F1 kd d S2) (hu:ae F W w1) (hf:∀x,x∈F1->x∈F\/W.heap.size<=x) (hX:ae [w.heap.size+1+1,w.heap.size+1+1+1] w1 X) (hB:∀b,b∈[w.heap.size+1+1,w.heap.size+1+1+1]->w.heap.size<=b/\b<W.heap.size)=>fw.fin hW hF hP hu hf hX hB);clear hF
 go_enter func26,ntmps26
 (go_upto_region 2 with(fail);refine bG (λW=>Q7 W (w.heap.size) (9) a b s g o k/\Q2 W (w.heap.size+1) x y/\(Q6 W (w.heap.size+1+1) 0 0 0 0 0 0/\Z6 W (w.heap.size+1+1))/\(Q6 W (w.heap.size+1+1+1) 0 0 0 0 0 0/\Z6 W (w.heap.size+1+1+1))/\ae [] w W/\w.heap.size+4<=W.heap.size) ⟨{},{},⟨{},{}⟩,⟨{},{}⟩,β,σ⟩ ?_;rintro W ⟨⟨qo,qa,qb,qs,qg,qd,qk⟩,⟨qx,qy⟩,⟨ht,htz⟩,⟨hr,hrz⟩,hW,hs4⟩)
 have kk:=kk W hW
 go_wp2_with (first
  |((go_at_call 30;(with_reducible refine(kk).mono ?_));rintro e w1 ⟨rfl,F1,hP1,hu1,hf1⟩;(obtain⟨v0,v1,v2,v3,v4,v5⟩:=hr.kept hu1 xu;obtain⟨VX,XE,Og,VJ,WS,XY⟩:=hrz.kept hr hu1 xu;obtain⟨u0,u1,u2,u3,u4,u5⟩:=ht.kept hu1 xV;obtain⟨Xh,VU,We,XP,W9,V7⟩:=htz.kept ht hu1 xV))
  | fail)
 exact bodyPost_ret (v:=.agg #[.int .i64 rc,.int .i64 0,.int .i64 0,.int .u32 0,.int .i64 rk,.int .i64 0]) (by simp[results,results26,go_sem,v0,v1,v2,v3,v4,v5,u0,u1,u2,u3,u4,u5]) rfl ⟨rfl,FIN.out W w1 _ F1 hW hP1 hu1 hf1 (by(repeat(refine ae.setCell ?_ (Α σ) _));exact ae.refl _ _) (λb hb=>by simp at hb;omega)⟩
theorem Xm(h:fw K w p F kd d S)(a b s g o k x y:Int)(ha:vH a)(hk:vH k)(hy:0<=y/\y<=4294967295)(hq:S.q+1<=18446744073709551615) :
  Calls prog 26 #[.pointer (some ⟨p,0,none⟩),.agg #[.int .i64 10,.int .i64 a,.int .i64 b,.int .i64 s,.int .u32 g,.int .u8 o,.int .i64 k],.agg #[.int .i64 x,.int .u32 y]] w λe w'=>e=.returned (nX S x y).2.v/\Goes F w w' (λF'=>fw K w' p F' kd d (nX S x y).1):=by
 have hF:=aP.lt h;rw[WU];have kk:=λW (hW:ae [] w W)=>P6 (aP.ag h hW:fw K W p F kd d S) x y hy;generalize nX S x y=z at *;obtain⟨S2,rc,rh,rs,rg,rk,rn⟩:=z;dsimp only at *;clear h ha hk hy hq;have xV:w.heap.size+1+1∉F:=λe=>by have:=hF _ e;omega
 have xu:w.heap.size+1+1+1∉F:=λe=>by have:=hF _ e;omega
 have FIN:=χ (λ(W w1 X:World) (F1:List Nat) (hW:ae [] w W) (hP:fw K w1 p F1 kd d S2) (hu:ae F W w1) (hf:∀x,x∈F1->x∈F\/W.heap.size<=x) (hX:ae [w.heap.size+1+1,w.heap.size+1+1+1] w1 X) (hB:∀b,b∈[w.heap.size+1+1,w.heap.size+1+1+1]->w.heap.size<=b/\b<W.heap.size)=>fw.fin hW hF hP hu hf hX hB);clear hF
 go_enter func26,ntmps26
 (go_upto_region 2 with(fail);refine bG (λW=>Q7 W (w.heap.size) (10) a b s g o k/\Q2 W (w.heap.size+1) x y/\(Q6 W (w.heap.size+1+1) 0 0 0 0 0 0/\Z6 W (w.heap.size+1+1))/\(Q6 W (w.heap.size+1+1+1) 0 0 0 0 0 0/\Z6 W (w.heap.size+1+1+1))/\ae [] w W/\w.heap.size+4<=W.heap.size) ⟨{},{},⟨{},{}⟩,⟨{},{}⟩,β,σ⟩ ?_;rintro W ⟨⟨qo,qa,qb,qs,qg,qd,qk⟩,⟨qx,qy⟩,⟨ht,htz⟩,⟨hr,hrz⟩,hW,hs4⟩)
 have kk:=kk W hW
 go_wp2_with (first
  |((go_at_call 45;(with_reducible refine(kk).mono ?_));rintro e w1 ⟨rfl,F1,hP1,hu1,hf1⟩;(obtain⟨v0,v1,v2,v3,v4,v5⟩:=hr.kept hu1 xu;obtain⟨VX,XE,Og,VJ,WS,XY⟩:=hrz.kept hr hu1 xu;obtain⟨u0,u1,u2,u3,u4,u5⟩:=ht.kept hu1 xV;obtain⟨Xh,VU,We,XP,W9,V7⟩:=htz.kept ht hu1 xV))
  | fail)
 exact bodyPost_ret (v:=.agg #[.int .i64 rc,.int .i64 rh,.int .i64 0,.int .u32 0,.int .i64 0,.int .i64 0]) (by simp[results,results26,go_sem,v0,v1,v2,v3,v4,v5,u0,u1,u2,u3,u4,u5]) rfl ⟨rfl,FIN.out W w1 _ F1 hW hP1 hu1 hf1 (by(repeat(refine ae.setCell ?_ (Α σ) _));exact ae.refl _ _) (λb hb=>by simp at hb;omega)⟩
theorem aal(h:fw K w p F kd d S)(op a b s g o k x y:Int)(hop:op<1\/10<op) :
  Calls prog 26 #[.pointer (some ⟨p,0,none⟩),.agg #[.int .i64 op,.int .i64 a,.int .i64 b,.int .i64 s,.int .u32 g,.int .u8 o,.int .i64 k],.agg #[.int .i64 x,.int .u32 y]] w λe w'=>e=.returned (sN 0).v/\Goes F w w' (λF'=>fw K w' p F' kd d S):=by
 have HS:=χ (λW (hW:ae [] w W)=>fw.same h hW);have n1:(op == 1)=false:=ζ;have n2:(op == 2)=false:=ζ;have n3:(op == 3)=false:=ζ;have n4:(op == 4)=false:=ζ;have n5:(op == 5)=false:=ζ;have n6:(op == 6)=false:=ζ;have n7:(op == 7)=false:=ζ;have n8:(op == 8)=false:=ζ;have n9:(op == 9)=false:=ζ;have n10:(op == 10)=false:=ζ;clear h hop
 go_enter func26,ntmps26
 (go_upto_region 2 with(fail);refine bG (λW=>Q7 W (w.heap.size) (op) a b s g o k/\Q2 W (w.heap.size+1) x y/\(Q6 W (w.heap.size+1+1) 0 0 0 0 0 0/\Z6 W (w.heap.size+1+1))/\(Q6 W (w.heap.size+1+1+1) 0 0 0 0 0 0/\Z6 W (w.heap.size+1+1+1))/\ae [] w W/\w.heap.size+4<=W.heap.size) ⟨{},{},⟨{},{}⟩,⟨{},{}⟩,β,σ⟩ ?_;rintro W ⟨⟨qo,qa,qb,qs,qg,qd,qk⟩,⟨qx,qy⟩,⟨ht,htz⟩,⟨hr,hrz⟩,hW,hs4⟩)
 obtain⟨r0,r1,r2,r3,r4,r5⟩:=hr;obtain⟨MJ,JS,fr2,fr3,fr4,fr5⟩:=hrz;obtain⟨t0,t1,t2,t3,t4,t5⟩:=ht;obtain⟨ZN,ft1,ft2,ft3,ft4,ft5⟩:=htz;go_wp2;exact bodyPost_ret (v:=.agg #[.int .i64 0,.int .i64 0,.int .i64 0,.int .u32 0,.int .i64 0,.int .i64 0]) (by simp[results,results26,go_sem,r0,r1,r2,r3,r4,r5,t0,t1,t2,t3,t4,t5]) rfl ⟨rfl,HS.out _ (by(iterate 6 (refine ae.setCell ?_ (Β (by show w.heap.size<=w.heap.size+1+1;omega)) _));exact hW)⟩
theorem tJ(h:fw K w p F kd d S)(a:Ac)(ha:a.Ok)(x y:Int)(hy:0<=y/\y<=4294967295)(hq:S.q+1<=18446744073709551615) :
  Calls prog 26 #[.pointer (some ⟨p,0,none⟩),a.v,.agg #[.int .i64 x,.int .u32 y]] w λe w'=>e=.returned (a.run S x y).2.v/\Goes F w w' (λF'=>fw K w' p F' kd d (a.run S x y).1):=by
 obtain⟨op,aa,bb,ss,gg,oo,kk⟩:=a;obtain⟨h1,h2,h3,h4,h5,h6⟩:=ha;dsimp only at *;unfold Ac.run Ac.v;dsimp only
 by_cases e1:op=1
 ·subst e1;simp only[reduceIte,Int.reduceEq];exact Z5 h aa bb ss gg oo kk x y h1 h4 hy hq
 rw[Γ e1]
 by_cases e2:op=2
 ·subst e2;simp only[reduceIte,Int.reduceEq];exact aba h aa bb ss gg oo kk x y h1 h4 hy hq
 rw[Γ e2]
 by_cases e3:op=3
 ·subst e3;simp only[reduceIte,Int.reduceEq];exact Y5 h aa bb ss gg oo kk x y h1 h4 hy hq
 rw[Γ e3]
 by_cases e4:op=4
 ·subst e4;simp only[reduceIte,Int.reduceEq];exact aa3 h aa bb ss gg oo kk x y h1 h4 hy hq
 rw[Γ e4]
 by_cases e5:op=5
 ·subst e5;simp only[reduceIte,Int.reduceEq];exact ZY h aa bb ss gg oo kk x y h1 h4 hy hq
 rw[Γ e5]
 by_cases e6:op=6
 ·subst e6;simp only[reduceIte,Int.reduceEq];exact ZB h aa bb ss gg oo kk x y h1 h4 hy hq
 rw[Γ e6]
 by_cases e7:op=7
 ·subst e7;simp only[reduceIte,Int.reduceEq];exact Y2 h aa bb ss gg oo kk x y h1 h4 hy hq
 rw[Γ e7]
 by_cases e8:op=8
 ·subst e8;simp only[reduceIte,Int.reduceEq];exact ZW h aa bb ss gg oo kk x y h1 h4 hy hq
 rw[Γ e8]
 by_cases e9:op=9
 ·subst e9;simp only[reduceIte,Int.reduceEq];exact ZM h aa bb ss gg oo kk x y h1 h4 hy hq
 rw[Γ e9]
 by_cases e10:op=10
 ·subst e10;simp only[reduceIte,Int.reduceEq];exact Xm h aa bb ss gg oo kk x y h1 h4 hy hq
 rw[Γ e10];exact aal h op aa bb ss gg oo kk x y ω
end
end Go.Proofs.YtnpdakpagnpanaaGreat
