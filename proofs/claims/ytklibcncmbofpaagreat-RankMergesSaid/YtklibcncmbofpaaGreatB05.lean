/-
  Lemmas for RankMerges: Sy5, Sy6, Cells3, Fam. Conditions: those of each lemma.
-/
import Derived.Test.YtklibcncmbofpaaGreatB01
set_option linter.all false
set_option maxHeartbeats 8000000
set_option maxRecDepth 10000
namespace Go.Proofs.YtklibcncmbofpaaGreat
open Go Go.RowKit
theorem KH {α:Type} {X:List α} {k:Nat} {x:α} (h:X.drop k=x::X.drop (k+1)):X.take (k+1)=X.take k++[x]:=by
 rw [ϐ];congr 1;have:=congrArg (fun l=>l[0]?) h;simp at this;rw [this];rfl
theorem IW (w:World) (g n cap a b:Nat) (P X S:List Pl) (hP:PR w g (P++(X++S))) (hn:(P++(X++S)).length=n) (hc:n<=1000000) (ha:a=P.length) (hb:b=a+X.length) :
  Calls Tryz.prog 105 #[.slice (some ⟨g,0,none⟩) n cap,.int .i64 (a:Int),.int .i64 (b:Int),.func (.func 73) #[] #[]] w fun e w'=>e=.returned (.tuple #[])/\∃C,C.Perm X/\eY C/\PR w' g (P++(C++S))/\aa [g] w w':=by
 have hnl:=hn;simp only [υ] at hnl;have hbn:b<=n:=ω;have hab:a<=b:=ω;have w1:IntKind.i64.wrap ((a:Int)+1)=(a:Int)+1:=Μ _ ω;have HB:=χ (ψ hP (ψ ha (ψ hb hnl)));clear hP hn ha hb hnl
 go_enter Tryz.func105,Tryz.ntmps105
 go_wp2
 go_loopw [8,9] (fun iv _ wr=>∃ (i:Nat) (C:List Pl),iv=.int .i64 (i:Int)/\a+1<=i/\(i<=b\/b=a/\i=a+1)/\C.Perm (X.take (i-a))/\eY C/\PR wr g (P++(C++(X.drop (i-a)++S)))/\aa [g] w wr) (fun iv _ _=>n-(intOf iv).toNat)
 case atStart=>
  refine ⟨a+1,X.take 1,rfl,Θ _,?_,by rw [show a+1-a=1 by omega],?_,?_,aa.refl _ _⟩
  ·omega
  ·match X with
   | []=>exact List.Pairwise.nil
   | [x]=>exact List.pairwise_singleton _ _
   | x::_::_=>exact List.pairwise_singleton _ _
  ·rw [show a+1-a=1 by omega,←ϋ (X.take 1),ϝ];exact HB.out.1
 case round=>
  obtain ⟨i,C,rfl,hi,hib,hpm,hst,oh,hu⟩:=hrel;rename World=>wr
  by_cases hlt:i<b
  ·have yZ:(i:Int)<(b:Int):=ω;have hin:i<n:=ω;have w2:IntKind.i64.wrap ((i:Int)+1)=(i:Int)+1:=Μ _ ω;have hkX:i-a<X.length:=by have:=HB.out;omega
   obtain ⟨x,hx⟩:∃x,X.drop (i-a)=x::X.drop (i-a+1):=⟨X[i-a],ϡ hkX⟩;have IY:C.length=i-a:=by rw [hpm.length_eq,ϑ];omega
   have hxt:=KH hx;obtain ⟨R,hR⟩:∃R,X.drop (i-a+1)++S=R:=⟨_,rfl⟩;have hP1:PR wr g (P++(C++x::([]++R))):=oh.len (by rw [hx,←hR];simp);have HI:=χ (ψ hpm (ψ hst (ψ hxt (ψ hR IY))));clear oh hx hpm hst hxt hR;go_wp2
   go_loopw [9] (fun jv wr=>∃ (j:Nat) (C1 C2:List Pl),jv=.int .i64 (j:Int)/\C=C1++C2/\j=a+C1.length/\(∀y,y∈C2->mo x y)/\PR wr g (P++(C1++x::(C2++R)))/\aa [g] w wr) (fun jv _=>(intOf jv).toNat)
   case atStart=>exact ⟨i,C,[],rfl,σ,by have:=HI.out;omega,σ,hP1,hu⟩
   case round=>
    clear hP1 hu;obtain ⟨j,C1,C2,rfl,hC,hj,hge,oh,hu⟩:=hrel;rename World=>wr;have hjn:j<=i:=by have:=HI.out.2.2.2.2;rw [hC,υ] at this;omega
    rcases List.eq_nil_or_concat C1 with rfl|⟨C0,z,rfl⟩
    ·have hja:j=a:=by simpa using hj
     have HE:=χ (ψ hC (ψ hge oh));subst hja;clear hC hge oh hj;go_wp2
     go_quiet (fail)
     go_wp2
     go_roundw
     case rel=>
      obtain ⟨h1,h2,h3,h4,h5⟩:=HI.out;obtain ⟨e1,e2,e3⟩:=HE.out;rw [ϟ] at e1;subst e1;refine ⟨i+1,x::C,rfl,ω,Α ω,?_,List.pairwise_cons.2 ⟨e2,h2⟩,?_,β⟩
      ·rw [show i+1-j=i-j+1 by omega,h3];exact (List.Perm.cons x (by simpa using h1)).trans (ϙ x _).symm
      ·rw [show i+1-j=i-j+1 by omega,h4];exact (e3.len σ).upd (S:=[]) β σ
     case measure=>simp [intOf];omega
    ·rw [List.concat_eq_append] at hC hj oh;rw [υ,List.length_singleton] at hj;obtain ⟨k,hk⟩:∃k:Nat,k+1=j:=⟨j-1,ω⟩;have w7:IntKind.i64.wrap ((j:Int)-1)=(k:Int):=by rw [Μ _ ω];omega
     have hjg:decide ((j:Int) > (a:Int))=true:=ζ;have hjg2:decide (a<j)=true:=ζ;have hajI:(a:Int)<(j:Int):=ω;have hP':PR wr g ((P++C0)++z::([]++x::(C2++R))):=oh.len σ;have i1:k=(P++C0).length:=by have:=HB.out.2.1;simp;omega
     have i2:j=(P++C0).length+(([]:List Pl).length+1):=by have:=HB.out.2.1;simp;omega
     obtain ⟨⟨c0,c1⟩,c2,c3⟩:=hP'.mid i1 i2;have zb:=hP'.s z σ;have xb:=hP'.s x σ;have kc:=fun W=>rq x z xb zb W;have hgl:=hP'.lt;have g1:(k:Int)<(n:Int):=ω;have g2:(j:Int)<(n:Int):=ω;have hne:¬k=j:=ω;have y0:∀W,aa [] wr W->W.cell? ⟨g,k*2,none⟩=some (.int .i64 (z.1:Int)):=fun W h=>h.was c0;have y1:∀W,aa [] wr W->W.cell? ⟨g,k*2+1,none⟩=some (.int .i64 (z.2:Int)):=fun W h=>h.was c1;have q0:∀W,aa [] wr W->W.cell? ⟨g,j*2,none⟩=some (.int .i64 (x.1:Int)):=fun W h=>h.was c2;have q1:∀W,aa [] wr W->W.cell? ⟨g,j*2+1,none⟩=some (.int .i64 (x.2:Int)):=fun W h=>h.was c3
     have HE:=χ (ψ hC (ψ hj (ψ hge (ψ hP' (ψ i1 (ψ i2 hk))))));clear hC hge oh hP' i1 i2 hk hj c0 c1 c2 c3;cases hcmp:decide (Ff x z<0) with
     | true=>
      have HC:=χ ((mV _ _).1 hcmp);go_wp2
      go_region_held3 (aa [] wr) (first|assumption|(refine aa.drew ?_;first|assumption|exact aa.refl _ _)|(apply aa.trans;rotate_left;assumption;assumption))
       (first|((go_at_call 73;(with_reducible refine (kc _).mono ?_));rintro e w6 ⟨rfl,fq⟩;(have FJ:aa [] wr w6:=aa.trans (by (first|assumption|(refine aa.drew ?_;first|assumption|exact aa.refl _ _)|(apply aa.trans;rotate_left;assumption;assumption))) fq)))
      have c0:=y0 w6 FJ;have c1:=y1 w6 FJ;have c2:=q0 w6 FJ;have c3:=q1 w6 FJ;have pK:=HE.out.2.2.2.1.upd FJ σ;have f0:=pK.f (k*2);have f1:=pK.f (k*2+1);have f2:=pK.f (j*2);have f3:=pK.f (j*2+1);have hgl6:=pK.lt;have HS:=χ (pK.swap HE.out.2.2.2.2.1 HE.out.2.2.2.2.2.1);have huw:=hu.trans (FJ.mono σ);clear pK y0 y1 q0 q1 hu kc;go_wp2
      go_region
      all_goals
       go_wp2;obtain ⟨h1,h2,h3,h4,h5,h6,h7⟩:=HE.out;refine ⟨⟨k,C0,z::C2,rfl,by rw [h1];simp,ω,?_,?_,β⟩,by simp [intOf];omega⟩
       ·intro y hy;rcases ρ.1 hy with rfl|hy
        ·exact mo.of_lt HC.out
        ·exact h3 y hy
       ·exact (o5 HS.out (by first|exact Α rfl|exact Β rfl)).drew.len σ
     | false=>
      have HC:=χ (show ¬DR x z from fun hl=>by have:=(mV x z).2 hl;rw [hcmp] at this;cases this);go_wp2
      go_region_held3 (aa [] wr) (first|assumption|(refine aa.drew ?_;first|assumption|exact aa.refl _ _)|(apply aa.trans;rotate_left;assumption;assumption))
       (first|((go_at_call 73;(with_reducible refine (kc _).mono ?_));rintro e w6 ⟨rfl,fq⟩;(have FJ:aa [] wr w6:=aa.trans (by (first|assumption|(refine aa.drew ?_;first|assumption|exact aa.refl _ _)|(apply aa.trans;rotate_left;assumption;assumption))) fq)))
      go_wp2
      go_roundw
      case rel=>
       obtain ⟨h1,h2,h3,h4,h5⟩:=HI.out;obtain ⟨e1,e2,e3,e4, -⟩:=HE.out;subst e1;refine ⟨i+1,(C0++[z])++x::C2,rfl,ω,Α ω,?_,?_,?_,hu.trans (aa.mono (S:=[]) ν σ)⟩
       ·rw [show i+1-a=i-a+1 by omega,h3];exact List.perm_middle.trans ((List.Perm.cons x h1).trans (ϙ x _).symm)
       ·refine QK h2 (fun y hy=>?_) e3;have hzx:mo z x:=mo.Ck HC.out;rcases τ.1 hy with hy|hy
        ·have h6:=(List.pairwise_append.1 (List.pairwise_append.1 h2).1).2.2 y hy z σ;exact h6.trans hzx
        ·obtain rfl:y=z:=by simpa using hy
         exact hzx
       ·rw [show i+1-a=i-a+1 by omega,h4];exact (e4.len σ).upd (S:=[]) ν σ
      case measure=>simp [intOf];omega
  ·have yZ:¬ (i:Int)<(b:Int):=ω;have HE:=χ (ψ hpm (ψ hst (ψ oh hu)));clear hpm hst oh hu;go_wp2;go_end0;obtain ⟨h1,h2,h3,h4⟩:=HE.out;refine ⟨rfl,C,?_,h2,h3.len ?_,h4⟩
   ·rwa [List.take_of_length_le (by have:=HB.out;omega)] at h1
   ·rw [List.drop_eq_nil_of_le (by have:=HB.out;omega)];simp
theorem GJ (w:World) (g n cap:Nat) (l:List Pl) (hP:PR w g l) (hn:l.length=n) (hc:n<=1000000) :
  Calls Tryz.prog 86 #[.slice (some ⟨g,0,none⟩) n cap,.int .i64 (n:Int),.func (.func 73) #[] #[]] w fun e w'=>e=.returned (.tuple #[])/\∃C,C.Perm l/\eY C/\PR w' g C/\aa [g] w w':=by
 have HB:=χ (ψ hP hn);have hgl:=hP.lt;clear hP hn
 go_enter Tryz.func86,Tryz.ntmps86
 go_wp2
 go_loopw [7,8] (fun av bv wr=>∃ (a b:Nat) (D R:List Pl),av=.int .i64 (a:Int)/\bv=.int .i64 (b:Int)/\b=a+20/\a<=n/\a=D.length/\(D++R).Perm l/\(∀R',CL 20 R'->CL 20 (D++R'))/\PR wr g (D++R)/\aa [g] w wr) (fun _ bv _=>n+21-(intOf bv).toNat)
 case atStart=>exact ⟨0,20,[],l,rfl,rfl,rfl,Nat.zero_le _,rfl,ό _,fun _ h=>h,HB.out.1,aa.refl _ _⟩
 case round=>
  obtain ⟨a,b,D,R,rfl,rfl,wM,ZE,ha,hpm,hD,oh,hu⟩:=hrel;rename World=>wr;have hlen:D.length+R.length=n:=by have h:=hpm.length_eq;rw [υ] at h;have:=HB.out.2;omega
  by_cases hbn:b<=n
  ·have QX:(b:Int)<=(n:Int):=ω;have XW:¬ (n:Int)<(b:Int):=ω;have w1:IntKind.i64.wrap ((b:Int)+20)=((b+20:Nat):Int):=by rw [Μ _ ω];omega
   have hR:R=R.take 20++R.drop 20:=(ϝ _ _).symm;have hl2:(R.take 20).length=20:=by rw [ϑ];omega
   have kc:=IW wr g n cap a b D (R.take 20) (R.drop 20) (oh.len (by rw [←hR])) (by rw [←hR,υ];omega) hc ha ω;have HE:=χ (ψ ha (ψ hpm (ψ hD (ψ hR (ψ hl2 wM)))));clear oh hR hl2 ha hpm hD hlen wM
   go_wp2_with (first|((go_at_call 105;(with_reducible refine (kc).mono ?_));rintro e w1 ⟨rfl,C,h1,h2,h3,h4⟩)|fail)
   go_roundw
   case rel=>
    obtain ⟨e1,e2,e3,e4,e5,e6⟩:=HE.out;have IY:C.length=20:=by rw [h1.length_eq,e5]
    refine ⟨b,b+20,D++C,R.drop 20,rfl,by go_num,rfl,hbn,by rw [υ];omega,?_,fun R' hR'=>?_,h3.len σ,hu.trans h4⟩
    ·refine Ϣ ?_ e2;rw [ϋ];refine List.Perm.append_left _ ?_
     conv=>rhs;rw [e4]
     exact List.Perm.append_right _ h1
    ·rw [ϋ];exact e3 _ (.cons C R' IY h2 hR')
   case measure=>simp [intOf];omega
  ·have QX:¬ (b:Int)<=(n:Int):=ω;have kc:=IW wr g n cap a n D R [] (oh.len σ) ζ hc ha ω;have HE:=χ (ψ hpm (ψ hD (ψ hlen (ψ ha wM))));clear oh ha hpm hD hlen wM
   go_wp2_with (first|((go_at_call 105;(with_reducible refine (kc).mono ?_));rintro e w1 ⟨rfl,C,h1,h2,h3,h4⟩)|fail)
   have HS:Hid (∃L:List Pl,L.Perm l/\CL 20 L/\PR w1 g L/\aa [g] w w1):=χ (by
    obtain ⟨e1,e2,e3,e4,e5⟩:=HE.out;have IY:=h1.length_eq
    exact ⟨D++C,(List.Perm.append_left _ h1).trans e1,e2 _ (.last C ω h2),h3.len σ,hu.trans h4⟩)
   clear h1 h2 h3 h4 hu HE kc hbn QX
   go_loopw [6,7,8,9] (fun sv _ _ _ wr=>∃ (bs:Nat) (L:List Pl),sv=.int .i64 (bs:Int)/\20<=bs/\bs<=2000020/\L.Perm l/\CL bs L/\PR wr g L/\aa [g] w wr) (fun sv _ _ _ _=>n-(intOf sv).toNat)
   case atStart=>
    obtain ⟨L,h1,h2,h3,h4⟩:=HS.out;exact ⟨20,L,rfl,ω,ω,h1,h2,h3,h4⟩
   case round=>
    obtain ⟨bs,L,rfl,hb1,hb2,hpm,ZQ,oh,hu⟩:=hrel;rename World=>wr
    by_cases hlt:bs<n
    ·have yZ:(bs:Int)<(n:Int):=ω;obtain ⟨b2,Yd⟩:∃b2:Nat,2*bs=b2:=⟨_,rfl⟩;have w1:IntKind.i64.wrap (2*(bs:Int))=(b2:Int):=by rw [Μ _ ω];omega
     have w2:IntKind.i64.wrap ((bs:Int)*2)=(b2:Int):=by rw [Μ _ ω];omega
     have HE:=χ (ψ hpm (ψ ZQ (ψ oh (ψ hu Yd))));clear hpm ZQ oh hu Yd;go_wp2
     go_loopw [7,8] (fun av bv wr=>∃ (a b:Nat) (D R:List Pl),av=.int .i64 (a:Int)/\bv=.int .i64 (b:Int)/\b=a+b2/\a<=n/\a=D.length/\(D++R).Perm l/\CL bs R/\(∀R',CL b2 R'->CL b2 (D++R'))/\PR wr g (D++R)/\aa [g] w wr) (fun _ bv _=>n+b2+1-(intOf bv).toNat)
     case atStart=>exact ⟨0,b2,[],L,rfl,rfl,ω,Nat.zero_le _,rfl,HE.out.1,HE.out.2.1,fun _ h=>h,HE.out.2.2.1,HE.out.2.2.2.1⟩
     case round=>
      obtain ⟨a,b,D,R,rfl,rfl,wM,ZE,ha,hpm,ZU,hD,oh,hu⟩:=hrel;rename World=>wr;have hlen:D.length+R.length=n:=by have h:=hpm.length_eq;rw [υ] at h;have:=HB.out.2;omega
      have w3:IntKind.i64.wrap ((a:Int)+(bs:Int))=((a+bs:Nat):Int):=by rw [Μ _ (by have:=HE.out;omega)];omega
      obtain ⟨m,hm⟩:∃m,a+bs=m:=⟨_,rfl⟩;rw [hm] at w3
      by_cases hbn:b<=n
      ·have QX:(b:Int)<=(n:Int):=ω;obtain ⟨b3,hb3⟩:∃b3,b+b2=b3:=⟨_,rfl⟩;have w4:IntKind.i64.wrap ((b:Int)+(b2:Int))=(b3:Int):=by rw [Μ _ (by have:=HE.out;omega)];omega
       obtain ⟨C1,C2,R',rfl,hc1,hc2,s1,s2,Nv⟩:=ZU.two ω (by have:=HE.out;omega);have kc:=Jw g n cap hc (C1.length+C2.length) wr a m b D C1 C2 R' (Θ _) oh (by rw [υ];exact hlen) ha ω (by have:=HE.out;omega) ω ω s1 s2;have HF:=χ (ψ ha (ψ hpm (ψ Nv (ψ hD (ψ wM (ψ hb3 (ψ hc1 (ψ hc2 hm))))))));clear oh ha hpm Nv hD wM hb3 hc1 hc2 hm hlen;unfold jZ at kc
       go_wp2_with (first|((go_at_call 106;(with_reducible refine (kc).mono ?_));rintro e w1 ⟨rfl,C,h1,h2,h3,h4⟩)|fail)
       go_roundw
       case rel=>
        obtain ⟨e1,e2,e3,e4,e5,e6,e7,e8,e9⟩:=HF.out;have IY:=h1.length_eq;rw [υ] at IY;have hb:=HE.out.2.2.2.2;refine ⟨b,b3,D++C,R',rfl,rfl,ω,hbn,by rw [υ];omega,?_,e3,fun R'' hR''=>?_,h3.len σ,hu.trans h4⟩
        ·refine Ϣ ?_ e2;rw [ϋ];refine List.Perm.append_left _ ?_;rw [←ϋ];exact List.Perm.append_right _ h1
        ·rw [ϋ];exact e4 _ (.cons C R'' ω h2 hR'')
       case measure=>simp [intOf];have:=HF.out;have:=HE.out;omega
      ·have QX:¬ (b:Int)<=(n:Int):=ω
       by_cases Cu:m<n
       ·have hmnI:(m:Int)<(n:Int):=ω;obtain ⟨C1,R',rfl,hc1,s1,Nv⟩:=ZU.one ω;rw [υ] at hlen;have s2:=Nv.small (by have:=HE.out;omega);have kc:=Jw g n cap hc (C1.length+R'.length) wr a m n D C1 R' [] (Θ _) (oh.len σ) ζ ha ω ω ω ω s1 s2;have HF:=χ (ψ hpm (ψ hD (ψ hlen (ψ ha (ψ wM hm)))));clear oh ha hpm Nv hD wM hm hlen;unfold jZ at kc
        go_wp2_with (first|((go_at_call 106;(with_reducible refine (kc).mono ?_));rintro e w1 ⟨rfl,C,h1,h2,h3,h4⟩)|fail)
        go_roundw
        case rel=>
         obtain ⟨e1,e2,e3,e4,e5,e6⟩:=HF.out;have IY:=h1.length_eq;rw [υ] at IY;have hb:=HE.out.2.2.2.2;exact ⟨b2,D++C,rfl,ω,ω,(List.Perm.append_left _ h1).trans e1,e2 _ (.last C ω h2),h3.len σ,hu.trans h4⟩
        case measure=>simp [intOf];have:=HE.out;omega
       ·have hmnI:¬ (m:Int)<(n:Int):=ω;have s1:=ZU.small ω;have HF:Hid (PR wr g (D++R)/\(D++R).Perm l/\CL b2 (D++R)/\aa [g] w wr):=χ ⟨oh,hpm,hD _ (.last R (by have:=HE.out;omega) s1),hu⟩;clear oh ha hpm ZU hD wM hm hlen hu;go_wp2
        go_roundw
        case rel=>exact ⟨b2,D++R,rfl,by have:=HE.out;omega,by have:=HE.out;omega,HF.out.2.1,HF.out.2.2.1,HF.out.1,HF.out.2.2.2⟩
        case measure=>simp [intOf];have:=HE.out;omega
    ·have yZ:¬ (bs:Int)<(n:Int):=ω;have hs:=ZQ.small (by have:=hpm.length_eq;have:=HB.out.2;omega);have HF:=χ (ψ hpm (ψ hs (ψ oh hu)));clear hpm hs oh hu ZQ;go_wp2;go_end0;exact ⟨rfl,L,HF.out.1,HF.out.2.1,HF.out.2.2.1,HF.out.2.2.2⟩
theorem xX (w:World) (g n cap:Nat) (l:List Pl) (hP:PR w g l) (hn:l.length=n) (hc:n<=1000000) :
  Calls Tryz.prog 72 #[.slice (some ⟨g,0,none⟩) n cap,.func (.func 73) #[] #[]] w fun e w'=>e=.returned (.tuple #[])/\∃C,C.Perm l/\eY C/\PR w' g C/\aa [g] w w':=by
 have kc:=GJ w g n cap l hP hn hc;have hgl:=hP.lt;clear hP hn
 go_enter Tryz.func72,Tryz.ntmps72
 go_wp2_with (first|((go_at_call 86;(with_reducible refine (kc).mono ?_));rintro e w1 ⟨rfl,h⟩)|fail)
 go_end0;exact ⟨rfl,h⟩
theorem Gq {A:NS} {x:Nat} (hx:x<A.cs.length) (hz:0<(A.c x).i) (q:Int) :
  (if q=(A.c x).i then (if (dA A (A.c x).i:Int)-1=0 then none else some ((dA A (A.c x).i:Int)-1)) else ic A q)=ic (gT A x Cl.z) q:=by
 have:=nS A x Cl.z q hx;have hp:0<dA A (A.c x).i:=dL.2 ⟨x,hx,rfl,hz⟩;unfold ic
 by_cases e:q=(A.c x).i
 ·subst e;rw [Δ rfl];rw [Δ ⟨rfl,hz⟩,Γ (show ¬ (Cl.z.i=(A.c x).i/\0<(A.c x).i) from fun h=>by have:(0:Int)=(A.c x).i:=h.1;omega)] at this
  by_cases h1:dA A (A.c x).i=1
  ·rw [Δ ω,Γ ω]
  ·rw [Γ ω,Δ ω]
   congr 1;omega
 ·rw [Γ e];rw [Γ (fun h=>e h.1.symm),Γ (show ¬ (Cl.z.i=q/\0<q) from fun h=>by have:(0:Int)=q:=h.1;omega)] at this;simp only [ϖ] at this;rw [this]
theorem fQ {w:World} {c st:Nat} {F:List Nat} {A:NS} (h:aB w c F A st) (x:Nat) (hx:bP A x=true) :
  Calls Tryz.prog 151 #[.pointer (some ⟨c,0,none⟩),.int .i64 (x:Int)] w fun e w'=>e=.returned (.bool true)/\aB w' c F (aL A x) st/\aa F w w':=by
 have k:=iK h x hx;obtain ⟨hx1,hx2⟩:=(aj _ _).1 hx;have hrng:=h.ok.nat x hx1;have hA1:=h.ok.h1;have hA2:=h.ok.c1;obtain ⟨hh,hhe⟩:∃r:Nat,(A.c x).i=r:=⟨(A.c x).i.toNat,ω⟩;have hp:0<dA A (hh:Int):=dL.2 ⟨x,hx1,hhe,ω⟩;have hlen:=Cf h.ok (hh:Int);have hM:=fun q=>Gq hx1 hx2 q;have ok':=tV h.ok x;have e:aL A (x:Int)=gT A x Cl.z:=by unfold aL;rw [Δ hx];simp
 rw [hhe] at k hM hrng;have HE:=χ e;have HM:=χ hM;have zh:1<=hh:=ω;have HO:=χ ok';obtain ⟨len,hle⟩:∃n,n=A.cs.length:=⟨_,rfl⟩;have HL:=χ hle;clear h hx hM ok' e hle hx2 hhe;have hx1:x<len:=by have:=HL.out;omega
 obtain ⟨m,hm⟩:∃m:Int,m=(dA A (hh:Int):Int):=⟨_,rfl⟩;rw [←hm] at HM;have HZ:=χ hm;have hm1:0<m:=ω;have hm2:m<=65536:=ω;clear hm hp hlen
 go_enter Tryz.func151,Tryz.ntmps151
 go_wp2_with fail
 refine k.mono ?_;rintro e w1 ⟨rfl,hC,hu⟩;have hsz:=hu.size;have hlt:=hC.lt;obtain ⟨ca,nm,mb,g,cap,l,rt,dp,raw,h,rfl⟩:=hC;have c1:=h.c1;have c3:=h.c3;rw [←HL.out] at c1;have d0:=h.row.cell (x*3) (by rw [←HL.out];omega);have d1:=h.row.cell (x*3+1) (by rw [←HL.out];omega);have d2:=h.row.cell (x*3+2) (by rw [←HL.out];omega);have f0:=h.row.free (x*3);have f1:=h.row.free (x*3+1);have f2:=h.row.free (x*3+2);have l1:=hlt c σ;have l2:=hlt ca σ;have l3:=hlt mb σ;have hs:=h.sep;have H:=χ h;have HU:=χ hu;clear h hlt k hu
 have fin:∀ (w2:World),eO w2 mb (ic (gT A x Cl.z))->aa [mb] (((w1.setCell ⟨ca,x*3,none⟩ (.int .i64 0)).setCell ⟨ca,x*3+1,none⟩ (.int .i64 0)).setCell ⟨ca,x*3+2,none⟩ (.int .u64 0)) w2->
   aB w2 c [c,ca,nm,mb,g] (aL A x) st/\aa [c,ca,nm,mb,g] w w2:=fun w2 hm2 hu2=>by
  have hu3:aa [ca] w1 (((w1.setCell ⟨ca,x*3,none⟩ (.int .i64 0)).setCell ⟨ca,x*3+1,none⟩ (.int .i64 0)).setCell ⟨ca,x*3+2,none⟩ (.int .u64 0)):=β;have hr3:=(XO (i:=x) H.out.row Cl.z).upd hu2 ι;have jN:aa [ca,mb] w1 w2:=(hu3.mono ι).joined hu2 (fun y hy=>Α (by simp at hy;simp [hy]));refine ⟨⟨ca,nm,mb,g,cap,l,rt,dp,fun y=>if y=x then Cl.z else raw y,?_,rfl⟩,HU.out.trans (jN.mono ι)⟩;have ok':=HO.out;rw [HE.out] at ok' ⊢;exact H.out.turn jN hr3 hm2 ok' (dK _ _ _) rfl (yw H.out.rel (by rw [←HL.out];exact hx1) (Α ⟨rfl,rfl⟩))
 have FIN:=χ fin;clear fin
 by_cases h1:m=1
 ·have hb:(m-1 == 0)=true:=ζ;have H1:=χ h1;clear h1
  go_wp2_with (first
   | (at_lookup;refine jD (o:=⟨some 27,_,_,_,_,_⟩) (by rfl) _ _ (by rfl) mb (ic A) (by rfl) (H.out.many.upd (S:=[ca]) β ι) (hh:Int) (by rfl) ω m ((qG _ _).trans HZ.out.symm) ?_)
   | (at_lookup;refine jD (o:=⟨some 34,_,_,_,_,_⟩) (by rfl) _ _ (by rfl) mb _ (by rfl) hm2 (hh:Int) (by rfl) ω (m-1) σ ?_)
   | (at_mapUpdate;refine kG rfl _ _ _ rfl mb (ic A) rfl (H.out.many.upd (S:=[ca]) β ι) (hh:Int) (m-1) rfl rfl ω ω ?_;intro w2 hm2 hu2;(have q1:=hu2.cell (p:=⟨c,3,none⟩) (by simp;exact l1) ι))
   | (at_delete;refine mO rfl _ _ rfl mb _ rfl hm2 (hh:Int) rfl ω ?_;intro w3 CX hu3))
  go_ret
  have hm4:eO w3 mb (ic (gT A x Cl.z)):=eO.ext CX (fun q=>by
   rw [←HM.out q]
   by_cases e:q=(hh:Int)
   ·rw [Δ e,Δ e,Δ (by have:=H1.out;omega)]
   ·rw [Γ e,Γ e,Γ e])
  exact ⟨rfl,FIN.out w3 hm4 (hu2.trans hu3)⟩
 ·have hb:(m-1 == 0)=false:=ζ;have H1:=χ h1;clear h1
  go_wp2_with (first
   | (at_lookup;refine jD (o:=⟨some 27,_,_,_,_,_⟩) (by rfl) _ _ (by rfl) mb (ic A) (by rfl) (H.out.many.upd (S:=[ca]) β ι) (hh:Int) (by rfl) ω m ((qG _ _).trans HZ.out.symm) ?_)
   | (at_lookup;refine jD (o:=⟨some 34,_,_,_,_,_⟩) (by rfl) _ _ (by rfl) mb _ (by rfl) hm2 (hh:Int) (by rfl) ω (m-1) σ ?_)
   | (at_mapUpdate;refine kG rfl _ _ _ rfl mb (ic A) rfl (H.out.many.upd (S:=[ca]) β ι) (hh:Int) (m-1) rfl rfl ω ω ?_;intro w2 hm2 hu2;(have q1:=hu2.cell (p:=⟨c,3,none⟩) (by simp;exact l1) ι)))
  go_ret
  have hm4:eO w2 mb (ic (gT A x Cl.z)):=eO.ext hm2 (fun q=>by
   rw [←HM.out q]
   by_cases e:q=(hh:Int)
   ·rw [Δ e,Δ e,Γ (by have:=H1.out;omega)]
   ·rw [Γ e,Γ e])
  exact ⟨rfl,FIN.out w2 hm4 hu2⟩
structure ZO where
 at_:World->Nat->List Nat->List Nat->Prop
 upd:∀ {w w':World} {p:Nat} {G S L:List Nat},at_ w p G L->aa S w w'->(∀z,z∈S->z∉G)->at_ w' p G L
 lt:∀ {w:World} {p:Nat} {G L:List Nat},at_ w p G L->∀z,z∈G->z<w.heap.size
def zu (o:Option Nat):Value:=.pointer (o.map fun b=>⟨b,0,none⟩)
def zg (f:Nat->Option Nat) (m:Nat):List Value:=(List.range m).map fun h=>zu (f h)
theorem Mi {f:Nat->Option Nat} {m j:Nat} (h:j<m):(zg f m)[j]?=some (zu (f j)):=by unfold zg;simp [h]
theorem Gj (f:Nat->Option Nat) (m:Nat) (o:Option Nat):zg f m++[zu o]=zg (fun h=>if h=m then o else f h) (m+1):=by
 unfold zg;rw [List.range_succ,List.map_append]
 congr 1
 ·apply List.map_congr_left;intro a ha;have:=List.mem_range.1 ha
  show zu (f a)=zu (if a=m then o else f a)
  rw [Γ ω]
 ·simp
def jq {α:Type} (f:Nat->α) (h:Nat) (x:α):Nat->α:=fun k=>if k=h then x else f k
theorem bY {α:Type} (f:Nat->α) (h:Nat) (x:α):jq f h x h=x:=by unfold jq;rw [Δ rfl]
theorem bB {α:Type} (f:Nat->α) {h k:Nat} (x:α) (e:k≠h):jq f h x k=f k:=by unfold jq;rw [Γ e]
structure sV (K:ZO) (ety:TypeId) (w:World) (gr cr m:Nat) (has:Nat->Bool) (Z:List Nat) (ptr:Nat->Option Nat) (G L:Nat->List Nat):Prop where
 rows:w.ownsRow 0 ety 1 (.slice (some ⟨gr,0,none⟩) m cr) m (zg ptr m)
 row:∀h,has h=true->∃rp,ptr h=some rp/\K.at_ w rp (G h) (L h)
 wO:∀h,has h=true->∀z,z∈G h->z∈Z
 RG:∀h k,has h=true->has k=true->h≠k->∀z,z∈G h->z∉G k
 H8:∀z,z∈Z->z<w.heap.size
 Qz:gr∉Z
section
variable {K:ZO} {ety:TypeId} {w w':World} {gr cr m:Nat} {has:Nat->Bool} {Z:List Nat} {ptr:Nat->Option Nat} {G L:Nat->List Nat}
theorem sV.lt (h:sV K ety w gr cr m has Z ptr G L):gr<w.heap.size:=(h.rows.lt gr rfl).2
theorem sV.upd {S:List Nat} (h:sV K ety w gr cr m has Z ptr G L) (hu:aa S w w') (hS:∀z,z∈S->z≠gr/\z∉Z):sV K ety w' gr cr m has Z ptr G L:=
 ⟨aA h.rows hu (fun k hk hm=>by cases hk;exact (hS _ hm).1 rfl),fun g hg=>by
  obtain ⟨rp,e,hr⟩:=h.row g hg
  exact ⟨rp,e,K.upd hr hu (fun z hz hm=>(hS z hz).2 (h.wO g hg z hm))⟩,h.wO,h.RG,fun z hz=>Ψ (h.H8 z hz) hu.size,h.Qz⟩
theorem sV.cell (h:sV K ety w gr cr m has Z ptr G L) {g rp:Nat} (hg:g<m) (hp:ptr g=some rp):w.cell? ⟨gr,g,none⟩=some (.pointer (some ⟨rp,0,none⟩)):=by
 rw [h.rows.cellAt g ω,Mi hg,hp];rfl
theorem sV.one {S G' L':List Nat} {g rp:Nat} (h:sV K ety w gr cr m has Z ptr G L) (hg:has g=true) (hp:ptr g=some rp) (hu:aa S w w') (hS:∀z,z∈S->z∈G g\/(z≠gr/\z∉Z)) (hr:K.at_ w' rp G' L') (hG:∀z,z∈G'->z∈G g\/w.heap.size<=z) :
  sV K ety w' gr cr m has (Z++G') ptr (jq G g G') (jq L g L'):=by
 have hgl:=h.lt;have hgr:∀z,z∈S->z≠gr:=fun z hz e=>by
  rcases hS z hz with h1|h1
  ·exact h.Qz (by rw [←e];exact h.wO g hg z h1)
  ·exact h1.1 e
 have hoth:∀k,has k=true->k≠g->∀z,z∈S->z∉G k:=fun k hk hne z hz hm=>by
  rcases hS z hz with h1|h1
  ·exact h.RG g k hg hk (fun e=>hne e.symm) z h1 hm
  ·exact h1.2 (h.wO k hk z hm)
 refine ⟨aA h.rows hu (fun k hk hm=>by cases hk;exact hgr _ hm rfl),fun k hk=>?_,fun k hk z hz=>?_,fun k j hk hj hne z hz=>?_,fun z hz=>?_,fun hm=>?_⟩
 ·by_cases e:k=g
  ·subst e;rw [bY,bY];exact ⟨rp,hp,hr⟩
  ·rw [bB _ _ e,bB _ _ e];obtain ⟨q,e2,hq⟩:=h.row k hk;exact ⟨q,e2,K.upd hq hu (hoth k hk e)⟩
 ·by_cases e:k=g
  ·subst e;rw [bY] at hz;exact τ.2 (Β hz)
  ·rw [bB _ _ e] at hz;exact τ.2 (Α (h.wO k hk z hz))
 ·by_cases e:k=g
  ·subst e;rw [bY] at hz;rw [bB _ _ (fun e=>hne e.symm)];rcases hG z hz with h1|h1
   ·exact h.RG k j hk hj hne z h1
   ·exact fun hm=>by have:=h.H8 z (h.wO j hj z hm);omega
  ·rw [bB _ _ e] at hz
   by_cases e2:j=g
   ·subst e2;rw [bY];intro hm;rcases hG z hm with h1|h1
    ·exact h.RG k j hk hj hne z hz h1
    ·have:=h.H8 z (h.wO k hk z hz);omega
   ·rw [bB _ _ e2];exact h.RG k j hk hj hne z hz
 ·rcases τ.1 hz with h1|h1
  ·exact Ψ (h.H8 z h1) hu.size
  ·exact K.lt hr z h1
 ·rcases τ.1 hm with h1|h1
  ·exact h.Qz h1
  ·rcases hG gr h1 with h2|h2
   ·exact h.Qz (h.wO g hg gr h2)
   ·omega
theorem sV.snoc {S G' L':List Nat} {rp Wm ZJ:Nat} (h:sV K ety w gr cr m has Z ptr G L) (hm:has m=false) (hu:aa S w w') (hS:∀z,z∈S->z∉Z) (hr:K.at_ w' rp G' L') (hG:∀z,z∈G'->w.heap.size<=z) (hg1:Wm∉Z) (hg2:Wm∉G')
  (hrow:w'.ownsRow 0 ety 1 (.slice (some ⟨Wm,0,none⟩) (m+1) ZJ) (m+1) (zg ptr m++[zu (some rp)])) :
  sV K ety w' Wm ZJ (m+1) (fun h=>has h || h == m) (Z++G') (jq ptr m (some rp)) (jq G m G') (jq L m L'):=by
 have hcase:∀k,(has k || k == m)=true->k=m\/(k≠m/\has k=true):=fun k hk=>by
  by_cases e:k=m
  ·exact Α e
  ·right;simp [e] at hk;exact ⟨e,hk⟩
 refine ⟨by rw [Gj] at hrow;exact hrow,fun k hk=>?_,fun k hk z hz=>?_,fun k j hk hj hne z hz=>?_,fun z hz=>?_,fun hmm=>?_⟩
 ·rcases hcase k hk with rfl|⟨e,hk'⟩
  ·rw [bY,bY,bY];exact ⟨rp,rfl,hr⟩
  ·rw [bB _ _ e,bB _ _ e,bB _ _ e];obtain ⟨q,e2,hq⟩:=h.row k hk';exact ⟨q,e2,K.upd hq hu (fun z hz hm=>hS z hz (h.wO k hk' z hm))⟩
 ·rcases hcase k hk with rfl|⟨e,hk'⟩
  ·rw [bY] at hz;exact τ.2 (Β hz)
  ·rw [bB _ _ e] at hz;exact τ.2 (Α (h.wO k hk' z hz))
 ·rcases hcase k hk with rfl|⟨e,hk'⟩
  ·rcases hcase j hj with rfl|⟨e2,hj'⟩
   ·exact absurd rfl hne
   ·rw [bY] at hz;rw [bB _ _ e2];exact fun hm=>by have:=h.H8 z (h.wO j hj' z hm);have:=hG z hz;omega
  ·rw [bB _ _ e] at hz;rcases hcase j hj with rfl|⟨e2,hj'⟩
   ·rw [bY];exact fun hm=>by have:=h.H8 z (h.wO k hk' z hz);have:=hG z hm;omega
   ·rw [bB _ _ e2];exact h.RG k j hk' hj' hne z hz
 ·rcases τ.1 hz with h1|h1
  ·exact Ψ (h.H8 z h1) hu.size
  ·exact K.lt hr z h1
 ·rcases τ.1 hmm with h1|h1
  ·exact hg1 h1
  ·exact hg2 h1
end
end Go.Proofs.YtklibcncmbofpaaGreat
