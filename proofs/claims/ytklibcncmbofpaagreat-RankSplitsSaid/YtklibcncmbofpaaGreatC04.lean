/-
  Lemmas for RankSplits: Sy6, PlO, Cells3, Fam. Conditions: those of each lemma.
-/
import Derived.Deep.AppendLies
import Derived.Test.YtklibcncmbofpaaGreatC01
set_option linter.all false
set_option maxHeartbeats 8000000
set_option maxRecDepth 10000
namespace Go.Proofs.YtklibcncmbofpaaGreat
open Go Go.RowKit
theorem Ia (w:World) (g n cap:Nat) (l:List Pl) (hP:PR w g l) (hn:l.length=n) (hc:n<=1000000) :
  Calls Tryz.prog 86 #[.slice (some ⟨g,0,none⟩) n cap,.int .i64 (n:Int),.func (.func 73) #[] #[]] w fun e w'=>e=.returned (.tuple #[])/\∃C,C.Perm l/\fw C/\PR w' g C/\aa [g] w w':=by
 have HB:=χ (ψ hP hn);have hgl:=hP.lt;clear hP hn
 go_enter Tryz.func86,Tryz.ntmps86
 go_wp2
 go_loopw [7,8] (fun av bv wr=>∃ (a b:Nat) (D R:List Pl),av=.int .i64 (a:Int)/\bv=.int .i64 (b:Int)/\b=a+20/\a<=n/\a=D.length/\(D++R).Perm l/\(∀R',Cx 20 R'->Cx 20 (D++R'))/\PR wr g (D++R)/\aa [g] w wr) (fun _ bv _=>n+21-(intOf bv).toNat)
 case atStart=>exact ⟨0,20,[],l,rfl,rfl,rfl,Nat.zero_le _,rfl,ό _,fun _ h=>h,HB.out.1,aa.refl _ _⟩
 case round=>
  obtain ⟨a,b,D,R,rfl,rfl,xA,han,ha,hpm,hD,oo,hu⟩:=hrel;rename World=>wr;have hlen:D.length+R.length=n:=by have h:=hpm.length_eq;rw [υ] at h;have:=HB.out.2;omega
  by_cases hbn:b<=n
  ·have Sv:(b:Int)<=(n:Int):=ω;have hbI:¬ (n:Int)<(b:Int):=ω;have w1:IntKind.i64.wrap ((b:Int)+20)=((b+20:Nat):Int):=by rw [Μ _ ω];omega
   have hR:R=R.take 20++R.drop 20:=(Ϟ _ _).symm;have hl2:(R.take 20).length=20:=by rw [ϑ];omega
   have kc:=Jq wr g n cap a b D (R.take 20) (R.drop 20) (oo.len (by rw [←hR])) (by rw [←hR,υ];omega) hc ha ω;have HE:=χ (ψ ha (ψ hpm (ψ hD (ψ hR (ψ hl2 xA)))));clear oo hR hl2 ha hpm hD hlen xA
   go_wp2_with (first|((go_at_call 105;(with_reducible refine (kc).mono ?_));rintro e w1 ⟨rfl,C,h1,h2,h3,h4⟩)|fail)
   go_roundw
   case rel=>
    obtain ⟨e1,e2,e3,e4,e5,e6⟩:=HE.out;have IU:C.length=20:=by rw [h1.length_eq,e5]
    refine ⟨b,b+20,D++C,R.drop 20,rfl,by go_num,rfl,hbn,by rw [υ];omega,?_,fun R' hR'=>?_,h3.len σ,hu.trans h4⟩
    ·refine ϣ ?_ e2;rw [ϋ];refine List.Perm.append_left _ ?_
     conv=>rhs;rw [e4]
     exact List.Perm.append_right _ h1
    ·rw [ϋ];exact e3 _ (.cons C R' IU h2 hR')
   case measure=>simp [intOf];omega
  ·have Sv:¬ (b:Int)<=(n:Int):=ω;have kc:=Jq wr g n cap a n D R [] (oo.len σ) ζ hc ha ω;have HE:=χ (ψ hpm (ψ hD (ψ hlen (ψ ha xA))));clear oo ha hpm hD hlen xA
   go_wp2_with (first|((go_at_call 105;(with_reducible refine (kc).mono ?_));rintro e w1 ⟨rfl,C,h1,h2,h3,h4⟩)|fail)
   have HS:Hid (∃L:List Pl,L.Perm l/\Cx 20 L/\PR w1 g L/\aa [g] w w1):=χ (by
    obtain ⟨e1,e2,e3,e4,e5⟩:=HE.out;have IU:=h1.length_eq
    exact ⟨D++C,(List.Perm.append_left _ h1).trans e1,e2 _ (.last C ω h2),h3.len σ,hu.trans h4⟩)
   clear h1 h2 h3 h4 hu HE kc hbn Sv
   go_loopw [6,7,8,9] (fun sv _ _ _ wr=>∃ (bs:Nat) (L:List Pl),sv=.int .i64 (bs:Int)/\20<=bs/\bs<=2000020/\L.Perm l/\Cx bs L/\PR wr g L/\aa [g] w wr) (fun sv _ _ _ _=>n-(intOf sv).toNat)
   case atStart=>
    obtain ⟨L,h1,h2,h3,h4⟩:=HS.out;exact ⟨20,L,rfl,ω,ω,h1,h2,h3,h4⟩
   case round=>
    obtain ⟨bs,L,rfl,hb1,hb2,hpm,hBS,oo,hu⟩:=hrel;rename World=>wr
    by_cases hlt:bs<n
    ·have zi:(bs:Int)<(n:Int):=ω;obtain ⟨b2,Yg⟩:∃b2:Nat,2*bs=b2:=⟨_,rfl⟩;have w1:IntKind.i64.wrap (2*(bs:Int))=(b2:Int):=by rw [Μ _ ω];omega
     have w2:IntKind.i64.wrap ((bs:Int)*2)=(b2:Int):=by rw [Μ _ ω];omega
     have HE:=χ (ψ hpm (ψ hBS (ψ oo (ψ hu Yg))));clear hpm hBS oo hu Yg;go_wp2
     go_loopw [7,8] (fun av bv wr=>∃ (a b:Nat) (D R:List Pl),av=.int .i64 (a:Int)/\bv=.int .i64 (b:Int)/\b=a+b2/\a<=n/\a=D.length/\(D++R).Perm l/\Cx bs R/\(∀R',Cx b2 R'->Cx b2 (D++R'))/\PR wr g (D++R)/\aa [g] w wr) (fun _ bv _=>n+b2+1-(intOf bv).toNat)
     case atStart=>exact ⟨0,b2,[],L,rfl,rfl,ω,Nat.zero_le _,rfl,HE.out.1,HE.out.2.1,fun _ h=>h,HE.out.2.2.1,HE.out.2.2.2.1⟩
     case round=>
      obtain ⟨a,b,D,R,rfl,rfl,xA,han,ha,hpm,hBR,hD,oo,hu⟩:=hrel;rename World=>wr;have hlen:D.length+R.length=n:=by have h:=hpm.length_eq;rw [υ] at h;have:=HB.out.2;omega
      have w3:IntKind.i64.wrap ((a:Int)+(bs:Int))=((a+bs:Nat):Int):=by rw [Μ _ (by have:=HE.out;omega)];omega
      obtain ⟨m,hm⟩:∃m,a+bs=m:=⟨_,rfl⟩;rw [hm] at w3
      by_cases hbn:b<=n
      ·have Sv:(b:Int)<=(n:Int):=ω;obtain ⟨b3,hb3⟩:∃b3,b+b2=b3:=⟨_,rfl⟩;have w4:IntKind.i64.wrap ((b:Int)+(b2:Int))=(b3:Int):=by rw [Μ _ (by have:=HE.out;omega)];omega
       obtain ⟨C1,C2,R',rfl,hc1,hc2,s1,s2,NQ⟩:=hBR.two ω (by have:=HE.out;omega);have kc:=Jk g n cap hc (C1.length+C2.length) wr a m b D C1 C2 R' (Θ _) oo (by rw [υ];exact hlen) ha ω (by have:=HE.out;omega) ω ω s1 s2;have HF:=χ (ψ ha (ψ hpm (ψ NQ (ψ hD (ψ xA (ψ hb3 (ψ hc1 (ψ hc2 hm))))))));clear oo ha hpm NQ hD xA hb3 hc1 hc2 hm hlen;unfold jZ at kc
       go_wp2_with (first|((go_at_call 106;(with_reducible refine (kc).mono ?_));rintro e w1 ⟨rfl,C,h1,h2,h3,h4⟩)|fail)
       go_roundw
       case rel=>
        obtain ⟨e1,e2,e3,e4,e5,e6,e7,e8,e9⟩:=HF.out;have IU:=h1.length_eq;rw [υ] at IU;have hb:=HE.out.2.2.2.2;refine ⟨b,b3,D++C,R',rfl,rfl,ω,hbn,by rw [υ];omega,?_,e3,fun R'' hR''=>?_,h3.len σ,hu.trans h4⟩
        ·refine ϣ ?_ e2;rw [ϋ];refine List.Perm.append_left _ ?_;rw [←ϋ];exact List.Perm.append_right _ h1
        ·rw [ϋ];exact e4 _ (.cons C R'' ω h2 hR'')
       case measure=>simp [intOf];have:=HF.out;have:=HE.out;omega
      ·have Sv:¬ (b:Int)<=(n:Int):=ω
       by_cases CW:m<n
       ·have hmnI:(m:Int)<(n:Int):=ω;obtain ⟨C1,R',rfl,hc1,s1,NQ⟩:=hBR.one ω;rw [υ] at hlen;have s2:=NQ.small (by have:=HE.out;omega);have kc:=Jk g n cap hc (C1.length+R'.length) wr a m n D C1 R' [] (Θ _) (oo.len σ) ζ ha ω ω ω ω s1 s2;have HF:=χ (ψ hpm (ψ hD (ψ hlen (ψ ha (ψ xA hm)))));clear oo ha hpm NQ hD xA hm hlen;unfold jZ at kc
        go_wp2_with (first|((go_at_call 106;(with_reducible refine (kc).mono ?_));rintro e w1 ⟨rfl,C,h1,h2,h3,h4⟩)|fail)
        go_roundw
        case rel=>
         obtain ⟨e1,e2,e3,e4,e5,e6⟩:=HF.out;have IU:=h1.length_eq;rw [υ] at IU;have hb:=HE.out.2.2.2.2;exact ⟨b2,D++C,rfl,ω,ω,(List.Perm.append_left _ h1).trans e1,e2 _ (.last C ω h2),h3.len σ,hu.trans h4⟩
        case measure=>simp [intOf];have:=HE.out;omega
       ·have hmnI:¬ (m:Int)<(n:Int):=ω;have s1:=hBR.small ω;have HF:Hid (PR wr g (D++R)/\(D++R).Perm l/\Cx b2 (D++R)/\aa [g] w wr):=χ ⟨oo,hpm,hD _ (.last R (by have:=HE.out;omega) s1),hu⟩;clear oo ha hpm hBR hD xA hm hlen hu;go_wp2
        go_roundw
        case rel=>exact ⟨b2,D++R,rfl,by have:=HE.out;omega,by have:=HE.out;omega,HF.out.2.1,HF.out.2.2.1,HF.out.1,HF.out.2.2.2⟩
        case measure=>simp [intOf];have:=HE.out;omega
    ·have zi:¬ (bs:Int)<(n:Int):=ω;have hs:=hBS.small (by have:=hpm.length_eq;have:=HB.out.2;omega);have HF:=χ (ψ hpm (ψ hs (ψ oo hu)));clear hpm hs oo hu hBS;go_wp2;go_end0;exact ⟨rfl,L,HF.out.1,HF.out.2.1,HF.out.2.2.1,HF.out.2.2.2⟩
theorem yG (w:World) (g n cap:Nat) (l:List Pl) (hP:PR w g l) (hn:l.length=n) (hc:n<=1000000) :
  Calls Tryz.prog 72 #[.slice (some ⟨g,0,none⟩) n cap,.func (.func 73) #[] #[]] w fun e w'=>e=.returned (.tuple #[])/\∃C,C.Perm l/\fw C/\PR w' g C/\aa [g] w w':=by
 have kc:=Ia w g n cap l hP hn hc;have hgl:=hP.lt;clear hP hn
 go_enter Tryz.func72,Tryz.ntmps72
 go_wp2_with (first|((go_at_call 86;(with_reducible refine (kc).mono ?_));rintro e w1 ⟨rfl,h⟩)|fail)
 go_end0;exact ⟨rfl,h⟩
theorem Qk:(Tryz.prog.info? 53).map (fun i=>(i.zero,i.size,i.bytes))=some (some (.agg #[.int .i64 0,.int .i64 0]),2,16):=by kernel_rfl
def vg:List Pl->List Value
 | []=>[]
 | p::l=>.int .i64 (p.1:Int)::.int .i64 (p.2:Int)::vg l
theorem uC:∀l:List Pl,(vg l).length=l.length*2
 | []=>rfl
 | p::l=>by simp [vg,uC l];omega
theorem Cz:∀ (l m:List Pl),vg (l++m)=vg l++vg m
 | [],_=>rfl
 | p::l,m=>by simp [vg,Cz l m]
theorem IK:∀ (l:List Pl) (u:Value),u∈vg l->u.oneCell'=true
 | [],u,h=>by cases h
 | p::l,u,h=>by
  simp only [vg,ρ] at h;rcases h with rfl|rfl|h
  ·rfl
  ·rfl
  ·exact IK l u h
theorem wZ:∀ (l:List Pl) (j:Nat) (p:Pl),l[j]?=some p->(vg l)[j*2]?=some (.int .i64 (p.1:Int))/\(vg l)[j*2+1]?=some (.int .i64 (p.2:Int))
 | [],j,e,h=>by simp at h
 | x::l,0,e,h=>by
  simp at h;subst h;exact ⟨rfl,rfl⟩
 | x::l,j+1,e,h=>by
  have h':=wZ l j e (by simpa using h);rw [show (j+1)*2=j*2+1+1 by omega];exact h'
theorem D9 {w:World} {g:Nat}:∀ (l:List Pl) (off:Nat),(∀j p,l[j]?=some p->w.cell? ⟨g,off+j*2,none⟩=some (.int .i64 (p.1:Int))/\w.cell? ⟨g,off+j*2+1,none⟩=some (.int .i64 (p.2:Int)))->
  ∀j u,(vg l)[j]?=some u->w.cell? ⟨g,off+j,none⟩=some u
 | [],off,_,j,u,h=>by simp [vg] at h
 | p::l,off,hc,j,u,h=>by
  have h0:=hc 0 p rfl;simp only [Nat.zero_mul,ϗ] at h0
  match j,h with
  | 0,h=>simp [vg] at h;subst h;exact h0.1
  | 1,h=>simp [vg] at h;subst h;exact h0.2
  | j+2,h=>
   have h':(vg l)[j]?=some u:=by simpa [vg] using h
   have:=D9 l (off+2) (fun k x hk=>by
    have:=hc (k+1) x (by simpa using hk);rw [show off+2+k*2=off+(k+1)*2 by omega]
    exact this) j u h'
   rw [show off+(j+2)=off+2+j by omega];exact this
theorem PR.fQ {w:World} {base n:Nat} {v:Value} {l:List Pl} (h:w.ownsRow base 53 2 v n (vg l)) (hs:∀p,p∈l->p.1<1000000/\p.2<1000000) (hn:0<n):∃g cap,v=.slice (some ⟨g,0,none⟩) n cap/\base<=g/\l.length=n/\n<=cap/\cap<=9223372036854775807/\PR w g l:=by
 have hl:l.length=n:=by have:=h.1;rw [uC] at this;omega
 rcases h.2 with ⟨rfl,h0⟩|⟨g,cap,cur,rfl,hb,hg,hnc,hc,_⟩
 ·omega
 ·have hlt:=(h.lt g rfl).2;unfold maxLen at hc;have hfz:∀k,w.frozen? ⟨g,k,none⟩=false:=fun k=>by
   unfold World.frozen?;simp only [hg];simp
  refine ⟨g,cap,rfl,hb,hl,hnc,ω,hlt,fun j p hj=>?_,fun j p hj=>?_,hfz,hs⟩
  ·have hjl:=(List.getElem?_eq_some_iff.1 hj).1;rw [h.cellAt (j*2) ω];exact (wZ l j p hj).1
  ·have hjl:=(List.getElem?_eq_some_iff.1 hj).1;rw [h.cellAt (j*2+1) ω];exact (wZ l j p hj).2
theorem PR.news {w:World} {g:Nat} {l:List Pl} (h:PR w g l):∀j u,(vg l)[j]?=some u->w.cell? ((⟨g,0,none⟩:Addr).add j)=some u:=fun j u hj=>by
 have:=D9 (w:=w) (g:=g) l 0 (fun k p hk=>by rw [ϖ];exact ⟨h.a k p hk,h.b k p hk⟩) j u hj;rw [Addr.add_lit];exact this
theorem wz {ops:Array Oper} {rest:List Oper} {o:Oper} {a:Act} {w:World} {Q:Exit->Act->World->Prop} (hgd:o.guard=none) (s x:Operand)
  (ho:o.op=.call { callee:=.builtin .append,args:=#[s,x],argTypes:=#[42,42] })
  (base:Nat) (v:Value) (n:Nat) (l:List Pl) (hs:a.eval s=v) (hown:w.ownsRow base 53 2 v n (vg l))
  (g m c:Nat) (C:List Pl) (hx:a.eval x=.slice (some ⟨g,0,none⟩) m c) (hC:C.length=m) (hP:PR w g C) (hm:0<m) (hn:n+m<=1000000) (hbase:base<=w.heap.size)
  (h:∀g' cap w',w'.ownsRow base 53 2 (.slice (some ⟨g',0,none⟩) (n+m) cap) (n+m) (vg (l++C))->aa v.ownBlock.toList w w'->(v.ownBlock=some g'\/g'=w.heap.size)->wpList Tryz.prog ops Q rest (a.put o.dst (.slice (some ⟨g',0,none⟩) (n+m) cap)) w') :
  wpList Tryz.prog ops Q (o::rest) a w:=by
 obtain ⟨i,hi,hz0,hz1,hz2⟩:=info_parts Qk;refine wpList_append_lies w hgd s x 42 ho base 53 i _ 2 16 Tryz.underlying42 hi hz0 hz1 hz2 rfl δ v n (vg l) hs hown ⟨g,0,none⟩ m c (vg C) hx (by rw [uC,hC]) hP.news (IK C) hm μ ω hbase w.heap.size rfl ?_;intro g' cap w' h1 h2 h3 _;exact h g' cap w' (by rw [Cz];exact h1) ((aa.refl _ _).grown h2 (fun k hk=>Α (by simp [hk]))) h3
theorem Iw {A:NS} {x:Nat} (hx:x<A.cs.length) (hz:0<(A.c x).i) (q:Int) :
  (if q=(A.c x).i then (if (dG A (A.c x).i:Int)-1=0 then none else some ((dG A (A.c x).i:Int)-1)) else jh A q)=jh (iD A x Cl.z) q:=by
 have:=qU A x Cl.z q hx;have hp:0<dG A (A.c x).i:=dL.2 ⟨x,hx,rfl,hz⟩;unfold jh
 by_cases e:q=(A.c x).i
 ·subst e;rw [Δ rfl];rw [Δ ⟨rfl,hz⟩,Γ (show ¬ (Cl.z.i=(A.c x).i/\0<(A.c x).i) from fun h=>by have:(0:Int)=(A.c x).i:=h.1;omega)] at this
  by_cases h1:dG A (A.c x).i=1
  ·rw [Δ ω,Γ ω]
  ·rw [Γ ω,Δ ω]
   congr 1;omega
 ·rw [Γ e];rw [Γ (fun h=>e h.1.symm),Γ (show ¬ (Cl.z.i=q/\0<q) from fun h=>by have:(0:Int)=q:=h.1;omega)] at this;simp only [ϗ] at this;rw [this]
theorem fU {w:World} {c st:Nat} {F:List Nat} {A:NS} (h:aD w c F A st) (x:Nat) (hx:bV A x=true) :
  Calls Tryz.prog 151 #[.pointer (some ⟨c,0,none⟩),.int .i64 (x:Int)] w fun e w'=>e=.returned (.bool true)/\aD w' c F (aN A x) st/\aa F w w':=by
 have k:=jq h x hx;obtain ⟨hx1,hx2⟩:=(aj _ _).1 hx;have hrng:=h.ok.nat x hx1;have hA1:=h.ok.h1;have hA2:=h.ok.c1;obtain ⟨hh,hhe⟩:∃r:Nat,(A.c x).i=r:=⟨(A.c x).i.toNat,ω⟩;have hp:0<dG A (hh:Int):=dL.2 ⟨x,hx1,hhe,ω⟩;have hlen:=Ct h.ok (hh:Int);have hM:=fun q=>Iw hx1 hx2 q;have ok':=uu h.ok x;have e:aN A (x:Int)=iD A x Cl.z:=by unfold aN;rw [Δ hx];simp
 rw [hhe] at k hM hrng;have HE:=χ e;have HM:=χ hM;have zH:1<=hh:=ω;have HO:=χ ok';obtain ⟨len,hle⟩:∃n,n=A.cs.length:=⟨_,rfl⟩;have HL:=χ hle;clear h hx hM ok' e hle hx2 hhe;have hx1:x<len:=by have:=HL.out;omega
 obtain ⟨m,hm⟩:∃m:Int,m=(dG A (hh:Int):Int):=⟨_,rfl⟩;rw [←hm] at HM;have HZ:=χ hm;have hm1:0<m:=ω;have hm2:m<=65536:=ω;clear hm hp hlen
 go_enter Tryz.func151,Tryz.ntmps151
 go_wp2_with fail
 refine k.mono ?_;rintro e w1 ⟨rfl,hC,hu⟩;have hsz:=hu.size;have hlt:=hC.lt;obtain ⟨ca,nm,mb,g,cap,l,rt,dp,raw,h,rfl⟩:=hC;have c1:=h.c1;have c3:=h.c3;rw [←HL.out] at c1;have d0:=h.row.cell (x*3) (by rw [←HL.out];omega);have d1:=h.row.cell (x*3+1) (by rw [←HL.out];omega);have d2:=h.row.cell (x*3+2) (by rw [←HL.out];omega);have f0:=h.row.free (x*3);have f1:=h.row.free (x*3+1);have f2:=h.row.free (x*3+2);have l1:=hlt c σ;have l2:=hlt ca σ;have l3:=hlt mb σ;have hs:=h.sep;have H:=χ h;have HU:=χ hu;clear h hlt k hu
 have fin:∀ (w2:World),eZ w2 mb (jh (iD A x Cl.z))->aa [mb] (((w1.setCell ⟨ca,x*3,none⟩ (.int .i64 0)).setCell ⟨ca,x*3+1,none⟩ (.int .i64 0)).setCell ⟨ca,x*3+2,none⟩ (.int .u64 0)) w2->
   aD w2 c [c,ca,nm,mb,g] (aN A x) st/\aa [c,ca,nm,mb,g] w w2:=fun w2 hm2 hu2=>by
  have hu3:aa [ca] w1 (((w1.setCell ⟨ca,x*3,none⟩ (.int .i64 0)).setCell ⟨ca,x*3+1,none⟩ (.int .i64 0)).setCell ⟨ca,x*3+2,none⟩ (.int .u64 0)):=β;have hr3:=(Y2 (i:=x) H.out.row Cl.z).upd hu2 ι;have om:aa [ca,mb] w1 w2:=(hu3.mono ι).joined hu2 (fun y hy=>Α (by simp at hy;simp [hy]));refine ⟨⟨ca,nm,mb,g,cap,l,rt,dp,fun y=>if y=x then Cl.z else raw y,?_,rfl⟩,HU.out.trans (om.mono ι)⟩;have ok':=HO.out;rw [HE.out] at ok' ⊢;exact H.out.turn om hr3 hm2 ok' (fq _ _ _) rfl (D6 H.out.rel (by rw [←HL.out];exact hx1) (Α ⟨rfl,rfl⟩))
 have FIN:=χ fin;clear fin
 by_cases h1:m=1
 ·have hb:(m-1 == 0)=true:=ζ;have H1:=χ h1;clear h1
  go_wp2_with (first
   | (at_lookup;refine jE (o:=⟨some 27,_,_,_,_,_⟩) (by rfl) _ _ (by rfl) mb (jh A) (by rfl) (H.out.many.upd (S:=[ca]) β ι) (hh:Int) (by rfl) ω m ((qX _ _).trans HZ.out.symm) ?_)
   | (at_lookup;refine jE (o:=⟨some 34,_,_,_,_,_⟩) (by rfl) _ _ (by rfl) mb _ (by rfl) hm2 (hh:Int) (by rfl) ω (m-1) σ ?_)
   | (at_mapUpdate;refine kL rfl _ _ _ rfl mb (jh A) rfl (H.out.many.upd (S:=[ca]) β ι) (hh:Int) (m-1) rfl rfl ω ω ?_;intro w2 hm2 hu2;(have q1:=hu2.cell (p:=⟨c,3,none⟩) (by simp;exact l1) ι))
   | (at_delete;refine mW rfl _ _ rfl mb _ rfl hm2 (hh:Int) rfl ω ?_;intro w3 Dt hu3))
  go_ret
  have hm4:eZ w3 mb (jh (iD A x Cl.z)):=eZ.ext Dt (fun q=>by
   rw [←HM.out q]
   by_cases e:q=(hh:Int)
   ·rw [Δ e,Δ e,Δ (by have:=H1.out;omega)]
   ·rw [Γ e,Γ e,Γ e])
  exact ⟨rfl,FIN.out w3 hm4 (hu2.trans hu3)⟩
 ·have hb:(m-1 == 0)=false:=ζ;have H1:=χ h1;clear h1
  go_wp2_with (first
   | (at_lookup;refine jE (o:=⟨some 27,_,_,_,_,_⟩) (by rfl) _ _ (by rfl) mb (jh A) (by rfl) (H.out.many.upd (S:=[ca]) β ι) (hh:Int) (by rfl) ω m ((qX _ _).trans HZ.out.symm) ?_)
   | (at_lookup;refine jE (o:=⟨some 34,_,_,_,_,_⟩) (by rfl) _ _ (by rfl) mb _ (by rfl) hm2 (hh:Int) (by rfl) ω (m-1) σ ?_)
   | (at_mapUpdate;refine kL rfl _ _ _ rfl mb (jh A) rfl (H.out.many.upd (S:=[ca]) β ι) (hh:Int) (m-1) rfl rfl ω ω ?_;intro w2 hm2 hu2;(have q1:=hu2.cell (p:=⟨c,3,none⟩) (by simp;exact l1) ι)))
  go_ret
  have hm4:eZ w2 mb (jh (iD A x Cl.z)):=eZ.ext hm2 (fun q=>by
   rw [←HM.out q]
   by_cases e:q=(hh:Int)
   ·rw [Δ e,Δ e,Γ (by have:=H1.out;omega)]
   ·rw [Γ e,Γ e])
  exact ⟨rfl,FIN.out w2 hm4 hu2⟩
structure Z0 where
 at_:World->Nat->List Nat->List Nat->Prop
 upd:∀ {w w':World} {p:Nat} {G S L:List Nat},at_ w p G L->aa S w w'->(∀z,z∈S->z∉G)->at_ w' p G L
 lt:∀ {w:World} {p:Nat} {G L:List Nat},at_ w p G L->∀z,z∈G->z<w.heap.size
def zX (o:Option Nat):Value:=.pointer (o.map fun b=>⟨b,0,none⟩)
def ym (f:Nat->Option Nat) (m:Nat):List Value:=(List.range m).map fun h=>zX (f h)
theorem K9 {f:Nat->Option Nat} {m j:Nat} (h:j<m):(ym f m)[j]?=some (zX (f j)):=by unfold ym;simp [h]
theorem GN (f:Nat->Option Nat) (m:Nat) (o:Option Nat):ym f m++[zX o]=ym (fun h=>if h=m then o else f h) (m+1):=by
 unfold ym;rw [List.range_succ,List.map_append]
 congr 1
 ·apply List.map_congr_left;intro a ha;have:=List.mem_range.1 ha
  show zX (f a)=zX (if a=m then o else f a)
  rw [Γ ω]
 ·simp
def jr {α:Type} (f:Nat->α) (h:Nat) (x:α):Nat->α:=fun k=>if k=h then x else f k
theorem cz {α:Type} (f:Nat->α) (h:Nat) (x:α):jr f h x h=x:=by unfold jr;rw [Δ rfl]
theorem bG {α:Type} (f:Nat->α) {h k:Nat} (x:α) (e:k≠h):jr f h x k=f k:=by unfold jr;rw [Γ e]
structure sH (K:Z0) (ety:TypeId) (w:World) (gr cr m:Nat) (has:Nat->Bool) (Z:List Nat) (ptr:Nat->Option Nat) (G L:Nat->List Nat):Prop where
 rows:w.ownsRow 0 ety 1 (.slice (some ⟨gr,0,none⟩) m cr) m (ym ptr m)
 row:∀h,has h=true->∃rp,ptr h=some rp/\K.at_ w rp (G h) (L h)
 zF:∀h,has h=true->∀z,z∈G h->z∈Z
 Rf:∀h k,has h=true->has k=true->h≠k->∀z,z∈G h->z∉G k
 Ii:∀z,z∈Z->z<w.heap.size
 QL:gr∉Z
section
variable {K:Z0} {ety:TypeId} {w w':World} {gr cr m:Nat} {has:Nat->Bool} {Z:List Nat} {ptr:Nat->Option Nat} {G L:Nat->List Nat}
theorem sH.lt (h:sH K ety w gr cr m has Z ptr G L):gr<w.heap.size:=(h.rows.lt gr rfl).2
theorem sH.upd {S:List Nat} (h:sH K ety w gr cr m has Z ptr G L) (hu:aa S w w') (hS:∀z,z∈S->z≠gr/\z∉Z):sH K ety w' gr cr m has Z ptr G L:=
 ⟨ay h.rows hu (fun k hk hm=>by cases hk;exact (hS _ hm).1 rfl),fun g hg=>by
  obtain ⟨rp,e,hr⟩:=h.row g hg
  exact ⟨rp,e,K.upd hr hu (fun z hz hm=>(hS z hz).2 (h.zF g hg z hm))⟩,h.zF,h.Rf,fun z hz=>Ψ (h.Ii z hz) hu.size,h.QL⟩
theorem sH.cell (h:sH K ety w gr cr m has Z ptr G L) {g rp:Nat} (hg:g<m) (hp:ptr g=some rp):w.cell? ⟨gr,g,none⟩=some (.pointer (some ⟨rp,0,none⟩)):=by
 rw [h.rows.cellAt g ω,K9 hg,hp];rfl
theorem sH.one {S G' L':List Nat} {g rp:Nat} (h:sH K ety w gr cr m has Z ptr G L) (hg:has g=true) (hp:ptr g=some rp) (hu:aa S w w') (hS:∀z,z∈S->z∈G g\/(z≠gr/\z∉Z)) (hr:K.at_ w' rp G' L') (hG:∀z,z∈G'->z∈G g\/w.heap.size<=z) :
  sH K ety w' gr cr m has (Z++G') ptr (jr G g G') (jr L g L'):=by
 have hgl:=h.lt;have hgr:∀z,z∈S->z≠gr:=fun z hz e=>by
  rcases hS z hz with h1|h1
  ·exact h.QL (by rw [←e];exact h.zF g hg z h1)
  ·exact h1.1 e
 have hoth:∀k,has k=true->k≠g->∀z,z∈S->z∉G k:=fun k hk hne z hz hm=>by
  rcases hS z hz with h1|h1
  ·exact h.Rf g k hg hk (fun e=>hne e.symm) z h1 hm
  ·exact h1.2 (h.zF k hk z hm)
 refine ⟨ay h.rows hu (fun k hk hm=>by cases hk;exact hgr _ hm rfl),fun k hk=>?_,fun k hk z hz=>?_,fun k j hk hj hne z hz=>?_,fun z hz=>?_,fun hm=>?_⟩
 ·by_cases e:k=g
  ·subst e;rw [cz,cz];exact ⟨rp,hp,hr⟩
  ·rw [bG _ _ e,bG _ _ e];obtain ⟨q,e2,hq⟩:=h.row k hk;exact ⟨q,e2,K.upd hq hu (hoth k hk e)⟩
 ·by_cases e:k=g
  ·subst e;rw [cz] at hz;exact τ.2 (Β hz)
  ·rw [bG _ _ e] at hz;exact τ.2 (Α (h.zF k hk z hz))
 ·by_cases e:k=g
  ·subst e;rw [cz] at hz;rw [bG _ _ (fun e=>hne e.symm)];rcases hG z hz with h1|h1
   ·exact h.Rf k j hk hj hne z h1
   ·exact fun hm=>by have:=h.Ii z (h.zF j hj z hm);omega
  ·rw [bG _ _ e] at hz
   by_cases e2:j=g
   ·subst e2;rw [cz];intro hm;rcases hG z hm with h1|h1
    ·exact h.Rf k j hk hj hne z hz h1
    ·have:=h.Ii z (h.zF k hk z hz);omega
   ·rw [bG _ _ e2];exact h.Rf k j hk hj hne z hz
 ·rcases τ.1 hz with h1|h1
  ·exact Ψ (h.Ii z h1) hu.size
  ·exact K.lt hr z h1
 ·rcases τ.1 hm with h1|h1
  ·exact h.QL h1
  ·rcases hG gr h1 with h2|h2
   ·exact h.QL (h.zF g hg gr h2)
   ·omega
theorem sH.snoc {S G' L':List Nat} {rp WN cr':Nat} (h:sH K ety w gr cr m has Z ptr G L) (hm:has m=false) (hu:aa S w w') (hS:∀z,z∈S->z∉Z) (hr:K.at_ w' rp G' L') (hG:∀z,z∈G'->w.heap.size<=z) (hg1:WN∉Z) (hg2:WN∉G')
  (hrow:w'.ownsRow 0 ety 1 (.slice (some ⟨WN,0,none⟩) (m+1) cr') (m+1) (ym ptr m++[zX (some rp)])) :
  sH K ety w' WN cr' (m+1) (fun h=>has h || h == m) (Z++G') (jr ptr m (some rp)) (jr G m G') (jr L m L'):=by
 have hcase:∀k,(has k || k == m)=true->k=m\/(k≠m/\has k=true):=fun k hk=>by
  by_cases e:k=m
  ·exact Α e
  ·right;simp [e] at hk;exact ⟨e,hk⟩
 refine ⟨by rw [GN] at hrow;exact hrow,fun k hk=>?_,fun k hk z hz=>?_,fun k j hk hj hne z hz=>?_,fun z hz=>?_,fun hmm=>?_⟩
 ·rcases hcase k hk with rfl|⟨e,hk'⟩
  ·rw [cz,cz,cz];exact ⟨rp,rfl,hr⟩
  ·rw [bG _ _ e,bG _ _ e,bG _ _ e];obtain ⟨q,e2,hq⟩:=h.row k hk';exact ⟨q,e2,K.upd hq hu (fun z hz hm=>hS z hz (h.zF k hk' z hm))⟩
 ·rcases hcase k hk with rfl|⟨e,hk'⟩
  ·rw [cz] at hz;exact τ.2 (Β hz)
  ·rw [bG _ _ e] at hz;exact τ.2 (Α (h.zF k hk' z hz))
 ·rcases hcase k hk with rfl|⟨e,hk'⟩
  ·rcases hcase j hj with rfl|⟨e2,hj'⟩
   ·exact absurd rfl hne
   ·rw [cz] at hz;rw [bG _ _ e2];exact fun hm=>by have:=h.Ii z (h.zF j hj' z hm);have:=hG z hz;omega
  ·rw [bG _ _ e] at hz;rcases hcase j hj with rfl|⟨e2,hj'⟩
   ·rw [cz];exact fun hm=>by have:=h.Ii z (h.zF k hk' z hz);have:=hG z hm;omega
   ·rw [bG _ _ e2];exact h.Rf k j hk' hj' hne z hz
 ·rcases τ.1 hz with h1|h1
  ·exact Ψ (h.Ii z h1) hu.size
  ·exact K.lt hr z h1
 ·rcases τ.1 hmm with h1|h1
  ·exact hg1 h1
  ·exact hg2 h1
end
end Go.Proofs.YtklibcncmbofpaaGreat
