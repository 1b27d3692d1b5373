/-
  Lemmas for RankSorts: Carry8, CarryLink, KarDef, KOrd, Kar7, Kar9. Conditions: those of each lemma.
-/
import Derived.Test.YtklibcncmbofpaaGreatP05
import Derived.Test.YtklibcncmbofpaaGreatP26
set_option maxHeartbeats 8000000
set_option maxRecDepth 10000
set_option linter.unusedVariables false
set_option linter.unusedSimpArgs false
namespace Go.Proofs.YtklibcncmbofpaaGreat
open Go Go.RowKit
theorem Lm (bt ba lo n:Nat) (S:CS) (v:Value) (l:List Int) (w:World) (h:aM w bt ba lo n S) (F:List Nat) (hv:fI w F v l) :
  Calls Tryz.prog 200 #[.pointer (some ⟨bt,0,none⟩),v] w fun e w'=>e=.returned (.bool (Ha n S l))∧w'=w:=by
 obtain ⟨a,cap,rfl,hlc,hcp,hp⟩:=hv;have HP:=χ hp;clear hp;unfold Ha;generalize hlen:l.length=len at *
 have HLEN:=χ hlen;clear hlen;have kR:=fun x=>tF bt ba lo n S x w h
 have kD:=fun x=>oq bt ba lo n S x w h
 clear h
 go_enter Tryz.func200,Tryz.ntmps200
 go_wp2
 go_loop [9] (fun i=>∃k:Nat,k≤len∧i=.int .i64 (k:Int)∧su n S l k=true) (fun i=>len-(intOf i).toNat)
 case atStart=>exact ⟨0,ω,rfl,rfl⟩
 case round=>
  obtain ⟨k,hk,rfl,ht⟩:=hrel
  by_cases hlt:k<len
  ·obtain ⟨g,off,rfl,_,_,c1⟩:=HP.out k (l.getD k 0) (by simp [φ,HLEN.out,hlt])
   have c2:0<k→w.cell? ⟨g,off+(k-1),none⟩=some (.int .i64 (l.getD (k-1) 0)):=fun hk0=>by
    have hk1:k-1<l.length:=by rw [HLEN.out];omega
    obtain ⟨g2,off2,he,_,_,c⟩:=HP.out (k-1) (l.getD (k-1) 0) (by simp [φ,hk1])
    simp only [Option.some.injEq,Addr.mk.injEq,and_true] at he;obtain ⟨rfl,rfl⟩:=he;exact c
   have hsu:=EN n S l k;have hno:=JI n S l k ht;rw [ht,Bool.true_and] at hsu;unfold rowOk at hsu hno;have HS:=χ hsu;have HN:=χ hno;have k1:=kR (l.getD k 0);have k2:=kD (l.getD k 0);have k3:=kD (l.getD (k-1) 0);clear hsu hno ht kR kD;generalize l.getD k 0=x at *
   generalize l.getD (k-1) 0=y at *
   generalize lY n S x=b at *
   generalize mf n S x=d at *
   generalize mf n S y=d2 at *
   cases b with
   | false=>
    go_wp2_with (go_at_call 198;refine (k1).mono ?_;rintro e w' ⟨rfl,rfl⟩)
    go_ret;exact ⟨aV (HN.out rfl _ hlt).symm,rfl⟩
   | true=>
    by_cases hk0:k=0
    ·subst hk0;clear c2;rw [Nat.add_zero] at c1
     go_wp2_with (go_at_call 198;refine (k1).mono ?_;rintro e w' ⟨rfl,rfl⟩)
     go_round
     case rel=>exact ⟨1,ω,rfl,HS.out⟩
     case measure=>simp [intOf];omega
    ·have c3:=c2 ω;have hk1:1≤k:=ω;clear c2;obtain ⟨k',rfl⟩:∃k',k=k'+1:=⟨k-1,ω⟩
     simp only [Nat.add_sub_cancel] at c3
     by_cases hd:d2<d
     ·have hd':¬ (d≤d2):=ω
      go_wp2_with (first|(go_at_call 198;(with_reducible refine (k1).mono ?_);rintro e w' ⟨rfl,rfl⟩)|(go_at_call 204;(with_reducible refine (k3).mono ?_);rintro e w' ⟨rfl,rfl⟩)|(go_at_call 204;(with_reducible refine (k2).mono ?_);rintro e w' ⟨rfl,rfl⟩))
      go_round
      case rel=>exact ⟨k'+1+1,ω,by go_num,by rw [HS.out];simp [hd]⟩
      case measure=>simp [intOf];omega
     ·have hd':d≤d2:=ω
      go_wp2_with (first|(go_at_call 198;(with_reducible refine (k1).mono ?_);rintro e w' ⟨rfl,rfl⟩)|(go_at_call 204;(with_reducible refine (k3).mono ?_);rintro e w' ⟨rfl,rfl⟩)|(go_at_call 204;(with_reducible refine (k2).mono ?_);rintro e w' ⟨rfl,rfl⟩))
      go_ret;exact ⟨aV (HN.out ζ _ hlt).symm,rfl⟩
  ·obtain rfl:k=len:=ω;go_wp2;go_ret;exact ⟨by first|rfl|exact aV ht.symm,rfl⟩
theorem Cb (w:World) (F:List Nat) (v:Value) (l:List Int) (x:Int) (h:fI w F v l) :
  Calls Tryz.prog 189 #[v,.int .i64 x] w fun e w'=>e=.returned (.int .i64 (idxOf l x))∧w'=w:=by
 obtain ⟨a,cap,rfl,hlc,hcp,hp⟩:=h;have HP:=χ hp;clear hp;generalize hlen:l.length=len at *
 have HLEN:=χ hlen;clear hlen
 go_enter Tryz.func189,Tryz.ntmps189
 go_wp2
 go_loop [8] (fun i=>∃q:Nat,q≤len∧i=.int .i64 (q:Int)∧x∉l.take q) (fun i=>len-(intOf i).toNat)
 case atStart=>exact ⟨0,ω,rfl,σ⟩
 case round=>
  obtain ⟨q,hq,rfl,hn⟩:=hrel
  by_cases hlt:q<len
  ·obtain ⟨y,hyy⟩:∃y,l[q]?=some y:=⟨l[q]'(by rw [HLEN.out];exact hlt),σ⟩
   obtain ⟨gb,off,rfl,_,_,hc⟩:=HP.out q y hyy
   by_cases hxy:x=y
   ·subst hxy;have hi:=Bq l x q hn hyy;have HI:=χ hi;clear hn hyy hi;go_wp2;go_ret;exact ⟨iG HI.out.symm,rfl⟩
   ·have b1:(x == y)=false:=by simpa using hxy
    have hn2:x∉l.take (q+1):=by rw [List.take_add_one,hyy];simp;exact ⟨hn,hxy⟩
    have HN2:=χ hn2;clear hn hyy hn2 hxy;go_wp2
    go_round
    case rel=>exact ⟨q+1,ω,by go_num,HN2.out⟩
    case measure=>simp [intOf];omega
  ·obtain rfl:q=len:=ω;rw [List.take_of_length_le (by rw [HLEN.out];omega)] at hn
   have HI:=χ (wL l x hn);clear hn;go_wp2;go_ret;exact ⟨iG HI.out.symm,rfl⟩
theorem CY (w:World) (F:List Nat) (v:Value) (l:List Int) (x:Int) (h:fI w F v l) :
  Calls Tryz.prog 203 #[v,.int .i64 x] w fun e w'=>e=.returned (.bool (decide (x∈l)))∧w'=w:=by
 have k1:=Cb w F v l x h;obtain ⟨a,cap,rfl,_⟩:=h
 by_cases hx:x∈l
 ·obtain ⟨i,hi,he,_⟩:=rX l x hx;rw [he] at k1
  go_enter Tryz.func203,Tryz.ntmps203
  go_wp2_with ((go_at_call 189;(with_reducible refine (k1).mono ?_);rintro e w9 ⟨rfl,hw9⟩;rw [hw9];clear hw9 w9))
  go_ret;exact ⟨aV (by simp [hx]),rfl⟩
 ·rw [wL l x hx] at k1
  go_enter Tryz.func203,Tryz.ntmps203
  go_wp2_with ((go_at_call 189;(with_reducible refine (k1).mono ?_);rintro e w9 ⟨rfl,hw9⟩;rw [hw9];clear hw9 w9))
  go_ret;exact ⟨aV (by simp [hx]),rfl⟩
theorem Ke (w:World) (F:List Nat) (B7:Nat) (v:Value) (l:List Int) (x:Int) (h:fI w F v l) (hr:aI w B7 26 1 (fun _=>v)) :
  Calls Tryz.prog 202 #[.int .i64 x,.pointer (some ⟨B7,0,none⟩)] w fun e w'=>e=.returned (.bool (decide (x∈l)))∧w'=w:=by
 have k1:=CY w F v l x h;have c0:=hr.cell 0 ω;obtain ⟨a,cap,rfl,_⟩:=h
 go_enter Tryz.func202,Tryz.ntmps202
 go_wp2_with ((go_at_call 203;(with_reducible refine (k1).mono ?_);rintro e w9 ⟨rfl,hw9⟩;rw [hw9];clear hw9 w9))
 go_ret;exact ⟨rfl,rfl⟩
theorem DK (w:World) (F:List Nat) (B7:Nat) (va v:Value) (A l:List Int) (ha:fI w F va A) (h:fI w F v l) (hr:aI w B7 26 1 (fun _=>v)) :
  Calls Tryz.prog 197 #[va,.func (Fn.func 202) #[] #[.pointer (some ⟨B7,0,none⟩)]] w fun e w'=>(∃i:Int,e=.returned (.int .i64 i)∧decide (0≤i)=A.any (fun x=>decide (x∈l)))∧w'=w:=by
 have kC:=fun x=>Ke w F B7 v l x h hr
 clear h hr;obtain ⟨a,cap,rfl,hlc,hcp,hp⟩:=ha;have HP:=χ hp;clear hp;generalize hlen:A.length=len at *
 have HLEN:=χ hlen;clear hlen
 go_enter Tryz.func197,Tryz.ntmps197
 go_wp2
 go_loop [8] (fun i=>∃q:Nat,q≤len∧i=.int .i64 (q:Int)∧(A.take q).any (fun x=>decide (x∈l))=false) (fun i=>len-(intOf i).toNat)
 case atStart=>exact ⟨0,ω,rfl,σ⟩
 case round=>
  obtain ⟨q,hq,rfl,hn⟩:=hrel
  by_cases hlt:q<len
  ·obtain ⟨y,hyy⟩:∃y,A[q]?=some y:=⟨A[q]'(by rw [HLEN.out];exact hlt),σ⟩
   obtain ⟨gb,off,rfl,_,_,hc⟩:=HP.out q y hyy;have k1:=kC y
   by_cases hy:y∈l
   ·rw [decide_eq_true hy] at k1;have hfin:A.any (fun x=>decide (x∈l))=true:=List.any_eq_true.2 ⟨y,List.mem_of_getElem? hyy,by simpa using hy⟩
    have HF:=χ hfin;clear hn hyy hy kC hfin
    go_wp2_with ((go_at_call 202;(with_reducible refine (k1).mono ?_);rintro e w9 ⟨rfl,hw9⟩;rw [hw9];clear hw9 w9))
    go_ret;exact ⟨⟨_,rfl,by rw [HF.out];simp⟩,rfl⟩
   ·rw [decide_eq_false hy] at k1;have hn2:(A.take (q+1)).any (fun x=>decide (x∈l))=false:=by rw [List.take_add_one,hyy,List.any_append,hn];simpa using hy
    have HN2:=χ hn2;clear hn hyy hn2 hy kC
    go_wp2_with ((go_at_call 202;(with_reducible refine (k1).mono ?_);rintro e w9 ⟨rfl,hw9⟩;rw [hw9];clear hw9 w9))
    go_round
    case rel=>exact ⟨q+1,ω,by go_num,HN2.out⟩
    case measure=>simp [intOf];omega
  ·obtain rfl:q=len:=ω;rw [List.take_of_length_le (by rw [HLEN.out];omega)] at hn
   have HN:=χ hn;clear hn kC;go_wp2;go_ret;exact ⟨⟨_,rfl,by rw [HN.out];rfl⟩,rfl⟩
theorem yz (w:World) (F:List Nat) (B7:Nat) (va v:Value) (A l:List Int) (ha:fI w F va A) (h:fI w F v l) (hr:aI w B7 26 1 (fun _=>v)) :
  Calls Tryz.prog 201 #[va,.func (Fn.func 202) #[] #[.pointer (some ⟨B7,0,none⟩)]] w fun e w'=>e=.returned (.bool (A.any (fun x=>decide (x∈l))))∧w'=w:=by
 have k1:=DK w F B7 va v A l ha h hr;generalize A.any (fun x=>decide (x∈l))=b at *
 obtain ⟨a,cap,rfl,_⟩:=ha;clear h hr
 go_enter Tryz.func201,Tryz.ntmps201
 go_wp2_with (go_at_call 197;(with_reducible refine (k1).mono ?_);rintro e w9 ⟨⟨i,rfl,hi⟩,hw9⟩;rw [hw9];clear hw9 w9;have HI:=χ hi;clear hi)
 go_ret;exact ⟨aV (by first|exact HI.out|(rw [←HI.out];simp)),rfl⟩
def lX (S:CS) (v:Value) (a b:Nat):CS:=(S.yf a v (S.k a++[(b:Int)])).oZ b a
theorem BQ (bt ba lo n:Nat) (S:CS) (a b:Nat) (w:World) (h:aM w bt ba lo n S) (ha:a<n) (hb:b<n) (hra:lY n S a=true) (hrb:lY n S b=true) (hne:a≠b) (hd:mf n S a=mf n S b) (hlen:(S.k a).length+1≤n) :
    Calls Tryz.prog 206 #[.pointer (some ⟨bt,0,none⟩),.int .i64 (a:Int),.int .i64 (b:Int)] w fun e w'=>∃v,e=.returned (.bool true)∧aM w' bt ba lo n (lX S v a b)∧aa (ba::S.blk n) w w'∧(∀g,g∈(lX S v a b).blk n→g∈S.blk n∨w.heap.size≤g):=by
  have hle:=h.le;have hl1:=h.FW;have hl2:=h.FJ;have hlow:=h.low;have hnb:=h.ne;have k1:=tF bt ba lo n S a w h;have k2:=tF bt ba lo n S b w h;have k3:=oq bt ba lo n S a w h;have k4:=oq bt ba lo n S b w h;rw [hra] at k1;rw [hrb] at k2;rw [hd] at k3;have b1:((a:Int) == (b:Int))=false:=ζ;have ho:=h.own a ha;obtain ⟨sa,cap,hv,hcap⟩:=aR ho;have hFx:∀g,g∈(S.v a).ownBlock.toList→lo≤g∧g<w.heap.size:=fun g hg=>ho.lt g (by simpa using hg)
  have r1:∀W,aa (S.v a).ownBlock.toList w W→W.cell? ⟨bt,0,none⟩=some (.slice (some ⟨ba,0,none⟩) n n):=fun W hW=>by
    rw [hW.cell h.head.lt (fun hm=>by have:=hFx _ hm;simp at this;omega)];exact h.head.cell 0 ω
  have r2:∀W,aa (S.v a).ownBlock.toList w W→W.cell? ⟨ba,a*2,none⟩=some (S.v a):=fun W hW=>by
    rw [hW.cell h.row.lt (fun hm=>by have:=hFx _ hm;simp at this;omega)];exact h.row.cellAt (a*2) ω (kH S a)
  have r3:∀W,aa (S.v a).ownBlock.toList w W→W.cell? ⟨ba,b*2+1,none⟩=some (.int .i64 (S.u b)):=fun W hW=>by
    rw [hW.cell h.row.lt (fun hm=>by have:=hFx _ hm;simp at this;omega)];exact h.row.cellAt (b*2+1) ω (qp S b)
  have q1:∀W,aa (S.v a).ownBlock.toList w W→W.frozen? ⟨ba,a*2,none⟩=false:=fun W hW=>by
    rw [hW.frozen h.row.lt (fun hm=>by have:=hFx _ hm;simp at this;omega)];exact h.row.free _
  have q2:∀W,aa (S.v a).ownBlock.toList w W→W.frozen? ⟨ba,b*2+1,none⟩=false:=fun W hW=>by
    rw [hW.frozen h.row.lt (fun hm=>by have:=hFx _ hm;simp at this;omega)];exact h.row.free _
  have s0:aa (S.v a).ownBlock.toList w w:=aa.refl _ _;have H:=χ h;have HV:=χ hv;have hk:=dX (S.k a);have HLEN:=χ hlen;generalize hva:S.v a=va at *
  have HVA:=χ hva;subst hv;clear h hra hrb hd hva hne
  go_enter Tryz.func206,Tryz.ntmps206
  go_wp2_with (first
    | (go_at_call 198;(with_reducible refine (k1).mono ?_);rintro e w9 ⟨rfl,hw9⟩;rw [hw9];clear hw9 w9)
    | (go_at_call 198;(with_reducible refine (k2).mono ?_);rintro e w9 ⟨rfl,hw9⟩;rw [hw9];clear hw9 w9)
    | (go_at_call 204;(with_reducible refine (k3).mono ?_);rintro e w9 ⟨rfl,hw9⟩;rw [hw9];clear hw9 w9)
    | (go_at_call 204;(with_reducible refine (k4).mono ?_);rintro e w9 ⟨rfl,hw9⟩;rw [hw9];clear hw9 w9))
  have s1:aa (Value.slice sa (S.k a).length cap).ownBlock.toList w (w.drew.alloc (.cells #[.int .i64 (b:Int)] 3)):=s0.drew.alloc _;have g1:=r1 _ s0;have g2:=r2 _ s0;have a1:=r1 _ (s0.alloc (.cells #[.int .i64 (b:Int)] 3));have a2:=r2 _ (s0.alloc (.cells #[.int .i64 (b:Int)] 3))
  go_region_law
    (first
      | (refine jP rfl _ _ 26 rfl lo 3 (.int .i64 0) 1 8 Tryz.underlying26 cK rfl δ (.slice sa (S.k a).length cap) (S.k a).length (aH (S.k a)) rfl (ho.drew.alloc _) w.heap.size [.int .i64 (b:Int)] rfl rfl (fun j u hj=>lK w [.int .i64 (b:Int)] 3 j u hj) (by simp [Value.oneCell']) μ ω ζ ?_
         intro v2 w2 ho2 hu2 hv2;have hS2:aa (Value.slice sa (S.k a).length cap).ownBlock.toList w w2:=s1.trans hu2;have g3:=r1 _ hS2;have g4:=r2 _ hS2;have g5:=q1 _ hS2
         obtain ⟨a2,cap2,rfl,hcap2⟩:=aR ho2))
  all_goals
    have ho3:w2.ownsRow lo 3 1 (.slice a2 ((S.k a).length+1) cap2) (S.k a++[(b:Int)]).length (aH (S.k a++[(b:Int)])):=by rw [aS,List.length_append];exact ho2
    have hF:=H.out.Mg a ha (.slice a2 ((S.k a).length+1) cap2) (S.k a++[(b:Int)]) hS2 (fun g hg=>by rw [HVA.out];simpa using hg) ho3 (fun g hg=>by
      rcases hv2 with h|h
      · rw [h] at hg;exact Or.inl (by rw [HVA.out];exact hg)
      · rw [h] at hg;simp at hg;exact Or.inr ω) (by rw [List.length_append];exact hlen)
    have e0:=hF.head.cell 0 ω;have e1:=hF.row.cell (b*2+1) ω;have e2:=hF.row.free (b*2+1);have HF:=χ hF;have HV2:=χ hv2;clear hF hv2 ho2 ho3 r1 r2 r3 q1 q2;go_wp2;go_ret;refine ⟨_,rfl,HF.out.bA b hb a,?_,fun g hg=>?_⟩
    · refine ((hS2.mono (fun g hg=>?_)).setCell (Or.inl σ) _).setCell (Or.inl σ) _
      simp only [List.mem_cons];refine Or.inr ((S.iF n g).2 ⟨a,ha,?_⟩);rw [HVA.out];simpa using hg
    · rcases S.Kq a (.slice a2 ((S.k a).length+1) cap2) (S.k a++[(b:Int)]) n g hg with h|h
      · exact Or.inl h
      · rcases HV2.out with h2|h2
        · exact Or.inl ((S.iF n g).2 ⟨a,ha,by rw [HVA.out,←h2];exact h⟩)
        · rw [h2] at h;simp at h;exact Or.inr ω
end Go.Proofs.YtklibcncmbofpaaGreat
namespace Go.Proofs.YtklibcncmbofpaaGreat
def iC (lt:Int→Int→Bool) (a b:Nat):Nat:=if lt b a then b else a
def jS (lt:Int→Int→Bool) (a b:Nat):Nat:=if lt b a then a else b
structure CF where
 k:Nat→List Int
 u:Nat→Int
def CS.f (S:CS):CF:=⟨S.k,S.u⟩
def wO (n:Nat) (F:CF) (x:Int):Bool:=decide (0≤x∧x<n) && F.u x.toNat == -1
def bM (n:Nat) (F:CF) (x:Int):Int:=if 0≤x∧x<n then (F.k x.toNat).length else 0
theorem OO (n:Nat) (S:CS) (x:Int):lY n S x=wO n S.f x:=rfl
theorem NI (n:Nat) (S:CS) (x:Int):mf n S x=bM n S.f x:=rfl
def fC (F:CF) (a b:Nat):CF:=⟨fun y=>if y=a then F.k a++[(b:Int)] else F.k y,fun y=>if y=b then (a:Int) else F.u y⟩
theorem Ox (S:CS) (v:Go.Value) (a b:Nat):(lX S v a b).f=fC S.f a b:=rfl
structure CC where
 F:CF
 A:List Int
 B:List Int
 N:List Int
 O:List Int
 q:Nat
def takeA (n k:Nat) (C:CC):CC:=match C.A with|x::t=>(if bM n C.F x=k then { C with A:=t,N:=C.N++[x] } else C)|[]=>C
def takeB (n k:Nat) (C:CC):CC:=match C.B with|x::t=>(if bM n C.F x=k then { C with B:=t,N:=C.N++[x] } else C)|[]=>C
def dO (C:CC):CC:=match C.N with|[x]=>{ C with N:=[],O:=C.O++[x] }|[x,y,z]=>{ C with N:=[y,z],O:=C.O++[x] }|_=>C
def jY (lt:Int→Int→Bool) (C:CC):CC:=match C.N with
 | [x,y]=>{ C with F:=fC C.F (iC lt x.toNat y.toNat) (jS lt x.toNat y.toNat),N:=[(iC lt x.toNat y.toNat:Int)],q:=C.q+1 }
 | _=>C
def Co (lt:Int→Int→Bool) (n k:Nat) (C:CC):CC:=jY lt (dO (takeB n k (takeA n k C)))
def eU (lt:Int→Int→Bool) (n:Nat):Nat→CC→CC
 | 0,C=>C
 | k+1,C=>Co lt n k (eU lt n k C)
structure Fw (dom:Int→Prop) (lt:Int→Int→Bool) (n k:Nat) (C:CC):Prop where
 few:C.N.length≤1
 join:∀x y,(dO (takeB n k (takeA n k C))).N=[x,y]→∃a b:Nat,x=a∧y=b∧dom a∧dom b∧a<n∧b<n∧a≠b∧wO n (dO (takeB n k (takeA n k C))).F a=true∧wO n (dO (takeB n k (takeA n k C))).F b=true∧
  bM n (dO (takeB n k (takeA n k C))).F a=bM n (dO (takeB n k (takeA n k C))).F b∧((dO (takeB n k (takeA n k C))).F.k a).length+1≤n∧((dO (takeB n k (takeA n k C))).F.k b).length+1≤n
 small:C.A.length+C.B.length+C.O.length≤100000
 asked:C.q≤1000000
 ends:C.A≠[]∨C.B≠[]∨C.N≠[]→k≤n
def tA (n k:Nat) (A:List Int) (F:CF):Bool:=match A with|x::_=>bM n F x == (k:Int)|[]=>false
def tot (C:CC):Nat:=C.A.length+C.B.length+C.N.length+C.O.length
theorem tQ (n k:Nat) (C:CC):tot (takeA n k C)=tot C∧(takeA n k C).N.length≤C.N.length+1:=by
 unfold takeA tot
 split
 ·rename_i x t h
  split
  ·simp only [h,List.length_append,List.length_cons,List.length_nil];omega
  ·simp
 ·simp
theorem tX (n k:Nat) (C:CC):tot (takeB n k C)=tot C∧(takeB n k C).N.length≤C.N.length+1:=by
 unfold takeB tot
 split
 ·rename_i x t h
  split
  ·simp only [h,List.length_append,List.length_cons,List.length_nil];omega
  ·simp
 ·simp
theorem G6 (C:CC) (h3:C.N.length≤3):tot (dO C)=tot C∧(dO C).N.length≤2:=by
 obtain ⟨F,A,B,N,O,q⟩:=C;simp only at h3
 match N,h3 with
 | [],_=>simp [dO,tot]
 | [x],_=>simp [dO,tot];try omega
 | [x,y],_=>simp [dO,tot]
 | [x,y,z],_=>simp [dO,tot];try omega
 | _::_::_::_::_,h3=>simp at h3;try omega
theorem JZ (n k:Nat) (C:CC):(dO (takeB n k (takeA n k C))).q=C.q:=by
 have h1:∀C,(dO C).q=C.q:=fun C=>by unfold dO;split<;>rfl
 have h2:∀C,(takeB n k C).q=C.q:=fun C=>by
  unfold takeB;split
  ·split<;>rfl
  ·rfl
 have h3:∀C,(takeA n k C).q=C.q:=fun C=>by
  unfold takeA;split
  ·split<;>rfl
  ·rfl
 rw [h1,h2,h3]
end Go.Proofs.YtklibcncmbofpaaGreat
namespace Go.Proofs.YtklibcncmbofpaaGreat
open Go Go.RowKit
structure qO where
 ty:TypeId
 p:Nat
 rd:List Nat
 wr:List Nat
 lt:Int→Int→Bool
 dom:Int→Prop
 at_:World→Nat→Prop
 sub:∀x,x∈wr→x∈rd
 low:∀ {w:World} {q:Nat},at_ w q→∀x,x∈rd→x<w.heap.size
 upd:∀ {w w':World} {S:List Nat} {q:Nat},at_ w q→aa S w w'→(∀x,x∈S→x∉rd)→at_ w' q
 asym:∀a b,lt a b=true→lt b a=false
 ahead:∀ {w:World} {q:Nat} (x y:Int),at_ w q→dom x→dom y→q≤1000000→Hf ty p "Ahead" w (fun v=>#[v,.int .i64 x,.int .i64 y]) fun w e w'=>e=.returned (.bool (lt x y))∧at_ w' (q+1)∧aa wr w w'
structure Apart (O:qO) (bt ba n:Nat) (S:CS):Prop where
 bt:bt∉O.rd
 ba:ba∉O.rd
 blk:∀g,g∈S.blk n→g∉O.rd
theorem Apart.rd {O:qO} {bt ba n:Nat} {S:CS} (h:Apart O bt ba n S):∀g,g∈ba::S.blk n→g∉O.rd:=fun g hg=>by
 rcases List.mem_cons.1 hg with rfl|hg
 ·exact h.ba
 ·exact h.blk g hg
theorem Apart.wr {O:qO} {bt ba n:Nat} {S:CS} (h:Apart O bt ba n S):bt∉O.wr∧ba∉O.wr∧∀g,g∈S.blk n→g∉O.wr:=
 ⟨fun hm=>h.bt (O.sub _ hm),fun hm=>h.ba (O.sub _ hm),fun g hg hm=>h.blk g hg (O.sub _ hm)⟩
theorem Lu (O:qO) (bt ba lo n:Nat) (S:CS) (asked a b:Nat) (w:World) (h:aM w bt ba lo n S) (hO:O.at_ w asked) (hda:O.dom a) (hdb:O.dom b) (hk:asked≤1000000)
  (ha:a<n) (hb:b<n) (hra:lY n S a=true) (hrb:lY n S b=true) (hne:a≠b) (hd:mf n S a=mf n S b) (hl1:(S.k a).length+1≤n) (hl2:(S.k b).length+1≤n)
  (hA:Apart O bt ba n S) :
  Calls Tryz.prog 205 #[.pointer (some ⟨bt,0,none⟩),.iface O.ty (.pointer (some ⟨O.p,0,none⟩)),.int .i64 (a:Int),.int .i64 (b:Int)] w fun e w'=>
   ∃v,e=.returned (.int .i64 (iC O.lt a b:Int))∧aM w' bt ba lo n (lX S v (iC O.lt a b) (jS O.lt a b))∧O.at_ w' (asked+1)∧aa (O.wr++ba::S.blk n) w w'∧(∀g,g∈(lX S v (iC O.lt a b) (jS O.lt a b)).blk n→g∈S.blk n∨w.heap.size≤g):=by
 obtain ⟨f,fv,hen,hm,hc⟩:=(O.ahead (b:Int) (a:Int) hO hdb hda hk).now;unfold Enters at hen;have hF:=fun W (hW:aa O.wr w W)=>h.upd hW hA.wr.1 hA.wr.2.1 hA.wr.2.2
 have kL1:=fun W (hW:aa O.wr w W)=>BQ bt ba lo n S a b W (hF W hW) ha hb hra hrb hne hd hl1
 have kL2:=fun W (hW:aa O.wr w W)=>BQ bt ba lo n S b a W (hF W hW) hb ha hrb hra (Ne.symm hne) hd.symm hl2
 have HS:=χ hA.rd;clear hF h hO hA hd hra hrb hda hdb;unfold iC jS;generalize O.ty=ty at *
 cases hab:O.lt b a with
 | true=>
  rw [hab] at hc;rw [if_pos rfl,if_pos rfl];clear hab kL1
  go_enter Tryz.func205,Tryz.ntmps205
  go_wp2_with (first
   | ((with_reducible refine (hc).mono ?_);rintro e w1 ⟨rfl,hL1,hu1⟩)
   | ((go_at_call 206;(with_reducible refine (kL2 _ hu1).mono ?_));rintro e w2 ⟨v2,rfl,hF2,hu2,hb2⟩))
  go_ret;refine ⟨_,rfl,hF2,O.upd hL1 hu2 HS.out,(hu1.mono (by simp +contextual)).trans (hu2.mono (fun g hg=>List.mem_append.2 (Or.inr hg))),fun g hg=>?_⟩
  rcases hb2 g hg with h|h
  ·exact Or.inl h
  ·exact Or.inr (Nat.le_trans hu1.size h)
 | false=>
  rw [hab] at hc;rw [if_neg σ,if_neg σ];clear hab kL2
  go_enter Tryz.func205,Tryz.ntmps205
  go_wp2_with (first
   | ((with_reducible refine (hc).mono ?_);rintro e w1 ⟨rfl,hL1,hu1⟩)
   | ((go_at_call 206;(with_reducible refine (kL1 _ hu1).mono ?_));rintro e w2 ⟨v2,rfl,hF2,hu2,hb2⟩))
  go_ret;refine ⟨_,rfl,hF2,O.upd hL1 hu2 HS.out,(hu1.mono (by simp +contextual)).trans (hu2.mono (fun g hg=>List.mem_append.2 (Or.inr hg))),fun g hg=>?_⟩
  rcases hb2 g hg with h|h
  ·exact Or.inl h
  ·exact Or.inr (Nat.le_trans hu1.size h)
theorem fI.shape {w:World} {F:List Nat} {v:Value} {xs:List Int} (h:fI w F v xs):∃a cap,v=.slice a xs.length cap∧cap≤9223372036854775807:=by
 obtain ⟨a,cap,rfl,_,h2,_⟩:=h;exact ⟨a,cap,rfl,h2⟩
structure KM (O:qO) (w0 w:World) (bt ba lo n:Nat) (F0:List Nat) (va vb vn vo:Value) (C:CC):Prop where
 rT:∃S:CS,S.f=C.F∧aM w bt ba lo n S∧Apart O bt ba n S∧(∀g,g∈S.blk n→g∈F0∨w0.heap.size<g)∧(∀g,vn.ownBlock=some g→g∉S.blk n)∧(∀g,vo.ownBlock=some g→g∉S.blk n)
 O4:O.at_ w C.q
 a:fI w0 F0 va C.A
 b:fI w0 F0 vb C.B
 box:aI w w0.heap.size 26 1 (fun _=>vb)
 now:aQ w (w0.heap.size+1) vn C.N
 out:aQ w (w0.heap.size+1) vo C.O
 sep:∀g,vn.ownBlock=some g→vo.ownBlock≠some g
 upd:aa F0 w0 w
 old:∀g,g∈F0→g<w0.heap.size
 Fg:(∀x,x∈O.wr→x∈F0)∧ba∈F0
 t0:bt<w0.heap.size
 k0:∀x,x∈O.rd→x<w0.heap.size
theorem fI.head {w:World} {F:List Nat} {a:Option Addr} {n c:Nat} {x:Int} {xs:List Int} (h:fI w F (.slice a n c) (x::xs)):∃g off,a=some ⟨g,off,none⟩∧g<w.heap.size∧g∉F∧w.cell? ⟨g,off,none⟩=some (.int .i64 x):=by
 obtain ⟨a',cap,he,_,_,h3⟩:=h;obtain ⟨g,off,rfl,hg,hF,hc⟩:=h3 0 x rfl;cases he;exact ⟨g,off,rfl,hg,hF,by rw [Nat.add_zero] at hc;exact hc⟩
theorem KM.deg {w0 w:World} {O:qO} {bt ba lo n:Nat} {F0:List Nat} {va vb vn vo:Value} {C:CC} (h:KM O w0 w bt ba lo n F0 va vb vn vo C) (x:Int) :
  Calls Tryz.prog 204 #[.pointer (some ⟨bt,0,none⟩),.int .i64 x] w fun e w'=>e=.returned (.int .i64 (bM n C.F x))∧w'=w:=by
 obtain ⟨S,h1,h2,_⟩:=h.rT;have:=oq bt ba lo n S x w h2;rw [NI,h1] at this;exact this
theorem KM.far {w0 w:World} {O:qO} {bt ba lo n:Nat} {F0:List Nat} {va vb vn vo:Value} {C:CC} (h:KM O w0 w bt ba lo n F0 va vb vn vo C) {g off:Nat} {u:Value} (hg:g<w0.heap.size) (hF:g∉F0) (hc:w0.cell? ⟨g,off,none⟩=some u) {G:List Nat} {W:World} (hu:aa G w W) (hG:∀x,x∈G→w0.heap.size≤x) :
  W.cell? ⟨g,off,none⟩=some u:=by
 rw [hu.cell (Nat.lt_of_lt_of_le hg h.upd.size) (fun hm=>by have:=hG _ hm;simp at this;omega),h.upd.cell hg hF]
 exact hc
theorem KM.Lv {w0 w:World} {O:qO} {bt ba lo n:Nat} {F0:List Nat} {va vb vn vo:Value} {C:CC} (h:KM O w0 w bt ba lo n F0 va vb vn vo C) {W:World} {vn':Value} {N':List Int}
  (hu:aa vn.ownBlock.toList w W) (ho:aQ W (w0.heap.size+1) vn' N') (hb:∀g,vn'.ownBlock=some g→vn.ownBlock=some g∨w.heap.size≤g):KM O w0 W bt ba lo n F0 va vb vn' vo { C with N:=N' }:=by
 obtain ⟨S,h1,h2,h3,h4,h5,h6⟩:=h.rT;have hn:∀g,g∈vn.ownBlock.toList→w0.heap.size<g∧g∉S.blk n∧vo.ownBlock≠some g:=fun g hg=>by
  have hg':vn.ownBlock=some g:=by simpa using hg
  exact ⟨by have:=(h.now.lt g hg').1;omega,h5 g hg',h.sep g hg'⟩
 have hbt:=h.t0;have hba:=h.old ba h.Fg.2;have hk:=h.k0;have hsz:=h.upd.size
 refine ⟨⟨S,h1,h2.upd hu (fun hm=>by have:=hn _ hm;omega) (fun hm=>by have:=hn _ hm;omega) (fun g hg hm=>(hn g hm).2.1 hg),h3,h4,fun g hg hm=>?_,h6⟩,O.upd h.O4 hu (fun g hg hm=>by have:=hn g hg;have:=hk g hm;omega),h.a,h.b,h.box.upd hu (fun hm=>by have:=hn _ hm;omega),ho,
  h.out.upd hu (fun g hg hm=>(hn g hm).2.2 hg),fun g hg he=>?_,h.upd.joined hu (fun g hg=>Or.inr (by have:=hn g hg;omega)),h.old,h.Fg,h.t0,h.k0⟩
 ·rcases hb g hg with h'|h'
  ·exact h5 g h' hm
  ·have:=(h2.lD hm).2;omega
 ·rcases hb g hg with h'|h'
  ·exact h.sep g h' he
  ·have:=(h.out.lt g he).2;omega
theorem KM.PE {w0 w:World} {O:qO} {bt ba lo n:Nat} {F0:List Nat} {va vb vn vo:Value} {C:CC} (h:KM O w0 w bt ba lo n F0 va vb vn vo C) {W:World} {vo':Value} {O':List Int}
  (hu:aa vo.ownBlock.toList w W) (ho:aQ W (w0.heap.size+1) vo' O') (hb:∀g,vo'.ownBlock=some g→vo.ownBlock=some g∨w.heap.size≤g):KM O w0 W bt ba lo n F0 va vb vn vo' { C with O:=O' }:=by
 obtain ⟨S,h1,h2,h3,h4,h5,h6⟩:=h.rT;have hn:∀g,g∈vo.ownBlock.toList→w0.heap.size<g∧g∉S.blk n∧vn.ownBlock≠some g:=fun g hg=>by
  have hg':vo.ownBlock=some g:=by simpa using hg
  exact ⟨by have:=(h.out.lt g hg').1;omega,h6 g hg',fun e=>h.sep g e hg'⟩
 have hbt:=h.t0;have hba:=h.old ba h.Fg.2;have hk:=h.k0;have hsz:=h.upd.size
 refine ⟨⟨S,h1,h2.upd hu (fun hm=>by have:=hn _ hm;omega) (fun hm=>by have:=hn _ hm;omega) (fun g hg hm=>(hn g hm).2.1 hg),h3,h4,h5,fun g hg hm=>?_⟩,O.upd h.O4 hu (fun g hg hm=>by have:=hn g hg;have:=hk g hm;omega),h.a,h.b,h.box.upd hu (fun hm=>by have:=hn _ hm;omega),
  h.now.upd hu (fun g hg hm=>(hn g hm).2.2 hg),ho,fun g hg he=>?_,h.upd.joined hu (fun g hg=>Or.inr (by have:=hn g hg;omega)),h.old,h.Fg,h.t0,h.k0⟩
 ·rcases hb g hg with h'|h'
  ·exact h6 g h' hm
  ·have:=(h2.lD hm).2;omega
 ·rcases hb g he with h'|h'
  ·exact h.sep g hg h'
  ·have:=(h.now.lt g hg).2;omega
theorem KM.aTo {w0 w:World} {O:qO} {bt ba lo n:Nat} {F0:List Nat} {va vb vn vo va':Value} {C:CC} (h:KM O w0 w bt ba lo n F0 va vb vn vo C) {A':List Int} (ha:fI w0 F0 va' A'):KM O w0 w bt ba lo n F0 va' vb vn vo { C with A:=A' }:=
 ⟨h.rT,h.O4,ha,h.b,h.box,h.now,h.out,h.sep,h.upd,h.old,h.Fg,h.t0,h.k0⟩
theorem KM.bTo {w0 w:World} {O:qO} {bt ba lo n:Nat} {F0:List Nat} {va vb vn vo vb':Value} {C:CC} (h:KM O w0 w bt ba lo n F0 va vb vn vo C) {B':List Int} (hb:fI w0 F0 vb' B') :
  KM O w0 (w.setCell ⟨w0.heap.size,0,none⟩ vb') bt ba lo n F0 va vb' vn vo { C with B:=B' }:=by
 obtain ⟨S,h1,h2,h3,h4,h5,h6⟩:=h.rT;have hu:aa [w0.heap.size] w (w.setCell ⟨w0.heap.size,0,none⟩ vb'):=(aa.refl _ _).setCell (Or.inl σ) _;have hbt:=h.t0;have hba:=h.old ba h.Fg.2;have hk:=h.k0;refine ⟨⟨S,h1,h2.upd hu ζ ζ (fun g hg hm=>?_),h3,h4,h5,h6⟩,O.upd h.O4 hu (fun g hg hm=>by have:=hk g hm;simp at hg;omega),h.a,hb,(h.box.set 0 vb').ext (fun j hj=>ζ),h.now.upd hu (fun g hg hm=>?_),h.out.upd hu (fun g hg hm=>?_),h.sep,h.upd.joined hu (fun g hg=>Or.inr (by simp at hg;omega)),h.old,h.Fg,h.t0,h.k0⟩
 ·simp at hm;subst hm;rcases h4 _ hg with h'|h'
  ·have:=h.old _ h';omega
  ·omega
 ·have:=(h.now.lt g hg).1;simp at hm;omega
 ·have:=(h.out.lt g hg).1;simp at hm;omega
theorem KM.Og {w0 w:World} {O:qO} {bt ba lo n:Nat} {F0:List Nat} {va vb vn vo:Value} {C:CC} (h:KM O w0 w bt ba lo n F0 va vb vn vo C) {S:CS} (hS:S.f=C.F) (h2:aM w bt ba lo n S) (h3:Apart O bt ba n S)
  (h4:∀g,g∈S.blk n→g∈F0∨w0.heap.size<g) (h6:∀g,vo.ownBlock=some g→g∉S.blk n) {W:World} {v:Value} {a b:Nat} (hF:aM W bt ba lo n (lX S v a b)) (hL:O.at_ W (C.q+1)) (hu:aa (O.wr++ba::S.blk n) w W)
  (hg:∀g,g∈(lX S v a b).blk n→g∈S.blk n∨w.heap.size≤g) :
  KM O w0 (W.alloc (.cells #[.int .i64 (a:Int)] 3)) bt ba lo n F0 va vb (.slice (some ⟨W.heap.size,0,none⟩) 1 1) vo { C with F:=fC C.F a b,N:=[(a:Int)],q:=C.q+1 }:=by
 have hbt:=h.t0;have hba:=h.old ba h.Fg.2;have hk:=h.k0;have hbx:=h.box.lt;have hsz:=hu.size;have hm:∀g,g∈O.wr++ba::S.blk n→g∈F0∨w0.heap.size<g:=fun g hg=>by
  rcases List.mem_append.1 hg with hg|hg
  ·exact Or.inl (h.Fg.1 _ hg)
  ·rcases List.mem_cons.1 hg with rfl|hg
   ·exact Or.inl h.Fg.2
   ·exact h4 g hg
 have hvo:∀g,vo.ownBlock=some g→g∉O.wr++ba::S.blk n:=fun g hg hm=>by
  have:=(h.out.lt g hg).1;rcases List.mem_append.1 hm with hm|hm
  ·have:=hk _ (O.sub _ hm);omega
  ·rcases List.mem_cons.1 hm with rfl|hm
   ·omega
   ·exact h6 g hg hm
 have ha:aa [] W (W.alloc (.cells #[.int .i64 (a:Int)] 3)):=(aa.refl _ _).alloc _;have hb:w0.heap.size∉O.wr++ba::S.blk n:=fun hm2=>by
  rcases hm _ hm2 with h'|h'
  ·have:=h.old _ h';omega
  ·omega
 refine ⟨⟨lX S v a b,by rw [Ox,hS],hF.aj ha,⟨h3.bt,h3.ba,fun g hg1 hm=>?_⟩,fun g hgm=>?_,fun g hg1 hgm=>?_,fun g hg1 hgm=>?_⟩,O.upd hL ha σ,h.a,h.b,(h.box.upd hu hb).upd ha σ,aQ.lit W _ a ω,
  (h.out.upd hu hvo).upd ha σ,fun g hg1 hg2=>?_,(h.upd.joined hu (fun g hg=>by rcases hm g hg with h'|h';exact Or.inl h';exact Or.inr ω)).then ha,h.old,h.Fg,h.t0,h.k0⟩
 ·rcases hg _ hg1 with h'|h'
  ·exact h3.blk g h' hm
  ·have:=hk _ hm;omega
 ·rcases hg g hgm with h'|h'
  ·exact h4 g h'
  ·exact Or.inr ω
 ·simp [Value.ownBlock] at hg1;have:=(hF.lD hgm).2;omega
 ·rcases hg g hgm with h'|h'
  ·exact h6 g hg1 h'
  ·have:=(h.out.lt g hg1).2;omega
 ·simp [Value.ownBlock] at hg1;have:=(h.out.lt g hg2).2;omega
end Go.Proofs.YtklibcncmbofpaaGreat
