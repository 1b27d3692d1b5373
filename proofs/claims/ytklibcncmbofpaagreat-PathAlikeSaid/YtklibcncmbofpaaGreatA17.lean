/-
  Lemmas for PathAlike: Grw, Grx, PrL, Ie, Pth, Pth2, PrT, PrD, PrR, PrM, PrN. Conditions: those of each lemma.
-/
import Derived.Lib.MinMax
import Derived.Deep.LoopGhost
import Derived.Deep.OwnRows
import Derived.Test.YtklibcncmbofpaaGreatA02
import Derived.Test.YtklibcncmbofpaaGreatA03
import Derived.Test.YtklibcncmbofpaaGreatA16
set_option linter.all false
set_option maxHeartbeats 8000000
set_option maxRecDepth 10000
namespace Go.Proofs.YtklibcncmbofpaaGreat
open Go Go.RowKit
def IM (N:Int) (e:Ed):Bool:=decide (0<=e.w) && decide (e.w<=9223372036854775807 / max N 1)
theorem Ac (w:World) (N:Int) (va:Value) (E:List Ed) (hE:vB w va E) :
  Calls Tryz.prog 32 #[.agg #[.int .i64 N,va]] w fun r w'=>r=.returned (.bool (bI N E))/\aa [] w w':=by
 have kr:=fun W (hW:aa [] w W)=>Jh W N va E (hE.upd hW);obtain ⟨a,cap,rfl,hcap⟩:=hE.shape;have HE:=χ hE;have hl:E.length<=9223372036854775807:=by obtain ⟨_,_,_,_,h,_⟩:=hE;exact h
 clear hE;have u0:aa [] w (w.alloc (.cells #[.int .i64 N,.slice a E.length cap] 57)):=(aa.refl _ _).alloc _;cases hr:fP N E with
 | false=>
  have hw:bI N E=false:=by unfold bI;rw [hr];rfl
  rw [hw];rw [hr] at kr;clear hw hr;generalize E.length=n at *
  go_enter Tryz.func32,Tryz.ntmps32
  go_wp2_with (first
   | ((go_at_call 56;(with_reducible refine (kr _ u0).mono ?_));rintro e w1 ⟨rfl,hu1⟩)
   | fail)
  go_ret;exact ⟨rfl,u0.trans hu1⟩
 | true=>
  have HW:=χ (show bI N E=E.all (IM N) from by unfold bI;rw [hr];rfl);have HR:=χ hr;rw [hr] at kr;clear hr;generalize hn:E.length=n at *;have HN:=χ hn;clear hn
  go_enter Tryz.func32,Tryz.ntmps32
  go_wp2_with (first
   | ((go_at_call 56;(with_reducible refine (kr _ u0).mono ?_));rintro e w1 ⟨rfl,hu1⟩;(have q1:w1.cell? ⟨w.heap.size,1,none⟩=some (.slice a n cap):=hu1.was σ))
   | fail)
  clear q1
  go_loopw [4,11] (fun _ i wr=>∃k:Nat,k<=n/\i=.int .i64 (k:Int)/\(E.take k).all (IM N)=true/\aa [] (w.alloc (.cells #[.int .i64 N,.slice a n cap] 57)) wr) (fun _ i _=>n-(intOf i).toNat)
  case atStart=>exact ⟨0,ω,rfl,σ,hu1⟩
  case round=>
   clear hu1 kr;obtain ⟨k,hk,rfl,hall,hu⟩:=hrel;rename World=>wr;have q0:wr.cell? ⟨w.heap.size,0,none⟩=some (.int .i64 N):=hu.was σ;have q1:wr.cell? ⟨w.heap.size,1,none⟩=some (.slice a n cap):=hu.was σ;have hsz:w.heap.size<wr.heap.size:=by have:=hu.size;simp at this;omega
   by_cases hkn:k<n
   ·have LP:k<E.length:=by rw [HN.out];exact hkn
    have hx:E[k]?=some (E.getD k default):=by simp [φ,LP]
    have hmem:E.getD k default∈E:=Η hx;have hN1:1<=N:=by have:=jA HR.out hmem;omega
    obtain ⟨g,off,rfl,hg,c0,c1,c2⟩:=(HE.out.upd (u0.trans hu)).at k LP;generalize E.getD k default=e at *;have HT:=χ (G6 (IM N) E k _ hx hall);have HM:=χ hmem;have hwr:IntKind.i64.wrap ((k:Int)+1)=(k:Int)+1:=Μ _ ω;obtain ⟨ef,et,ew⟩:=e;dsimp only at c0 c1 c2;clear hx hmem hall HE;have hmx:max N 1=N:=ω;have hend:IM N ⟨ef,et,ew⟩=(decide (0<=ew) && decide (ew<=9223372036854775807 / N)):=by unfold IM;rw [hmx]
    have Ud:=χ (ψ hmx hend);clear hmx hend
    by_cases b0:ew<0
    ·have hf:Hid (bI N E=false):=χ (by rw [HW.out,uO (IM N) E _ HM.out (by rw [Ud.out.2,Ξ ω];rfl)]);have b0b:decide (ew<0)=true:=by simpa using b0
     go_wp2
     go_quiet (fail)
     go_wp2;go_ret;exact ⟨by rw [hf.out];rfl,by have:=u0.trans hu;exact β⟩
    ·have b0b:decide (ew<0)=false:=by simpa using b0
     have hmx2:max N 1=N:=Ud.out.1
     by_cases b1:9223372036854775807 / N<ew
     ·have hf:Hid (bI N E=false):=χ (by rw [HW.out,uO (IM N) E _ HM.out (by rw [Ud.out.2,Ξ (ω:¬ew<=9223372036854775807 / N)];simp)]);have b1b:decide (9223372036854775807 / N<ew)=true:=by simpa using b1
      go_wp2
      go_quiet (fail)
      go_wp2;go_ret;exact ⟨by rw [hf.out];rfl,by have:=u0.trans hu;exact β⟩
     ·have ht:Hid (IM N ⟨ef,et,ew⟩=true):=χ (by rw [Ud.out.2,Ν (ω:0<=ew),Ν (ω:ew<=9223372036854775807 / N)];rfl);have b1b:decide (9223372036854775807 / N<ew)=false:=by simpa using b1
      go_wp2
      go_quiet (fail)
      go_wp2;exact ⟨⟨k+1,ω,by go_num,by rw [HT.out,ht.out],β⟩,by simp [intOf];omega⟩
   ·obtain rfl:k=n:=ω;have hfin:E.all (IM N)=true:=by rw [←hall,←HN.out,List.take_length]
    have HF:=χ hfin;clear hall hfin;go_wp2;go_ret;exact ⟨aU (by rw [HW.out,HF.out]),by have:=u0.trans hu;exact β⟩
def VP (b:Bool):Int:=if b then 0 else 201
def IP (l:List Ed):Int:=l.foldl (fun m e=>max m e.w) 0
theorem SL (l:List Ed) (m b:Int):l.foldl (fun m e=>max m e.w) m<=b↔m<=b/\∀e,e∈l->e.w<=b:=by
 induction l generalizing m with
 | nil=>simp
 | cons a l ih=>
  rw [List.foldl_cons,ih];simp only [ρ,forall_eq_or_imp];constructor
  ·rintro ⟨h1,h2⟩;exact ⟨ω,ω,h2⟩
  ·rintro ⟨h1,h2,h3⟩;exact ⟨ω,h3⟩
theorem SC {l:List Ed} {b:Int} (hb:0<=b):IP l<=b↔∀e,e∈l->e.w<=b:=by
 unfold IP;rw [SL];exact ⟨fun h=>h.2,fun h=>⟨hb,h⟩⟩
theorem Um (l:List Ed):0<=IP l:=by
 have:=(SL l 0 (IP l)).1 (Int.le_refl _);exact this.1
theorem Rc (E:List Ed) (k:Nat) (x:Ed) (hx:E[k]?=some x):IP (E.take (k+1))=max (IP (E.take k)) x.w:=by
 unfold IP;rw [Ϗ,hx,List.foldl_append];rfl
theorem Pe {N:Int} {E:List Ed} (hr:fP N E=true) (h0:∀e,e∈E->0<=e.w):bI N E=true↔N*IP E<=9223372036854775807:=by
 have hw:bI N E=E.all (IM N):=by unfold bI;rw [hr];rfl
 have hN:=oO hr;rw [hw]
 by_cases hz:N=0
 ·subst hz;have hE:E=[]:=by
   cases E with
   | nil=>rfl
   | cons a l=>have:=jA hr (e:=a) σ;omega
  subst hE;simp [IP]
 ·have hN1:0<N:=ω;have hmx:max N 1=N:=ω;have h2:(∀e,e∈E->e.w<=9223372036854775807 / N)↔N*IP E<=9223372036854775807:=by
   rw [←SC (Int.ediv_nonneg ω ω),Int.le_ediv_iff_mul_le hN1,Int.mul_comm]
  rw [←h2,List.all_eq_true];constructor
  ·intro h e he;have:=h e he;unfold IM at this;rw [hmx] at this;simp only [Τ,Ο] at this;exact this.2
  ·intro h e he;unfold IM;rw [hmx,Ν (h0 e he),Ν (h e he)]
   rfl
theorem zK (w:World) (N:Int) (va:Value) (E:List Ed) (hE:vB w va E) (hwb:∀e,e∈E->e.w<=9223372036854775807) :
  Calls Tryz.prog 51 #[.agg #[.int .i64 N,va]] w fun r w'=>r=.returned (.int .i64 (VP (bI N E)))/\aa [] w w':=by
 have kr:=fun W (hW:aa [] w W)=>y5 W N va E (hE.upd hW);obtain ⟨a,cap,rfl,hcap⟩:=hE.shape;have HE:=χ hE;have hl:E.length<=9223372036854775807:=by obtain ⟨_,_,_,_,h,_⟩:=hE;exact h
 clear hE;have u0:aa [] w (w.alloc (.cells #[.int .i64 N,.slice a E.length cap] 57)):=(aa.refl _ _).alloc _;cases hr:fP N E with
 | false=>
  have hw:bI N E=false:=by unfold bI;rw [hr];rfl
  rw [hw];rw [hr] at kr;clear hw hr;generalize E.length=n at *
  go_enter Tryz.func51,Tryz.ntmps51
  go_wp2_with (first
   | ((go_at_call 74;(with_reducible refine (kr _ u0).mono ?_));rintro e w1 ⟨rfl,hu1⟩)
   | fail)
  go_ret;exact ⟨rfl,u0.trans hu1⟩
 | true=>
  have HR:=χ hr;have hNb:=oO hr;rw [hr] at kr;clear hr;obtain ⟨Nn,rfl⟩:∃Nn:Nat,N=Nn:=⟨N.toNat,ω⟩;generalize hn:E.length=n at *;have HN:=χ hn;have HB:=χ hwb;clear hn hwb
  go_enter Tryz.func51,Tryz.ntmps51
  go_wp2_with (first
   | ((go_at_call 74;(with_reducible refine (kr _ u0).mono ?_));rintro e w1 ⟨rfl,hu1⟩;(have q1:w1.cell? ⟨w.heap.size,1,none⟩=some (.slice a n cap):=hu1.was σ))
   | fail)
  clear q1
  go_loopw [4,6,17] (fun m _ i wr=>∃k:Nat,k<=n/\i=.int .i64 (k:Int)/\m=.int .i64 (IP (E.take k))/\(∀e,e∈E.take k->0<=e.w)/\aa [] (w.alloc (.cells #[.int .i64 Nn,.slice a n cap] 57)) wr) (fun _ _ i _=>n-(intOf i).toNat)
  case atStart=>exact ⟨0,ω,rfl,rfl,σ,hu1⟩
  case round=>
   clear hu1 kr;obtain ⟨k,hk,rfl,rfl,hpos,hu⟩:=hrel;rename World=>wr;have q0:wr.cell? ⟨w.heap.size,0,none⟩=some (.int .i64 Nn):=hu.was σ;have q1:wr.cell? ⟨w.heap.size,1,none⟩=some (.slice a n cap):=hu.was σ;have hsz:w.heap.size<wr.heap.size:=by have:=hu.size;simp at this;omega
   have HP:=χ hpos;clear hpos
   by_cases hkn:k<n
   ·have LP:k<E.length:=by rw [HN.out];exact hkn
    have hx:E[k]?=some (E.getD k default):=by simp [φ,LP]
    have hmem:E.getD k default∈E:=Η hx;obtain ⟨g,off,rfl,hg,c0,c1,c2⟩:=(HE.out.upd (u0.trans hu)).at k LP;generalize E.getD k default=e at *;have HT:=χ (Rc E k _ hx);have HM:=χ hmem;have HX:=χ hx;have hwr:IntKind.i64.wrap ((k:Int)+1)=(k:Int)+1:=Μ _ ω;obtain ⟨ef,et,ew⟩:=e;dsimp only at c0 c1 c2;clear hx hmem HE;generalize hmo:IP (E.take k)=mo at *;have HMO:=χ hmo;clear hmo
    by_cases b0:ew<0
    ·have hf:Hid (bI Nn E=false):=χ (by
      have hw:bI Nn E=E.all (IM Nn):=by unfold bI;rw [HR.out];rfl
      rw [hw,uO (IM Nn) E _ HM.out (by unfold IM;rw [Ξ (by dsimp only;omega)];rfl)])
     have b0b:decide (ew<0)=true:=by simpa using b0
     go_wp2;go_ret;exact ⟨by rw [hf.out];rfl,by have:=u0.trans hu;exact β⟩
    ·have b0b:decide (ew<0)=false:=by simpa using b0
     go_wp2;refine ⟨⟨k+1,ω,by go_num,by rw [HT.out],fun e he=>?_,β⟩,by simp [intOf];omega⟩;rw [Ϗ,HX.out] at he;rcases τ.1 he with he|he
     ·exact HP.out e he
     ·simp at he;subst he;dsimp only;omega
   ·obtain rfl:k=n:=ω;have hT:E.take k=E:=by rw [←HN.out,List.take_length]
    rw [hT];have hpos:∀e,e∈E->0<=e.w:=by have:=HP.out;rw [hT] at this;exact this
    have hiff:=Pe HR.out hpos;have h1:=Um E;have h2:IP E<=9223372036854775807:=(SC ω).2 HB.out;obtain ⟨mo,hmo⟩:∃mo:Nat,IP E=mo:=⟨(IP E).toNat,ω⟩;rw [hmo] at hiff h2;rw [hmo];have kM:=fun W=>Tryz.bits_Mul64 Nn mo ω ω W;have w1:IntKind.u64.wrap (Nn:Int)=(Nn:Int):=by rw [IntKind.wrap_u64];omega
    have w2:IntKind.u64.wrap (mo:Int)=(mo:Int):=by rw [IntKind.wrap_u64];omega
    have hP:((Nn:Int)*(mo:Int))=((Nn*mo:Nat):Int):=(Int.natCast_mul _ _).symm;rw [hP] at hiff;generalize Nn * mo=P at *;clear hT hpos hmo h1 hP;cases Zj:bI Nn E with
    | false=>
     have hbig:¬ ((P:Int)<=9223372036854775807):=fun h=>by rw [hiff.2 h] at Zj;cases Zj
     have HWB:=χ Zj;clear Zj hiff;have hor:0<P / 18446744073709551616\/(P / 18446744073709551616=0/\9223372036854775807<P % 18446744073709551616):=ω;generalize P / 18446744073709551616=hi at *;generalize P % 18446744073709551616=lo at *;rcases hor with h|⟨h,h'⟩
     ·go_wp2_with (first
       | ((go_at_call 75;(with_reducible refine (kM _).mono ?_));rintro e w9 ⟨rfl,aI⟩;rw [aI];clear aI w9)
       | fail)
      go_ret;exact ⟨by rw [HWB.out];rfl,by have:=u0.trans hu;exact β⟩
     ·subst h;have h'':(9223372036854775807:Int)<(lo:Int):=ω
      go_wp2_with (first
       | ((go_at_call 75;(with_reducible refine (kM _).mono ?_));rintro e w9 ⟨rfl,aI⟩;rw [aI];clear aI w9)
       | fail)
      go_ret;exact ⟨by rw [HWB.out];rfl,by have:=u0.trans hu;exact β⟩
    | true=>
     have hsm:(P:Int)<=9223372036854775807:=hiff.1 Zj;have HWB:=χ Zj;clear Zj hiff;have hor:P / 18446744073709551616=0/\¬ (9223372036854775807<P % 18446744073709551616):=ω;generalize P / 18446744073709551616=hi at *;generalize P % 18446744073709551616=lo at *;obtain ⟨h,h'⟩:=hor;subst h;have h'':¬ (9223372036854775807:Int)<(lo:Int):=ω;have h3:decide ((9223372036854775807:Int)<(lo:Int))=false:=by simpa using h''
     go_wp2_with (first
      | ((go_at_call 75;(with_reducible refine (kM _).mono ?_));rintro e w9 ⟨rfl,aI⟩;rw [aI];clear aI w9)
      | fail)
     go_ret;exact ⟨by rw [HWB.out];rfl,by have:=u0.trans hu;exact β⟩
end Go.Proofs.YtklibcncmbofpaaGreat
namespace Go.Proofs.YtklibcncmbofpaaGreat
def toN (e:Ed):En:=⟨e.f.toNat,e.t.toNat,e.w.toNat⟩
def dN (D:List Int):Nat->Nat:=fun v=>(D.getD v 0).toNat
theorem rM {D:List Int} {P:Int->Prop} (h:∀x,x∈D->P x) {i:Nat} (hi:i<D.length):P (D.getD i 0):=by
 have:D[i]?=some (D.getD i 0):=by simp [φ,hi]
 exact h _ (Η this)
theorem jW {N:Int} {E:List Ed} (h:bI N E=true):fP N E=true:=by
 unfold bI at h;simp only [Τ] at h;exact h.1
theorem oQ {N:Int} {E:List Ed} (h:bI N E=true) {e:Ed} (he:e∈E):0<=e.w/\e.w<=9223372036854775807 / N:=by
 have hr:=jW h;have hN:=jA hr he;have hmx:max N 1=N:=ω;unfold bI at h;simp only [Τ] at h;have:=List.all_eq_true.1 h.2 e he;rw [hmx] at this;simp only [Τ,Ο] at this;exact this
theorem pX {N:Nat} {E:List Ed} (h:bI (N:Int) E=true) {s:Nat} (hs:s<N):EW (E.map toN) s N (9223372036854775807 / N):=by
 have hr:=jW h;have hb:=oO hr;refine ⟨hs,Nat.div_pos ω ω,by unfold inf;exact Nat.mul_div_le _ _,fun e he=>?_⟩;obtain ⟨e',he',rfl⟩:=List.mem_map.1 he;have h1:=jA hr he';have h2:=oQ h he';have h3:(9223372036854775807:Int) / (N:Int)=((9223372036854775807 / N:Nat):Int):=(Int.natCast_ediv 9223372036854775807 N).symm;rw [h3] at h2;unfold toN;generalize 9223372036854775807 / N=q at *;dsimp only;omega
theorem Nb {N:Int} {E:List Ed} {D:List Int} (hr:fP N E=true) (hN:(D.length:Int)=N) (hw:∀e,e∈E->0<=e.w) (hb:∀x,x∈D->0<=x/\x<=9223372036854775807) :
  Q8 D E=true↔xm (E.map toN) (dN D):=by
 have key:∀e,e∈E->(Cu D e=false↔(dN D (toN e).f≠inf->dN D (toN e).t<=dN D (toN e).f+(toN e).w)):=fun e he=>by
  have h1:=jA hr he;have h2:=rM hb (i:=e.f.toNat) ω;have h3:=rM hb (i:=e.t.toNat) ω;have h4:=hw e he;unfold Cu dN toN inf;dsimp only;generalize D.getD e.f.toNat 0=x at *;generalize D.getD e.t.toNat 0=y at *;generalize e.w=z at *;simp only [Bool.and_eq_false_iff,decide_eq_false_iff_not];constructor
  ·intro h hx;rcases h with (h|h)|h<;>omega
  ·intro h
   by_cases hx:x=9223372036854775807
   ·exact Α (Α ω)
   ·have:=h ω;exact Β ω
 unfold Q8;constructor
 ·intro h e he;obtain ⟨e',he',rfl⟩:=List.mem_map.1 he;refine (key e' he').1 ?_;cases hn:Cu D e' with
  | false=>rfl
  | true=>rw [List.any_eq_true.2 ⟨e',he',hn⟩] at h;cases h
 ·intro h;have:E.any (Cu D)=false:=by
   cases ha:E.any (Cu D) with
   | false=>rfl
   | true=>
    obtain ⟨e,he,hn⟩:=List.any_eq_true.1 ha;rw [(key e he).2 (h _ (List.mem_map.2 ⟨e,he,rfl⟩))] at hn;cases hn
  rw [this];rfl
end Go.Proofs.YtklibcncmbofpaaGreat
namespace Go.Proofs.YtklibcncmbofpaaGreat
open Go Go.RowKit
theorem VC:(Tryz.prog.info? 2).map (fun i=>(i.zero,i.size,i.bytes))=some (some (.int .i64 0),1,8):=by kernel_rfl
structure IE (e:TypeId) (w:World) (g cap:Nat) (l:List Int):Prop where
 own:w.ownsRow 0 e 1 (.slice (some ⟨g,0,none⟩) l.length cap) l.length (aP l)
theorem IE.lt {e:TypeId} {w:World} {g cap:Nat} {l:List Int} (h:IE e w g cap l):g<w.heap.size:=(h.own.lt g rfl).2
theorem IE.cell {e:TypeId} {w:World} {g cap:Nat} {l:List Int} (h:IE e w g cap l) (j:Nat) (hj:j<l.length):w.cell? ⟨g,j,none⟩=some (.int .i64 (l.getD j 0)):=by
 rw [h.own.cellAt j ω];exact lG hj
theorem IE.free {e:TypeId} {w:World} {g cap:Nat} {l:List Int} (h:IE e w g cap l) (j:Nat):w.frozen? ⟨g,j,none⟩=false:=h.own.frozenAt j
theorem IE.upd {e:TypeId} {w w':World} {S:List Nat} {g cap:Nat} {l:List Int} (h:IE e w g cap l) (hu:aa S w w') (hn:g∉S):IE e w' g cap l:=
 ⟨ay h.own hu (fun k hk=>by cases hk;exact hn)⟩
theorem IE.set {e:TypeId} {w:World} {g cap:Nat} {l:List Int} (h:IE e w g cap l) (j:Nat) (x:Int):IE e (w.setCell ⟨g,j,none⟩ (.int .i64 x)) g cap (l.set j x):=by
 rcases h.own.2 with ⟨h1,_⟩|⟨g',cap',cur,h1,hb,hg,hn,hc,hs,ht⟩
 ·cases h1
 ·cases h1;refine ⟨⟨by rw [fq];omega,Β ⟨g,cap,cur.setIfInBounds j (.int .i64 x),by rw [Ι],ω,?_,by rw [Ι];exact hn,hc,ζ,?_⟩⟩⟩
  ·simp [World.setCell,Array.getElem?_modify,hg]
  ·rw [Ι,Array.toList_setIfInBounds]
   by_cases hj:j<l.length
   ·rw [List.take_set,ht];unfold aP;rw [List.map_set]
   ·rw [List.take_set_of_le ω,ht,List.set_eq_of_length_le ω]
theorem IE.gW {e:TypeId} {w:World} {base n:Nat} {v:Value} {l:List Int} (h:w.ownsRow base e 1 v n (aP l)) (hl:0<n):∃g cap,v=.slice (some ⟨g,0,none⟩) n cap/\IE e w g cap l/\base<=g/\l.length=n:=by
 obtain ⟨g,cap,rfl,hb,_⟩:=fM h hl;have hl':l.length=n:=by have:=h.1;rw [fq] at this;omega
 exact ⟨g,cap,rfl,⟨by rw [hl'];exact lF h ω⟩,hb,hl'⟩
theorem iC.JG {e:TypeId} {w:World} {base n:Nat} {v:Value} {xs:List Int} {F:List Nat} (h:w.ownsRow base e 1 v n (aP xs)) (hF:∀g,g∈F->g<base):iC w F v xs:=by
 have hl':xs.length=n:=by have:=h.1;rw [fq] at this;omega
 subst hl';rcases h.2 with ⟨rfl,h0⟩|⟨g,cap,cur,rfl,hb,hg,hn,hc,_⟩
 ·have:xs=[]:=ϙ h0;subst this;exact ⟨none,0,rfl,σ,ω,fun j u hj=>by simp at hj⟩
 ·refine ⟨_,cap,rfl,hn,by unfold maxLen at hc;exact hc,fun j u hj=>⟨g,0,rfl,(h.lt g rfl).2,fun hm=>by have:=hF g hm;omega,?_⟩⟩;have hjl:=(List.getElem?_eq_some_iff.1 hj).1;rw [ϓ,h.cellAt j ω,lG hjl];simp [φ,hj]
def xD (n:Nat) (d:Nat->Nat):List Int:=(List.range n).map (fun v=>((d v:Nat):Int))
theorem Gg (n:Nat) (d:Nat->Nat):(xD n d).length=n:=by unfold xD;simp
theorem Fs {n:Nat} {d:Nat->Nat} {v:Nat} (hv:v<n):(xD n d).getD v 0=((d v:Nat):Int):=by
 unfold xD;simp [φ,hv]
theorem zu {n:Nat} {d:Nat->Nat} {x v:Nat}:(xD n d).set x ((v:Nat):Int)=xD n (bW d x v):=by
 apply List.ext_getElem?;intro j;unfold xD bW;rw [ύ]
 by_cases h:x=j
 ·subst h
  by_cases hx:x<n
  ·simp [hx]
  ·simp [hx]
 ·simp [h]
  by_cases hj:j<n
  ·simp [hj];rw [Γ (fun e=>h e.symm)]
  ·simp [hj]
def srC (N gd cd gb cb p gh mb:Nat) (j:Nat):Value:=[Value.slice (some ⟨gd,0,none⟩) N cd,.slice (some ⟨gb,0,none⟩) N cb,.pointer (some ⟨p,0,none⟩),.slice (some ⟨gh,0,none⟩) N N,.map (some mb)].getD j undef
structure sj where
 b:Nat
 p:Nat
 gd:Nat
 cd:Nat
 gb:Nat
 cb:Nat
 gh:Nat
 mb:Nat
def sj.own (X:sj):List Nat:=[X.b,X.gd,X.gb,X.gh,X.mb]
structure qa (K:gD) (w:World) (X:sj) (F:List Nat) (kd dd:Int) (N:Nat) (D B:List Int) (hc:Nat->Value) (c:Nat) (f:Int->Int->Option Int) (R:AR) (A:NS) (q:Nat):Prop where
 head:aK w X.b 109 5 (srC N X.gd X.cd X.gb X.cb X.p X.gh X.mb)
 vG:IE 2 w X.gd X.cd D
 by':IE 3 w X.gb X.cb B
 hrow:aK w X.gh 85 (N*2) hc
 map:nT w X.mb c f
 pq:gu K w X.p F kd dd R A q
 lD:D.length=N
 lB:B.length=N
 nd:X.own.Nodup
 nF:∀x,x∈X.own->x∉F
section
variable {K:gD} {w:World} {X:sj} {F:List Nat} {kd dd:Int} {N:Nat} {D B:List Int} {hc:Nat->Value} {c:Nat} {f:Int->Int->Option Int} {R:AR} {A:NS} {q:Nat}
theorem qa.aj {w':World} (h:qa K w X F kd dd N D B hc c f R A q) (hu:aa [] w w'):qa K w' X F kd dd N D B hc c f R A q:=
 ⟨h.head.upd hu σ,h.vG.upd hu σ,h.by'.upd hu σ,h.hrow.upd hu σ,h.map.upd hu σ,h.pq.aj hu,h.lD,h.lB,h.nd,h.nF⟩
theorem qa.c0 (h:qa K w X F kd dd N D B hc c f R A q):w.cell? ⟨X.b,0,none⟩=some (.slice (some ⟨X.gd,0,none⟩) N X.cd):=h.head.cellAt 0 ω rfl
theorem qa.c1 (h:qa K w X F kd dd N D B hc c f R A q):w.cell? ⟨X.b,1,none⟩=some (.slice (some ⟨X.gb,0,none⟩) N X.cb):=h.head.cellAt 1 ω rfl
theorem qa.c2 (h:qa K w X F kd dd N D B hc c f R A q):w.cell? ⟨X.b,2,none⟩=some (.pointer (some ⟨X.p,0,none⟩)):=h.head.cellAt 2 ω rfl
theorem qa.c3 (h:qa K w X F kd dd N D B hc c f R A q):w.cell? ⟨X.b,3,none⟩=some (.slice (some ⟨X.gh,0,none⟩) N N):=h.head.cellAt 3 ω rfl
theorem qa.c4 (h:qa K w X F kd dd N D B hc c f R A q):w.cell? ⟨X.b,4,none⟩=some (.map (some X.mb)):=h.head.cellAt 4 ω rfl
theorem qa.lt (h:qa K w X F kd dd N D B hc c f R A q):∀x,x∈X.own->x<w.heap.size:=fun x hx=>by
 simp only [sj.own,ρ,ς,or_false] at hx;rcases hx with rfl|rfl|rfl|rfl|rfl
 ·exact h.head.lt
 ·exact h.vG.lt
 ·exact h.by'.lt
 ·exact h.hrow.lt
 ·exact h.map.lt
theorem qa.ne (h:qa K w X F kd dd N D B hc c f R A q):¬X.gd=X.gb/\¬X.gb=X.gd:=by
 have hn:=h.nd;simp only [sj.own,Ζ,ρ,ς,or_false,not_or] at hn;exact ⟨hn.2.1.1,fun e=>hn.2.1.1 e.symm⟩
theorem qa.store (h:qa K w X F kd dd N D B hc c f R A q) {w':World} {R':AR} {A':NS} {q':Nat} (hg:Goes F w w' (fun F'=>gu K w' X.p F' kd dd R' A' q')):∃F',qa K w' X F' kd dd N D B hc c f R' A' q'/\aa F w w'/\∀x,x∈F'->x∈F\/w.heap.size<=x:=by
 obtain ⟨F',hP,hu,hf⟩:=hg;have hl:=h.lt;have hn:=fun x hx=>h.nF x (show x∈X.own from hx);refine ⟨F',⟨h.head.upd hu (hn _ (by simp [sj.own])),h.vG.upd hu (hn _ (by simp [sj.own])),h.by'.upd hu (hn _ (by simp [sj.own])),h.hrow.upd hu (hn _ (by simp [sj.own])),h.map.upd hu (hn _ (by simp [sj.own])),hP,h.lD,h.lB,h.nd,fun x hx hm=>?_⟩,hu,hf⟩;rcases hf x hm with e|e
 ·exact h.nF x hx e
 ·have:=hl x hx;omega
theorem qa.set (h:qa K w X F kd dd N D B hc c f R A q) (v:Nat) (x y:Int):qa K ((w.setCell ⟨X.gd,v,none⟩ (.int .i64 x)).setCell ⟨X.gb,v,none⟩ (.int .i64 y)) X F kd dd N (D.set v x) (B.set v y) hc c f R A q:=by
 have hu:aa [X.gd,X.gb] w ((w.setCell ⟨X.gd,v,none⟩ (.int .i64 x)).setCell ⟨X.gb,v,none⟩ (.int .i64 y)):=((aa.refl _ _).setCell (Α σ) _).setCell (Α σ) _;have u1:aa [X.gd] w (w.setCell ⟨X.gd,v,none⟩ (.int .i64 x)):=(aa.refl _ _).setCell (Α σ) _;have u2:aa [X.gb] (w.setCell ⟨X.gd,v,none⟩ (.int .i64 x)) ((w.setCell ⟨X.gd,v,none⟩ (.int .i64 x)).setCell ⟨X.gb,v,none⟩ (.int .i64 y)):=(aa.refl _ _).setCell (Α σ) _;have hn:=h.nd;simp only [sj.own,Ζ,ρ,ς,or_false,not_or,Ϡ,and_true,not_false_eq_true] at hn;obtain ⟨⟨a1,a2,a3,a4⟩,⟨a5,a6,a7⟩,⟨a8,a9⟩,a10⟩:=hn
 refine ⟨h.head.upd hu (by simp;exact ⟨a1,a2⟩),(h.vG.set v x).upd u2 (by simpa using a5),((h.by'.upd u1 (by simp;exact fun e=>a5 e.symm)).set v y),h.hrow.upd hu (by simp;exact ⟨fun e=>a6 e.symm,fun e=>a8 e.symm⟩),h.map.upd hu (by simp;exact ⟨fun e=>a7 e.symm,fun e=>a9 e.symm⟩),h.pq.upd hu (fun z hz=>?_),by simp [h.lD],by simp [h.lB],h.nd,h.nF⟩;simp at hz;rcases hz with rfl|rfl
 ·exact h.nF _ (by simp [sj.own])
 ·exact h.nF _ (by simp [sj.own])
theorem Sm (h:qa K w X F kd dd N D B hc c f R A q) (v:Nat) (hv:v<N) (far y:Int) (hf:D.getD v 0<=far) :
  Calls Tryz.prog 54 #[.pointer (some ⟨X.b,0,none⟩),.int .i64 (v:Int),.int .i64 far,.int .i64 y] w fun e w'=>e=.returned (.tuple #[])/\aa [] w w':=by
 have c0:=h.c0;have d0:=h.vG.cell v (by rw [h.lD];exact hv);have hvI:(v:Int)<(N:Int):=ω;generalize D.getD v 0=x at *;clear h
 go_enter Tryz.func54,Tryz.ntmps54
 go_wp2;exact bodyPost_ret (v:=.tuple #[]) (by simp [results,Tryz.results54,go_sem]) rfl ⟨rfl,β⟩
theorem O4 (h:qa K w X F kd dd N D B hc c f R A q) (v sl:Nat) (hv:v<N) (far y:Int) (h1:D.getD v 0≠9223372036854775807) (h2:far<D.getD v 0) (hb:-9223372036854775808<=far) (hs0:hc (v*2)=.int .i64 (sl:Int)) (hs1:hc (v*2+1)=.int .u32 (R.g sl:Int)) (hlv:R.v sl=true) (hk:(A.c sl).k=D.getD v 0) :
  Calls Tryz.prog 54 #[.pointer (some ⟨X.b,0,none⟩),.int .i64 (v:Int),.int .i64 far,.int .i64 y] w fun e w'=>e=.returned (.tuple #[])/\∃F',qa K w' X F' kd dd N (D.set v far) (B.set v y) hc c f R (ak A (sl:Int) far (A.c sl).s) q/\aa (X.own++F) w w'/\∀x,x∈F'->x∈F\/w.heap.size<=x:=by
 have c0:=h.c0;have c2:=h.c2;have c3:=h.c3;have d0:=h.vG.cell v (by rw [h.lD];exact hv);have e0:=h.hrow.cellAt (v*2) ω hs0;have e1:=h.hrow.cellAt (v*2+1) ω hs1;have hvI:(v:Int)<(N:Int):=ω;have kd':=fun W (hW:aa [] w W)=>SA (h.pq.aj hW) sl far hlv ω hb;have HH:=χ h;have hge:decide (far≥D.getD v 0)=false:=Ξ ω;have hge2:¬D.getD v 0<=far:=ω;have hne:(D.getD v 0 == 9223372036854775807)=false:=by simpa using h1
 have hlo:=h.lt;have hnF:=h.nF;have HV:=χ hv;generalize D.getD v 0=x at *;generalize R.g sl=gs at *;clear h hs0 hs1 hlv hk h1 h2
 go_enter Tryz.func54,Tryz.ntmps54
 go_upto_region 5 with (fail)
 refine iV (fun W=>aa [] w W) β ?_;intro W hW;have z2:=hW.was c2;have z3:=hW.was c3;have y0:=hW.was e0;have y1:=hW.was e1;have Xv:=kd' W.drew (hW.drew);have HW:=χ hW;clear hW c0 c2 c3 d0 e0 e1 kd' hge hge2 hne
 go_region_law
  (first
   | (go_simp;go_at_call 76;(with_reducible refine (Xv).mono ?_);rintro e w5 ⟨rfl,hg⟩))
 all_goals
  obtain ⟨F',hS,bK,Vy⟩:=(HH.out.aj (HW.out.drew)).store hg;have u0:=hS.c0;have u1:=hS.c1;have g0:=hS.vG.cell v (by rw [hS.lD];exact HV.out);have g1:=hS.by'.cell v (by rw [hS.lB];exact HV.out);have fg0:=hS.vG.free v;have fg1:=hS.by'.free v;have hls:=hS.lt;obtain ⟨hn1,hn2⟩:=hS.ne;have HS:=χ (ψ hS (ψ bK Vy));clear hS bK Vy hg
  go_upto_region 6 with (fail)
  go_region
  all_goals
   go_wp2;obtain ⟨hS,bK,Vy⟩:=HS.out;have Ul:aa (X.own++F) w w5:=(HW.out.mono σ).trans (aa.trans β (bK.mono (fun z hz=>by simp [hz])));have hfin:=hS.set v far y;go_end0;refine ⟨rfl,F',hfin.aj β,?_,fun z hz=>?_⟩
   ·exact ((Ul.setCell (p:=⟨X.gd,v,none⟩) (Α (by simp [sj.own])) (.int .i64 far)).setCell (p:=⟨X.gb,v,none⟩) (Α (by simp [sj.own])) (.int .i64 y)).trans β
   ·rcases Vy z hz with e|e
    ·exact Α e
    ·exact Β (Χ HW.out.size e)
end
theorem nT.drew {w:World} {b c:Nat} {f:Int->Int->Option Int} (h:nT w b c f):nT w.drew b c f:=h.upd (S:=[]) ((aa.refl _ _).drew) σ
section
variable {K:gD} {w:World} {X:sj} {F:List Nat} {kd dd:Int} {N:Nat} {D B:List Int} {hc:Nat->Value} {c:Nat} {f:Int->Int->Option Int} {R:AR} {A:NS} {q:Nat}
theorem qa.nes (h:qa K w X F kd dd N D B hc c f R A q):(X.b≠X.gh/\X.gd≠X.gh/\X.gb≠X.gh/\X.mb≠X.gh)/\(X.b≠X.mb/\X.gd≠X.mb/\X.gb≠X.mb/\X.gh≠X.mb):=by
 have hn:=h.nd;simp only [sj.own,Ζ,ρ,ς,or_false,not_or] at hn;obtain ⟨⟨a1,a2,a3,a4⟩,⟨a5,a6,a7⟩,⟨a8,a9⟩,a10,_⟩:=hn;exact ⟨⟨a3,a6,a8,fun e=>a10 e.symm⟩,⟨a4,a7,a9,a10⟩⟩
def xR (hc:Nat->Value) (v:Nat) (x g:Int) (j:Nat):Value:=if j=v*2+1 then .int .u32 g else if j=v*2 then .int .i64 x else hc j
theorem qa.setH (h:qa K w X F kd dd N D B hc c f R A q) (v:Nat) (x g:Int):qa K ((w.setCell ⟨X.gh,v*2,none⟩ (.int .i64 x)).setCell ⟨X.gh,v*2+1,none⟩ (.int .u32 g)) X F kd dd N D B (xR hc v x g) c f R A q:=by
 have hu:aa [X.gh] w ((w.setCell ⟨X.gh,v*2,none⟩ (.int .i64 x)).setCell ⟨X.gh,v*2+1,none⟩ (.int .u32 g)):=((aa.refl _ _).setCell (Α σ) _).setCell (Α σ) _;obtain ⟨⟨a1,a2,a3,a4⟩,_⟩:=h.nes;exact ⟨h.head.upd hu (by simpa using a1),h.vG.upd hu (by simpa using a2),h.by'.upd hu (by simpa using a3),((h.hrow.set (v*2) _).set (v*2+1) _).ext (fun j _=>rfl),h.map.upd hu (by simpa using a4),h.pq.upd hu (fun z hz=>by simp at hz;subst hz;exact h.nF _ (by simp [sj.own])),h.lD,h.lB,h.nd,h.nF⟩
theorem qa.VV (h:qa K w X F kd dd N D B hc c f R A q) {w':World} {c':Nat} {f':Int->Int->Option Int} (hm:nT w' X.mb c' f') (hu:aa [X.mb] w w'):qa K w' X F kd dd N D B hc c' f' R A q:=by
 obtain ⟨_,⟨a1,a2,a3,a4⟩⟩:=h.nes;exact ⟨h.head.upd hu (by simpa using a1),h.vG.upd hu (by simpa using a2),h.by'.upd hu (by simpa using a3),h.hrow.upd hu (by simpa using a4),hm,h.pq.upd hu (fun z hz=>by simp at hz;subst hz;exact h.nF _ (by simp [sj.own])),h.lD,h.lB,h.nd,h.nF⟩
theorem CR (h:qa K w X F kd dd N D B hc c f R A q) (v:Nat) (hv:v<N) (far y:Int) (h1:D.getD v 0=9223372036854775807) (h2:far<9223372036854775807) (hb:-9223372036854775808<=far) (hB:bD A 1=true) (hq:q+1<=18446744073709551615) (hN:N<=65536) (hcc:c<9223372036854775807) {x:Nat} {R':AR} (hT:uG R=some (x,R')) :
  Calls Tryz.prog 54 #[.pointer (some ⟨X.b,0,none⟩),.int .i64 (v:Int),.int .i64 far,.int .i64 y] w fun e w'=>e=.returned (.tuple #[])/\∃F',qa K w' X F' kd dd N (D.set v far) (B.set v y) (xR hc v (x:Int) ((R.g x:Int)+1)) (c+1) (fun z e=>if z=(x:Int)/\e=(R.g x:Int)+1 then some (v:Int) else f z e) R' (aJ A 1 (x:Int) far ((q:Int)+1)) (q+1)/\aa (X.own++F) w w'/\∀z,z∈F'->z∈F\/w.heap.size<=z:=by
 have c0:=h.c0;have c2:=h.c2;have d0:=h.vG.cell v (by rw [h.lD];exact hv);have hvI:(v:Int)<(N:Int):=ω;have ki:=Hf h.pq 1 far hB ω hq hT;have NR:=wG h.pq.ok.2.1 hT;have hgb:R.g x+1<=4294967295:=by have:=NR.2.2.2.1;have:=h.pq.ok.2.1.UH;omega
 have hxb:x<65536:=by have:=NR.2.1;have:=h.pq.ok.2.1.n;omega
 have HH:=χ h;have HV:=χ hv;rw [h1] at d0;have hge:decide (far≥9223372036854775807)=false:=Ξ ω;generalize R.g x=gx at *;clear h h1 NR hB hT
 go_enter Tryz.func54,Tryz.ntmps54
 go_upto_region 3 with (first
  | ((go_at_call 40;(with_reducible refine (ki).mono ?_));rintro e w1 ⟨rfl,hg⟩)
  | fail)
 obtain ⟨F',hS,hu1,hf1⟩:=HH.out.store hg;refine iV (fun W=>W.cell? ⟨w1.heap.size,0,none⟩=some (.int .i64 (x:Int))/\W.cell? ⟨w1.heap.size,1,none⟩=some (.int .u32 ((gx:Int)+1))/\aa [] w1 W) ⟨γ,γ,β⟩ ?_;rintro W ⟨x0,x1,hW⟩;have hSW:=hS.aj hW;have z3:=hSW.c3;have t0:=hSW.hrow.cell (v*2) (by have:=HV.out;omega);have t1:=hSW.hrow.cell (v*2+1) (by have:=HV.out;omega);have YK:=hSW.hrow.free (v*2);have Zp:=hSW.hrow.free (v*2+1);have hlt:=hS.lt;have hxg:¬w1.heap.size=X.gh:=fun e=>by have:=hlt X.gh (by simp [sj.own]);omega
 have hxg2:¬X.gh=w1.heap.size:=fun e=>hxg e.symm;have HS:=χ (ψ hSW (ψ hu1 (ψ hf1 hW)));clear hS hu1 hf1 hW hg hSW ki c0 c2 d0 hge
 go_region
 all_goals
  obtain ⟨hSW,hu1,hf1,hW⟩:=HS.out;have hSH:=hSW.setH v (x:Int) ((gx:Int)+1)
  go_upto_region 4 with (fail)
  refine iV (fun W2=>qa K W2 X F' kd dd N D B (xR hc v (x:Int) ((gx:Int)+1)) c f R' (aJ A 1 (x:Int) far ((q:Int)+1)) (q+1)/\W2.cell? ⟨w1.heap.size,0,none⟩=some (.int .i64 (x:Int))/\W2.cell? ⟨w1.heap.size,1,none⟩=some (.int .u32 ((gx:Int)+1))/\aa [X.gh] W W2) ⟨hSH.aj β,γ,γ,β⟩ ?_;rintro W2 ⟨hS2,y0,y1,hW2⟩;have z4:=hS2.c4;have hmap:=hS2.map;have hxm:w1.heap.size∉[X.mb]:=fun e=>by simp at e;have:=hlt X.mb (by simp [sj.own]);omega
  have H2:=χ (ψ hS2 (ψ hW2 (ψ hu1 (ψ hf1 hW))));clear hS2 hW2 hSH hSW hu1 hf1 hW x0 x1 t0 t1 YK Zp z3;obtain ⟨w7,hrun,hm7,jC⟩:=hmap.drew.store hcc (x:Int) ((gx:Int)+1) (v:Int) ω ω ω;unfold hV at hrun
  go_region
  all_goals
   obtain ⟨hS2,hW2,hu1,hf1,hW⟩:=H2.out;have M3:=(hS2.aj ((aa.refl _ _).drew)).VV hm7 jC;have u0:=M3.c0;have u1:=M3.c1;have g0:=M3.vG.cell v (by rw [M3.lD];exact HV.out);have g1:=M3.by'.cell v (by rw [M3.lB];exact HV.out);have fg0:=M3.vG.free v;have fg1:=M3.by'.free v;obtain ⟨hn1,hn2⟩:=M3.ne;have Ul:aa (X.own++F) w w7:=((((hu1.mono (fun z hz=>by simp [hz])).trans (hW.mono σ)).trans (hW2.mono (fun z hz=>by simp at hz;simp [sj.own,hz]))).trans (((aa.refl [] _).drew).mono σ)).trans (jC.mono (fun z hz=>by simp at hz;simp [sj.own,hz]));have HS7:=χ (ψ M3 (ψ Ul hf1))
   clear M3 Ul hS2 hW2 hu1 hf1 hW y0 y1 z4 hmap hrun hm7 jC
   go_upto_region 6 with (fail)
   go_region
   all_goals
    go_wp2;go_end0;obtain ⟨M3,Ul,hf1⟩:=HS7.out;refine ⟨rfl,F',(M3.set v far y).aj β,?_,hf1⟩;exact ((Ul.setCell (p:=⟨X.gd,v,none⟩) (Α (by simp [sj.own])) (.int .i64 far)).setCell (p:=⟨X.gb,v,none⟩) (Α (by simp [sj.own])) (.int .i64 y)).trans β
end
def Kk (D:List Int) (e:Ed):Bool:=Xe (D.getD e.f.toNat 0) && decide (D.getD e.t.toNat 0=D.getD e.f.toNat 0+e.w)
theorem Ng {c:Code} {K:Exit->Act->World->Prop} {a:Act} {W:World} (R:World->Prop) (h:R W) (k:∀W',R W'->Code.wp Tryz.prog c K a W'):Code.wp Tryz.prog c K a W:=k W h
def eN (E:List Ed):List En:=E.map toN
def abA (E:List En) (N s:Nat) (W:Nat->Nat) (D B:List Int) (v:Nat):Prop:=
 D.getD v 0=((W v:Nat):Int)/\((v=s\/W v=inf)->B.getD v 0=-1)/\(¬ (v=s\/W v=inf)->bg E (fun x=>B.getD x 0) W s N v=true)
def K9 (E:List En) (N s:Nat) (W:Nat->Nat) (D B:List Int):Prop:=D.length=N/\B.length=N/\∀v,v<N->abA E N s W D B v
theorem JZ {E:List En} {b:Nat->Int} {W:Nat->Nat} {s k x:Nat} (hx:x≠s):bg E b W s (k+1) x=(jF E b W x && bg E b W s k (qZ E b x)):=by
 show (decide (x=s) || _)=_
 rw [Ξ hx];rfl
theorem MK {E:List En} {b:Nat->Int} {W:Nat->Nat} {s:Nat} (k:Nat):bg E b W s k s=true:=by
 cases k with
 | zero=>show decide (s=s)=true;simp
 | succ k=>show (decide (s=s) || _)=true;simp
theorem DK (E:List Ed):(eN E).length=E.length:=by unfold eN;simp
theorem Yb (E:List Ed) (i:Nat) (hi:i<E.length):IC (eN E) (i:Int)=toN (E.getD i default):=by
 unfold IC eN;simp [φ,hi]
def XF (E:List En) (b:Nat->Int) (s N:Nat):Prop:=∀v,v<N->b v≠-1->abn E b s v
def okV (E:List Ed) (s:Nat) (D B:List Int) (v:Nat):Prop:=
 ((v≠s/\D.getD v 0≠9223372036854775807)↔B.getD v 0≠-1)/\
 (v≠s/\D.getD v 0≠9223372036854775807->0<=B.getD v 0/\B.getD v 0<E.length/\Kk D (E.getD (B.getD v 0).toNat default)=true/\(E.getD (B.getD v 0).toNat default).t=v)
structure Xk (N s:Nat) (E:List Ed) (D B:List Int):Prop where
 lD:D.length=N
 lB:B.length=N
 d0:D.getD s 0=0
 b0:B.getD s 0=-1
 pos:D.any (fun x=>decide (x<0))=false
 feas:Q8 D E=true
 ok:∀v,v<N->okV E s D B v
 root:XF (eN E) (fun x=>B.getD x 0) s N
theorem LJ (D:List Int):D.any (fun x=>decide (x<0))=false↔∀x,x∈D->0<=x:=by
 rw [List.any_eq_false];constructor
 ·intro h x hx;have:=h x hx;simp at this;exact this
 ·intro h x hx;have:=h x hx;simp;exact this
section
variable {N s:Nat} {E:List Ed} {D B:List Int}
theorem yf (hp:∀x,x∈D->0<=x) {v:Nat} (hv:v<D.length):((dN D v:Nat):Int)=D.getD v 0:=by
 have:=rM hp hv;unfold dN;omega
theorem PX (hw:bI (N:Int) E=true) (hl:D.length=N) (hp:∀x,x∈D->0<=x) {v:Nat} (hv:v<N) :
  jF (eN E) (fun x=>B.getD x 0) (dN D) v=true↔0<=B.getD v 0/\B.getD v 0<E.length/\Kk D (E.getD (B.getD v 0).toNat default)=true/\(E.getD (B.getD v 0).toNat default).t=v:=by
 rw [iq,DK]
 by_cases h0:0<=B.getD v 0/\B.getD v 0<E.length
 ·obtain ⟨h1,h2⟩:=h0;obtain ⟨i,hi⟩:∃i:Nat,B.getD v 0=i:=⟨(B.getD v 0).toNat,ω⟩;have VB:i<E.length:=ω;have hx:E[i]?=some (E.getD i default):=by simp [φ,VB]
  have h3:=jA (jW hw) (Η hx);have h4:=oQ hw (Η hx);have WN:IC (eN E) (B.getD v 0)=toN (E.getD i default):=by rw [hi,Yb E i VB]
  have UZ:qZ (eN E) (fun x=>B.getD x 0) v=(E.getD i default).f.toNat:=by
   rw [yS (by show B.getD v 0≠-1;omega)]
   show (IC (eN E) (B.getD v 0)).f=_
   rw [WN];rfl
  rw [UZ]
  show (0<=B.getD v 0/\B.getD v 0<E.length/\(IC (eN E) (B.getD v 0)).t=v/\_/\_+(IC (eN E) (B.getD v 0)).w=_)↔_
  rw [WN,hi,show (i:Int).toNat=i by omega];generalize E.getD i default=e at *;have hf:e.f.toNat<D.length:=ω;have ht:e.t.toNat<D.length:=ω;have d1:=yf hp hf;have d2:=yf hp ht;have d3:=yf hp (show v<D.length by omega);have p1:=rM hp hf;unfold Kk Xe;simp only [Τ,Ο]
  show (_/\_/\e.t.toNat=v/\dN D e.f.toNat≠inf/\dN D e.f.toNat + e.w.toNat=dN D v)↔_
  rw [show inf=9223372036854775807 from rfl];constructor
  ·rintro ⟨_,_,a1,a2,a3⟩;rw [a1] at d2 ⊢;exact ⟨ω,ω,⟨⟨p1,ω⟩,ω⟩,ω⟩
  ·rintro ⟨_,_,⟨⟨_,a2⟩,a3⟩,a4⟩;have a1:e.t.toNat=v:=ω;rw [a1] at a3;exact ⟨ω,ω,a1,ω,ω⟩
 ·constructor
  ·rintro ⟨a,b,_⟩;exact absurd ⟨a,b⟩ h0
  ·rintro ⟨a,b,_⟩;exact absurd ⟨a,b⟩ h0
theorem Pz (hw:bI (N:Int) E=true) (hs:s<N) (hb:∀x,x∈D->x<=9223372036854775807):Xk N s E D B↔K9 (eN E) N s (passes (eN E) s N) D B:=by
 have hg:EW (eN E) s N (9223372036854775807 / N):=pX hw hs;have hwp:∀e,e∈E->0<=e.w:=fun e he=>(oQ hw he).1;have main:∀ (YE:D.length=N) (hlB:B.length=N) (hp:∀x,x∈D->0<=x),Xk N s E D B↔Xg (eN E) N s (passes (eN E) s N) (dN D) (fun x=>B.getD x 0):=by
  intro YE hlB hp;have hd:∀v,v<N->dN D v<=inf:=fun v hv=>by
   have h1:=rM hb (i:=v) ω;have h2:=yf hp (v:=v) ω;rw [show inf=9223372036854775807 from rfl];omega
  rw [←C8 hg hd];have hfe:=Nb (D:=D) (jW hw) ω hwp (fun x hx=>⟨hp x hx,hb x hx⟩);have hinf:∀v,v<N->(D.getD v 0≠9223372036854775807↔dN D v≠inf):=fun v hv=>by
   have h2:=yf hp (v:=v) ω;rw [show inf=9223372036854775807 from rfl];omega
  have hokv:∀v,v<N->(okV E s D B v↔((v≠s/\dN D v≠inf)↔B.getD v 0≠-1)/\(v≠s/\dN D v≠inf->jF (eN E) (fun x=>B.getD x 0) (dN D) v=true)):=fun v hv=>by
   unfold okV;rw [hinf v hv,PX hw YE hp hv]
  have hd0:D.getD s 0=0↔dN D s=0:=by have:=yf hp (v:=s) ω;omega
  constructor
  ·intro h;exact ⟨hd0.1 h.d0,h.b0,hfe.1 h.feas,fun v hv=>(hokv v hv).1 (h.ok v hv),h.root⟩
  ·rintro ⟨h1,h2,h3,h4,h5⟩;exact ⟨YE,hlB,hd0.2 h1,h2,(LJ D).2 hp,hfe.2 h3,fun v hv=>(hokv v hv).2 (h4 v hv),h5⟩
 constructor
 ·intro h;have hp:=(LJ D).1 h.pos;have hT:=(main h.lD h.lB hp).1 h;refine ⟨h.lD,h.lB,fun v hv=>?_⟩;obtain ⟨h1,h2,h3⟩:=hT v hv;exact ⟨by rw [←h1];exact (yf hp (by have:=h.lD;omega)).symm,h2,h3⟩
 ·rintro ⟨YE,hlB,hT⟩;have hp:∀x,x∈D->0<=x:=fun x hx=>by
   obtain ⟨v,hv,rfl⟩:=List.mem_iff_getElem.1 hx;have h1:=(hT v ω).1;have h2:D.getD v 0=D[v]:=by simp [φ,hv]
   rw [h2] at h1;omega
  refine (main YE hlB hp).2 fun v hv=>?_;obtain ⟨h1,h2,h3⟩:=hT v hv;exact ⟨by have:=yf hp (v:=v) ω;omega,h2,h3⟩
end
end Go.Proofs.YtklibcncmbofpaaGreat
