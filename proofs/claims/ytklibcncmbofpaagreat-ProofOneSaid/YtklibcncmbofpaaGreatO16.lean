/-
  Lemmas for ProofOne: Grw, Grx, PrL, Ie, Pth, Pth2, PrT, PrD, PrR, PrS, PrM, PrN. Conditions: those of each lemma.
-/
import Derived.Lib.MinMax
import Derived.Deep.LoopGhost
import Derived.Deep.OwnRows
import Derived.Test.YtklibcncmbofpaaGreatO02
import Derived.Test.YtklibcncmbofpaaGreatO03
import Derived.Test.YtklibcncmbofpaaGreatO15
set_option linter.all false
set_option maxHeartbeats 8000000
set_option maxRecDepth 10000
namespace Go.Proofs.YtklibcncmbofpaaGreat
open Go Go.RowKit
def I1 (N:Int) (e:Ed):Bool:=decide (0<=e.w) && decide (e.w<=9223372036854775807 / max N 1)
theorem JI (w:World) (N:Int) (va:Value) (E:List Ed) (hE:vZ w va E) :
  Calls Tryz.prog 32 #[.agg #[.int .i64 N,va]] w fun r w'=>r=.returned (.bool (bD N E))/\aa [] w w':=by
 have kr:=fun W (hW:aa [] w W)=>K5 W N va E (hE.upd hW);obtain ⟨a,cap,rfl,hcap⟩:=hE.shape;have HE:=χ hE;have hl:E.length<=9223372036854775807:=by obtain ⟨_,_,_,_,h,_⟩:=hE;exact h
 clear hE;have u0:aa [] w (w.alloc (.cells #[.int .i64 N,.slice a E.length cap] 57)):=(aa.refl _ _).alloc _;cases hr:fJ N E with
 | false=>
  have hw:bD N E=false:=by unfold bD;rw [hr];rfl
  rw [hw];rw [hr] at kr;clear hw hr;generalize E.length=n at *
  go_enter Tryz.func32,Tryz.ntmps32
  go_wp2_with (first
   | ((go_at_call 56;(with_reducible refine (kr _ u0).mono ?_));rintro e w1 ⟨rfl,hu1⟩)
   | fail)
  go_ret;exact ⟨rfl,u0.trans hu1⟩
 | true=>
  have HW:=χ (show bD N E=E.all (I1 N) from by unfold bD;rw [hr];rfl);have HR:=χ hr;rw [hr] at kr;clear hr;generalize hn:E.length=n at *;have HN:=χ hn;clear hn
  go_enter Tryz.func32,Tryz.ntmps32
  go_wp2_with (first
   | ((go_at_call 56;(with_reducible refine (kr _ u0).mono ?_));rintro e w1 ⟨rfl,hu1⟩;(have q1:w1.cell? ⟨w.heap.size,1,none⟩=some (.slice a n cap):=hu1.was σ))
   | fail)
  clear q1
  go_loopw [4,11] (fun _ i wr=>∃k:Nat,k<=n/\i=.int .i64 (k:Int)/\(E.take k).all (I1 N)=true/\aa [] (w.alloc (.cells #[.int .i64 N,.slice a n cap] 57)) wr) (fun _ i _=>n-(intOf i).toNat)
  case atStart=>exact ⟨0,ω,rfl,σ,hu1⟩
  case round=>
   clear hu1 kr;obtain ⟨k,hk,rfl,hall,hu⟩:=hrel;rename World=>wr;have q0:wr.cell? ⟨w.heap.size,0,none⟩=some (.int .i64 N):=hu.was σ;have q1:wr.cell? ⟨w.heap.size,1,none⟩=some (.slice a n cap):=hu.was σ;have hsz:w.heap.size<wr.heap.size:=by have:=hu.size;simp at this;omega
   by_cases hkn:k<n
   ·have Ey:k<E.length:=by rw [HN.out];exact hkn
    have hx:E[k]?=some (E.getD k default):=by simp [φ,Ey]
    have hmem:E.getD k default∈E:=Η hx;have hN1:1<=N:=by have:=dM HR.out hmem;omega
    obtain ⟨g,off,rfl,hg,c0,c1,c2⟩:=(HE.out.upd (u0.trans hu)).at k Ey;generalize E.getD k default=e at *;have HT:=χ (FW (I1 N) E k _ hx hall);have HM:=χ hmem;have hwr:IntKind.i64.wrap ((k:Int)+1)=(k:Int)+1:=Μ _ ω;obtain ⟨ef,et,ew⟩:=e;dsimp only at c0 c1 c2;clear hx hmem hall HE;have hmx:max N 1=N:=ω;have hend:I1 N ⟨ef,et,ew⟩=(decide (0<=ew) && decide (ew<=9223372036854775807 / N)):=by unfold I1;rw [hmx]
    have UM:=χ (ψ hmx hend);clear hmx hend
    by_cases b0:ew<0
    ·have hf:Hid (bD N E=false):=χ (by rw [HW.out,vg (I1 N) E _ HM.out (by rw [UM.out.2,Ξ ω];rfl)]);have b0b:decide (ew<0)=true:=by simpa using b0
     go_wp2
     go_quiet (fail)
     go_wp2;go_ret;exact ⟨by rw [hf.out];rfl,by have:=u0.trans hu;exact β⟩
    ·have b0b:decide (ew<0)=false:=by simpa using b0
     have hmx2:max N 1=N:=UM.out.1
     by_cases b1:9223372036854775807 / N<ew
     ·have hf:Hid (bD N E=false):=χ (by rw [HW.out,vg (I1 N) E _ HM.out (by rw [UM.out.2,Ξ (ω:¬ew<=9223372036854775807 / N)];simp)]);have b1b:decide (9223372036854775807 / N<ew)=true:=by simpa using b1
      go_wp2
      go_quiet (fail)
      go_wp2;go_ret;exact ⟨by rw [hf.out];rfl,by have:=u0.trans hu;exact β⟩
     ·have ht:Hid (I1 N ⟨ef,et,ew⟩=true):=χ (by rw [UM.out.2,Ν (ω:0<=ew),Ν (ω:ew<=9223372036854775807 / N)];rfl);have b1b:decide (9223372036854775807 / N<ew)=false:=by simpa using b1
      go_wp2
      go_quiet (fail)
      go_wp2;exact ⟨⟨k+1,ω,by go_num,by rw [HT.out,ht.out],β⟩,by simp [intOf];omega⟩
   ·obtain rfl:k=n:=ω;have hfin:E.all (I1 N)=true:=by rw [←hall,←HN.out,List.take_length]
    have HF:=χ hfin;clear hall hfin;go_wp2;go_ret;exact ⟨aO (by rw [HW.out,HF.out]),by have:=u0.trans hu;exact β⟩
def OT (b:Bool):Int:=if b then 0 else 201
def Jk (l:List Ed):Int:=l.foldl (fun m e=>max m e.w) 0
theorem Tt (l:List Ed) (m b:Int):l.foldl (fun m e=>max m e.w) m<=b↔m<=b/\∀e,e∈l->e.w<=b:=by
 induction l generalizing m with
 | nil=>simp
 | cons a l ih=>
  rw [List.foldl_cons,ih];simp only [ρ,forall_eq_or_imp];constructor
  ·rintro ⟨h1,h2⟩;exact ⟨ω,ω,h2⟩
  ·rintro ⟨h1,h2,h3⟩;exact ⟨ω,h3⟩
theorem TJ {l:List Ed} {b:Int} (hb:0<=b):Jk l<=b↔∀e,e∈l->e.w<=b:=by
 unfold Jk;rw [Tt];exact ⟨fun h=>h.2,fun h=>⟨hb,h⟩⟩
theorem VY (l:List Ed):0<=Jk l:=by
 have:=(Tt l 0 (Jk l)).1 (Int.le_refl _);exact this.1
theorem SL (E:List Ed) (k:Nat) (x:Ed) (hx:E[k]?=some x):Jk (E.take (k+1))=max (Jk (E.take k)) x.w:=by
 unfold Jk;rw [ϐ,hx,List.foldl_append];rfl
theorem Pz {N:Int} {E:List Ed} (hr:fJ N E=true) (h0:∀e,e∈E->0<=e.w):bD N E=true↔N*Jk E<=9223372036854775807:=by
 have hw:bD N E=E.all (I1 N):=by unfold bD;rw [hr];rfl
 have hN:=kN hr;rw [hw]
 by_cases hz:N=0
 ·subst hz;have hE:E=[]:=by
   cases E with
   | nil=>rfl
   | cons a l=>have:=dM hr (e:=a) σ;omega
  subst hE;simp [Jk]
 ·have hN1:0<N:=ω;have hmx:max N 1=N:=ω;have h2:(∀e,e∈E->e.w<=9223372036854775807 / N)↔N*Jk E<=9223372036854775807:=by
   rw [←TJ (Int.ediv_nonneg ω ω),Int.le_ediv_iff_mul_le hN1,Int.mul_comm]
  rw [←h2,List.all_eq_true];constructor
  ·intro h e he;have:=h e he;unfold I1 at this;rw [hmx] at this;simp only [Τ,Ο] at this;exact this.2
  ·intro h e he;unfold I1;rw [hmx,Ν (h0 e he),Ν (h e he)]
   rfl
theorem ql (w:World) (N:Int) (va:Value) (E:List Ed) (hE:vZ w va E) (hwb:∀e,e∈E->e.w<=9223372036854775807) :
  Calls Tryz.prog 51 #[.agg #[.int .i64 N,va]] w fun r w'=>r=.returned (.int .i64 (OT (bD N E)))/\aa [] w w':=by
 have kr:=fun W (hW:aa [] w W)=>Ae W N va E (hE.upd hW);obtain ⟨a,cap,rfl,hcap⟩:=hE.shape;have HE:=χ hE;have hl:E.length<=9223372036854775807:=by obtain ⟨_,_,_,_,h,_⟩:=hE;exact h
 clear hE;have u0:aa [] w (w.alloc (.cells #[.int .i64 N,.slice a E.length cap] 57)):=(aa.refl _ _).alloc _;cases hr:fJ N E with
 | false=>
  have hw:bD N E=false:=by unfold bD;rw [hr];rfl
  rw [hw];rw [hr] at kr;clear hw hr;generalize E.length=n at *
  go_enter Tryz.func51,Tryz.ntmps51
  go_wp2_with (first
   | ((go_at_call 74;(with_reducible refine (kr _ u0).mono ?_));rintro e w1 ⟨rfl,hu1⟩)
   | fail)
  go_ret;exact ⟨rfl,u0.trans hu1⟩
 | true=>
  have HR:=χ hr;have hNb:=kN hr;rw [hr] at kr;clear hr;obtain ⟨Nn,rfl⟩:∃Nn:Nat,N=Nn:=⟨N.toNat,ω⟩;generalize hn:E.length=n at *;have HN:=χ hn;have HB:=χ hwb;clear hn hwb
  go_enter Tryz.func51,Tryz.ntmps51
  go_wp2_with (first
   | ((go_at_call 74;(with_reducible refine (kr _ u0).mono ?_));rintro e w1 ⟨rfl,hu1⟩;(have q1:w1.cell? ⟨w.heap.size,1,none⟩=some (.slice a n cap):=hu1.was σ))
   | fail)
  clear q1
  go_loopw [4,6,17] (fun m _ i wr=>∃k:Nat,k<=n/\i=.int .i64 (k:Int)/\m=.int .i64 (Jk (E.take k))/\(∀e,e∈E.take k->0<=e.w)/\aa [] (w.alloc (.cells #[.int .i64 Nn,.slice a n cap] 57)) wr) (fun _ _ i _=>n-(intOf i).toNat)
  case atStart=>exact ⟨0,ω,rfl,rfl,σ,hu1⟩
  case round=>
   clear hu1 kr;obtain ⟨k,hk,rfl,rfl,hpos,hu⟩:=hrel;rename World=>wr;have q0:wr.cell? ⟨w.heap.size,0,none⟩=some (.int .i64 Nn):=hu.was σ;have q1:wr.cell? ⟨w.heap.size,1,none⟩=some (.slice a n cap):=hu.was σ;have hsz:w.heap.size<wr.heap.size:=by have:=hu.size;simp at this;omega
   have HP:=χ hpos;clear hpos
   by_cases hkn:k<n
   ·have Ey:k<E.length:=by rw [HN.out];exact hkn
    have hx:E[k]?=some (E.getD k default):=by simp [φ,Ey]
    have hmem:E.getD k default∈E:=Η hx;obtain ⟨g,off,rfl,hg,c0,c1,c2⟩:=(HE.out.upd (u0.trans hu)).at k Ey;generalize E.getD k default=e at *;have HT:=χ (SL E k _ hx);have HM:=χ hmem;have HX:=χ hx;have hwr:IntKind.i64.wrap ((k:Int)+1)=(k:Int)+1:=Μ _ ω;obtain ⟨ef,et,ew⟩:=e;dsimp only at c0 c1 c2;clear hx hmem HE;generalize hmo:Jk (E.take k)=mo at *;have HMO:=χ hmo;clear hmo
    by_cases b0:ew<0
    ·have hf:Hid (bD Nn E=false):=χ (by
      have hw:bD Nn E=E.all (I1 Nn):=by unfold bD;rw [HR.out];rfl
      rw [hw,vg (I1 Nn) E _ HM.out (by unfold I1;rw [Ξ (by dsimp only;omega)];rfl)])
     have b0b:decide (ew<0)=true:=by simpa using b0
     go_wp2;go_ret;exact ⟨by rw [hf.out];rfl,by have:=u0.trans hu;exact β⟩
    ·have b0b:decide (ew<0)=false:=by simpa using b0
     go_wp2;refine ⟨⟨k+1,ω,by go_num,by rw [HT.out],fun e he=>?_,β⟩,by simp [intOf];omega⟩;rw [ϐ,HX.out] at he;rcases τ.1 he with he|he
     ·exact HP.out e he
     ·simp at he;subst he;dsimp only;omega
   ·obtain rfl:k=n:=ω;have hT:E.take k=E:=by rw [←HN.out,List.take_length]
    rw [hT];have hpos:∀e,e∈E->0<=e.w:=by have:=HP.out;rw [hT] at this;exact this
    have hiff:=Pz HR.out hpos;have h1:=VY E;have h2:Jk E<=9223372036854775807:=(TJ ω).2 HB.out;obtain ⟨mo,hmo⟩:∃mo:Nat,Jk E=mo:=⟨(Jk E).toNat,ω⟩;rw [hmo] at hiff h2;rw [hmo];have kM:=fun W=>Tryz.bits_Mul64 Nn mo ω ω W;have w1:IntKind.u64.wrap (Nn:Int)=(Nn:Int):=by rw [IntKind.wrap_u64];omega
    have w2:IntKind.u64.wrap (mo:Int)=(mo:Int):=by rw [IntKind.wrap_u64];omega
    have hP:((Nn:Int)*(mo:Int))=((Nn*mo:Nat):Int):=(Int.natCast_mul _ _).symm;rw [hP] at hiff;generalize Nn * mo=P at *;clear hT hpos hmo h1 hP;cases YL:bD Nn E with
    | false=>
     have hbig:¬ ((P:Int)<=9223372036854775807):=fun h=>by rw [hiff.2 h] at YL;cases YL
     have HWB:=χ YL;clear YL hiff;have hor:0<P / 18446744073709551616\/(P / 18446744073709551616=0/\9223372036854775807<P % 18446744073709551616):=ω;generalize P / 18446744073709551616=hi at *;generalize P % 18446744073709551616=lo at *;rcases hor with h|⟨h,h'⟩
     ·go_wp2_with (first
       | ((go_at_call 75;(with_reducible refine (kM _).mono ?_));rintro e w9 ⟨rfl,aG⟩;rw [aG];clear aG w9)
       | fail)
      go_ret;exact ⟨by rw [HWB.out];rfl,by have:=u0.trans hu;exact β⟩
     ·subst h;have h'':(9223372036854775807:Int)<(lo:Int):=ω
      go_wp2_with (first
       | ((go_at_call 75;(with_reducible refine (kM _).mono ?_));rintro e w9 ⟨rfl,aG⟩;rw [aG];clear aG w9)
       | fail)
      go_ret;exact ⟨by rw [HWB.out];rfl,by have:=u0.trans hu;exact β⟩
    | true=>
     have hsm:(P:Int)<=9223372036854775807:=hiff.1 YL;have HWB:=χ YL;clear YL hiff;have hor:P / 18446744073709551616=0/\¬ (9223372036854775807<P % 18446744073709551616):=ω;generalize P / 18446744073709551616=hi at *;generalize P % 18446744073709551616=lo at *;obtain ⟨h,h'⟩:=hor;subst h;have h'':¬ (9223372036854775807:Int)<(lo:Int):=ω;have h3:decide ((9223372036854775807:Int)<(lo:Int))=false:=by simpa using h''
     go_wp2_with (first
      | ((go_at_call 75;(with_reducible refine (kM _).mono ?_));rintro e w9 ⟨rfl,aG⟩;rw [aG];clear aG w9)
      | fail)
     go_ret;exact ⟨by rw [HWB.out];rfl,by have:=u0.trans hu;exact β⟩
end Go.Proofs.YtklibcncmbofpaaGreat
namespace Go.Proofs.YtklibcncmbofpaaGreat
def toN (e:Ed):En:=⟨e.f.toNat,e.t.toNat,e.w.toNat⟩
def dN (D:List Int):Nat->Nat:=fun v=>(D.getD v 0).toNat
theorem rV {D:List Int} {P:Int->Prop} (h:∀x,x∈D->P x) {i:Nat} (hi:i<D.length):P (D.getD i 0):=by
 have:D[i]?=some (D.getD i 0):=by simp [φ,hi]
 exact h _ (Η this)
theorem fK {N:Int} {E:List Ed} (h:bD N E=true):fJ N E=true:=by
 unfold bD at h;simp only [Τ] at h;exact h.1
theorem j3 {N:Int} {E:List Ed} (h:bD N E=true) {e:Ed} (he:e∈E):0<=e.w/\e.w<=9223372036854775807 / N:=by
 have hr:=fK h;have hN:=dM hr he;have hmx:max N 1=N:=ω;unfold bD at h;simp only [Τ] at h;have:=List.all_eq_true.1 h.2 e he;rw [hmx] at this;simp only [Τ,Ο] at this;exact this
theorem xS {N:Nat} {E:List Ed} (h:bD (N:Int) E=true) {s:Nat} (hs:s<N):IW (E.map toN) s N (9223372036854775807 / N):=by
 have hr:=fK h;have hb:=kN hr;refine ⟨hs,Nat.div_pos ω ω,by unfold inf;exact Nat.mul_div_le _ _,fun e he=>?_⟩;obtain ⟨e',he',rfl⟩:=List.mem_map.1 he;have h1:=dM hr he';have h2:=j3 h he';have h3:(9223372036854775807:Int) / (N:Int)=((9223372036854775807 / N:Nat):Int):=(Int.natCast_ediv 9223372036854775807 N).symm;rw [h3] at h2;unfold toN;generalize 9223372036854775807 / N=q at *;dsimp only;omega
theorem NI {N:Int} {E:List Ed} {D:List Int} (hr:fJ N E=true) (hN:(D.length:Int)=N) (hw:∀e,e∈E->0<=e.w) (hb:∀x,x∈D->0<=x/\x<=9223372036854775807) :
  CZ D E=true↔xw (E.map toN) (dN D):=by
 have key:∀e,e∈E->(uT D e=false↔(dN D (toN e).f≠inf->dN D (toN e).t<=dN D (toN e).f+(toN e).w)):=fun e he=>by
  have h1:=dM hr he;have h2:=rV hb (i:=e.f.toNat) ω;have h3:=rV hb (i:=e.t.toNat) ω;have h4:=hw e he;unfold uT dN toN inf;dsimp only;generalize D.getD e.f.toNat 0=x at *;generalize D.getD e.t.toNat 0=y at *;generalize e.w=z at *;simp only [Bool.and_eq_false_iff,decide_eq_false_iff_not];constructor
  ·intro h hx;rcases h with (h|h)|h<;>omega
  ·intro h
   by_cases hx:x=9223372036854775807
   ·exact Α (Α ω)
   ·have:=h ω;exact Β ω
 unfold CZ;constructor
 ·intro h e he;obtain ⟨e',he',rfl⟩:=List.mem_map.1 he;refine (key e' he').1 ?_;cases hn:uT D e' with
  | false=>rfl
  | true=>rw [List.any_eq_true.2 ⟨e',he',hn⟩] at h;cases h
 ·intro h;have:E.any (uT D)=false:=by
   cases ha:E.any (uT D) with
   | false=>rfl
   | true=>
    obtain ⟨e,he,hn⟩:=List.any_eq_true.1 ha;rw [(key e he).2 (h _ (List.mem_map.2 ⟨e,he,rfl⟩))] at hn;cases hn
  rw [this];rfl
end Go.Proofs.YtklibcncmbofpaaGreat
namespace Go.Proofs.YtklibcncmbofpaaGreat
open Go Go.RowKit
theorem LP:(Tryz.prog.info? 2).map (fun i=>(i.zero,i.size,i.bytes))=some (some (.int .i64 0),1,8):=by kernel_rfl
structure IE (e:TypeId) (w:World) (g cap:Nat) (l:List Int):Prop where
 own:w.ownsRow 0 e 1 (.slice (some ⟨g,0,none⟩) l.length cap) l.length (aF l)
theorem IE.lt {e:TypeId} {w:World} {g cap:Nat} {l:List Int} (h:IE e w g cap l):g<w.heap.size:=(h.own.lt g rfl).2
theorem IE.cell {e:TypeId} {w:World} {g cap:Nat} {l:List Int} (h:IE e w g cap l) (j:Nat) (hj:j<l.length):w.cell? ⟨g,j,none⟩=some (.int .i64 (l.getD j 0)):=by
 rw [h.own.cellAt j ω];exact lK hj
theorem IE.free {e:TypeId} {w:World} {g cap:Nat} {l:List Int} (h:IE e w g cap l) (j:Nat):w.frozen? ⟨g,j,none⟩=false:=h.own.frozenAt j
theorem IE.upd {e:TypeId} {w w':World} {S:List Nat} {g cap:Nat} {l:List Int} (h:IE e w g cap l) (hu:aa S w w') (hn:g∉S):IE e w' g cap l:=
 ⟨ay h.own hu (fun k hk=>by cases hk;exact hn)⟩
theorem IE.drew {e:TypeId} {w:World} {g cap:Nat} {l:List Int} (h:IE e w g cap l):IE e w.drew g cap l:=h.upd ((aa.refl [] w).drew) σ
theorem IE.set {e:TypeId} {w:World} {g cap:Nat} {l:List Int} (h:IE e w g cap l) (j:Nat) (x:Int):IE e (w.setCell ⟨g,j,none⟩ (.int .i64 x)) g cap (l.set j x):=by
 rcases h.own.2 with ⟨h1,_⟩|⟨g',cap',cur,h1,hb,hg,hn,hc,hs,ht⟩
 ·cases h1
 ·cases h1;refine ⟨⟨by rw [dA];omega,Β ⟨g,cap,cur.setIfInBounds j (.int .i64 x),by rw [Ι],ω,?_,by rw [Ι];exact hn,hc,ζ,?_⟩⟩⟩
  ·simp [World.setCell,Array.getElem?_modify,hg]
  ·rw [Ι,Array.toList_setIfInBounds]
   by_cases hj:j<l.length
   ·rw [List.take_set,ht];unfold aF;rw [List.map_set]
   ·rw [List.take_set_of_le ω,ht,List.set_eq_of_length_le ω]
theorem IE.iJ {e:TypeId} {w:World} {base n:Nat} {v:Value} {l:List Int} (h:w.ownsRow base e 1 v n (aF l)) (hl:0<n):∃g cap,v=.slice (some ⟨g,0,none⟩) n cap/\IE e w g cap l/\base<=g/\l.length=n:=by
 obtain ⟨g,cap,rfl,hb,_⟩:=fQ h hl;have hl':l.length=n:=by have:=h.1;rw [dA] at this;omega
 exact ⟨g,cap,rfl,⟨by rw [hl'];exact jE h ω⟩,hb,hl'⟩
theorem fw.rH {e:TypeId} {w:World} {base n:Nat} {v:Value} {xs:List Int} {F:List Nat} (h:w.ownsRow base e 1 v n (aF xs)) (hF:∀g,g∈F->g<base):fw w F v xs:=by
 have hl':xs.length=n:=by have:=h.1;rw [dA] at this;omega
 subst hl';rcases h.2 with ⟨rfl,h0⟩|⟨g,cap,cur,rfl,hb,hg,hn,hc,_⟩
 ·have:xs=[]:=ϛ h0;subst this;exact ⟨none,0,rfl,σ,ω,fun j u hj=>by simp at hj⟩
 ·refine ⟨_,cap,rfl,hn,by unfold maxLen at hc;exact hc,fun j u hj=>⟨g,0,rfl,(h.lt g rfl).2,fun hm=>by have:=hF g hm;omega,?_⟩⟩;have hjl:=(List.getElem?_eq_some_iff.1 hj).1;rw [ϕ,h.cellAt j ω,lK hjl];simp [φ,hj]
def mg (n:Nat) (d:Nat->Nat):List Int:=(List.range n).map (fun v=>((d v:Nat):Int))
theorem lX (n:Nat) (d:Nat->Nat):(mg n d).length=n:=by unfold mg;simp
theorem AY {n:Nat} {d:Nat->Nat} {v:Nat} (hv:v<n):(mg n d).getD v 0=((d v:Nat):Int):=by
 unfold mg;simp [φ,hv]
theorem wE {n:Nat} {d:Nat->Nat} {x v:Nat}:(mg n d).set x ((v:Nat):Int)=mg n (bA d x v):=by
 apply List.ext_getElem?;intro j;unfold mg bA;rw [ύ]
 by_cases h:x=j
 ·subst h
  by_cases hx:x<n
  ·simp [hx]
  ·simp [hx]
 ·simp [h]
  by_cases hj:j<n
  ·simp [hj];rw [Γ (fun e=>h e.symm)]
  ·simp [hj]
def srC (N gd cd gb cb p gh mb:Nat) (j:Nat):Value:=[Value.slice (some ⟨gd,0,none⟩) N cd,.slice (some ⟨gb,0,none⟩) N cb,.pointer (some ⟨p,0,none⟩),.slice (some ⟨gh,0,none⟩) N N,.map (some mb)].getD j undef
structure rO where
 b:Nat
 p:Nat
 gd:Nat
 cd:Nat
 gb:Nat
 cb:Nat
 gh:Nat
 mb:Nat
def rO.own (X:rO):List Nat:=[X.b,X.gd,X.gb,X.gh,X.mb]
structure qd (K:gB) (w:World) (X:rO) (F:List Nat) (kd dd:Int) (N:Nat) (D B:List Int) (hc:Nat->Value) (c:Nat) (f:Int->Int->Option Int) (R:AR) (A:NS) (q:Nat):Prop where
 head:aI w X.b 109 5 (srC N X.gd X.cd X.gb X.cb X.p X.gh X.mb)
 vS:IE 2 w X.gd X.cd D
 by':IE 3 w X.gb X.cb B
 hrow:aI w X.gh 85 (N*2) hc
 map:nZ w X.mb c f
 pq:gu K w X.p F kd dd R A q
 lD:D.length=N
 lB:B.length=N
 nd:X.own.Nodup
 nF:∀x,x∈X.own->x∉F
section
variable {K:gB} {w:World} {X:rO} {F:List Nat} {kd dd:Int} {N:Nat} {D B:List Int} {hc:Nat->Value} {c:Nat} {f:Int->Int->Option Int} {R:AR} {A:NS} {q:Nat}
theorem qd.aj {w':World} (h:qd K w X F kd dd N D B hc c f R A q) (hu:aa [] w w'):qd K w' X F kd dd N D B hc c f R A q:=
 ⟨h.head.upd hu σ,h.vS.upd hu σ,h.by'.upd hu σ,h.hrow.upd hu σ,h.map.upd hu σ,h.pq.aj hu,h.lD,h.lB,h.nd,h.nF⟩
theorem qd.c0 (h:qd K w X F kd dd N D B hc c f R A q):w.cell? ⟨X.b,0,none⟩=some (.slice (some ⟨X.gd,0,none⟩) N X.cd):=h.head.cellAt 0 ω rfl
theorem qd.c1 (h:qd K w X F kd dd N D B hc c f R A q):w.cell? ⟨X.b,1,none⟩=some (.slice (some ⟨X.gb,0,none⟩) N X.cb):=h.head.cellAt 1 ω rfl
theorem qd.c2 (h:qd K w X F kd dd N D B hc c f R A q):w.cell? ⟨X.b,2,none⟩=some (.pointer (some ⟨X.p,0,none⟩)):=h.head.cellAt 2 ω rfl
theorem qd.c3 (h:qd K w X F kd dd N D B hc c f R A q):w.cell? ⟨X.b,3,none⟩=some (.slice (some ⟨X.gh,0,none⟩) N N):=h.head.cellAt 3 ω rfl
theorem qd.c4 (h:qd K w X F kd dd N D B hc c f R A q):w.cell? ⟨X.b,4,none⟩=some (.map (some X.mb)):=h.head.cellAt 4 ω rfl
theorem qd.lt (h:qd K w X F kd dd N D B hc c f R A q):∀x,x∈X.own->x<w.heap.size:=fun x hx=>by
 simp only [rO.own,ρ,ς,or_false] at hx;rcases hx with rfl|rfl|rfl|rfl|rfl
 ·exact h.head.lt
 ·exact h.vS.lt
 ·exact h.by'.lt
 ·exact h.hrow.lt
 ·exact h.map.lt
theorem qd.ne (h:qd K w X F kd dd N D B hc c f R A q):¬X.gd=X.gb/\¬X.gb=X.gd:=by
 have hn:=h.nd;simp only [rO.own,Ζ,ρ,ς,or_false,not_or] at hn;exact ⟨hn.2.1.1,fun e=>hn.2.1.1 e.symm⟩
theorem qd.store (h:qd K w X F kd dd N D B hc c f R A q) {w':World} {R':AR} {A':NS} {q':Nat} (hg:Goes F w w' (fun F'=>gu K w' X.p F' kd dd R' A' q')):∃F',qd K w' X F' kd dd N D B hc c f R' A' q'/\aa F w w'/\∀x,x∈F'->x∈F\/w.heap.size<=x:=by
 obtain ⟨F',hP,hu,hf⟩:=hg;have hl:=h.lt;have hn:=fun x hx=>h.nF x (show x∈X.own from hx);refine ⟨F',⟨h.head.upd hu (hn _ (by simp [rO.own])),h.vS.upd hu (hn _ (by simp [rO.own])),h.by'.upd hu (hn _ (by simp [rO.own])),h.hrow.upd hu (hn _ (by simp [rO.own])),h.map.upd hu (hn _ (by simp [rO.own])),hP,h.lD,h.lB,h.nd,fun x hx hm=>?_⟩,hu,hf⟩;rcases hf x hm with e|e
 ·exact h.nF x hx e
 ·have:=hl x hx;omega
theorem qd.set (h:qd K w X F kd dd N D B hc c f R A q) (v:Nat) (x y:Int):qd K ((w.setCell ⟨X.gd,v,none⟩ (.int .i64 x)).setCell ⟨X.gb,v,none⟩ (.int .i64 y)) X F kd dd N (D.set v x) (B.set v y) hc c f R A q:=by
 have hu:aa [X.gd,X.gb] w ((w.setCell ⟨X.gd,v,none⟩ (.int .i64 x)).setCell ⟨X.gb,v,none⟩ (.int .i64 y)):=((aa.refl _ _).setCell (Α σ) _).setCell (Α σ) _;have u1:aa [X.gd] w (w.setCell ⟨X.gd,v,none⟩ (.int .i64 x)):=(aa.refl _ _).setCell (Α σ) _;have u2:aa [X.gb] (w.setCell ⟨X.gd,v,none⟩ (.int .i64 x)) ((w.setCell ⟨X.gd,v,none⟩ (.int .i64 x)).setCell ⟨X.gb,v,none⟩ (.int .i64 y)):=(aa.refl _ _).setCell (Α σ) _;have hn:=h.nd;simp only [rO.own,Ζ,ρ,ς,or_false,not_or,Ϣ,and_true,not_false_eq_true] at hn;obtain ⟨⟨a1,a2,a3,a4⟩,⟨a5,a6,a7⟩,⟨a8,a9⟩,a10⟩:=hn
 refine ⟨h.head.upd hu (by simp;exact ⟨a1,a2⟩),(h.vS.set v x).upd u2 (by simpa using a5),((h.by'.upd u1 (by simp;exact fun e=>a5 e.symm)).set v y),h.hrow.upd hu (by simp;exact ⟨fun e=>a6 e.symm,fun e=>a8 e.symm⟩),h.map.upd hu (by simp;exact ⟨fun e=>a7 e.symm,fun e=>a9 e.symm⟩),h.pq.upd hu (fun z hz=>?_),by simp [h.lD],by simp [h.lB],h.nd,h.nF⟩;simp at hz;rcases hz with rfl|rfl
 ·exact h.nF _ (by simp [rO.own])
 ·exact h.nF _ (by simp [rO.own])
theorem Qh (h:qd K w X F kd dd N D B hc c f R A q) (v:Nat) (hv:v<N) (far y:Int) (hf:D.getD v 0<=far) :
  Calls Tryz.prog 54 #[.pointer (some ⟨X.b,0,none⟩),.int .i64 (v:Int),.int .i64 far,.int .i64 y] w fun e w'=>e=.returned (.tuple #[])/\aa [] w w':=by
 have c0:=h.c0;have d0:=h.vS.cell v (by rw [h.lD];exact hv);have hvI:(v:Int)<(N:Int):=ω;generalize D.getD v 0=x at *;clear h
 go_enter Tryz.func54,Tryz.ntmps54
 go_wp2;exact bodyPost_ret (v:=.tuple #[]) (by simp [results,Tryz.results54,go_sem]) rfl ⟨rfl,β⟩
theorem MR (h:qd K w X F kd dd N D B hc c f R A q) (v sl:Nat) (hv:v<N) (far y:Int) (h1:D.getD v 0≠9223372036854775807) (h2:far<D.getD v 0) (hb:-9223372036854775808<=far) (hs0:hc (v*2)=.int .i64 (sl:Int)) (hs1:hc (v*2+1)=.int .u32 (R.g sl:Int)) (hlv:R.v sl=true) (hk:(A.c sl).k=D.getD v 0) :
  Calls Tryz.prog 54 #[.pointer (some ⟨X.b,0,none⟩),.int .i64 (v:Int),.int .i64 far,.int .i64 y] w fun e w'=>e=.returned (.tuple #[])/\∃F',qd K w' X F' kd dd N (D.set v far) (B.set v y) hc c f R (ak A (sl:Int) far (A.c sl).s) q/\aa (X.own++F) w w'/\∀x,x∈F'->x∈F\/w.heap.size<=x:=by
 have c0:=h.c0;have c2:=h.c2;have c3:=h.c3;have d0:=h.vS.cell v (by rw [h.lD];exact hv);have e0:=h.hrow.cellAt (v*2) ω hs0;have e1:=h.hrow.cellAt (v*2+1) ω hs1;have hvI:(v:Int)<(N:Int):=ω;have kd':=fun W (hW:aa [] w W)=>TV (h.pq.aj hW) sl far hlv ω hb;have HH:=χ h;have hge:decide (far≥D.getD v 0)=false:=Ξ ω;have hge2:¬D.getD v 0<=far:=ω;have hne:(D.getD v 0 == 9223372036854775807)=false:=by simpa using h1
 have hlo:=h.lt;have hnF:=h.nF;have HV:=χ hv;generalize D.getD v 0=x at *;generalize R.g sl=gs at *;clear h hs0 hs1 hlv hk h1 h2
 go_enter Tryz.func54,Tryz.ntmps54
 go_upto_region 5 with (fail)
 refine iO (fun W=>aa [] w W) β ?_;intro W hW;have z2:=hW.was c2;have z3:=hW.was c3;have y0:=hW.was e0;have y1:=hW.was e1;have YC:=kd' W.drew (hW.drew);have HW:=χ hW;clear hW c0 c2 c3 d0 e0 e1 kd' hge hge2 hne
 go_region_law
  (first
   | (go_simp;go_at_call 76;(with_reducible refine (YC).mono ?_);rintro e w5 ⟨rfl,hg⟩))
 all_goals
  obtain ⟨F',hS,bP,Wq⟩:=(HH.out.aj (HW.out.drew)).store hg;have u0:=hS.c0;have u1:=hS.c1;have g0:=hS.vS.cell v (by rw [hS.lD];exact HV.out);have g1:=hS.by'.cell v (by rw [hS.lB];exact HV.out);have fg0:=hS.vS.free v;have fg1:=hS.by'.free v;have hls:=hS.lt;obtain ⟨hn1,hn2⟩:=hS.ne;have HS:=χ (ψ hS (ψ bP Wq));clear hS bP Wq hg
  go_upto_region 6 with (fail)
  go_region
  all_goals
   go_wp2;obtain ⟨hS,bP,Wq⟩:=HS.out;have Xq:aa (X.own++F) w w5:=(HW.out.mono σ).trans (aa.trans β (bP.mono (fun z hz=>by simp [hz])));have hfin:=hS.set v far y;go_end0;refine ⟨rfl,F',hfin.aj β,?_,fun z hz=>?_⟩
   ·exact ((Xq.setCell (p:=⟨X.gd,v,none⟩) (Α (by simp [rO.own])) (.int .i64 far)).setCell (p:=⟨X.gb,v,none⟩) (Α (by simp [rO.own])) (.int .i64 y)).trans β
   ·rcases Wq z hz with e|e
    ·exact Α e
    ·exact Β (Χ HW.out.size e)
end
theorem nZ.drew {w:World} {b c:Nat} {f:Int->Int->Option Int} (h:nZ w b c f):nZ w.drew b c f:=h.upd (S:=[]) ((aa.refl _ _).drew) σ
section
variable {K:gB} {w:World} {X:rO} {F:List Nat} {kd dd:Int} {N:Nat} {D B:List Int} {hc:Nat->Value} {c:Nat} {f:Int->Int->Option Int} {R:AR} {A:NS} {q:Nat}
theorem qd.nes (h:qd K w X F kd dd N D B hc c f R A q):(X.b≠X.gh/\X.gd≠X.gh/\X.gb≠X.gh/\X.mb≠X.gh)/\(X.b≠X.mb/\X.gd≠X.mb/\X.gb≠X.mb/\X.gh≠X.mb):=by
 have hn:=h.nd;simp only [rO.own,Ζ,ρ,ς,or_false,not_or] at hn;obtain ⟨⟨a1,a2,a3,a4⟩,⟨a5,a6,a7⟩,⟨a8,a9⟩,a10,_⟩:=hn;exact ⟨⟨a3,a6,a8,fun e=>a10 e.symm⟩,⟨a4,a7,a9,a10⟩⟩
def yx (hc:Nat->Value) (v:Nat) (x g:Int) (j:Nat):Value:=if j=v*2+1 then .int .u32 g else if j=v*2 then .int .i64 x else hc j
theorem qd.setH (h:qd K w X F kd dd N D B hc c f R A q) (v:Nat) (x g:Int):qd K ((w.setCell ⟨X.gh,v*2,none⟩ (.int .i64 x)).setCell ⟨X.gh,v*2+1,none⟩ (.int .u32 g)) X F kd dd N D B (yx hc v x g) c f R A q:=by
 have hu:aa [X.gh] w ((w.setCell ⟨X.gh,v*2,none⟩ (.int .i64 x)).setCell ⟨X.gh,v*2+1,none⟩ (.int .u32 g)):=((aa.refl _ _).setCell (Α σ) _).setCell (Α σ) _;obtain ⟨⟨a1,a2,a3,a4⟩,_⟩:=h.nes;exact ⟨h.head.upd hu (by simpa using a1),h.vS.upd hu (by simpa using a2),h.by'.upd hu (by simpa using a3),((h.hrow.set (v*2) _).set (v*2+1) _).ext (fun j _=>rfl),h.map.upd hu (by simpa using a4),h.pq.upd hu (fun z hz=>by simp at hz;subst hz;exact h.nF _ (by simp [rO.own])),h.lD,h.lB,h.nd,h.nF⟩
theorem qd.Vd (h:qd K w X F kd dd N D B hc c f R A q) {w':World} {c':Nat} {f':Int->Int->Option Int} (hm:nZ w' X.mb c' f') (hu:aa [X.mb] w w'):qd K w' X F kd dd N D B hc c' f' R A q:=by
 obtain ⟨_,⟨a1,a2,a3,a4⟩⟩:=h.nes;exact ⟨h.head.upd hu (by simpa using a1),h.vS.upd hu (by simpa using a2),h.by'.upd hu (by simpa using a3),h.hrow.upd hu (by simpa using a4),hm,h.pq.upd hu (fun z hz=>by simp at hz;subst hz;exact h.nF _ (by simp [rO.own])),h.lD,h.lB,h.nd,h.nF⟩
theorem Cv (h:qd K w X F kd dd N D B hc c f R A q) (v:Nat) (hv:v<N) (far y:Int) (h1:D.getD v 0=9223372036854775807) (h2:far<9223372036854775807) (hb:-9223372036854775808<=far) (hB:bB A 1=true) (hq:q+1<=18446744073709551615) (hN:N<=65536) (hcc:c<9223372036854775807) {x:Nat} {R':AR} (hT:uO R=some (x,R')) :
  Calls Tryz.prog 54 #[.pointer (some ⟨X.b,0,none⟩),.int .i64 (v:Int),.int .i64 far,.int .i64 y] w fun e w'=>e=.returned (.tuple #[])/\∃F',qd K w' X F' kd dd N (D.set v far) (B.set v y) (yx hc v (x:Int) ((R.g x:Int)+1)) (c+1) (fun z e=>if z=(x:Int)/\e=(R.g x:Int)+1 then some (v:Int) else f z e) R' (aH A 1 (x:Int) far ((q:Int)+1)) (q+1)/\aa (X.own++F) w w'/\∀z,z∈F'->z∈F\/w.heap.size<=z:=by
 have c0:=h.c0;have c2:=h.c2;have d0:=h.vS.cell v (by rw [h.lD];exact hv);have hvI:(v:Int)<(N:Int):=ω;have ki:=Gr h.pq 1 far hB ω hq hT;have OG:=wC h.pq.ok.2.1 hT;have hgb:R.g x+1<=4294967295:=by have:=OG.2.2.2.1;have:=h.pq.ok.2.1.Wv;omega
 have hxb:x<65536:=by have:=OG.2.1;have:=h.pq.ok.2.1.n;omega
 have HH:=χ h;have HV:=χ hv;rw [h1] at d0;have hge:decide (far≥9223372036854775807)=false:=Ξ ω;generalize R.g x=gx at *;clear h h1 OG hB hT
 go_enter Tryz.func54,Tryz.ntmps54
 go_upto_region 3 with (first
  | ((go_at_call 40;(with_reducible refine (ki).mono ?_));rintro e w1 ⟨rfl,hg⟩)
  | fail)
 obtain ⟨F',hS,hu1,hf1⟩:=HH.out.store hg;refine iO (fun W=>W.cell? ⟨w1.heap.size,0,none⟩=some (.int .i64 (x:Int))/\W.cell? ⟨w1.heap.size,1,none⟩=some (.int .u32 ((gx:Int)+1))/\aa [] w1 W) ⟨γ,γ,β⟩ ?_;rintro W ⟨x0,x1,hW⟩;have hSW:=hS.aj hW;have z3:=hSW.c3;have t0:=hSW.hrow.cell (v*2) (by have:=HV.out;omega);have t1:=hSW.hrow.cell (v*2+1) (by have:=HV.out;omega);have ZV:=hSW.hrow.free (v*2);have Y7:=hSW.hrow.free (v*2+1);have hlt:=hS.lt;have hxg:¬w1.heap.size=X.gh:=fun e=>by have:=hlt X.gh (by simp [rO.own]);omega
 have hxg2:¬X.gh=w1.heap.size:=fun e=>hxg e.symm;have HS:=χ (ψ hSW (ψ hu1 (ψ hf1 hW)));clear hS hu1 hf1 hW hg hSW ki c0 c2 d0 hge
 go_region
 all_goals
  obtain ⟨hSW,hu1,hf1,hW⟩:=HS.out;have hSH:=hSW.setH v (x:Int) ((gx:Int)+1)
  go_upto_region 4 with (fail)
  refine iO (fun W2=>qd K W2 X F' kd dd N D B (yx hc v (x:Int) ((gx:Int)+1)) c f R' (aH A 1 (x:Int) far ((q:Int)+1)) (q+1)/\W2.cell? ⟨w1.heap.size,0,none⟩=some (.int .i64 (x:Int))/\W2.cell? ⟨w1.heap.size,1,none⟩=some (.int .u32 ((gx:Int)+1))/\aa [X.gh] W W2) ⟨hSH.aj β,γ,γ,β⟩ ?_;rintro W2 ⟨hS2,y0,y1,hW2⟩;have z4:=hS2.c4;have hmap:=hS2.map;have hxm:w1.heap.size∉[X.mb]:=fun e=>by simp at e;have:=hlt X.mb (by simp [rO.own]);omega
  have H2:=χ (ψ hS2 (ψ hW2 (ψ hu1 (ψ hf1 hW))));clear hS2 hW2 hSH hSW hu1 hf1 hW x0 x1 t0 t1 ZV Y7 z3;obtain ⟨w7,hrun,hm7,iG⟩:=hmap.drew.store hcc (x:Int) ((gx:Int)+1) (v:Int) ω ω ω;unfold hV at hrun
  go_region
  all_goals
   obtain ⟨hS2,hW2,hu1,hf1,hW⟩:=H2.out;have N7:=(hS2.aj ((aa.refl _ _).drew)).Vd hm7 iG;have u0:=N7.c0;have u1:=N7.c1;have g0:=N7.vS.cell v (by rw [N7.lD];exact HV.out);have g1:=N7.by'.cell v (by rw [N7.lB];exact HV.out);have fg0:=N7.vS.free v;have fg1:=N7.by'.free v;obtain ⟨hn1,hn2⟩:=N7.ne;have Xq:aa (X.own++F) w w7:=((((hu1.mono (fun z hz=>by simp [hz])).trans (hW.mono σ)).trans (hW2.mono (fun z hz=>by simp at hz;simp [rO.own,hz]))).trans (((aa.refl [] _).drew).mono σ)).trans (iG.mono (fun z hz=>by simp at hz;simp [rO.own,hz]));have HS7:=χ (ψ N7 (ψ Xq hf1))
   clear N7 Xq hS2 hW2 hu1 hf1 hW y0 y1 z4 hmap hrun hm7 iG
   go_upto_region 6 with (fail)
   go_region
   all_goals
    go_wp2;go_end0;obtain ⟨N7,Xq,hf1⟩:=HS7.out;refine ⟨rfl,F',(N7.set v far y).aj β,?_,hf1⟩;exact ((Xq.setCell (p:=⟨X.gd,v,none⟩) (Α (by simp [rO.own])) (.int .i64 far)).setCell (p:=⟨X.gb,v,none⟩) (Α (by simp [rO.own])) (.int .i64 y)).trans β
end
def iB (D:List Int) (e:Ed):Bool:=yh (D.getD e.f.toNat 0) && decide (D.getD e.t.toNat 0=D.getD e.f.toNat 0+e.w)
def jP (D:List Int) (E:List Ed) (k:Nat):List Int:=((List.range k).filter (fun i=>iB D (E.getD i default))).map (fun (i:Nat)=>(i:Int))
theorem FZ (D:List Int) (E:List Ed) (k:Nat):jP D E (k+1)=if iB D (E.getD k default) then jP D E k++[(k:Int)] else jP D E k:=by
 unfold jP;rw [List.range_succ,List.filter_append,List.map_append];cases h:iB D (E.getD k default) with
 | false=>simp only [List.filter_cons,List.filter_nil,h];simp
 | true=>simp only [List.filter_cons,List.filter_nil,h];simp
theorem JV (D:List Int) (E:List Ed) (k:Nat):(jP D E k).length<=k:=by
 unfold jP;rw [ϒ];exact Χ (List.length_filter_le (fun i=>iB D (E.getD i default)) (List.range k)) σ
theorem Ce {c:Code} {K:Exit->Act->World->Prop} {a:Act} {W:World} (R:World->Prop) (h:R W) (k:∀W',R W'->Code.wp Tryz.prog c K a W'):Code.wp Tryz.prog c K a W:=k W h
theorem Ja (w:World) (N:Int) (va vd:Value) (E:List Ed) (D:List Int) (hE:vZ w va E) (hD:fw w [] vd D) (qc:bD N E=true) (hN:(D.length:Int)=N) (hb:∀x,x∈D->-9223372036854775808<=x/\x<=9223372036854775807) :
  Calls Tryz.prog 38 #[.agg #[.int .i64 N,va],vd] w fun r w'=>∃v,r=.returned v/\aa [] w w'/\w'.ownsRow w.heap.size 3 1 v (jP D E E.length).length (aF (jP D E E.length)):=by
 have hr:=fK qc;have hbd:=kN hr
 have kw:=fun W (hW:aa [] w W)=>ql W N va E (hE.upd hW) (fun e he=>by
  have h1:=j3 qc he;have h2:=dM hr he;have:(9223372036854775807:Int) / N<=9223372036854775807:=Int.ediv_le_self _ ω
  omega)
 rw [qc,show OT true=0 from rfl] at kw;obtain ⟨a,cap,rfl,hcap⟩:=hE.shape;obtain ⟨a2,cap2,rfl,hc1,hc2,hcell⟩:=hD;have HE:=χ hE;have HD:=χ hcell;have HW:=χ (ψ qc (ψ hr (ψ hN hb)));have u0:aa [] w (w.alloc (.cells #[.int .i64 N,.slice a E.length cap] 57)):=(aa.refl _ _).alloc _;have hNe:(D.length != N)=false\/True:=Β trivial;have hNb:((D.length:Int) != N)=false:=by simpa using hN
 have ki:=fun x W=>TR x W;clear hE hcell qc hr hb hNe;generalize hm:D.length=md at *;have HMD:=χ hm;generalize hn:E.length=n at *;have HN:=χ hn;clear hm hn hN
 go_enter Tryz.func38,Tryz.ntmps38
 go_wp2_with (first
  | ((go_at_call 51;(with_reducible refine (kw _ β).mono ?_));rintro e w1 ⟨rfl,hu1⟩;(have q0:w1.cell? ⟨w.heap.size,0,none⟩=some (.int .i64 N):=hu1.was σ);(have q1:w1.cell? ⟨w.heap.size,1,none⟩=some (.slice a n cap):=hu1.was σ))
  | fail)
 clear q0 q1
 go_loopw [5,6,7,8,22] (fun s5 _ _ _ i wr=>∃k:Nat,k<=n/\i=.int .i64 (k:Int)/\wr.ownsRow (w.heap.size+1) 3 1 s5 (jP D E k).length (aF (jP D E k))/\aa [] (w.alloc (.cells #[.int .i64 N,.slice a n cap] 57)) wr) (fun _ _ _ _ i _=>n-(intOf i).toNat)
 case atStart=>exact ⟨0,ω,rfl,by simpa [jP,aF] using World.ownsRow_nil _ _ _ _,hu1⟩
 case round=>
  clear hu1 kw;obtain ⟨k,hk,rfl,ho,hu⟩:=hrel;rename World=>wr;have hsz:w.heap.size<wr.heap.size:=by have:=hu.size;simp at this;omega
  have hll:=JV D E k;have HT:=χ (FZ D E k);generalize htl:jP D E k=tl at *;generalize htn:tl.length=tn at *;have PO:=χ (ψ htl htn);clear htl htn;obtain ⟨at5,c5,rfl,hc5⟩:=aV ho
  by_cases hkn:k<n
  ·have Ey:k<E.length:=by rw [HN.out];exact hkn
   have hx:E[k]?=some (E.getD k default):=by simp [φ,Ey]
   have hmem:E.getD k default∈E:=Η hx;obtain ⟨g,off,rfl,hg,c0,c1,c2⟩:=(HE.out.upd (u0.trans hu)).at k Ey;have h1:=dM HW.out.2.1 hmem;have h2:=j3 HW.out.1 hmem;generalize E.getD k default=e at *;have hwr:IntKind.i64.wrap ((k:Int)+1)=(k:Int)+1:=Μ _ ω;obtain ⟨ef,et,ew⟩:=e;dsimp only at c0 c1 c2 h1 h2;obtain ⟨f,rfl⟩:∃f:Nat,ef=f:=⟨ef.toNat,ω⟩;obtain ⟨t,rfl⟩:∃t:Nat,et=t:=⟨et.toNat,ω⟩;have hf':f<D.length:=by have:=HW.out.2.2.1;have:=HMD.out;omega
   have ht':t<D.length:=by have:=HW.out.2.2.1;have:=HMD.out;omega
   have x1:D[f]?=some (D.getD f 0):=by simp [φ,hf']
   have x2:D[t]?=some (D.getD t 0):=by simp [φ,ht']
   obtain ⟨g2,o2,rfl,hg2,_,d1'⟩:=HD.out f _ x1;obtain ⟨_,_,he2,_,_,d2'⟩:=HD.out t _ x2;cases he2;have b1:=HW.out.2.2.2 _ (Η x1);have b2:=HW.out.2.2.2 _ (Η x2);have d1:=(u0.trans hu).was d1';have d2:=(u0.trans hu).was d2';have hfm:(f:Int)<(md:Int):=by have:=HMD.out;omega
   have htm:(t:Int)<(md:Int):=by have:=HMD.out;omega
   have hgr:=Ψ hg2 (u0.trans hu).size;have hTB:iB D ⟨f,t,ew⟩=(yh (D.getD f 0) && decide (D.getD t 0=D.getD f 0+ew)):=rfl;generalize D.getD f 0=x at *;generalize D.getD t 0=y at *;have HTB:=χ hTB;have hq:(9223372036854775807:Int) / N<=9223372036854775807:=Int.ediv_le_self _ ω;have hew:0<=ew/\ew<=9223372036854775807:=ω;have HO:=χ ho;have HU:=χ hu;have kf:=fun W=>ki x W;have HX:=χ (show yh x=(decide (0<=x) && decide (x≠9223372036854775807)) from rfl);clear hx hmem x1 x2 d1' d2' hTB h2 hq ki HE HD;cases hfx:yh x with
   | false=>
    rw [hfx] at kf;have HF:Hid (iB D ⟨f,t,ew⟩=false):=χ (by rw [HTB.out,hfx];rfl);clear hfx;go_wp2
    go_quiet ((go_at_call 63;exact Calls.quiet_of_same (kf _)))
    go_wp2;exact ⟨⟨k+1,ω,by go_num,by rw [HT.out,HF.out,Γ σ,PO.out.2];exact ay (S:=[]) HO.out β σ,by have:=HU.out;exact β⟩,by simp [intOf];omega⟩
   | true=>
    rw [hfx] at kf;have hx0:0<=x/\x≠9223372036854775807:=by
     have h:=HX.out;rw [hfx] at h;have h':=h.symm;simp only [Τ,Ο] at h';exact h'
    have HFX:=χ hfx;have hs1:IntKind.i64.wrap (9223372036854775807-x)=9223372036854775807-x:=Μ _ ω
    by_cases h3:ew<=9223372036854775807-x
    ·have hs2:IntKind.i64.wrap (x+ew)=x+ew:=Μ _ ω;have h3b:decide (ew<=9223372036854775807-x)=true:=by simpa using h3
     by_cases h4:y=x+ew
     ·have HF:Hid (iB D ⟨f,t,ew⟩=true):=χ (by rw [HTB.out,HFX.out,h4];simp);have h4b:(y == x+ew)=true:=by simpa using h4
      clear hfx h4;go_wp2
      go_quiet ((go_at_call 63;exact Calls.quiet_of_same (kf _)))
      go_upto_region 9 with (fail)
      refine Ce (fun W=>W.ownsRow (w.heap.size+1) 3 1 (.slice at5 tn c5) tn (aF tl)/\aa [] wr W) ⟨ay (S:=[]) HO.out β σ,β⟩ ?_;rintro W9 ⟨ho9,wU⟩;have hs9:=wU.size
      go_wp2_with (first
       | ((at_builtin;refine aQ rfl _ _ 26 rfl (w.heap.size+1) 3 (.int .i64 0) 1 8 Tryz.underlying26 dQ rfl δ _ _ _ rfl (ho9) [.int .i64 (k:Int)] rfl (by simp [Value.oneCell']) (by first|rfl|(rw [Κ];rfl)) μ ω (ω) ?_;intro v2 w2 ho2 hu2 lZ))
       | fail)
      have hw2:=aa.own (HU.out.trans wU) ho9 σ hu2;obtain ⟨a9,c9,rfl,_⟩:=aV ho2;exact ⟨⟨k+1,ω,by go_num,by rw [HT.out,HF.out,Δ rfl,bG,υ,PO.out.2];exact ho2,hw2⟩,by simp [intOf];omega⟩
     ·have HF:Hid (iB D ⟨f,t,ew⟩=false):=χ (by rw [HTB.out,Ξ h4];simp);have h4b:(y == x+ew)=false:=by simpa using h4
      have h4c:decide (y=x+ew)=false:=by simpa using h4
      clear hfx;go_wp2
      go_quiet ((go_at_call 63;exact Calls.quiet_of_same (kf _)))
      go_wp2;exact ⟨⟨k+1,ω,by go_num,by rw [HT.out,HF.out,Γ σ,PO.out.2];exact ay (S:=[]) HO.out β σ,by have:=HU.out;exact β⟩,by simp [intOf];omega⟩
    ·have HF:Hid (iB D ⟨f,t,ew⟩=false):=χ (by rw [HTB.out,Ξ (ω:¬y=x+ew)];simp);have h3b:decide (ew<=9223372036854775807-x)=false:=by simpa using h3
     clear hfx;go_wp2
     go_quiet ((go_at_call 63;exact Calls.quiet_of_same (kf _)))
     go_wp2;exact ⟨⟨k+1,ω,by go_num,by rw [HT.out,HF.out,Γ σ,PO.out.2];exact ay (S:=[]) HO.out β σ,by have:=HU.out;exact β⟩,by simp [intOf];omega⟩
  ·obtain rfl:k=n:=ω;have HO:=χ ho;clear ho;go_wp2;go_ret;refine ⟨_,rfl,u0.trans hu,?_⟩;have e1:=HN.out;have e2:=PO.out.1;have e3:=PO.out.2;have hO:=HO.out;subst e1;subst e2;subst e3;exact jE hO ω
def eN (E:List Ed):List En:=E.map toN
def acg (E:List En) (N s:Nat) (W:Nat->Nat) (D B:List Int) (v:Nat):Prop:=
 D.getD v 0=((W v:Nat):Int)/\((v=s\/W v=inf)->B.getD v 0=-1)/\(¬ (v=s\/W v=inf)->bf E (fun x=>B.getD x 0) W s N v=true)
def mE (E:List En) (N s:Nat) (W:Nat->Nat) (D B:List Int):Prop:=D.length=N/\B.length=N/\∀v,v<N->acg E N s W D B v
theorem zV {E:List En} {b:Nat->Int} {W:Nat->Nat} {s k x:Nat} (hx:x≠s):bf E b W s (k+1) x=(jk E b W x && bf E b W s k (lH E b x)):=by
 show (decide (x=s) || _)=_
 rw [Ξ hx];rfl
theorem OH {E:List En} {b:Nat->Int} {W:Nat->Nat} {s:Nat} (k:Nat):bf E b W s k s=true:=by
 cases k with
 | zero=>show decide (s=s)=true;simp
 | succ k=>show (decide (s=s) || _)=true;simp
def Lv (Q:Prop) (w:World) (r:Ending) (w':World):Prop:=∃b:Bool,r=.returned (.bool b)/\(b=true↔Q)/\aa [] w w'
theorem Av (E:List Ed):(eN E).length=E.length:=by unfold eN;simp
theorem EW (E:List Ed) (i:Nat) (hi:i<E.length):Fh (eN E) (i:Int)=toN (E.getD i default):=by
 unfold Fh eN;simp [φ,hi]
def yK (N:Int) (E:List Ed) (src:Int) (D B:List Int):Prop:=
 bD N E=true/\0<=src/\src<N/\mE (eN E) N.toNat src.toNat (passes (eN E) src.toNat N.toNat) D B
theorem Sn:(Tryz.prog.info? 3).map (fun i=>(i.zero,i.size,i.bytes))=some (some (.int .i64 0),1,8):=by kernel_rfl
theorem Sz (w:World) (n:Nat) (hn:n<=1000000):IE 3 (w.alloc (.cells (madeCells #[.int .i64 0] n) 3)) w.heap.size n (mg n (fun _=>0)):=by
 have e:madeCells #[.int .i64 0] n=(aF (mg n (fun _=>0))).toArray:=by
  apply Array.ext
  ·simp [madeCells,aF,mg]
  ·intro i h1 h2;simp [madeCells,aF,mg,Nat.mod_one]
 rw [e];exact ⟨by rw [lX];exact mQ w _ 3 0 1 n (by rw [dA,lX];omega) ω μ⟩
theorem Un (w:World) (n s x:Nat) (hn:n<=1000000):IE 3 (w.alloc (.cells ((madeCells #[.int .i64 0] n).setIfInBounds s (.int .i64 ((x:Nat):Int))) 3)) w.heap.size n (mg n (bA (fun _=>0) s x)):=by
 have e:(madeCells #[.int .i64 0] n).setIfInBounds s (.int .i64 ((x:Nat):Int))=(aF (mg n (bA (fun _=>0) s x))).toArray:=by
  apply Array.ext
  ·simp [madeCells,aF,mg]
  ·intro i h1 h2;rw [Array.getElem_setIfInBounds]
   ·by_cases hi:s=i
    ·simp [hi,aF,mg,bA]
    ·have hi':¬i=s:=fun e=>hi e.symm;simp [hi,hi',madeCells,aF,mg,bA,Nat.mod_one]
   ·simpa using h1
 rw [e];exact ⟨by rw [lX];exact mQ w _ 3 0 1 n (by rw [dA,lX];omega) ω μ⟩
def zU (E:List En) (b:Nat->Int) (s N:Nat):Prop:=∀v,v<N->b v≠-1->qR E b s v
theorem Jm (w:World) (N:Nat) (va vb:Value) (E:List Ed) (B:List Int) (s:Nat) (hE:vZ w va E) (hB:fw w [] vb B) (qc:bD (N:Int) E=true) (hs:s<N) (hl:B.length=N)
  (hBk:∀x,x<N->B.getD x 0≠-1->0<=B.getD x 0/\B.getD x 0<E.length) (hok:Tf (eN E) (fun x=>B.getD x 0) s N) :
  Calls Tryz.prog 62 #[.agg #[.int .i64 (N:Int),va],.int .i64 (s:Int),vb] w (Lv (zU (eN E) (fun x=>B.getD x 0) s N) w):=by
 have hr:=fK qc;have hbd:=kN hr;have hN:N<=4096:=ω;obtain ⟨a,cap,rfl,hcap⟩:=hE.shape;obtain ⟨ab,rQ,rfl,_,_,hcb⟩:=hB;have hmk:=run_make_row' (P:=Tryz.prog) 26 3 (.int .i64 0) 8 Tryz.underlying26 Sn rfl .i64 .i64 N ω ω;have HE:=χ hE;have HB:=χ hcb;have HW:=χ (ψ qc (ψ hr (ψ hBk hok)));have u0:aa [] w (w.alloc (.cells #[.int .i64 N,.slice a E.length cap] 57)):=(aa.refl _ _).alloc _;have Wj:E.length<=65536:=hbd.2.2;rw [hl];have HL:=χ hl;have hsI:(s:Int)<(N:Int):=ω;have hN1:IntKind.i64.wrap ((N:Int)+1)=(N:Int)+1:=Μ _ ω;have hI0:=Sz (w.alloc (.cells #[.int .i64 N,.slice a E.length cap] 57)) N ω
 simp only [Κ] at hI0;have hI1:=Un (w.alloc (.cells #[.int .i64 N,.slice a E.length cap] 57)) N s (N+1) ω;simp only [Κ] at hI1;have HI1:=χ hI1;have hf0:=hI0.free s;have hc0:=hI0.cell s (by rw [lX];exact hs);clear hE qc hr hbd hcb hl hBk hok hI0 hI1;generalize hn:E.length=n at *;have HN:=χ hn;clear hn
 go_enter Tryz.func62,Tryz.ntmps62
 go_wp2;clear hf0 hc0
 go_loopw [8,9,21] (fun _ _ i wr=>∃ (v:Nat) (mk:Nat->Nat),v<=N/\i=.int .i64 (v:Int)/\LA (eN E) (fun x=>B.getD x 0) s N v mk/\IE 3 wr (w.heap.size+1) N (mg N mk)/\aa [] (w.alloc (.cells #[.int .i64 N,.slice a n cap] 57)) wr) (fun _ _ i _=>N-(intOf i).toNat)
 case atStart=>exact ⟨0,_,ω,rfl,Nz,HI1.out,β⟩
 case round=>
  clear hmk hN1;obtain ⟨v,mk,hv,rfl,hM,hI,hu⟩:=hrel;rename World=>wr;have hwr:IntKind.i64.wrap ((v:Int)+1)=(v:Int)+1:=Μ _ ω;have HM:=χ hM;have UU:=χ (lX N)
  by_cases nG:v<N
  ·have hvI:(v:Int)<(N:Int):=ω;have hMI:=Vy hM nG;go_wp2
   go_loopg [9] (rT (fun x=>mk x=0) N) (fun fu s9 wr=>∃ (x:Nat) (mk:Nat->Nat),s9=.int .i64 (x:Int)/\rT (fun x=>mk x=0) N<=fu/\Cm (eN E) (fun x=>B.getD x 0) s N v mk x/\IE 3 wr (w.heap.size+1) N (mg N mk)/\aa [] (w.alloc (.cells #[.int .i64 N,.slice a n cap] 57)) wr)
   case atStart=>exact ⟨v,mk,rfl,Θ _,hMI,hI,hu⟩
   case round=>
    rename Nat=>fu;clear hMI hI hu hM HM mk;obtain ⟨x,mk,rfl,hcn,hM,hI,hu⟩:=hrel;rename World=>wr;have hx:=hM.aN;have BP:(x:Int)<(N:Int):=ω;have cm:=hI.cell x (by rw [UU.out];exact hx);have cv:=hI.cell v (by rw [UU.out];exact nG);rw [AY hx] at cm;have fm:=hI.free x;have hgl:=hI.lt;have HU:=χ (u0.trans hu);have q0:wr.cell? ⟨w.heap.size,0,none⟩=some (.int .i64 (N:Int)):=hu.was σ;have q1:wr.cell? ⟨w.heap.size,1,none⟩=some (.slice a n cap):=hu.was σ;obtain ⟨gb,ob,rfl,VK,_,cb'⟩:=HB.out x (B.getD x 0) (by simp [φ,HL.out,hx]);obtain ⟨_,_,he2,_,_,cv'⟩:=HB.out v (B.getD v 0) (by simp [φ,HL.out,nG])
    cases he2;have cb:=HU.out.was cb';have cbv:=HU.out.was cv';have hbx:=HW.out.2.2.1 x hx;have HX:=χ (ψ hM (ψ hI (ψ hu hcn)));have hm0:(((mk x:Nat):Int) == 0)=decide (mk x=0):=by
     rcases Nat.decEq (mk x) 0 with h|h
     ·rw [Ξ h];simp;omega
     ·rw [Ν h];simp;omega
    have hmv:(((mk x:Nat):Int) == (v:Int)+1)=decide (mk x=v+1):=by
     rcases Nat.decEq (mk x) (v+1) with h|h
     ·rw [Ξ h];simp;omega
     ·rw [Ν h];simp;omega
    have hxs:((x:Int) != (s:Int))=decide (x≠s):=by
     rcases Nat.decEq x s with h|h
     ·rw [Ν h];simp;omega
     ·rw [Ξ (fun h'=>h' h)];simp;omega
    clear hM hI hu cb' cv' hcn cv;generalize hbxe:B.getD x 0=bx at *;generalize hbve:B.getD v 0=bv at *;have HBE:=χ (ψ hbxe hbve);clear hbxe hbve
    by_cases hmz:mk x=0
    ·rw [Ν hmz] at hm0;rw [Ξ (ω:¬mk x=v+1)] at hmv
     by_cases hbn:bx=-1
     ·have Yy:(bx != -1)=false:=by simpa using hbn
      have Vt:=χ (uu HW.out.2.2.2 HX.out.1 (fun h=>h.2 (HBE.out.1.trans hbn)) (fun h=>ω));clear hmz hbn hbx;go_wp2
      go_roundw
      case rel=>exact ⟨v+1,mk,ω,by go_num,Vt.out,HX.out.2.1.upd (S:=[]) β σ,by have:=HX.out.2.2.1;exact β⟩
      case measure=>simp [intOf];omega
     ·have Yy:(bx != -1)=true:=by simpa using hbn
      obtain ⟨h1,h2⟩:=hbx hbn;obtain ⟨i,rfl⟩:∃i:Nat,bx=i:=⟨bx.toNat,ω⟩;have hi:i<n:=ω;have Eh:i<E.length:=by rw [HN.out];exact hi
      obtain ⟨ge,off,rfl,hg,c0',_,_⟩:=HE.out.at i Eh;have c0:=HU.out.was c0';have hne1:¬gb=w.heap.size+1:=ω;have hne2:¬ge=w.heap.size+1:=ω;have hne3:¬w.heap.size+1=gb:=ω;have hne4:¬w.heap.size+1=ge:=ω;clear c0';have BK:lH (eN E) (fun x=>B.getD x 0) x=(E.getD i default).f.toNat:=by
       rw [uB (by show B.getD x 0≠-1;rw [HBE.out.1];exact hbn)]
       show (Fh (eN E) (B.getD x 0)).f=_
       rw [HBE.out.1,EW E i Eh];rfl
      have h3:=dM HW.out.2.1 (Η (show E[i]?=some (E.getD i default) by simp [φ,Eh]));generalize E.getD i default=e at *;obtain ⟨ef,et,ew⟩:=e;dsimp only at c0 h3 BK;obtain ⟨f,rfl⟩:∃f:Nat,ef=f:=⟨ef.toNat,ω⟩;have hST:=Nt HW.out.2.2.2 HX.out.1 hmz (by show B.getD x 0≠-1;rw [HBE.out.1];exact hbn);rw [BK] at hST;have hlt:=Oo (v:=v) hx hmz;have hle:=HX.out.2.2.2;obtain ⟨fv,rfl⟩:∃fv,fu=fv+1:=⟨fu-1,ω⟩;have HS:=χ (ψ hST (show rT (fun y=>bA mk x (v+1) y=0) N<=fv by omega));have XX:(i:Int)<(n:Int):=ω;have XY:(mg N mk).set x (((v+1:Nat)):Int)=mg N (bA mk x (v+1)):=wE;have HR:=χ XY
      have hci:((v+1:Nat):Int)=(v:Int)+1:=ω;have HCI:=χ hci;clear hST BK hmz hbn hbx hlt hle XY hci h1 h3;go_wp2
      go_quiet (fail)
      go_wp2
      go_roundg fv
      case rel=>exact ⟨f,_,rfl,HS.out.2,HS.out.1,by rw [←HR.out,HCI.out];exact (HX.out.2.1.set x _).upd (S:=[]) β σ,by have:=HX.out.2.2.1;exact β⟩
      all_goals omega
    ·rw [Ξ hmz] at hm0
     by_cases hm1:mk x=v+1
     ·rw [Ν hm1] at hmv
      by_cases hbn:bv=-1
      ·have Yy:(bv != -1)=false:=by simpa using hbn
       have Vt:=χ (uu HW.out.2.2.2 HX.out.1 (fun h=>hmz h.1) (fun h=>h.2.1 (HBE.out.2.trans hbn)));clear hmz hm1 hbn hbx;go_wp2
       go_roundw
       case rel=>exact ⟨v+1,mk,ω,by go_num,Vt.out,HX.out.2.1.upd (S:=[]) β σ,by have:=HX.out.2.2.1;exact β⟩
       case measure=>simp [intOf];omega
      ·have Yy:(bv != -1)=true:=by simpa using hbn
       by_cases hxe:x=s
       ·rw [Ξ (fun h=>h hxe)] at hxs;have Vt:=χ (uu HW.out.2.2.2 HX.out.1 (fun h=>hmz h.1) (fun h=>h.2.2 hxe));clear hmz hm1 hbn hbx hxe;go_wp2
        go_roundw
        case rel=>exact ⟨v+1,mk,ω,by go_num,Vt.out,HX.out.2.1.upd (S:=[]) β σ,by have:=HX.out.2.2.1;exact β⟩
        case measure=>simp [intOf];omega
       ·rw [Ν hxe] at hxs;have Vt:=χ (show false=true↔zU (eN E) (fun x=>B.getD x 0) s N from ⟨fun e=>(by cases e),fun e=>absurd (e v nG (by show B.getD v 0≠-1;rw [HBE.out.2];exact hbn)) (OJ HW.out.2.2.2 HX.out.1 hm1 (by show B.getD v 0≠-1;rw [HBE.out.2];exact hbn) hxe)⟩);clear hmz hm1 hbn hbx hxe;go_wp2;go_ret;exact ⟨_,rfl,Vt.out,by have:=HU.out;exact β⟩
     ·rw [Ξ hm1] at hmv;have Vt:=χ (uu HW.out.2.2.2 HX.out.1 (fun h=>hmz h.1) (fun h=>hm1 h.1));clear hmz hm1 hbx;go_wp2
      go_roundw
      case rel=>exact ⟨v+1,mk,ω,by go_num,Vt.out,HX.out.2.1.upd (S:=[]) β σ,by have:=HX.out.2.2.1;exact β⟩
      case measure=>simp [intOf];omega
  ·obtain rfl:v=N:=ω;clear hI;go_wp2;go_ret;exact ⟨_,rfl,⟨fun _ v hv=>HM.out.all v hv,fun _=>rfl⟩,u0.trans hu⟩
def okV (E:List Ed) (s:Nat) (D B:List Int) (v:Nat):Prop:=
 ((v≠s/\D.getD v 0≠9223372036854775807)↔B.getD v 0≠-1)/\
 (v≠s/\D.getD v 0≠9223372036854775807->0<=B.getD v 0/\B.getD v 0<E.length/\iB D (E.getD (B.getD v 0).toNat default)=true/\(E.getD (B.getD v 0).toNat default).t=v)
structure yu (N s:Nat) (E:List Ed) (D B:List Int):Prop where
 lD:D.length=N
 lB:B.length=N
 d0:D.getD s 0=0
 b0:B.getD s 0=-1
 pos:D.any (fun x=>decide (x<0))=false
 feas:CZ D E=true
 ok:∀v,v<N->okV E s D B v
 root:zU (eN E) (fun x=>B.getD x 0) s N
theorem DL (D:List Int):D.any (fun x=>decide (x<0))=false↔∀x,x∈D->0<=x:=by
 rw [List.any_eq_false];constructor
 ·intro h x hx;have:=h x hx;simp at this;exact this
 ·intro h x hx;have:=h x hx;simp;exact this
section
variable {N s:Nat} {E:List Ed} {D B:List Int}
theorem yt (hp:∀x,x∈D->0<=x) {v:Nat} (hv:v<D.length):((dN D v:Nat):Int)=D.getD v 0:=by
 have:=rV hp hv;unfold dN;omega
theorem Re (hw:bD (N:Int) E=true) (hl:D.length=N) (hp:∀x,x∈D->0<=x) {v:Nat} (hv:v<N) :
  jk (eN E) (fun x=>B.getD x 0) (dN D) v=true↔0<=B.getD v 0/\B.getD v 0<E.length/\iB D (E.getD (B.getD v 0).toNat default)=true/\(E.getD (B.getD v 0).toNat default).t=v:=by
 rw [il,Av]
 by_cases h0:0<=B.getD v 0/\B.getD v 0<E.length
 ·obtain ⟨h1,h2⟩:=h0;obtain ⟨i,hi⟩:∃i:Nat,B.getD v 0=i:=⟨(B.getD v 0).toNat,ω⟩;have Eh:i<E.length:=ω;have hx:E[i]?=some (E.getD i default):=by simp [φ,Eh]
  have h3:=dM (fK hw) (Η hx);have h4:=j3 hw (Η hx);have X0:Fh (eN E) (B.getD v 0)=toN (E.getD i default):=by rw [hi,EW E i Eh]
  have BK:lH (eN E) (fun x=>B.getD x 0) v=(E.getD i default).f.toNat:=by
   rw [uB (by show B.getD v 0≠-1;omega)]
   show (Fh (eN E) (B.getD v 0)).f=_
   rw [X0];rfl
  rw [BK]
  show (0<=B.getD v 0/\B.getD v 0<E.length/\(Fh (eN E) (B.getD v 0)).t=v/\_/\_+(Fh (eN E) (B.getD v 0)).w=_)↔_
  rw [X0,hi,show (i:Int).toNat=i by omega];generalize E.getD i default=e at *;have hf:e.f.toNat<D.length:=ω;have ht:e.t.toNat<D.length:=ω;have d1:=yt hp hf;have d2:=yt hp ht;have d3:=yt hp (show v<D.length by omega);have p1:=rV hp hf;unfold iB yh;simp only [Τ,Ο]
  show (_/\_/\e.t.toNat=v/\dN D e.f.toNat≠inf/\dN D e.f.toNat + e.w.toNat=dN D v)↔_
  rw [show inf=9223372036854775807 from rfl];constructor
  ·rintro ⟨_,_,a1,a2,a3⟩;rw [a1] at d2 ⊢;exact ⟨ω,ω,⟨⟨p1,ω⟩,ω⟩,ω⟩
  ·rintro ⟨_,_,⟨⟨_,a2⟩,a3⟩,a4⟩;have a1:e.t.toNat=v:=ω;rw [a1] at a3;exact ⟨ω,ω,a1,ω,ω⟩
 ·constructor
  ·rintro ⟨a,b,_⟩;exact absurd ⟨a,b⟩ h0
  ·rintro ⟨a,b,_⟩;exact absurd ⟨a,b⟩ h0
theorem Uu (hw:bD (N:Int) E=true) (hs:s<N) (hb:∀x,x∈D->x<=9223372036854775807):yu N s E D B↔mE (eN E) N s (passes (eN E) s N) D B:=by
 have hg:IW (eN E) s N (9223372036854775807 / N):=xS hw hs;have hwp:∀e,e∈E->0<=e.w:=fun e he=>(j3 hw he).1;have main:∀ (hlD:D.length=N) (hlB:B.length=N) (hp:∀x,x∈D->0<=x),yu N s E D B↔XB (eN E) N s (passes (eN E) s N) (dN D) (fun x=>B.getD x 0):=by
  intro hlD hlB hp;have hd:∀v,v<N->dN D v<=inf:=fun v hv=>by
   have h1:=rV hb (i:=v) ω;have h2:=yt hp (v:=v) ω;rw [show inf=9223372036854775807 from rfl];omega
  rw [←CE hg hd];have hfe:=NI (D:=D) (fK hw) ω hwp (fun x hx=>⟨hp x hx,hb x hx⟩);have hinf:∀v,v<N->(D.getD v 0≠9223372036854775807↔dN D v≠inf):=fun v hv=>by
   have h2:=yt hp (v:=v) ω;rw [show inf=9223372036854775807 from rfl];omega
  have hokv:∀v,v<N->(okV E s D B v↔((v≠s/\dN D v≠inf)↔B.getD v 0≠-1)/\(v≠s/\dN D v≠inf->jk (eN E) (fun x=>B.getD x 0) (dN D) v=true)):=fun v hv=>by
   unfold okV;rw [hinf v hv,Re hw hlD hp hv]
  have hd0:D.getD s 0=0↔dN D s=0:=by have:=yt hp (v:=s) ω;omega
  constructor
  ·intro h;exact ⟨hd0.1 h.d0,h.b0,hfe.1 h.feas,fun v hv=>(hokv v hv).1 (h.ok v hv),h.root⟩
  ·rintro ⟨h1,h2,h3,h4,h5⟩;exact ⟨hlD,hlB,hd0.2 h1,h2,(DL D).2 hp,hfe.2 h3,fun v hv=>(hokv v hv).2 (h4 v hv),h5⟩
 constructor
 ·intro h;have hp:=(DL D).1 h.pos;have hT:=(main h.lD h.lB hp).1 h;refine ⟨h.lD,h.lB,fun v hv=>?_⟩;obtain ⟨h1,h2,h3⟩:=hT v hv;exact ⟨by rw [←h1];exact (yt hp (by have:=h.lD;omega)).symm,h2,h3⟩
 ·rintro ⟨hlD,hlB,hT⟩;have hp:∀x,x∈D->0<=x:=fun x hx=>by
   obtain ⟨v,hv,rfl⟩:=List.mem_iff_getElem.1 hx;have h1:=(hT v ω).1;have h2:D.getD v 0=D[v]:=by simp [φ,hv]
   rw [h2] at h1;omega
  refine (main hlD hlB hp).2 fun v hv=>?_;obtain ⟨h1,h2,h3⟩:=hT v hv;exact ⟨by have:=yt hp (v:=v) ω;omega,h2,h3⟩
theorem XL (hw:bD (N:Int) E=true) (hs:s<N) (h0:B.getD s 0=-1) (hd0:D.getD s 0=0) (hl:D.length=N) (hok:∀v,v<N->okV E s D B v) :
  (∀x,x<N->B.getD x 0≠-1->0<=B.getD x 0/\B.getD x 0<E.length)/\Tf (eN E) (fun x=>B.getD x 0) s N:=by
 have hr:=fK hw;refine ⟨fun x hx hb=>?_,h0,hs,fun x hx hb=>?_⟩
 ·have h:=(hok x hx).2 ((hok x hx).1.2 hb);exact ⟨h.1,h.2.1⟩
 ·have h:=(hok x hx).2 ((hok x hx).1.2 hb);obtain ⟨h1,h2,h3,h4⟩:=h;obtain ⟨i,hi⟩:∃i:Nat,B.getD x 0=i:=⟨(B.getD x 0).toNat,ω⟩;have Eh:i<E.length:=ω;have hx':E[i]?=some (E.getD i default):=by simp [φ,Eh]
  have h5:=dM hr (Η hx');have BK:lH (eN E) (fun x=>B.getD x 0) x=(E.getD i default).f.toNat:=by
   rw [uB hb]
   show (Fh (eN E) (B.getD x 0)).f=_
   rw [hi,EW E i Eh];rfl
  rw [hi,show (i:Int).toNat=i by omega] at h3;rw [BK];generalize E.getD i default=e at *;refine ⟨ω,?_⟩
  by_cases hfs:e.f.toNat=s
  ·exact Α hfs
  ·right;have hf:e.f.toNat<N:=ω;refine (hok _ hf).1.1 ⟨hfs,?_⟩;unfold iB yh at h3;simp only [Τ,Ο] at h3;exact h3.1.2
end
end Go.Proofs.YtklibcncmbofpaaGreat
