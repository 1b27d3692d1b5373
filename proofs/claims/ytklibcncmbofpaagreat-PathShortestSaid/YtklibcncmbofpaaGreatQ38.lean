/-
  Lemmas for PathShortest: Grw, Grx, PrL, Ie, Pth, Pth2, PrT, PrD. Conditions: those of each lemma.
-/
import Derived.Lib.MinMax
import Derived.Test.YtklibcncmbofpaaGreatQ06
import Derived.Test.YtklibcncmbofpaaGreatQ07
import Derived.Test.YtklibcncmbofpaaGreatQ37
set_option linter.all false
set_option maxHeartbeats 8000000
set_option maxRecDepth 10000
namespace Go.Proofs.YtklibcncmbofpaaGreat
open Go Go.RowKit
def Jm (N:Int) (e:Ed):Bool:=decide (0<=e.w) && decide (e.w<=9223372036854775807 / max N 1)
theorem IV (w:World) (N:Int) (va:Value) (E:List Ed) (hE:zN w va E) :
  Calls Tryz.prog 32 #[.agg #[.int .i64 N,va]] w fun r w'=>r=.returned (.bool (dY N E))/\aa [] w w':=by
 have kr:=fun W (hW:aa [] w W)=>Kt W N va E (hE.upd hW);obtain ⟨a,cap,rfl,hcap⟩:=hE.shape;have HE:=χ hE;have hl:E.length<=9223372036854775807:=by obtain ⟨_,_,_,_,h,_⟩:=hE;exact h
 clear hE;have u0:aa [] w (w.alloc (.cells #[.int .i64 N,.slice a E.length cap] 57)):=(aa.refl _ _).alloc _;cases hr:gP N E with
 | false=>
  have hw:dY N E=false:=by unfold dY;rw [hr];rfl
  rw [hw];rw [hr] at kr;clear hw hr;generalize E.length=n at *
  go_enter Tryz.func32,Tryz.ntmps32
  go_wp2_with (first
   | ((go_at_call 56;(with_reducible refine (kr _ u0).mono ?_));rintro e w1 ⟨rfl,hu1⟩)
   | fail)
  go_ret;exact ⟨rfl,u0.trans hu1⟩
 | true=>
  have HW:=χ (show dY N E=E.all (Jm N) from by unfold dY;rw [hr];rfl);have HR:=χ hr;rw [hr] at kr;clear hr;generalize hn:E.length=n at *;have HN:=χ hn;clear hn
  go_enter Tryz.func32,Tryz.ntmps32
  go_wp2_with (first
   | ((go_at_call 56;(with_reducible refine (kr _ u0).mono ?_));rintro e w1 ⟨rfl,hu1⟩;(have q1:w1.cell? ⟨w.heap.size,1,none⟩=some (.slice a n cap):=hu1.was σ))
   | fail)
  clear q1
  go_loopw [4,11] (fun _ i wr=>∃k:Nat,k<=n/\i=.int .i64 (k:Int)/\(E.take k).all (Jm N)=true/\aa [] (w.alloc (.cells #[.int .i64 N,.slice a n cap] 57)) wr) (fun _ i _=>n-(intOf i).toNat)
  case atStart=>exact ⟨0,ω,rfl,σ,hu1⟩
  case round=>
   clear hu1 kr;obtain ⟨k,hk,rfl,hall,hu⟩:=hrel;rename World=>wr;have q0:wr.cell? ⟨w.heap.size,0,none⟩=some (.int .i64 N):=hu.was σ;have q1:wr.cell? ⟨w.heap.size,1,none⟩=some (.slice a n cap):=hu.was σ;have hsz:w.heap.size<wr.heap.size:=by have:=hu.size;simp at this;omega
   by_cases hkn:k<n
   ·have KV:k<E.length:=by rw [HN.out];exact hkn
    have hx:E[k]?=some (E.getD k default):=by simp [φ,KV]
    have hmem:E.getD k default∈E:=List.mem_of_getElem? hx;have hN1:1<=N:=by have:=iW HR.out hmem;omega
    obtain ⟨g,off,rfl,hg,c0,c1,c2⟩:=(HE.out.upd (u0.trans hu)).at k KV;generalize E.getD k default=e at *;have HT:=χ (Ii (Jm N) E k _ hx hall);have HM:=χ hmem;have hwr:IntKind.i64.wrap ((k:Int)+1)=(k:Int)+1:=IntWalk.i64_in _ ω;obtain ⟨ef,et,ew⟩:=e;dsimp only at c0 c1 c2;clear hx hmem hall HE;have hmx:max N 1=N:=ω;have hend:Jm N ⟨ef,et,ew⟩=(decide (0<=ew) && decide (ew<=9223372036854775807 / N)):=by unfold Jm;rw [hmx]
    have Uc:=χ (ψ hmx hend);clear hmx hend
    by_cases b0:ew<0
    ·have hf:Hid (dY N E=false):=χ (by rw [HW.out,vF (Jm N) E _ HM.out (by rw [Uc.out.2,decide_eq_false ω];rfl)]);have b0b:decide (ew<0)=true:=by simpa using b0
     go_wp2
     go_quiet (fail)
     go_wp2;go_ret;exact ⟨by rw [hf.out];rfl,by have:=u0.trans hu;exact β⟩
    ·have b0b:decide (ew<0)=false:=by simpa using b0
     have hmx2:max N 1=N:=Uc.out.1
     by_cases b1:9223372036854775807 / N<ew
     ·have hf:Hid (dY N E=false):=χ (by rw [HW.out,vF (Jm N) E _ HM.out (by rw [Uc.out.2,decide_eq_false (ω:¬ew<=9223372036854775807 / N)];simp)]);have ZZ:decide (9223372036854775807 / N<ew)=true:=by simpa using b1
      go_wp2
      go_quiet (fail)
      go_wp2;go_ret;exact ⟨by rw [hf.out];rfl,by have:=u0.trans hu;exact β⟩
     ·have ht:Hid (Jm N ⟨ef,et,ew⟩=true):=χ (by rw [Uc.out.2,decide_eq_true (ω:0<=ew),decide_eq_true (ω:ew<=9223372036854775807 / N)];rfl);have ZZ:decide (9223372036854775807 / N<ew)=false:=by simpa using b1
      go_wp2
      go_quiet (fail)
      go_wp2;exact ⟨⟨k+1,ω,by go_num,by rw [HT.out,ht.out],β⟩,by simp [intOf];omega⟩
   ·obtain rfl:k=n:=ω;have hfin:E.all (Jm N)=true:=by rw [←hall,←HN.out,List.take_length]
    have HF:=χ hfin;clear hall hfin;go_wp2;go_ret;exact ⟨aZ (by rw [HW.out,HF.out]),by have:=u0.trans hu;exact β⟩
def UN (b:Bool):Int:=if b then 0 else 201
def IA (l:List Ed):Int:=l.foldl (fun m e=>max m e.w) 0
theorem QT (l:List Ed) (m b:Int):l.foldl (fun m e=>max m e.w) m<=b↔m<=b/\∀e,e∈l->e.w<=b:=by
 induction l generalizing m with
 | nil=>simp
 | cons a l ih=>
  rw [List.foldl_cons,ih];simp only [ρ,forall_eq_or_imp];constructor
  ·rintro ⟨h1,h2⟩;exact ⟨ω,ω,h2⟩
  ·rintro ⟨h1,h2,h3⟩;exact ⟨ω,h3⟩
theorem RN {l:List Ed} {b:Int} (hb:0<=b):IA l<=b↔∀e,e∈l->e.w<=b:=by
 unfold IA;rw [QT];exact ⟨fun h=>h.2,fun h=>⟨hb,h⟩⟩
theorem Vb (l:List Ed):0<=IA l:=by
 have:=(QT l 0 (IA l)).1 (Int.le_refl _);exact this.1
theorem QU (E:List Ed) (k:Nat) (x:Ed) (hx:E[k]?=some x):IA (E.take (k+1))=max (IA (E.take k)) x.w:=by
 unfold IA;rw [List.take_add_one,hx,List.foldl_append];rfl
theorem Nq {N:Int} {E:List Ed} (hr:gP N E=true) (h0:∀e,e∈E->0<=e.w):dY N E=true↔N*IA E<=9223372036854775807:=by
 have hw:dY N E=E.all (Jm N):=by unfold dY;rw [hr];rfl
 have hN:=mI hr;rw [hw]
 by_cases hz:N=0
 ·subst hz;have hE:E=[]:=by
   cases E with
   | nil=>rfl
   | cons a l=>have:=iW hr (e:=a) σ;omega
  subst hE;simp [IA]
 ·have hN1:0<N:=ω;have hmx:max N 1=N:=ω;have h2:(∀e,e∈E->e.w<=9223372036854775807 / N)↔N*IA E<=9223372036854775807:=by
   rw [←RN (Int.ediv_nonneg ω ω),Int.le_ediv_iff_mul_le hN1,Int.mul_comm]
  rw [←h2,List.all_eq_true];constructor
  ·intro h e he;have:=h e he;unfold Jm at this;rw [hmx] at this;simp only [Bool.and_eq_true,decide_eq_true_eq] at this;exact this.2
  ·intro h e he;unfold Jm;rw [hmx,decide_eq_true (h0 e he),decide_eq_true (h e he)]
   rfl
theorem zC (w:World) (N:Int) (va:Value) (E:List Ed) (hE:zN w va E) (hwb:∀e,e∈E->e.w<=9223372036854775807) :
  Calls Tryz.prog 51 #[.agg #[.int .i64 N,va]] w fun r w'=>r=.returned (.int .i64 (UN (dY N E)))/\aa [] w w':=by
 have kr:=fun W (hW:aa [] w W)=>zw W N va E (hE.upd hW);obtain ⟨a,cap,rfl,hcap⟩:=hE.shape;have HE:=χ hE;have hl:E.length<=9223372036854775807:=by obtain ⟨_,_,_,_,h,_⟩:=hE;exact h
 clear hE;have u0:aa [] w (w.alloc (.cells #[.int .i64 N,.slice a E.length cap] 57)):=(aa.refl _ _).alloc _;cases hr:gP N E with
 | false=>
  have hw:dY N E=false:=by unfold dY;rw [hr];rfl
  rw [hw];rw [hr] at kr;clear hw hr;generalize E.length=n at *
  go_enter Tryz.func51,Tryz.ntmps51
  go_wp2_with (first
   | ((go_at_call 74;(with_reducible refine (kr _ u0).mono ?_));rintro e w1 ⟨rfl,hu1⟩)
   | fail)
  go_ret;exact ⟨rfl,u0.trans hu1⟩
 | true=>
  have HR:=χ hr;have hNb:=mI hr;rw [hr] at kr;clear hr;obtain ⟨Nn,rfl⟩:∃Nn:Nat,N=Nn:=⟨N.toNat,ω⟩;generalize hn:E.length=n at *;have HN:=χ hn;have HB:=χ hwb;clear hn hwb
  go_enter Tryz.func51,Tryz.ntmps51
  go_wp2_with (first
   | ((go_at_call 74;(with_reducible refine (kr _ u0).mono ?_));rintro e w1 ⟨rfl,hu1⟩;(have q1:w1.cell? ⟨w.heap.size,1,none⟩=some (.slice a n cap):=hu1.was σ))
   | fail)
  clear q1
  go_loopw [4,6,17] (fun m _ i wr=>∃k:Nat,k<=n/\i=.int .i64 (k:Int)/\m=.int .i64 (IA (E.take k))/\(∀e,e∈E.take k->0<=e.w)/\aa [] (w.alloc (.cells #[.int .i64 Nn,.slice a n cap] 57)) wr) (fun _ _ i _=>n-(intOf i).toNat)
  case atStart=>exact ⟨0,ω,rfl,rfl,σ,hu1⟩
  case round=>
   clear hu1 kr;obtain ⟨k,hk,rfl,rfl,hpos,hu⟩:=hrel;rename World=>wr;have q0:wr.cell? ⟨w.heap.size,0,none⟩=some (.int .i64 Nn):=hu.was σ;have q1:wr.cell? ⟨w.heap.size,1,none⟩=some (.slice a n cap):=hu.was σ;have hsz:w.heap.size<wr.heap.size:=by have:=hu.size;simp at this;omega
   have HP:=χ hpos;clear hpos
   by_cases hkn:k<n
   ·have KV:k<E.length:=by rw [HN.out];exact hkn
    have hx:E[k]?=some (E.getD k default):=by simp [φ,KV]
    have hmem:E.getD k default∈E:=List.mem_of_getElem? hx;obtain ⟨g,off,rfl,hg,c0,c1,c2⟩:=(HE.out.upd (u0.trans hu)).at k KV;generalize E.getD k default=e at *;have HT:=χ (QU E k _ hx);have HM:=χ hmem;have HX:=χ hx;have hwr:IntKind.i64.wrap ((k:Int)+1)=(k:Int)+1:=IntWalk.i64_in _ ω;obtain ⟨ef,et,ew⟩:=e;dsimp only at c0 c1 c2;clear hx hmem HE;generalize hmo:IA (E.take k)=mo at *;have HMO:=χ hmo;clear hmo
    by_cases b0:ew<0
    ·have hf:Hid (dY Nn E=false):=χ (by
      have hw:dY Nn E=E.all (Jm Nn):=by unfold dY;rw [HR.out];rfl
      rw [hw,vF (Jm Nn) E _ HM.out (by unfold Jm;rw [decide_eq_false (by dsimp only;omega)];rfl)])
     have b0b:decide (ew<0)=true:=by simpa using b0
     go_wp2;go_ret;exact ⟨by rw [hf.out];rfl,by have:=u0.trans hu;exact β⟩
    ·have b0b:decide (ew<0)=false:=by simpa using b0
     go_wp2;refine ⟨⟨k+1,ω,by go_num,by rw [HT.out],fun e he=>?_,β⟩,by simp [intOf];omega⟩;rw [List.take_add_one,HX.out] at he;rcases τ.1 he with he|he
     ·exact HP.out e he
     ·simp at he;subst he;dsimp only;omega
   ·obtain rfl:k=n:=ω;have hT:E.take k=E:=by rw [←HN.out,List.take_length]
    rw [hT];have hpos:∀e,e∈E->0<=e.w:=by have:=HP.out;rw [hT] at this;exact this
    have hiff:=Nq HR.out hpos;have h1:=Vb E;have h2:IA E<=9223372036854775807:=(RN ω).2 HB.out;obtain ⟨mo,hmo⟩:∃mo:Nat,IA E=mo:=⟨(IA E).toNat,ω⟩;rw [hmo] at hiff h2;rw [hmo];have kM:=fun W=>Tryz.bits_Mul64 Nn mo ω ω W;have w1:IntKind.u64.wrap (Nn:Int)=(Nn:Int):=by rw [IntKind.wrap_u64];omega
    have w2:IntKind.u64.wrap (mo:Int)=(mo:Int):=by rw [IntKind.wrap_u64];omega
    have hP:((Nn:Int)*(mo:Int))=((Nn*mo:Nat):Int):=(Int.natCast_mul _ _).symm;rw [hP] at hiff;generalize Nn * mo=P at *;clear hT hpos hmo h1 hP;cases Y5:dY Nn E with
    | false=>
     have hbig:¬ ((P:Int)<=9223372036854775807):=fun h=>by rw [hiff.2 h] at Y5;cases Y5
     have HWB:=χ Y5;clear Y5 hiff;have hor:0<P / 18446744073709551616\/(P / 18446744073709551616=0/\9223372036854775807<P % 18446744073709551616):=ω;generalize P / 18446744073709551616=hi at *;generalize P % 18446744073709551616=lo at *;rcases hor with h|⟨h,h'⟩
     ·go_wp2_with (first
       | ((go_at_call 75;(with_reducible refine (kM _).mono ?_));rintro e w9 ⟨rfl,aN⟩;rw [aN];clear aN w9)
       | fail)
      go_ret;exact ⟨by rw [HWB.out];rfl,by have:=u0.trans hu;exact β⟩
     ·subst h;have h'':(9223372036854775807:Int)<(lo:Int):=ω
      go_wp2_with (first
       | ((go_at_call 75;(with_reducible refine (kM _).mono ?_));rintro e w9 ⟨rfl,aN⟩;rw [aN];clear aN w9)
       | fail)
      go_ret;exact ⟨by rw [HWB.out];rfl,by have:=u0.trans hu;exact β⟩
    | true=>
     have hsm:(P:Int)<=9223372036854775807:=hiff.1 Y5;have HWB:=χ Y5;clear Y5 hiff;have hor:P / 18446744073709551616=0/\¬ (9223372036854775807<P % 18446744073709551616):=ω;generalize P / 18446744073709551616=hi at *;generalize P % 18446744073709551616=lo at *;obtain ⟨h,h'⟩:=hor;subst h;have h'':¬ (9223372036854775807:Int)<(lo:Int):=ω;have h3:decide ((9223372036854775807:Int)<(lo:Int))=false:=by simpa using h''
     go_wp2_with (first
      | ((go_at_call 75;(with_reducible refine (kM _).mono ?_));rintro e w9 ⟨rfl,aN⟩;rw [aN];clear aN w9)
      | fail)
     go_ret;exact ⟨by rw [HWB.out];rfl,by have:=u0.trans hu;exact β⟩
end Go.Proofs.YtklibcncmbofpaaGreat
namespace Go.Proofs.YtklibcncmbofpaaGreat
def toN (e:Ed):En:=⟨e.f.toNat,e.t.toNat,e.w.toNat⟩
def dN (D:List Int):Nat->Nat:=fun v=>(D.getD v 0).toNat
theorem sM {D:List Int} {P:Int->Prop} (h:∀x,x∈D->P x) {i:Nat} (hi:i<D.length):P (D.getD i 0):=by
 have:D[i]?=some (D.getD i 0):=by simp [φ,hi]
 exact h _ (List.mem_of_getElem? this)
theorem jf {N:Int} {E:List Ed} (h:dY N E=true):gP N E=true:=by
 unfold dY at h;simp only [Bool.and_eq_true] at h;exact h.1
theorem l8 {N:Int} {E:List Ed} (h:dY N E=true) {e:Ed} (he:e∈E):0<=e.w/\e.w<=9223372036854775807 / N:=by
 have hr:=jf h;have hN:=iW hr he;have hmx:max N 1=N:=ω;unfold dY at h;simp only [Bool.and_eq_true] at h;have:=List.all_eq_true.1 h.2 e he;rw [hmx] at this;simp only [Bool.and_eq_true,decide_eq_true_eq] at this;exact this
theorem tK {N:Nat} {E:List Ed} (h:dY (N:Int) E=true) {s:Nat} (hs:s<N):Ip (E.map toN) s N (9223372036854775807 / N):=by
 have hr:=jf h;have hb:=mI hr;refine ⟨hs,Nat.div_pos ω ω,by unfold inf;exact Nat.mul_div_le _ _,fun e he=>?_⟩;obtain ⟨e',he',rfl⟩:=List.mem_map.1 he;have h1:=iW hr he';have h2:=l8 h he';have h3:(9223372036854775807:Int) / (N:Int)=((9223372036854775807 / N:Nat):Int):=(Int.natCast_ediv 9223372036854775807 N).symm;rw [h3] at h2;unfold toN;generalize 9223372036854775807 / N=q at *;dsimp only;omega
theorem Oo {N:Int} {E:List Ed} {D:List Int} (hr:gP N E=true) (hN:(D.length:Int)=N) (hw:∀e,e∈E->0<=e.w) (hb:∀x,x∈D->0<=x/\x<=9223372036854775807) :
  RL D E=true↔xM (E.map toN) (dN D):=by
 have key:∀e,e∈E->(CG D e=false↔(dN D (toN e).f≠inf->dN D (toN e).t<=dN D (toN e).f+(toN e).w)):=fun e he=>by
  have h1:=iW hr he;have h2:=sM hb (i:=e.f.toNat) ω;have h3:=sM hb (i:=e.t.toNat) ω;have h4:=hw e he;unfold CG dN toN inf;dsimp only;generalize D.getD e.f.toNat 0=x at *;generalize D.getD e.t.toNat 0=y at *;generalize e.w=z at *;simp only [Bool.and_eq_false_iff,decide_eq_false_iff_not];constructor
  ·intro h hx;rcases h with (h|h)|h<;>omega
  ·intro h
   by_cases hx:x=9223372036854775807
   ·exact Or.inl (Or.inl ω)
   ·have:=h ω;exact Or.inr ω
 unfold RL;constructor
 ·intro h e he;obtain ⟨e',he',rfl⟩:=List.mem_map.1 he;refine (key e' he').1 ?_;cases hn:CG D e' with
  | false=>rfl
  | true=>rw [List.any_eq_true.2 ⟨e',he',hn⟩] at h;cases h
 ·intro h;have:E.any (CG D)=false:=by
   cases ha:E.any (CG D) with
   | false=>rfl
   | true=>
    obtain ⟨e,he,hn⟩:=List.any_eq_true.1 ha;rw [(key e he).2 (h _ (List.mem_map.2 ⟨e,he,rfl⟩))] at hn;cases hn
  rw [this];rfl
end Go.Proofs.YtklibcncmbofpaaGreat
namespace Go.Proofs.YtklibcncmbofpaaGreat
open Go Go.RowKit
theorem Ec:(Tryz.prog.info? 2).map (fun i=>(i.zero,i.size,i.bytes))=some (some (.int .i64 0),1,8):=by kernel_rfl
structure IE (e:TypeId) (w:World) (g cap:Nat) (l:List Int):Prop where
 own:w.ownsRow 0 e 1 (.slice (some ⟨g,0,none⟩) l.length cap) l.length (aV l)
theorem IE.lt {e:TypeId} {w:World} {g cap:Nat} {l:List Int} (h:IE e w g cap l):g<w.heap.size:=(h.own.lt g rfl).2
theorem IE.cell {e:TypeId} {w:World} {g cap:Nat} {l:List Int} (h:IE e w g cap l) (j:Nat) (hj:j<l.length):w.cell? ⟨g,j,none⟩=some (.int .i64 (l.getD j 0)):=by
 rw [h.own.cellAt j ω];exact nO hj
theorem IE.free {e:TypeId} {w:World} {g cap:Nat} {l:List Int} (h:IE e w g cap l) (j:Nat):w.frozen? ⟨g,j,none⟩=false:=h.own.frozenAt j
theorem IE.upd {e:TypeId} {w w':World} {S:List Nat} {g cap:Nat} {l:List Int} (h:IE e w g cap l) (hu:aa S w w') (hn:g∉S):IE e w' g cap l:=
 ⟨aF h.own hu (fun k hk=>by cases hk;exact hn)⟩
theorem IE.set {e:TypeId} {w:World} {g cap:Nat} {l:List Int} (h:IE e w g cap l) (j:Nat) (x:Int):IE e (w.setCell ⟨g,j,none⟩ (.int .i64 x)) g cap (l.set j x):=by
 rcases h.own.2 with ⟨h1,_⟩|⟨g',cap',cur,h1,hb,hg,hn,hc,hs,ht⟩
 ·cases h1
 ·cases h1;refine ⟨⟨by rw [fT];omega,Or.inr ⟨g,cap,cur.setIfInBounds j (.int .i64 x),by rw [List.length_set],ω,?_,by rw [List.length_set];exact hn,hc,ζ,?_⟩⟩⟩
  ·simp [World.setCell,Array.getElem?_modify,hg]
  ·rw [List.length_set,Array.toList_setIfInBounds]
   by_cases hj:j<l.length
   ·rw [List.take_set,ht];unfold aV;rw [List.map_set]
   ·rw [List.take_set_of_le ω,ht,List.set_eq_of_length_le ω]
theorem IE.aag {e:TypeId} {w:World} {g cap base n:Nat} {l:List Int} (h:IE e w g cap l) (hb:base<=g) (hn:l.length=n):w.ownsRow base e 1 (.slice (some ⟨g,0,none⟩) n cap) n (aV l):=by
 subst hn;refine ⟨h.own.1,?_⟩;rcases h.own.2 with hn|⟨g',cap',cur,h1,hb',hg,rest⟩
 ·exact Or.inl hn
 ·cases h1;exact Or.inr ⟨g,cap,cur,rfl,hb,hg,rest⟩
theorem IE.iO {e:TypeId} {w:World} {base n:Nat} {v:Value} {l:List Int} (h:w.ownsRow base e 1 v n (aV l)) (hl:0<n):∃g cap,v=.slice (some ⟨g,0,none⟩) n cap/\IE e w g cap l/\base<=g/\l.length=n:=by
 obtain ⟨g,cap,rfl,hb,_⟩:=gM h hl;have hl':l.length=n:=by have:=h.1;rw [fT] at this;omega
 exact ⟨g,cap,rfl,⟨by rw [hl'];exact ma h ω⟩,hb,hl'⟩
theorem iT.Kc {e:TypeId} {w:World} {base n:Nat} {v:Value} {xs:List Int} {F:List Nat} (h:w.ownsRow base e 1 v n (aV xs)) (hF:∀g,g∈F->g<base):iT w F v xs:=by
 have hl':xs.length=n:=by have:=h.1;rw [fT] at this;omega
 subst hl';rcases h.2 with ⟨rfl,h0⟩|⟨g,cap,cur,rfl,hb,hg,hn,hc,_⟩
 ·have:xs=[]:=List.eq_nil_of_length_eq_zero h0;subst this;exact ⟨none,0,rfl,σ,ω,fun j u hj=>by simp at hj⟩
 ·refine ⟨_,cap,rfl,hn,by unfold maxLen at hc;exact hc,fun j u hj=>⟨g,0,rfl,(h.lt g rfl).2,fun hm=>by have:=hF g hm;omega,?_⟩⟩;have hjl:=(List.getElem?_eq_some_iff.1 hj).1;rw [Nat.zero_add,h.cellAt j ω,nO hjl];simp [φ,hj]
def ni (n:Nat) (d:Nat->Nat):List Int:=(List.range n).map (fun v=>((d v:Nat):Int))
theorem rY (n:Nat) (d:Nat->Nat):(ni n d).length=n:=by unfold ni;simp
theorem Nv (n:Nat) (d:Nat->Nat):ni (n+1) d=ni n d++[((d n:Nat):Int)]:=by
 unfold ni;rw [List.range_succ,List.map_append];rfl
theorem nU {n:Nat} {d:Nat->Nat} {v:Nat} (hv:v<n):(ni n d).getD v 0=((d v:Nat):Int):=by
 unfold ni;simp [φ,hv]
theorem wo {n:Nat} {d:Nat->Nat} {x v:Nat}:(ni n d).set x ((v:Nat):Int)=ni n (cu d x v):=by
 apply List.ext_getElem?;intro j;unfold ni cu;rw [List.getElem?_set]
 by_cases h:x=j
 ·subst h
  by_cases hx:x<n
  ·simp [hx]
  ·simp [hx]
 ·simp [h]
  by_cases hj:j<n
  ·simp [hj];rw [if_neg (fun e=>h e.symm)]
  ·simp [hj]
def srC (N gd cd gb cb p gh mb:Nat) (j:Nat):Value:=[Value.slice (some ⟨gd,0,none⟩) N cd,.slice (some ⟨gb,0,none⟩) N cb,.pointer (some ⟨p,0,none⟩),.slice (some ⟨gh,0,none⟩) N N,.map (some mb)].getD j undef
structure sI where
 b:Nat
 p:Nat
 gd:Nat
 cd:Nat
 gb:Nat
 cb:Nat
 gh:Nat
 mb:Nat
def sI.own (X:sI):List Nat:=[X.b,X.gd,X.gb,X.gh,X.mb]
structure qz (K:ig) (w:World) (X:sI) (F:List Nat) (kd dd:Int) (N:Nat) (D B:List Int) (hc:Nat->Value) (c:Nat) (f:Int->Int->Option Int) (R:AR) (A:NS) (q:Nat):Prop where
 head:aP w X.b 109 5 (srC N X.gd X.cd X.gb X.cb X.p X.gh X.mb)
 wU:IE 2 w X.gd X.cd D
 by':IE 3 w X.gb X.cb B
 hrow:aP w X.gh 85 (N*2) hc
 map:oC w X.mb c f
 pq:gV K w X.p F kd dd R A q
 lD:D.length=N
 lB:B.length=N
 nd:X.own.Nodup
 nF:∀x,x∈X.own->x∉F
section
variable {K:ig} {w:World} {X:sI} {F:List Nat} {kd dd:Int} {N:Nat} {D B:List Int} {hc:Nat->Value} {c:Nat} {f:Int->Int->Option Int} {R:AR} {A:NS} {q:Nat}
theorem qz.aA {w':World} (h:qz K w X F kd dd N D B hc c f R A q) (hu:aa [] w w'):qz K w' X F kd dd N D B hc c f R A q:=
 ⟨h.head.upd hu σ,h.wU.upd hu σ,h.by'.upd hu σ,h.hrow.upd hu σ,h.map.upd hu σ,h.pq.aA hu,h.lD,h.lB,h.nd,h.nF⟩
theorem qz.c0 (h:qz K w X F kd dd N D B hc c f R A q):w.cell? ⟨X.b,0,none⟩=some (.slice (some ⟨X.gd,0,none⟩) N X.cd):=h.head.cellAt 0 ω rfl
theorem qz.c1 (h:qz K w X F kd dd N D B hc c f R A q):w.cell? ⟨X.b,1,none⟩=some (.slice (some ⟨X.gb,0,none⟩) N X.cb):=h.head.cellAt 1 ω rfl
theorem qz.c2 (h:qz K w X F kd dd N D B hc c f R A q):w.cell? ⟨X.b,2,none⟩=some (.pointer (some ⟨X.p,0,none⟩)):=h.head.cellAt 2 ω rfl
theorem qz.c3 (h:qz K w X F kd dd N D B hc c f R A q):w.cell? ⟨X.b,3,none⟩=some (.slice (some ⟨X.gh,0,none⟩) N N):=h.head.cellAt 3 ω rfl
theorem qz.c4 (h:qz K w X F kd dd N D B hc c f R A q):w.cell? ⟨X.b,4,none⟩=some (.map (some X.mb)):=h.head.cellAt 4 ω rfl
theorem qz.lt (h:qz K w X F kd dd N D B hc c f R A q):∀x,x∈X.own->x<w.heap.size:=fun x hx=>by
 simp only [sI.own,ρ,ς,or_false] at hx;rcases hx with rfl|rfl|rfl|rfl|rfl
 ·exact h.head.lt
 ·exact h.wU.lt
 ·exact h.by'.lt
 ·exact h.hrow.lt
 ·exact h.map.lt
theorem qz.ne (h:qz K w X F kd dd N D B hc c f R A q):¬X.gd=X.gb/\¬X.gb=X.gd:=by
 have hn:=h.nd;simp only [sI.own,List.nodup_cons,ρ,ς,or_false,not_or] at hn;exact ⟨hn.2.1.1,fun e=>hn.2.1.1 e.symm⟩
theorem qz.store (h:qz K w X F kd dd N D B hc c f R A q) {w':World} {R':AR} {A':NS} {q':Nat} (hg:Goes F w w' (fun F'=>gV K w' X.p F' kd dd R' A' q')):∃F',qz K w' X F' kd dd N D B hc c f R' A' q'/\aa F w w'/\∀x,x∈F'->x∈F\/w.heap.size<=x:=by
 obtain ⟨F',hP,hu,hf⟩:=hg;have hl:=h.lt;have hn:=fun x hx=>h.nF x (show x∈X.own from hx);refine ⟨F',⟨h.head.upd hu (hn _ (by simp [sI.own])),h.wU.upd hu (hn _ (by simp [sI.own])),h.by'.upd hu (hn _ (by simp [sI.own])),h.hrow.upd hu (hn _ (by simp [sI.own])),h.map.upd hu (hn _ (by simp [sI.own])),hP,h.lD,h.lB,h.nd,fun x hx hm=>?_⟩,hu,hf⟩;rcases hf x hm with e|e
 ·exact h.nF x hx e
 ·have:=hl x hx;omega
theorem qz.set (h:qz K w X F kd dd N D B hc c f R A q) (v:Nat) (x y:Int):qz K ((w.setCell ⟨X.gd,v,none⟩ (.int .i64 x)).setCell ⟨X.gb,v,none⟩ (.int .i64 y)) X F kd dd N (D.set v x) (B.set v y) hc c f R A q:=by
 have hu:aa [X.gd,X.gb] w ((w.setCell ⟨X.gd,v,none⟩ (.int .i64 x)).setCell ⟨X.gb,v,none⟩ (.int .i64 y)):=((aa.refl _ _).setCell (Or.inl σ) _).setCell (Or.inl σ) _;have u1:aa [X.gd] w (w.setCell ⟨X.gd,v,none⟩ (.int .i64 x)):=(aa.refl _ _).setCell (Or.inl σ) _;have u2:aa [X.gb] (w.setCell ⟨X.gd,v,none⟩ (.int .i64 x)) ((w.setCell ⟨X.gd,v,none⟩ (.int .i64 x)).setCell ⟨X.gb,v,none⟩ (.int .i64 y)):=(aa.refl _ _).setCell (Or.inl σ) _;have hn:=h.nd;simp only [sI.own,List.nodup_cons,ρ,ς,or_false,not_or,List.nodup_nil,and_true,not_false_eq_true] at hn;obtain ⟨⟨a1,a2,a3,a4⟩,⟨a5,a6,a7⟩,⟨a8,a9⟩,a10⟩:=hn
 refine ⟨h.head.upd hu (by simp;exact ⟨a1,a2⟩),(h.wU.set v x).upd u2 (by simpa using a5),((h.by'.upd u1 (by simp;exact fun e=>a5 e.symm)).set v y),h.hrow.upd hu (by simp;exact ⟨fun e=>a6 e.symm,fun e=>a8 e.symm⟩),h.map.upd hu (by simp;exact ⟨fun e=>a7 e.symm,fun e=>a9 e.symm⟩),h.pq.upd hu (fun z hz=>?_),by simp [h.lD],by simp [h.lB],h.nd,h.nF⟩;simp at hz;rcases hz with rfl|rfl
 ·exact h.nF _ (by simp [sI.own])
 ·exact h.nF _ (by simp [sI.own])
theorem Q0 (h:qz K w X F kd dd N D B hc c f R A q) (v:Nat) (hv:v<N) (far y:Int) (hf:D.getD v 0<=far) :
  Calls Tryz.prog 54 #[.pointer (some ⟨X.b,0,none⟩),.int .i64 (v:Int),.int .i64 far,.int .i64 y] w fun e w'=>e=.returned (.tuple #[])/\aa [] w w':=by
 have c0:=h.c0;have d0:=h.wU.cell v (by rw [h.lD];exact hv);have hvI:(v:Int)<(N:Int):=ω;generalize D.getD v 0=x at *;clear h
 go_enter Tryz.func54,Tryz.ntmps54
 go_wp2;exact bodyPost_ret (v:=.tuple #[]) (by simp [results,Tryz.results54,go_sem]) rfl ⟨rfl,β⟩
theorem OT (h:qz K w X F kd dd N D B hc c f R A q) (v sl:Nat) (hv:v<N) (far y:Int) (h1:D.getD v 0≠9223372036854775807) (h2:far<D.getD v 0) (hb:-9223372036854775808<=far) (hs0:hc (v*2)=.int .i64 (sl:Int)) (hs1:hc (v*2+1)=.int .u32 (R.g sl:Int)) (hlv:R.v sl=true) (hk:(A.c sl).k=D.getD v 0) :
  Calls Tryz.prog 54 #[.pointer (some ⟨X.b,0,none⟩),.int .i64 (v:Int),.int .i64 far,.int .i64 y] w fun e w'=>e=.returned (.tuple #[])/\∃F',qz K w' X F' kd dd N (D.set v far) (B.set v y) hc c f R (aB A (sl:Int) far (A.c sl).s) q/\aa (X.own++F) w w'/\∀x,x∈F'->x∈F\/w.heap.size<=x:=by
 have c0:=h.c0;have c2:=h.c2;have c3:=h.c3;have d0:=h.wU.cell v (by rw [h.lD];exact hv);have e0:=h.hrow.cellAt (v*2) ω hs0;have e1:=h.hrow.cellAt (v*2+1) ω hs1;have hvI:(v:Int)<(N:Int):=ω;have kd':=fun W (hW:aa [] w W)=>TG (h.pq.aA hW) sl far hlv ω hb;have HH:=χ h;have hge:decide (far≥D.getD v 0)=false:=decide_eq_false ω;have hge2:¬D.getD v 0<=far:=ω;have hne:(D.getD v 0 == 9223372036854775807)=false:=by simpa using h1
 have hlo:=h.lt;have hnF:=h.nF;have HV:=χ hv;generalize D.getD v 0=x at *;generalize R.g sl=gs at *;clear h hs0 hs1 hlv hk h1 h2
 go_enter Tryz.func54,Tryz.ntmps54
 go_upto_region 5 with (fail)
 refine jy (fun W=>aa [] w W) β ?_;intro W hW;have z2:=hW.was c2;have z3:=hW.was c3;have y0:=hW.was e0;have y1:=hW.was e1;have XX:=kd' W.drew (hW.drew);have HW:=χ hW;clear hW c0 c2 c3 d0 e0 e1 kd' hge hge2 hne
 go_region_law
  (first
   | (go_simp;go_at_call 76;(with_reducible refine (XX).mono ?_);rintro e w5 ⟨rfl,hg⟩))
 all_goals
  obtain ⟨F',hS,dm,VO⟩:=(HH.out.aA (HW.out.drew)).store hg;have u0:=hS.c0;have u1:=hS.c1;have g0:=hS.wU.cell v (by rw [hS.lD];exact HV.out);have g1:=hS.by'.cell v (by rw [hS.lB];exact HV.out);have fg0:=hS.wU.free v;have fg1:=hS.by'.free v;have hls:=hS.lt;obtain ⟨hn1,hn2⟩:=hS.ne;have HS:=χ (ψ hS (ψ dm VO));clear hS dm VO hg
  go_upto_region 6 with (fail)
  go_region
  all_goals
   go_wp2;obtain ⟨hS,dm,VO⟩:=HS.out;have WI:aa (X.own++F) w w5:=(HW.out.mono σ).trans (aa.trans β (dm.mono (fun z hz=>by simp [hz])));have hfin:=hS.set v far y;go_end0;refine ⟨rfl,F',hfin.aA β,?_,fun z hz=>?_⟩
   ·exact ((WI.setCell (p:=⟨X.gd,v,none⟩) (Or.inl (by simp [sI.own])) (.int .i64 far)).setCell (p:=⟨X.gb,v,none⟩) (Or.inl (by simp [sI.own])) (.int .i64 y)).trans β
   ·rcases VO z hz with e|e
    ·exact Or.inl e
    ·exact Or.inr (Nat.le_trans HW.out.size e)
end
theorem oC.drew {w:World} {b c:Nat} {f:Int->Int->Option Int} (h:oC w b c f):oC w.drew b c f:=h.upd (S:=[]) ((aa.refl _ _).drew) σ
section
variable {K:ig} {w:World} {X:sI} {F:List Nat} {kd dd:Int} {N:Nat} {D B:List Int} {hc:Nat->Value} {c:Nat} {f:Int->Int->Option Int} {R:AR} {A:NS} {q:Nat}
theorem qz.nes (h:qz K w X F kd dd N D B hc c f R A q):(X.b≠X.gh/\X.gd≠X.gh/\X.gb≠X.gh/\X.mb≠X.gh)/\(X.b≠X.mb/\X.gd≠X.mb/\X.gb≠X.mb/\X.gh≠X.mb):=by
 have hn:=h.nd;simp only [sI.own,List.nodup_cons,ρ,ς,or_false,not_or] at hn;obtain ⟨⟨a1,a2,a3,a4⟩,⟨a5,a6,a7⟩,⟨a8,a9⟩,a10,_⟩:=hn;exact ⟨⟨a3,a6,a8,fun e=>a10 e.symm⟩,⟨a4,a7,a9,a10⟩⟩
def yo (hc:Nat->Value) (v:Nat) (x g:Int) (j:Nat):Value:=if j=v*2+1 then .int .u32 g else if j=v*2 then .int .i64 x else hc j
theorem qz.setH (h:qz K w X F kd dd N D B hc c f R A q) (v:Nat) (x g:Int):qz K ((w.setCell ⟨X.gh,v*2,none⟩ (.int .i64 x)).setCell ⟨X.gh,v*2+1,none⟩ (.int .u32 g)) X F kd dd N D B (yo hc v x g) c f R A q:=by
 have hu:aa [X.gh] w ((w.setCell ⟨X.gh,v*2,none⟩ (.int .i64 x)).setCell ⟨X.gh,v*2+1,none⟩ (.int .u32 g)):=((aa.refl _ _).setCell (Or.inl σ) _).setCell (Or.inl σ) _;obtain ⟨⟨a1,a2,a3,a4⟩,_⟩:=h.nes;exact ⟨h.head.upd hu (by simpa using a1),h.wU.upd hu (by simpa using a2),h.by'.upd hu (by simpa using a3),((h.hrow.set (v*2) _).set (v*2+1) _).ext (fun j _=>rfl),h.map.upd hu (by simpa using a4),h.pq.upd hu (fun z hz=>by simp at hz;subst hz;exact h.nF _ (by simp [sI.own])),h.lD,h.lB,h.nd,h.nF⟩
theorem qz.Vv (h:qz K w X F kd dd N D B hc c f R A q) {w':World} {c':Nat} {f':Int->Int->Option Int} (hm:oC w' X.mb c' f') (hu:aa [X.mb] w w'):qz K w' X F kd dd N D B hc c' f' R A q:=by
 obtain ⟨_,⟨a1,a2,a3,a4⟩⟩:=h.nes;exact ⟨h.head.upd hu (by simpa using a1),h.wU.upd hu (by simpa using a2),h.by'.upd hu (by simpa using a3),h.hrow.upd hu (by simpa using a4),hm,h.pq.upd hu (fun z hz=>by simp at hz;subst hz;exact h.nF _ (by simp [sI.own])),h.lD,h.lB,h.nd,h.nF⟩
theorem Cj (h:qz K w X F kd dd N D B hc c f R A q) (v:Nat) (hv:v<N) (far y:Int) (h1:D.getD v 0=9223372036854775807) (h2:far<9223372036854775807) (hb:-9223372036854775808<=far) (hB:bK A 1=true) (hq:q+1<=18446744073709551615) (hN:N<=65536) (hcc:c<9223372036854775807) {x:Nat} {R':AR} (hT:vg R=some (x,R')) :
  Calls Tryz.prog 54 #[.pointer (some ⟨X.b,0,none⟩),.int .i64 (v:Int),.int .i64 far,.int .i64 y] w fun e w'=>e=.returned (.tuple #[])/\∃F',qz K w' X F' kd dd N (D.set v far) (B.set v y) (yo hc v (x:Int) ((R.g x:Int)+1)) (c+1) (fun z e=>if z=(x:Int)/\e=(R.g x:Int)+1 then some (v:Int) else f z e) R' (aO A 1 (x:Int) far ((q:Int)+1)) (q+1)/\aa (X.own++F) w w'/\∀z,z∈F'->z∈F\/w.heap.size<=z:=by
 have c0:=h.c0;have c2:=h.c2;have d0:=h.wU.cell v (by rw [h.lD];exact hv);have hvI:(v:Int)<(N:Int):=ω;have ki:=Gc h.pq 1 far hB ω hq hT;have OZ:=xn h.pq.ok.2.1 hT;have hgb:R.g x+1<=4294967295:=by have:=OZ.2.2.2.1;have:=h.pq.ok.2.1.Vn;omega
 have hxb:x<65536:=by have:=OZ.2.1;have:=h.pq.ok.2.1.n;omega
 have HH:=χ h;have HV:=χ hv;rw [h1] at d0;have hge:decide (far≥9223372036854775807)=false:=decide_eq_false ω;generalize R.g x=gx at *;clear h h1 OZ hB hT
 go_enter Tryz.func54,Tryz.ntmps54
 go_upto_region 3 with (first
  | ((go_at_call 40;(with_reducible refine (ki).mono ?_));rintro e w1 ⟨rfl,hg⟩)
  | fail)
 obtain ⟨F',hS,hu1,hf1⟩:=HH.out.store hg;refine jy (fun W=>W.cell? ⟨w1.heap.size,0,none⟩=some (.int .i64 (x:Int))/\W.cell? ⟨w1.heap.size,1,none⟩=some (.int .u32 ((gx:Int)+1))/\aa [] w1 W) ⟨γ,γ,β⟩ ?_;rintro W ⟨x0,x1,hW⟩;have hSW:=hS.aA hW;have z3:=hSW.c3;have t0:=hSW.hrow.cell (v*2) (by have:=HV.out;omega);have t1:=hSW.hrow.cell (v*2+1) (by have:=HV.out;omega);have X4:=hSW.hrow.free (v*2);have YV:=hSW.hrow.free (v*2+1);have hlt:=hS.lt;have hxg:¬w1.heap.size=X.gh:=fun e=>by have:=hlt X.gh (by simp [sI.own]);omega
 have hxg2:¬X.gh=w1.heap.size:=fun e=>hxg e.symm;have HS:=χ (ψ hSW (ψ hu1 (ψ hf1 hW)));clear hS hu1 hf1 hW hg hSW ki c0 c2 d0 hge
 go_region
 all_goals
  obtain ⟨hSW,hu1,hf1,hW⟩:=HS.out;have hSH:=hSW.setH v (x:Int) ((gx:Int)+1)
  go_upto_region 4 with (fail)
  refine jy (fun W2=>qz K W2 X F' kd dd N D B (yo hc v (x:Int) ((gx:Int)+1)) c f R' (aO A 1 (x:Int) far ((q:Int)+1)) (q+1)/\W2.cell? ⟨w1.heap.size,0,none⟩=some (.int .i64 (x:Int))/\W2.cell? ⟨w1.heap.size,1,none⟩=some (.int .u32 ((gx:Int)+1))/\aa [X.gh] W W2) ⟨hSH.aA β,γ,γ,β⟩ ?_;rintro W2 ⟨hS2,y0,y1,hW2⟩;have z4:=hS2.c4;have hmap:=hS2.map;have hxm:w1.heap.size∉[X.mb]:=fun e=>by simp at e;have:=hlt X.mb (by simp [sI.own]);omega
  have H2:=χ (ψ hS2 (ψ hW2 (ψ hu1 (ψ hf1 hW))));clear hS2 hW2 hSH hSW hu1 hf1 hW x0 x1 t0 t1 X4 YV z3;obtain ⟨w7,hrun,hm7,kN⟩:=hmap.drew.store hcc (x:Int) ((gx:Int)+1) (v:Int) ω ω ω;unfold hV at hrun
  go_region
  all_goals
   obtain ⟨hS2,hW2,hu1,hf1,hW⟩:=H2.out;have Mi:=(hS2.aA ((aa.refl _ _).drew)).Vv hm7 kN;have u0:=Mi.c0;have u1:=Mi.c1;have g0:=Mi.wU.cell v (by rw [Mi.lD];exact HV.out);have g1:=Mi.by'.cell v (by rw [Mi.lB];exact HV.out);have fg0:=Mi.wU.free v;have fg1:=Mi.by'.free v;obtain ⟨hn1,hn2⟩:=Mi.ne;have WI:aa (X.own++F) w w7:=((((hu1.mono (fun z hz=>by simp [hz])).trans (hW.mono σ)).trans (hW2.mono (fun z hz=>by simp at hz;simp [sI.own,hz]))).trans (((aa.refl [] _).drew).mono σ)).trans (kN.mono (fun z hz=>by simp at hz;simp [sI.own,hz]));have HS7:=χ (ψ Mi (ψ WI hf1))
   clear Mi WI hS2 hW2 hu1 hf1 hW y0 y1 z4 hmap hrun hm7 kN
   go_upto_region 6 with (fail)
   go_region
   all_goals
    go_wp2;go_end0;obtain ⟨Mi,WI,hf1⟩:=HS7.out;refine ⟨rfl,F',(Mi.set v far y).aA β,?_,hf1⟩;exact ((WI.setCell (p:=⟨X.gd,v,none⟩) (Or.inl (by simp [sI.own])) (.int .i64 far)).setCell (p:=⟨X.gb,v,none⟩) (Or.inl (by simp [sI.own])) (.int .i64 y)).trans β
end
def JD (D:List Int) (e:Ed):Bool:=WB (D.getD e.f.toNat 0) && decide (D.getD e.t.toNat 0=D.getD e.f.toNat 0+e.w)
theorem OU {c:Code} {K:Exit->Act->World->Prop} {a:Act} {W:World} (R:World->Prop) (h:R W) (k:∀W',R W'->Code.wp Tryz.prog c K a W'):Code.wp Tryz.prog c K a W:=k W h
def eN (E:List Ed):List En:=E.map toN
theorem ML (E:List Ed) (d:Nat->Nat) (k:Nat) (x:Ed) (hx:E[k]?=some x):((eN E).take (k+1)).foldl iy d=iy (((eN E).take k).foldl iy d) (toN x):=by
 unfold eN;rw [List.take_add_one,List.getElem?_map,hx];simp [List.foldl_append]
theorem Ql (w:World) (N:Nat) (va:Value) (E:List Ed) (s:Nat) (hE:zN w va E) (Bh:dY (N:Int) E=true) (hs:s<N) :
  Calls Tryz.prog 55 #[.agg #[.int .i64 (N:Int),va],.int .i64 (s:Int)] w fun r w'=>∃v,r=.returned v/\aa [] w w'/\w'.ownsRow w.heap.size 2 1 v N (aV (ni N (passes (eN E) s N))):=by
 have hr:=jf Bh;have hbd:=mI hr;have hN:N<=4096:=ω;have hg:=tK Bh hs;obtain ⟨a,cap,rfl,hcap⟩:=hE.shape;have HE:=χ hE;have HW:=χ (ψ Bh (ψ hr hg));have u0:aa [] w (w.alloc (.cells #[.int .i64 N,.slice a E.length cap] 57)):=(aa.refl _ _).alloc _;have Vq:E.length<=65536:=hbd.2.2;clear hE Bh hr hg hbd;generalize hn:E.length=n at *;have HN:=χ hn;clear hn
 go_enter Tryz.func55,Tryz.ntmps55
 go_wp2;have ho1:=oK (w.alloc (.cells #[.int .i64 (N:Int),.slice a n cap] 57)) [] 2 (w.heap.size+1) 1 0 σ σ (by simp [maxLen])
 go_loopw [5,6,7] (fun s5 i _ wr=>∃k:Nat,k<=N/\i=.int .i64 (k:Int)/\wr.ownsRow (w.heap.size+1) 2 1 s5 k (aV (ni k (d0 s)))/\aa [] (w.alloc (.cells #[.int .i64 N,.slice a n cap] 57)) wr) (fun _ i _ _=>N-(intOf i).toNat)
 case atStart=>exact ⟨0,ω,rfl,by simpa [ni,aV] using ho1,(aa.refl _ _).alloc _⟩
 case round=>
  clear ho1;obtain ⟨k,hk,rfl,ho,hu⟩:=hrel;rename World=>wr;have hsz:w.heap.size<wr.heap.size:=by have:=hu.size;simp at this;omega
  have q0:wr.cell? ⟨w.heap.size,0,none⟩=some (.int .i64 (N:Int)):=hu.was σ;have q1:wr.cell? ⟨w.heap.size,1,none⟩=some (.slice a n cap):=hu.was σ
  by_cases hkn:k<N
  ·obtain ⟨at5,c5,rfl,ZA⟩:=bu ho;have HS:=χ (Nv k (d0 s));have HU:=χ hu;generalize ni k (d0 s)=l at *;have HO:=χ ho;have hwr:IntKind.i64.wrap ((k:Int)+1)=(k:Int)+1:=IntWalk.i64_in _ ω;have hks:((k:Int) == (s:Int))=decide (k=s):=by
    rcases Nat.decEq k s with h|h
    ·rw [decide_eq_false h];simp;omega
    ·rw [decide_eq_true h];simp;omega
   clear hu
   by_cases Oj:k=s
   ·rw [decide_eq_true Oj] at hks;have HV:=χ (show d0 s k=0 from by unfold d0;rw [if_pos Oj]);clear Oj
    go_wp2_with (first
     | ((at_builtin;refine aU rfl _ _ 24 rfl (w.heap.size+1) 2 (.int .i64 0) 1 8 Tryz.underlying24 Ec rfl δ _ _ _ rfl (ho) [.int .i64 (0:Int)] rfl (by simp [Value.oneCell']) (by first|rfl|(rw [World.size_alloc];rfl)) μ ω (ω) ?_;intro v2 w2 ho2 hu2 lS))
     | fail)
    have hw2:=aa.own HU.out ho σ hu2;obtain ⟨a9,c9,rfl,_⟩:=bu ho2;exact ⟨⟨k+1,ω,by go_num,by rw [HS.out,HV.out,bL];exact ho2,hw2⟩,by simp [intOf];omega⟩
   ·rw [decide_eq_false Oj] at hks;have HV:=χ (show d0 s k=9223372036854775807 from by unfold d0 inf;rw [if_neg Oj]);clear Oj
    go_wp2_with (first
     | ((at_builtin;refine aU rfl _ _ 24 rfl (w.heap.size+1) 2 (.int .i64 0) 1 8 Tryz.underlying24 Ec rfl δ _ _ _ rfl (ho) [.int .i64 (9223372036854775807:Int)] rfl (by simp [Value.oneCell']) (by first|rfl|(rw [World.size_alloc];rfl)) μ ω (ω) ?_;intro v2 w2 ho2 hu2 lS))
     | fail)
    have hw2:=aa.own HU.out ho σ hu2;obtain ⟨a9,c9,rfl,_⟩:=bu ho2;exact ⟨⟨k+1,ω,by go_num,by rw [HS.out,HV.out,bL];exact ho2,hw2⟩,by simp [intOf];omega⟩
  ·obtain rfl:k=N:=ω;obtain ⟨g,c5,rfl,hI,hgb,_⟩:=IE.iO ho ω;have hlN:∀d,(ni k d).length=k:=rY k;have VK:=χ hlN;have hUse:=hu;clear ho hlN;go_wp2
   go_loopw [8,10,34] (fun i _ _ wr=>∃m:Nat,m<=k/\i=.int .i64 (m:Int)/\IE 2 wr g c5 (ni k (passes (eN E) s m))/\aa [] (w.alloc (.cells #[.int .i64 k,.slice a n cap] 57)) wr) (fun i _ _ _=>k-(intOf i).toNat)
   case atStart=>exact ⟨0,ω,rfl,hI,hUse⟩
   case round=>
    clear hI hUse hu q0 q1 hsz;obtain ⟨m,hm,rfl,hI,hu⟩:=hrel;rename World=>wr;have hsz:w.heap.size<wr.heap.size:=by have:=hu.size;simp at this;omega
    have q0:wr.cell? ⟨w.heap.size,0,none⟩=some (.int .i64 (k:Int)):=hu.was σ;have q1:wr.cell? ⟨w.heap.size,1,none⟩=some (.slice a n cap):=hu.was σ;have WY:IntKind.i64.wrap ((m:Int)+1)=(m:Int)+1:=IntWalk.i64_in _ ω;have hRx:=lW HW.out.2.2 m;have HP:=χ (show passes (eN E) s (m+1)=(eN E).foldl iy (passes (eN E) s m) from rfl);have HF:=χ (show ∀j,Rx (eN E) s k (9223372036854775807 / k) (((eN E).take j).foldl iy (passes (eN E) s m)) from fun j=>LG HW.out.2.2 _ (fun e he=>List.mem_of_mem_take he) hRx);clear hRx;generalize hDm:passes (eN E) s m=D at *;have HDM:=χ hDm;clear hDm
    by_cases LH:m<k
    ·go_wp2
     go_loopw [10,34] (fun _ i wr=>∃j:Nat,j<=n/\i=.int .i64 (j:Int)/\IE 2 wr g c5 (ni k (((eN E).take j).foldl iy D))/\aa [] (w.alloc (.cells #[.int .i64 k,.slice a n cap] 57)) wr) (fun _ i _=>n-(intOf i).toNat)
     case atStart=>exact ⟨0,ω,rfl,by simpa using hI,hu⟩
     case round=>
      clear hI hu q0 q1 hsz;obtain ⟨j,hj,rfl,hI,hu⟩:=hrel;rename World=>wr;have hsz:w.heap.size<wr.heap.size:=by have:=hu.size;simp at this;omega
      by_cases hjn:j<n
      ·have hjE:j<E.length:=by rw [HN.out];exact hjn
       have hx:E[j]?=some (E.getD j default):=by simp [φ,hjE]
       have hmem:E.getD j default∈E:=List.mem_of_getElem? hx;obtain ⟨ge,off,rfl,hg,c0,c1,c2⟩:=(HE.out.upd (u0.trans hu)).at j hjE;have h1:=iW HW.out.2.1 hmem;have h2:=l8 HW.out.1 hmem;have HT:=χ (ML E D j _ hx);have hE3:=HW.out.2.2.e _ (List.mem_map_of_mem (f:=toN) hmem);generalize E.getD j default=e at *;have hwr:IntKind.i64.wrap ((j:Int)+1)=(j:Int)+1:=IntWalk.i64_in _ ω;obtain ⟨ef,et,ew⟩:=e;dsimp only at c0 c1 c2 h1 h2;have hRj:=HF.out j;generalize ((eN E).take j).foldl iy D=d at *;obtain ⟨f,rfl⟩:∃f:Nat,ef=f:=⟨ef.toNat,ω⟩;obtain ⟨t,rfl⟩:∃t:Nat,et=t:=⟨et.toNat,ω⟩
       obtain ⟨x,rfl⟩:∃x:Nat,ew=x:=⟨ew.toNat,ω⟩;have hf:f<k:=ω;have ht:t<k:=ω;have hfI:(f:Int)<(k:Int):=ω;have htI:(t:Int)<(k:Int):=ω;have d1:=hI.cell f (by rw [VK.out];exact hf);have d2:=hI.cell t (by rw [VK.out];exact ht);rw [nU hf] at d1;rw [nU ht] at d2;have f1:=hI.free f;have f2:=hI.free t;have hgl:=hI.lt;have hle:=hRj.le f;have hle2:=hRj.le t;have hsum:d f≠inf->d f+x<=inf:=fun h=>hRj.sum HW.out.2.2.nm (e:=⟨f,t,x⟩) hf (by simpa [toN] using hE3.2.2) h;have HR:Hid (iy d (toN ⟨f,t,x⟩)=if d f≠inf/\d f+x<d t then cu d t (d f+x) else d):=χ rfl
       rw [show inf=9223372036854775807 from rfl] at *;have HI:=χ hI;have HU:=χ hu;have HD:=χ (show ∀y:Nat,y=d f+x->ni k (cu d t y)=(ni k d).set t ((y:Nat):Int) from fun y _=>wo.symm);clear hx hmem hI hu hRj h2 hE3;generalize d f=xf at *;generalize d t=xt at *
       by_cases b1:xf=9223372036854775807
       ·have ZZ:((xf:Int) != 9223372036854775807)=false:=ζ;have HQ:Hid (iy d (toN ⟨f,t,x⟩)=d):=χ (by rw [HR.out,if_neg (fun h=>h.1 b1)]);clear hsum b1;go_wp2
        go_quiet (fail)
        go_wp2;exact ⟨⟨j+1,ω,by go_num,by rw [HT.out,HQ.out];exact HI.out.upd (S:=[]) β σ,by have:=HU.out;exact β⟩,by simp [intOf];omega⟩
       ·have ZZ:((xf:Int) != 9223372036854775807)=true:=ζ;have hsm:=hsum b1;have hwx:IntKind.i64.wrap ((xf:Int)+(x:Int))=(xf:Int)+(x:Int):=IntWalk.i64_in _ ω;clear hsum
        by_cases b2:xf+x<xt
        ·have b2b:(xf:Int)+(x:Int)<(xt:Int):=ω;have HQ:Hid (iy d (toN ⟨f,t,x⟩)=cu d t (xf+x)):=χ (by rw [HR.out,if_pos ⟨b1,b2⟩]);clear b1 b2;go_wp2
         go_quiet (fail)
         go_wp2
         go_region
         all_goals
          go_wp2;exact ⟨⟨j+1,ω,by go_num,by rw [HT.out,HQ.out,HD.out _ rfl];exact (HI.out.upd (S:=[]) β σ).set t _,by have:=HU.out;exact β⟩,by simp [intOf];omega⟩
        ·have b2b:¬ (xf:Int)+(x:Int)<(xt:Int):=ω;have HQ:Hid (iy d (toN ⟨f,t,x⟩)=d):=χ (by rw [HR.out,if_neg (fun h=>b2 h.2)]);clear b1 b2;go_wp2
         go_quiet (fail)
         go_wp2;exact ⟨⟨j+1,ω,by go_num,by rw [HT.out,HQ.out];exact HI.out.upd (S:=[]) β σ,by have:=HU.out;exact β⟩,by simp [intOf];omega⟩
      ·obtain rfl:j=n:=ω;have hfin:(eN E).take j=eN E:=by rw [List.take_of_length_le];unfold eN;rw [List.length_map,HN.out];omega
       rw [hfin,←HP.out] at hI;have HI:=χ hI;have HU:=χ hu;clear hI hu hfin;go_wp2
       go_roundw
       case rel=>exact ⟨m+1,ω,by go_num,HI.out,HU.out⟩
       case measure=>simp [intOf];omega
    ·obtain rfl:m=k:=ω;rw [←HDM.out] at hI;have HI:=χ hI;have HU:=χ hu;clear hI hu;go_wp2;go_ret;exact ⟨_,rfl,u0.trans HU.out,HI.out.aag ω (rY _ _)⟩
end Go.Proofs.YtklibcncmbofpaaGreat
