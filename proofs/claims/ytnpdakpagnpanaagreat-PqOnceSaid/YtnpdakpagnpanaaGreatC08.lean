/-
  Lemmas for PqAlike: Spine, Spine2, Bt, Bt2, Bt3, Bt4, Lf, Lf2, Lf3, Lf4, Lf5, Lf6, Lf7, Lf8, Lf9, Bt5, Lf13, Lf14, Lf15, Lf16, LfQ, TOps. Conditions: those of each lemma.
-/
import Derived.IntWalk
import Derived.Test.YtnpdakpagnpanaaGreatC04
set_option linter.all false
set_option maxHeartbeats 8000000
set_option maxRecDepth 10000
namespace Go.Proofs.YtnpdakpagnpanaaGreat
open Tryz
open Go Go.RowKit
structure TS where
 l:Nat->Int
 r:Nat->Int
 u:Nat->Int
def TS.none:TS:=⟨λ_=>-1,λ_=>-1,λ_=>-1⟩
def TS.kid(S:TS)(s:Bool)(x:Nat):Int:=if s then S.r x else S.l x
def eB(S:TS)(j:Nat):Value:=.int .i64 (if j % 3=0 then S.l (j / 3) else if j % 3=1 then S.r (j / 3) else S.u (j / 3))
theorem qE(S:TS)(x:Nat):eB S (x*3)=.int .i64 (S.l x):=by unfold eB;rw[Δ ω,show x*3 / 3=x by omega]
theorem qK(S:TS)(x:Nat):eB S (x*3+1)=.int .i64 (S.r x):=by unfold eB;rw[Γ ω,Δ ω,show(x*3+1) / 3=x by omega]
theorem uN(S:TS)(x:Nat):eB S (x*3+2)=.int .i64 (S.u x):=by unfold eB;rw[Γ ω,Γ ω,show(x*3+2) / 3=x by omega]
structure bL(w:World)(bt ba n:Nat)(S:TS):Prop where
 head:aS w bt 238 1 (λ_=>.slice (some ⟨ba,0,none⟩) n n)
 row:aS w ba 241 (n*3) (eB S)
 ne:bt≠ba
 le:n<=65536
theorem bL.upd{w w':World}{F:List Nat}{bt ba n:Nat}{S:TS}(h:bL w bt ba n S)(hu:ae F w w')(h1:bt∉F)(h2:ba∉F):bL w' bt ba n S:=
 ⟨h.head.upd hu h1,h.row.upd hu h2,h.ne,h.le⟩
theorem bL.drewN{w:World}{bt ba n:Nat}{S:TS}(h:bL w bt ba n S)(k:Nat):bL (w.drewN k) bt ba n S:=⟨h.head,h.row,h.ne,h.le⟩
theorem bL.drew{w:World}{bt ba n:Nat}{S:TS}(h:bL w bt ba n S):bL w.drew bt ba n S:=⟨h.head,h.row,h.ne,h.le⟩
theorem Qi:(prog.info? 241).map (λi=>(i.zero,i.size,i.bytes))=some (some (.agg #[.int .i64 0,.int .i64 0,.int .i64 0]),3,24):=by kernel_rfl
theorem wS(n:Nat)(w:World)(h:n<=65536) :
  Calls prog 89 #[.int .i64 (n:Int)] w λe w'=>∃bt ba,e=.returned (.tuple #[.pointer (some ⟨bt,0,none⟩),.int .i64 0])/\bL w' bt ba n TS.none/\ae [] w w'/\w.heap.size<=bt/\w.heap.size<=ba:=by
 go_enter func89,ntmps89
 go_wp2_with (at_make;refine wpList_make_row rfl _ 236 rfl 241 (.agg #[.int .i64 0,.int .i64 0,.int .i64 0]) 3 24 underlying236 Qi n rfl ω μ ?_;intro w1 hr1 hu1)
 have hlt:=hr1.lt
 go_loopw [21] (λi wr=>∃(k:Nat) (f:Nat->Value),k<=n/\i=.int .i64 k/\aS wr w1.heap.size 238 1 (λ_=>.slice (some ⟨w.heap.size,0,none⟩) n n)/\aS wr w.heap.size 241 (n*3) f/\(∀j,j<k*3->f j=.int .i64 (-1))/\ae [] w wr) (λi _=>n-(intOf i).toNat)
 case atStart=>exact⟨0,_,ω,rfl,eZ _ _ _ |>.ext (λj hj=>by simp at hj;subst hj;rfl),hr1.alloc _,ω,hu1.alloc _⟩
 case round=>
  obtain⟨k,f,hk,rfl,hH,hR,hf,hu⟩:=hrel
  by_cases hkn:k<n
  ·have c0:=hH.cell 0 ω;have d0:=hR.cell (k*3) ω;have d1:=hR.cell (k*3+1) ω;have d2:=hR.cell (k*3+2) ω;have e0:=hR.free (k*3);have e1:=hR.free (k*3+1);have e2:=hR.free (k*3+2);have HF:=χ hf;clear hf;go_wp2
   go_roundw
   case rel=>
    refine⟨k+1,_,ω,by go_num,((hH.far _ _ ζ).far _ _ ζ).far _ _ ζ,((hR.set _ _).set _ _).set _ _,λj hj=>?_,((hu.setCell (Β σ) _).setCell (Β σ) _).setCell (Β σ) _⟩
    show(if j=k*3+2 then _ else if j=k*3+1 then _ else if j=k*3 then _ else f j)=_
    split
    ·rfl
    ·split
     ·rfl
     ·split
      ·rfl
      ·exact HF.out j ω
   case measure=>simp[intOf];omega
  ·obtain rfl:k=n:=ω;go_wp2;go_ret2;exact⟨_,_,rfl,⟨hH,hR.ext (λj hj=>by rw[hf j hj];unfold eB TS.none;simp),ω,h⟩,hu,hu1.size,Θ _⟩
theorem qW(bt ba n:Nat)(S:TS)(x:Int)(w:World)(h:bL w bt ba n S)(b:Bool)(hb:b=decide (0<=x/\x<n)) :
  Calls prog 247 #[.pointer (some ⟨bt,0,none⟩),.int .i64 x] w λe w'=>e=.returned (.bool b)/\w'=w:=by
 have c0:=h.head.cell 0 ω;clear h;subst hb
 by_cases h0:0<=x
 ·by_cases h1:x<n
  ·go_enter func247,ntmps247
   go_wp2;go_ret;exact⟨cZ (by simp[h0,h1]),rfl⟩
  ·go_enter func247,ntmps247
   go_wp2;go_ret;exact⟨cZ (by simp[h0,h1]),rfl⟩
 ·go_enter func247,ntmps247
  go_wp2;go_ret;exact⟨cZ ζ,rfl⟩
theorem sS(b:Bool)(w:World):Calls prog 243 #[.bool b] w λe w'=>e=.returned (.int .i64 (if b then 1 else 0))/\w'=w:=by
 cases b
 all_goals
  go_enter func243,ntmps243
  go_wp2;go_ret;exact⟨rfl,rfl⟩
theorem told_none(w:World):Calls prog 246 #[.int .i64 (-1)] w λe w'=>e=.returned (.tuple #[.int .i64 0,.bool false])/\w'=w:=by
 go_enter func246,ntmps246
 go_wp2;go_ret2;exact⟨rfl,rfl⟩
theorem Qy(x:Int)(w:World)(h:x≠-1):Calls prog 246 #[.int .i64 x] w λe w'=>e=.returned (.tuple #[.int .i64 x,.bool true])/\w'=w:=by
 have h':(x == -1)=false:=by simpa using h
 go_enter func246,ntmps246
 go_wp2;go_ret2;exact⟨rfl,rfl⟩
def gV(n:Nat)(S:TS)(x:Int)(r:Bool):Int:=if 0<=x/\x<n then S.kid r x.toNat else -1
def pQ(n:Nat)(S:TS)(x:Int):Int:=if 0<=x/\x<n then S.u x.toNat else -1
theorem zL(bt ba n:Nat)(S:TS)(x:Int)(r:Bool)(w:World)(h:bL w bt ba n S) :
  Calls prog 244 #[.pointer (some ⟨bt,0,none⟩),.int .i64 x,.bool r] w λe w'=>e=.returned (.int .i64 (gV n S x r))/\∃k,w'=w.drewN k:=by
 by_cases hx:0<=x/\x<n
 ·obtain⟨k,rfl⟩:∃k:Nat,x=k:=⟨x.toNat,ω⟩;have hk:k<n:=ω;have e:gV n S k r=S.kid r k:=by unfold gV;rw[Δ hx];simp
  have c0:=h.head.cell 0 ω;have d0:=h.row.cellAt (k*3) ω (qE S k);have d1:=h.row.cellAt (k*3+1) ω (qK S k);rw[e];clear e;cases r
  all_goals
   unfold TS.kid;simp only[if_true,if_false,Ϣ]
   go_enter func244,ntmps244
   go_wp2_with (go_at_call 247;refine(qW bt ba n S k _ h true (by simp[hk])).mono ?_;rintro e w' ⟨rfl,rfl⟩)
   go_quiet ((go_at_call 243;exact Calls.quiet_of_same (sS _ _)))
   go_wp2;go_ret;exact⟨rfl,_,rfl⟩
 ·have e:gV n S x r=-1:=by unfold gV;rw[Γ hx]
  rw[e];clear e
  go_enter func244,ntmps244
  go_wp2_with (go_at_call 247;refine(qW bt ba n S x _ h false (by simp[hx])).mono ?_;rintro e w' ⟨rfl,rfl⟩)
  go_ret;exact⟨rfl,0,rfl⟩
theorem vD(bt ba n:Nat)(S:TS)(x:Int)(w:World)(h:bL w bt ba n S) :
  Calls prog 242 #[.pointer (some ⟨bt,0,none⟩),.int .i64 x] w λe w'=>e=.returned (.int .i64 (pQ n S x))/\w'=w:=by
 by_cases hx:0<=x/\x<n
 ·obtain⟨k,rfl⟩:∃k:Nat,x=k:=⟨x.toNat,ω⟩;have hk:k<n:=ω;have e:pQ n S k=S.u k:=by unfold pQ;rw[Δ hx];simp
  have c0:=h.head.cell 0 ω;have d0:=h.row.cellAt (k*3+2) ω (uN S k);rw[e];clear e
  go_enter func242,ntmps242
  go_wp2_with (go_at_call 247;refine(qW bt ba n S k _ h true (by simp[hk])).mono ?_;rintro e w' ⟨rfl,rfl⟩)
  go_ret;exact⟨rfl,rfl⟩
 ·have e:pQ n S x=-1:=by unfold pQ;rw[Γ hx]
  rw[e];clear e
  go_enter func242,ntmps242
  go_wp2_with (go_at_call 247;refine(qW bt ba n S x _ h false (by simp[hx])).mono ?_;rintro e w' ⟨rfl,rfl⟩)
  go_ret;exact⟨rfl,rfl⟩
def tv(x:Int):Int:=if x=-1 then 0 else x
def tb(x:Int):Bool:=decide (x≠-1)
theorem Bz(x:Int)(w:World):Calls prog 246 #[.int .i64 x] w λe w'=>e=.returned (.tuple #[.int .i64 (tv x),.bool (tb x)])/\w'=w:=by
 by_cases h:x=-1
 ·subst h;exact told_none w
 ·have e1:tv x=x:=by unfold tv;rw[Γ h]
  have e2:tb x=true:=by unfold tb;simp[h]
  rw[e1,e2];exact Qy x w h
theorem Bc(bt ba n:Nat)(S:TS)(x:Int)(w:World)(h:bL w bt ba n S) :
  Calls prog 238 #[.pointer (some ⟨bt,0,none⟩),.int .i64 x] w λe w'=>e=.returned (.tuple #[.int .i64 (tv (gV n S x false)),.bool (tb (gV n S x false))])/\∃k,w'=w.drewN k:=by
 generalize hy:gV n S x false=y;have c1:=zL bt ba n S x false w h;rw[hy] at c1;have c2:=λW=>Bz y W
 go_enter func238,ntmps238
 go_wp2_with (first|(go_at_call 244;refine c1.mono ?_;rintro e w' ⟨rfl,k,rfl⟩)|(go_at_call 246;refine(c2 _).mono ?_;rintro e w' ⟨rfl,rfl⟩))
 go_ret2;exact⟨rfl,_,rfl⟩
theorem qJ(bt ba n:Nat)(S:TS)(x:Int)(w:World)(h:bL w bt ba n S) :
  Calls prog 239 #[.pointer (some ⟨bt,0,none⟩),.int .i64 x] w λe w'=>e=.returned (.tuple #[.int .i64 (tv (gV n S x true)),.bool (tb (gV n S x true))])/\∃k,w'=w.drewN k:=by
 generalize hy:gV n S x true=y;have c1:=zL bt ba n S x true w h;rw[hy] at c1;have c2:=λW=>Bz y W
 go_enter func239,ntmps239
 go_wp2_with (first|(go_at_call 244;refine c1.mono ?_;rintro e w' ⟨rfl,k,rfl⟩)|(go_at_call 246;refine(c2 _).mono ?_;rintro e w' ⟨rfl,rfl⟩))
 go_ret2;exact⟨rfl,_,rfl⟩
theorem Ve(bt ba n:Nat)(S:TS)(x:Int)(w:World)(h:bL w bt ba n S) :
  Calls prog 240 #[.pointer (some ⟨bt,0,none⟩),.int .i64 x] w λe w'=>e=.returned (.tuple #[.int .i64 (tv (pQ n S x)),.bool (tb (pQ n S x))])/\∃k,w'=w.drewN k:=by
 generalize hy:pQ n S x=y;have c1:=vD bt ba n S x w h;rw[hy] at c1;have c2:=λW=>Bz y W
 go_enter func240,ntmps240
 go_wp2_with (first|(go_at_call 242;refine c1.mono ?_;rintro e w' ⟨rfl,rfl⟩)|(go_at_call 246;refine(c2 _).mono ?_;rintro e w' ⟨rfl,rfl⟩))
 go_ret2;exact⟨rfl,0,rfl⟩
def TS.aK(S:TS)(p:Nat)(s:Bool)(v:Int):TS:=if s then⟨S.l,λi=>if i=p then v else S.r i,S.u⟩ else⟨λi=>if i=p then v else S.l i,S.r,S.u⟩
def TS.dC(S:TS)(p:Nat)(v:Int):TS:=⟨S.l,S.r,λi=>if i=p then v else S.u i⟩
theorem bL.aK{w:World}{bt ba n:Nat}{S:TS}(h:bL w bt ba n S)(p:Nat)(s:Bool)(v:Int) :
  bL (w.setCell ⟨ba,p*3+(if s then 1 else 0),none⟩ (.int .i64 v)) bt ba n (S.aK p s v):=by
 refine⟨h.head.far _ _ h.ne,(h.row.set _ _).ext (λj hj=>?_),h.ne,h.le⟩;cases s
 ·unfold eB TS.aK
  by_cases hj2:j=p*3
  ·subst hj2;simp
  ·have:¬(j % 3=0/\j / 3=p):=ω
   by_cases h0:j % 3=0
   ·simp[hj2,h0];intro hh;exfalso;omega
   ·simp[hj2,h0]
 ·unfold eB TS.aK
  by_cases hj2:j=p*3+1
  ·subst hj2;simp;intro hh;exfalso;omega
  ·by_cases h0:j % 3=1
   ·simp[hj2,h0];intro hh;exfalso;omega
   ·simp[hj2,h0]
theorem bL.dC{w:World}{bt ba n:Nat}{S:TS}(h:bL w bt ba n S)(p:Nat)(v:Int) :
  bL (w.setCell ⟨ba,p*3+2,none⟩ (.int .i64 v)) bt ba n (S.dC p v):=by
 refine⟨h.head.far _ _ h.ne,(h.row.set _ _).ext (λj hj=>?_),h.ne,h.le⟩;unfold eB TS.dC
 by_cases hj2:j=p*3+2
 ·subst hj2;simp;intro hh;exfalso;omega
 ·by_cases h0:j % 3=0
  ·simp[hj2,h0]
  ·by_cases h1:j % 3=1
   ·simp[hj2,h1]
   ·simp[hj2,h0,h1];intro hh;exfalso;omega
def lh(S:TS)(p x:Int)(r:Bool):TS:=(S.aK p.toNat r x).dC x.toNat p
theorem Ae(bt ba n:Nat)(S:TS)(i j:Nat)(r:Bool)(w:World)(h:bL w bt ba n S)(hi:i<n)(hj:j<n)(hne:i≠j)(hu:S.u j=-1)(hk:S.kid r i=-1) :
  Calls prog 241 #[.pointer (some ⟨bt,0,none⟩),.int .i64 (i:Int),.int .i64 (j:Int),.bool r] w λe w'=>e=.returned (.bool true)/\bL w' bt ba n (lh S i j r)/\ae [ba] w w':=by
 have hbne:=h.ne;have hbne':ba≠bt:=λe=>h.ne e.symm;have c0:=h.head.cell 0 ω;have d0:=h.row.cellAt (i*3) ω (qE S i);have d1:=h.row.cellAt (i*3+1) ω (qK S i);have d2:=h.row.cellAt (j*3+2) ω (uN S j);have e0:=h.row.free (i*3);have e1:=h.row.free (i*3+1);have e2:=h.row.free (j*3+2);have k1:=qW bt ba n S i w h true (by simp[hi]);have k2:=qW bt ba n S j w h true (by simp[hj]);have k3:=vD bt ba n S j w h;rw[show pQ n S j=-1 by unfold pQ;rw[Δ ω];simpa using hu] at k3;have k4:=zL bt ba n S i r w h;rw[show gV n S i r=-1 by unfold gV;rw[Δ ω];simpa using hk] at k4
 have hij:((i:Int) == (j:Int))=false:=ζ;have H:=χ h;clear h hu hk;cases r
 ·go_enter func241,ntmps241
  go_wp2_with (first
   |(go_at_call 247;(with_reducible refine(k1).mono ?_);rintro e w' ⟨rfl,rfl⟩)
   |(go_at_call 247;(with_reducible refine(k2).mono ?_);rintro e w' ⟨rfl,rfl⟩)
   |(go_at_call 242;(with_reducible refine(k3).mono ?_);rintro e w' ⟨rfl,rfl⟩)
   | (go_at_call 244;(with_reducible refine (k4).mono ?_);rintro e w' ⟨rfl,kd,rfl⟩))
  go_region_held3 (λW=>W.cell? ⟨bt,0,none⟩=some (.slice (some ⟨ba,0,none⟩) n n)) (go_keep) ((go_at_call 243;refine(sS _ _).mono ?_;rintro e w' ⟨rfl,rfl⟩))
  go_wp2;go_ret;exact⟨rfl,((H.out.drewN _).aK i false j).dC j i,(((ae.refl _ _).drewN _).setCell (Α σ) _).setCell (Α σ) _⟩
 ·go_enter func241,ntmps241
  go_wp2_with (first
   |(go_at_call 247;(with_reducible refine(k1).mono ?_);rintro e w' ⟨rfl,rfl⟩)
   |(go_at_call 247;(with_reducible refine(k2).mono ?_);rintro e w' ⟨rfl,rfl⟩)
   |(go_at_call 242;(with_reducible refine(k3).mono ?_);rintro e w' ⟨rfl,rfl⟩)
   | (go_at_call 244;(with_reducible refine (k4).mono ?_);rintro e w' ⟨rfl,kd,rfl⟩))
  go_region_held3 (λW=>W.cell? ⟨bt,0,none⟩=some (.slice (some ⟨ba,0,none⟩) n n)) (go_keep) ((go_at_call 243;refine(sS _ _).mono ?_;rintro e w' ⟨rfl,rfl⟩))
  go_wp2;go_ret;exact⟨rfl,((H.out.drewN _).aK i true j).dC j i,(((ae.refl _ _).drewN _).setCell (Α σ) _).setCell (Α σ) _⟩
theorem Fs(bt ba n:Nat)(S:TS)(x:Int)(w:World)(h:bL w bt ba n S)(hu:pQ n S x=-1) :
  Calls prog 234 #[.pointer (some ⟨bt,0,none⟩),.int .i64 x] w λe w'=>e=.returned (.tuple #[.int .i64 0,.bool false])/\w'=w:=by
 have k3:=vD bt ba n S x w h;rw[hu] at k3;clear h hu
 go_enter func234,ntmps234
 go_wp2_with ((go_at_call 242;(with_reducible refine(k3).mono ?_);rintro e w' ⟨rfl,rfl⟩))
 go_ret2;exact⟨rfl,rfl⟩
def mY(S:TS)(i j:Nat):TS:=(S.aK i (decide (S.r i=j)) (-1)).dC j (-1)
theorem E5(bt ba n:Nat)(S:TS)(i j:Nat)(w:World)(h:bL w bt ba n S)(hi:i<n)(hj:j<n)(hu:S.u j=i) :
  Calls prog 234 #[.pointer (some ⟨bt,0,none⟩),.int .i64 (j:Int)] w λe w'=>e=.returned (.tuple #[.int .i64 (i:Int),.bool true])/\bL w' bt ba n (mY S i j)/\ae [ba] w w':=by
 have hbne:ba≠bt:=λe=>h.ne e.symm;have c0:=h.head.cell 0 ω;have d0:=h.row.cellAt (i*3) ω (qE S i);have d1:=h.row.cellAt (i*3+1) ω (qK S i);have d2:=h.row.cellAt (j*3+2) ω (uN S j);have e0:=h.row.free (i*3);have e1:=h.row.free (i*3+1);have e2:=h.row.free (j*3+2);have k3:=vD bt ba n S j w h;rw[show pQ n S j=i by unfold pQ;rw[Δ ω];simpa using hu] at k3;have k4:=λW (hW:bL W bt ba n S)=>zL bt ba n S i true W hW;rw[show gV n S i true=S.r i by unfold gV TS.kid;rw[Δ ω];simp] at k4;have H:=χ h;have hi1:((i:Int) == -1)=false:=σ;clear h
 by_cases hr:S.r i=j
 ·have hb:(S.r i == (j:Int))=true:=by simpa using hr
  have ec:mY S i j=(S.aK i true (-1)).dC j (-1):=by unfold mY;rw[Ν hr]
  have EC:=χ ec;clear hr ec hu
  go_enter func234,ntmps234
  go_wp2_with ((go_at_call 242;(with_reducible refine(k3).mono ?_);rintro e w' ⟨rfl,rfl⟩))
  go_region_held3 (λW=>W.cell? ⟨bt,0,none⟩=some (.slice (some ⟨ba,0,none⟩) n n)) (go_keep)
   (first|((go_at_call 243;refine(sS _ _).mono ?_;rintro e w' ⟨rfl,rfl⟩))|((go_at_call 244;refine(k4 _ (H.out.drew)).mono ?_;rintro e w' ⟨rfl,kd,rfl⟩)))
  go_wp2;go_ret2;exact⟨rfl,by rw[EC.out];exact((H.out.drewN _).aK i true (-1)).dC j (-1),(((ae.refl _ _).drewN _).setCell (Α σ) _).setCell (Α σ) _⟩
 ·have hb:(S.r i == (j:Int))=false:=by simpa using hr
  have ec:mY S i j=(S.aK i false (-1)).dC j (-1):=by unfold mY;rw[Ξ hr]
  have EC:=χ ec;clear hr ec hu
  go_enter func234,ntmps234
  go_wp2_with ((go_at_call 242;(with_reducible refine(k3).mono ?_);rintro e w' ⟨rfl,rfl⟩))
  go_region_held3 (λW=>W.cell? ⟨bt,0,none⟩=some (.slice (some ⟨ba,0,none⟩) n n)) (go_keep)
   (first|((go_at_call 243;refine(sS _ _).mono ?_;rintro e w' ⟨rfl,rfl⟩))|((go_at_call 244;refine(k4 _ (H.out.drew)).mono ?_;rintro e w' ⟨rfl,kd,rfl⟩)))
  go_wp2;go_ret2;exact⟨rfl,by rw[EC.out];exact((H.out.drewN _).aK i false (-1)).dC j (-1),(((ae.refl _ _).drewN _).setCell (Α σ) _).setCell (Α σ) _⟩
def jD(S:TS)(i:Nat):TS:=(S.aK i false (S.r i)).aK i true (S.l i)
theorem BI(bt ba n:Nat)(S:TS)(i:Nat)(w:World)(h:bL w bt ba n S)(hi:i<n) :
  Calls prog 249 #[.pointer (some ⟨bt,0,none⟩),.int .i64 (i:Int)] w λe w'=>e=.returned (.bool true)/\bL w' bt ba n (jD S i)/\ae [ba] w w':=by
 have c0:=h.head.cell 0 ω;have d0:=h.row.cellAt (i*3) ω (qE S i);have d1:=h.row.cellAt (i*3+1) ω (qK S i);have e0:=h.row.free (i*3);have e1:=h.row.free (i*3+1);have k1:=qW bt ba n S i w h true (by simp[hi]);have H:=χ h;clear h
 go_enter func249,ntmps249
 go_wp2_with ((go_at_call 247;(with_reducible refine(k1).mono ?_);rintro e w' ⟨rfl,rfl⟩))
 go_region
 go_wp2;go_ret;exact⟨rfl,((H.out.aK i false (S.r i)).aK i true (S.l i)).drew,(((ae.refl _ _).setCell (Α σ) _).setCell (Α σ) _).drew⟩
end Go.Proofs.YtnpdakpagnpanaaGreat
namespace Go.Proofs.YtnpdakpagnpanaaGreat
open Tryz
inductive BT where
 |nil:BT
 |node:Nat->BT->BT->BT
def BT.root:BT->Int | .nil=>-1 | .node x _ _=>x
def BT.nodes:BT->List Nat | .nil=>[] | .node x l r=>x::(l.nodes++r.nodes)
def BT.size:BT->Nat | .nil=>0 | .node _ l r=>l.size+r.size+1
theorem BT.lW:∀t:BT,t.nodes.length=t.size
 | .nil=>rfl
 | .node x l r=>by simp[BT.nodes,BT.size,BT.lW l,BT.lW r]
def dL(S:TS):Int->Int->BT->Prop
 |_,z,.nil=>z=-1
 |p,z,.node x l r=>z=x/\S.u x=p/\dL S x (S.l x) l/\dL S x (S.r x) r
theorem dL.root{S:TS}:∀{t:BT} {p z:Int},dL S p z t->z=t.root
 | .nil,_,_,h=>h
 | .node _ _ _,_,_,h=>h.1
def TS.at(S S':TS)(x:Nat):Prop:=S'.l x=S.l x/\S'.r x=S.r x/\S'.u x=S.u x
theorem dL.frame{S S':TS}:∀{t:BT} {p z:Int},dL S p z t->(∀x,x∈t.nodes->S.at S' x)->dL S' p z t
 | .nil,_,_,h,_=>h
 | .node x l r,p,z,h,hs=>by
  have hx:=hs x (by simp[BT.nodes]);refine⟨h.1,by rw[hx.2.2];exact h.2.1,?_,?_⟩
  ·rw[hx.1];exact dL.frame h.2.2.1 (λy hy=>hs y (by simp[BT.nodes,hy]))
  ·rw[hx.2.1];exact dL.frame h.2.2.2 (λy hy=>hs y (by simp[BT.nodes,hy]))
theorem dL.QL{S S':TS}{t:BT}{p p' z:Int}(h:dL S p z t)(hn:t.nodes.Nodup)(hs:∀x,x∈t.nodes->S'.l x=S.l x/\S'.r x=S.r x/\(x≠t.root.toNat->S'.u x=S.u x))(hr:t≠.nil->S'.u t.root.toNat=p'):dL S' p' z t:=by
 cases t with
 |nil=>exact h
 |node x l r=>
  have hx:=hs x (by simp[BT.nodes]);simp only[BT.nodes,Ζ,τ,not_or] at hn;refine⟨h.1,?_,?_,?_⟩
  ·have:=hr σ;simpa[BT.root] using this
  ·rw[hx.1];refine h.2.2.1.frame (λy hy=>?_);have hy':=hs y (by simp[BT.nodes,hy]);exact⟨hy'.1,hy'.2.1,hy'.2.2 (λe=>by simp[BT.root] at e;rw[e] at hy;exact hn.1.1 hy)⟩
  ·rw[hx.2.1];refine h.2.2.2.frame (λy hy=>?_);have hy':=hs y (by simp[BT.nodes,hy]);exact⟨hy'.1,hy'.2.1,hy'.2.2 (λe=>by simp[BT.root] at e;rw[e] at hy;exact hn.1.2 hy)⟩
theorem cz{t:BT}(h:t≠.nil):t.root.toNat∈t.nodes/\t.root=(t.root.toNat:Int):=by
 cases t with
 |nil=>exact absurd rfl h
 |node x l r=>simp[BT.root,BT.nodes]
/-! ### ranks; what a merge gives -/
def BT.rank:BT->Nat | .nil=>0 | .node _ _ r=>r.rank+1
def aB(x:Nat)(l r:BT):BT:=if l.rank<r.rank then .node x r l else .node x l r
def gu(rk:Nat->Nat):BT->Prop
 | .nil=>True
 | .node x l r=>rk x=r.rank+1/\gu rk l/\gu rk r
theorem gu.frame{rk mV:Nat->Nat}:∀{t:BT},gu rk t->(∀x,x∈t.nodes->mV x=rk x)->gu mV t
 | .nil,_,_=>trivial
 | .node x l r,h,hs=>⟨by rw[hs x (by simp[BT.nodes])];exact h.1,h.2.1.frame (λy hy=>hs y (by simp[BT.nodes,hy])),h.2.2.frame (λy hy=>hs y (by simp[BT.nodes,hy]))⟩
theorem gu.root{rk:Nat->Nat}{t:BT}(h:gu rk t)(ht:t≠.nil):rk t.root.toNat=t.rank:=by
 cases t with
 |nil=>exact absurd rfl ht
 |node x l r=>simpa[BT.root,BT.rank] using h.1
def Lean:BT->Prop
 | .nil=>True
 | .node _ l r=>r.rank<=l.rank/\Lean l/\Lean r
theorem kE{x:Nat}{l r:BT}(hl:Lean l)(hr:Lean r):Lean (aB x l r):=by
 unfold aB;split
 ·exact⟨ω,hr,hl⟩
 ·exact⟨ω,hl,hr⟩
def Heap(A:NS):BT->Prop
 | .nil=>True
 | .node x l r=>(∀y,y∈l.nodes->dB A x y)/\(∀y,y∈r.nodes->dB A x y)/\Heap A l/\Heap A r
theorem lu(x:Nat)(l r:BT):(aB x l r).nodes.Perm (x::(l.nodes++r.nodes)):=by
 unfold aB;split
 ·simp only[BT.nodes];exact List.Perm.cons x Φ
 ·exact ό _
theorem tH{A:NS}{x:Nat}{l r:BT}(h1:∀y,y∈l.nodes->dB A x y)(h2:∀y,y∈r.nodes->dB A x y)(hl:Heap A l)(hr:Heap A r):Heap A (aB x l r):=by
 unfold aB;split
 ·exact⟨h2,h1,hr,hl⟩
 ·exact⟨h1,h2,hl,hr⟩
theorem jB(x:Nat)(l r:BT):(aB x l r).root=x:=by unfold aB;split<;>rfl
def aH(up:Nat->BT->BT->BT)(A:NS):BT->BT->BT×Nat
 | .nil,t=>(t,0)
 | .node x l r,.nil=>(.node x l r,0)
 | .node x l r,.node y l' r'=>
  if dB A y x then(up y l' (aH up A r' (.node x l r)).1,(aH up A r' (.node x l r)).2+1)
  else(up x l (aH up A r (.node y l' r')).1,(aH up A r (.node y l' r')).2+1)
termination_by a b=>a.size+b.size
decreasing_by
 all_goals simp only[BT.size]
 all_goals omega
theorem lU(up:Nat->BT->BT->BT)(A:NS)(t:BT):aH up A .nil t=(t,0):=by rw[aH]
theorem pg(up:Nat->BT->BT->BT)(A:NS)(t:BT):aH up A t .nil=(t,0):=by cases t<;>rw[aH]
theorem pz(up:Nat->BT->BT->BT)(A:NS)(x y:Nat)(l r l' r':BT):aH up A (.node x l r) (.node y l' r')=
  if dB A y x then(up y l' (aH up A r' (.node x l r)).1,(aH up A r' (.node x l r)).2+1)
  else(up x l (aH up A r (.node y l' r')).1,(aH up A r (.node y l' r')).2+1):=by rw[aH]
structure Vl(up:Nat->BT->BT->BT):Prop where
 nodes:∀x l r,(up x l r).nodes.Perm (x::(l.nodes++r.nodes))
 heap:∀A x l r,(∀y,y∈l.nodes->dB A x y)->(∀y,y∈r.nodes->dB A x y)->Heap A l->Heap A r->Heap A (up x l r)
 root:∀x l r,(up x l r).root=x
theorem mq:Vl aB:=⟨lu,λ_ _ _ _=>tH,jB⟩
theorem jO{up:Nat->BT->BT->BT}(U:Vl up)(A:NS)(k:Nat):∀(a b:BT),a.size+b.size<=k->
  (aH up A a b).1.nodes.Perm (a.nodes++b.nodes)/\(Heap A a->Heap A b->(a.nodes++b.nodes).Nodup->Heap A (aH up A a b).1):=by
 induction k with
 |zero=>
  intro a b hk;cases a with
  |nil=>rw[lU];exact⟨by simp[BT.nodes],λ_ h _=>h⟩
  |node x l r=>simp only[BT.size] at hk;omega
 |succ k ih=>
  intro a b hk;cases a with
  |nil=>rw[lU];exact⟨by simp[BT.nodes],λ_ h _=>h⟩
  |node x l r=>
   cases b with
   |nil=>rw[pg];exact⟨by simp[BT.nodes],λh _ _=>h⟩
   |node y l' r'=>
    rw[pz];simp only[BT.size] at hk
    by_cases h:dB A y x
    ·rw[Δ h];obtain⟨i1,i2⟩:=ih r' (.node x l r) (by simp only[BT.size];omega);have i3:=U.nodes y l' (aH up A r' (.node x l r)).1;have i4:(y::(l'.nodes++(aH up A r' (.node x l r)).1.nodes)).Perm ((BT.node x l r).nodes++(BT.node y l' r').nodes):=by
      refine Ϡ (List.Perm.cons y (List.Perm.append_left _ i1)) ?_;rw[←ϋ]
      show(y::(l'.nodes++r'.nodes++(BT.node x l r).nodes)).Perm ((BT.node x l r).nodes++(y::(l'.nodes++r'.nodes)))
      exact(Φ (l₁:=y::(l'.nodes++r'.nodes)))
     refine⟨i3.trans i4,λha hb hn=>?_⟩;have hn2:(r'.nodes++(BT.node x l r).nodes).Nodup:=by
      rw[θ] at hn ⊢;simp only[BT.nodes,Ζ,θ] at hn;refine⟨hn.2.1.2.2.1,by simp only[BT.nodes,Ζ,θ];exact hn.1,λp hp q hq e=>hn.2.2 q hq p (by simp[hp]) e.symm⟩
     refine U.heap A y l' _ hb.1 (λz hz=>?_) hb.2.2.1 (i2 hb.2.2.2 ha hn2);rcases τ.1 (i1.mem_iff.1 hz) with hz|hz
     ·exact hb.2.1 z hz
     ·simp only[BT.nodes,ρ,τ] at hz;rcases hz with rfl|hz|hz
      ·exact h
      ·exact dI h (ha.1 z hz)
      ·exact dI h (ha.2.1 z hz)
    ·rw[Γ h];obtain⟨i1,i2⟩:=ih r (.node y l' r') (by simp only[BT.size];omega);have i3:=U.nodes x l (aH up A r (.node y l' r')).1;have i4:(x::(l.nodes++(aH up A r (.node y l' r')).1.nodes)).Perm ((BT.node x l r).nodes++(BT.node y l' r').nodes):=by
      refine Ϡ (List.Perm.cons x (List.Perm.append_left _ i1)) ?_;rw[←ϋ];exact ό _
     refine⟨i3.trans i4,λha hb hn=>?_⟩;have hn1:=hn;rw[θ] at hn;have hxy:x≠y:=hn.2.2 x (by simp[BT.nodes]) y (by simp[BT.nodes]);have hlt:dB A x y:=by
      rcases jc (A:=A) hxy with h'|h'
      ·exact h'
      ·exact absurd h' h
     have hn2:(r.nodes++(BT.node y l' r').nodes).Nodup:=by
      rw[θ];simp only[BT.nodes,Ζ,θ] at hn;refine⟨hn.1.2.2.1,by simp only[BT.nodes,Ζ,θ];exact hn.2.1,λp hp q hq e=>hn.2.2 p (by simp[hp]) q hq e⟩
     refine U.heap A x l _ ha.1 (λz hz=>?_) ha.2.2.1 (i2 ha.2.2.2 hb hn2);rcases τ.1 (i1.mem_iff.1 hz) with hz|hz
     ·exact ha.2.1 z hz
     ·simp only[BT.nodes,ρ,τ] at hz;rcases hz with rfl|hz|hz
      ·exact hlt
      ·exact dI hlt (hb.1 z hz)
      ·exact dI hlt (hb.2.1 z hz)
theorem r9(A:NS)(k:Nat):∀(a b:BT),a.size+b.size<=k->Lean a->Lean b->Lean (aH aB A a b).1:=by
 induction k with
 |zero=>
  intro a b hk ha hb;cases a with
  |nil=>rw[lU];exact hb
  |node x l r=>simp only[BT.size] at hk;omega
 |succ k ih=>
  intro a b hk ha hb;cases a with
  |nil=>rw[lU];exact hb
  |node x l r=>
   cases b with
   |nil=>rw[pg];exact ha
   |node y l' r'=>
    rw[pz];simp only[BT.size] at hk
    split
    ·exact kE hb.2.1 (ih r' (.node x l r) (by simp only[BT.size];omega) hb.2.2 ha)
    ·exact kE ha.2.1 (ih r (.node y l' r') (by simp only[BT.size];omega) ha.2.2 hb)
def vM(up:Nat->BT->BT->BT):List (Nat×BT)->BT->BT
 | [],m=>m
 |(x,l)::t,m=>up x l (vM up t m)
theorem BU(up:Nat->BT->BT->BT)(W:List (Nat×BT))(x:Nat)(l m:BT):vM up (W++[(x,l)]) m=vM up W (up x l m):=by
 induction W with
 |nil=>rfl
 |cons p t ih=>obtain⟨y,k⟩:=p;simp only[List.cons_append,vM,ih]
def vF(W:List (Nat×BT)):List Nat:=W.flatMap λp=>p.1::p.2.nodes
abbrev Fr:=Nat×Bool×BT
def bP(f:Fr)(t:BT):BT:=if f.2.1 then .node f.1 f.2.2 t else .node f.1 t f.2.2
def au:List Fr->BT->BT
 | [],t=>t
 |f::P,t=>au P (bP f t)
def DY:List Fr->Int|[]=>-1|f::_=>f.1
def eH:List Fr->List Nat|[]=>[]|f::P=>f.1::(f.2.2.nodes++eH P)
def Ud(S:TS):List Fr->Int->Prop
 | [],_=>True
 |f::P,z=>S.kid f.2.1 f.1=z/\dL S f.1 (S.kid (!f.2.1) f.1) f.2.2/\S.u f.1=DY P/\Ud S P f.1
theorem oJ(f:Fr)(t:BT):(bP f t).root=f.1:=by unfold bP;split<;>rfl
theorem RJ(f:Fr)(t:BT):bP f t≠.nil:=by unfold bP;split<;>simp
theorem jA(f:Fr)(t:BT):(bP f t).nodes.Perm (f.1::(t.nodes++f.2.2.nodes)):=by
 unfold bP;split
 ·simp only[BT.nodes];exact List.Perm.cons _ Φ
 ·exact ό _
theorem aW:∀(P:List Fr) (t:BT),(au P t).nodes.Perm (t.nodes++eH P)
 | [],t=>by simp[au,eH]
 |f::P,t=>by
  refine(aW P (bP f t)).trans ?_;refine((jA f t).append_right (eH P)).trans ?_;simp only[eH,List.cons_append,ϋ];exact(ϡ (a:=f.1) (l₁:=t.nodes) (l₂:=f.2.2.nodes++eH P)).symm
theorem Aw:∀(P:List Fr) (t t':BT),t.root=t'.root->(au P t).root=(au P t').root
 | [],t,t',h=>h
 |f::P,t,t',h=>Aw P _ _ (by rw[oJ,oJ])
theorem jU(f:Fr)(P:List Fr)(t t':BT):(au (f::P) t).root=(au (f::P) t').root:=Aw P _ _ (by rw[oJ,oJ])
theorem tX:∀(P Q:List Fr) (t:BT),au (P++Q) t=au Q (au P t)
 | [],_,_=>rfl
 |f::P,Q,t=>tX P Q (bP f t)
theorem yD:∀{t:BT} {x:Nat},x∈t.nodes->∃P l r,t=au P (.node x l r)
 | .nil,_,h=>by cases h
 | .node y a b,x,h=>by
  simp only[BT.nodes,ρ,τ] at h;rcases h with rfl|h|h
  ·exact⟨[],a,b,rfl⟩
  ·obtain⟨P,l,r,e⟩:=yD h;exact⟨P++[(y,false,b)],l,r,by rw[tX,←e];rfl⟩
  ·obtain⟨P,l,r,e⟩:=yD h;exact⟨P++[(y,true,a)],l,r,by rw[tX,←e];rfl⟩
theorem PV{S:TS}{p:Int}(f:Fr)(t:BT):dL S p f.1 (bP f t)↔dL S f.1 t.root t/\S.kid f.2.1 f.1=t.root/\dL S f.1 (S.kid (!f.2.1) f.1) f.2.2/\S.u f.1=p:=by
 obtain⟨x,s,o⟩:=f;cases s
 ·simp only[bP,Ϣ,if_false,dL,TS.kid,Bool.not_false,if_true];constructor
  ·rintro⟨_,h2,h3,h4⟩;have e:=h3.root;exact⟨by rw[←e];exact h3,e,h4,h2⟩
  ·rintro⟨h1,h2,h3,h4⟩;exact⟨trivial,h4,by rw[h2];exact h1,h3⟩
 ·simp only[bP,if_true,dL,TS.kid,Bool.not_true,Ϣ,if_false];constructor
  ·rintro⟨_,h2,h3,h4⟩;have e:=h4.root;exact⟨by rw[←e];exact h4,e,h3,h2⟩
  ·rintro⟨h1,h2,h3,h4⟩;exact⟨trivial,h4,h3,by rw[h2];exact h1⟩
theorem fq{S:TS}:∀(P:List Fr) (t:BT),dL S (-1) (au P t).root (au P t)↔dL S (DY P) t.root t/\Ud S P t.root
 | [],t=>by simp[au,DY,Ud]
 |f::P,t=>by
  have h:=fq (S:=S) P (bP f t);rw[oJ] at h
  show dL S (-1) (au P (bP f t)).root (au P (bP f t))↔_
  rw[h,PV];simp only[DY,Ud];constructor
  ·rintro⟨⟨h1,h2,h3,h4⟩,h5⟩;exact⟨h1,h2,h3,h4,h5⟩
  ·rintro⟨h1,h2,h3,h4,h5⟩;exact⟨⟨h1,h2,h3,h4⟩,h5⟩
theorem Ud.frame{S S':TS}:∀{P:List Fr} {z:Int},Ud S P z->(∀y,y∈eH P->S.at S' y)->Ud S' P z
 | [],_,_,_=>trivial
 |f::P,z,h,hs=>by
  obtain⟨h1,h2,h3,h4⟩:=h;have hf:=hs f.1 (by simp[eH]);have hk:∀s,S'.kid s f.1=S.kid s f.1:=λs=>by unfold TS.kid;rw[hf.1,hf.2.1]
  exact⟨by rw[hk];exact h1,by rw[hk];exact h2.frame (λy hy=>hs y (by simp[eH,hy])),by rw[hf.2.2];exact h3,h4.frame (λy hy=>hs y (by simp[eH,hy]))⟩
theorem Ud.other{S S':TS}{f:Fr}{P:List Fr}{z z':Int}(h:Ud S (f::P) z)(hn:(eH (f::P)).Nodup)(h1:S'.kid f.2.1 f.1=z')(h2:S'.kid (!f.2.1) f.1=S.kid (!f.2.1) f.1)(h3:S'.u f.1=S.u f.1)
  (hs:∀y,y≠f.1->y∈eH (f::P)->S.at S' y):Ud S' (f::P) z':=by
 obtain⟨_,g2,g3,g4⟩:=h;simp only[eH,Ζ,τ,not_or] at hn;exact⟨h1,by rw[h2];exact g2.frame (λy hy=>hs y (λe=>hn.1.1 (by rw[←e];exact hy)) (by simp[eH,hy])),by rw[h3];exact g3,g4.frame (λy hy=>hs y (λe=>hn.1.2 (by rw[←e];exact hy)) (by simp[eH,hy]))⟩
theorem Yd{S:TS}{i j:Nat}{y:Nat}(h1:y≠i)(h2:y≠j):S.at (mY S i j) y:=by
 unfold mY TS.aK TS.dC TS.at;refine⟨?_,?_,?_⟩
 ·cases decide (S.r i=(j:Int))<;>simp[h1]
 ·cases decide (S.r i=(j:Int))<;>simp[h1]
 ·cases decide (S.r i=(j:Int))<;>simp[h2]
theorem Ej{S:TS}{i:Nat}{s:Bool}{v:Int}:∀y,(S.aK i s v).u y=S.u y:=λy=>by unfold TS.aK;cases s<;>rfl
theorem Uo{S:TS}{f:Fr}{P:List Fr}{t:BT}(h:dL S (-1) (au (f::P) t).root (au (f::P) t))(ht:t≠.nil)(hn:(au (f::P) t).nodes.Nodup) :
  dL (mY S f.1 t.root.toNat) (-1) t.root t/\dL (mY S f.1 t.root.toNat) (-1) (au (f::P) .nil).root (au (f::P) .nil)/\∀y,y≠f.1->y≠t.root.toNat->S.at (mY S f.1 t.root.toNat) y:=by
 obtain⟨h1,h2⟩:=(fq _ _).1 h;have Zd:=(aW (f::P) t).nodup_iff.1 hn;rw[θ] at Zd;obtain⟨n1,n2,n3⟩:=Zd;obtain⟨rm,rc⟩:=cz ht;generalize hx:t.root.toNat=x at *;have hfx:f.1≠x:=λe=>n3 x rm f.1 (by simp[eH]) e.symm;have hat:∀y,y≠f.1->y≠x->S.at (mY S f.1 x) y:=λy h1 h2=>Yd h1 h2;have hk:S.kid f.2.1 f.1=x:=by rw[h2.1,rc]
 have hside:decide (S.r f.1=(x:Int))=f.2.1:=by
  cases hs:f.2.1 with
  |true=>rw[hs] at hk;exact Ν (by simpa[TS.kid] using hk)
  |false=>
   refine Ξ (λe=>?_);have h3:=h2.2.1;rw[hs] at h3;have h4:=h3.root;have h5:f.2.2.root=(x:Int):=by rw[←h4];simpa[TS.kid] using e
   have h6:f.2.2≠.nil:=λe=>by rw[e] at h5;simp[BT.root] at h5
   have h7:=(cz h6).1;rw[h5,π] at h7;exact n3 x rm x (by simp[eH,h7]) rfl
 have SC:∀s,(mY S f.1 x).kid s f.1=if s=f.2.1 then -1 else S.kid s f.1:=λs=>by
  unfold mY;rw[hside];unfold TS.aK TS.dC TS.kid;cases s<;>cases f.2.1<;>simp
 have hu:∀y,(mY S f.1 x).u y=if y=x then -1 else S.u y:=λy=>by
  unfold mY TS.dC;simp only[Ej]
 refine⟨h1.QL n1 (λy hy=>?_) (λ_=>?_),(fq _ _).2 ⟨rfl,h2.other n2 ?_ ?_ ?_ (λy g1 g2=>hat y g1 (λe=>n3 x rm y g2 e.symm))⟩,hat⟩
 ·have hyf:y≠f.1:=λe=>n3 y hy f.1 (by simp[eH]) e;refine⟨?_,?_,λhr=>?_⟩
  ·unfold mY TS.aK TS.dC;cases decide (S.r f.1=(x:Int))<;>simp[hyf]
  ·unfold mY TS.aK TS.dC;cases decide (S.r f.1=(x:Int))<;>simp[hyf]
  ·rw[hu,Γ (by rw[hx] at hr;exact hr)]
 ·rw[hu,hx,Δ rfl]
 ·rw[SC,Δ rfl];rfl
 ·rw[SC,Γ (by cases f.2.1<;>simp)]
 ·rw[hu,Γ hfx]
theorem PQ{S:TS}{f:Fr}{P:List Fr}{m:BT}(h:dL S (-1) (au (f::P) .nil).root (au (f::P) .nil))(hM:dL S (-1) m.root m)(hm:m≠.nil)(hn:(m.nodes++eH (f::P)).Nodup) :
  dL (lh S f.1 m.root f.2.1) (-1) (au (f::P) m).root (au (f::P) m)/\∀y,y≠f.1->y≠m.root.toNat->S.at (lh S f.1 m.root f.2.1) y:=by
 obtain⟨_,h2⟩:=(fq _ _).1 h;rw[θ] at hn;obtain⟨n1,n2,n3⟩:=hn;obtain⟨rm,rc⟩:=cz hm;have hfx:f.1≠m.root.toNat:=λe=>n3 _ rm f.1 (by simp[eH]) e.symm;have SC:∀s,(lh S f.1 m.root f.2.1).kid s f.1=if s=f.2.1 then m.root else S.kid s f.1:=λs=>by
  unfold lh TS.aK TS.dC TS.kid;cases s<;>cases f.2.1<;>simp
 have hu:∀y,(lh S f.1 m.root f.2.1).u y=if y=m.root.toNat then(f.1:Int) else S.u y:=λy=>by
  unfold lh TS.dC;simp only[Ej]
 have hl:∀y,y≠f.1->(lh S f.1 m.root f.2.1).l y=S.l y/\(lh S f.1 m.root f.2.1).r y=S.r y:=λy hy=>by
  unfold lh TS.aK TS.dC;cases f.2.1<;>simp[hy]
 have hat:∀y,y≠f.1->y≠m.root.toNat->S.at (lh S f.1 m.root f.2.1) y:=λy g1 g2=>⟨(hl y g1).1,(hl y g1).2,by rw[hu,Γ g2]⟩
 refine⟨(fq _ _).2 ⟨hM.QL n1 (λy hy=>?_) (λ_=>by rw[hu,Δ rfl];rfl),h2.other n2 ?_ ?_ ?_ (λy g1 g2=>hat y g1 (λe=>n3 _ rm y g2 e.symm))⟩,hat⟩
 ·have hyf:y≠f.1:=λe=>n3 y hy f.1 (by simp[eH]) e;exact⟨(hl y hyf).1,(hl y hyf).2,λhr=>by rw[hu,Γ hr]⟩
 ·rw[SC,Δ rfl]
 ·rw[SC,Γ (by cases f.2.1<;>simp)]
 ·rw[hu,Γ hfx]
/-! ### heaps, ranks -/
theorem vU{A:NS}{f:Fr}{t:BT}:Heap A (bP f t)↔(∀y,y∈t.nodes->dB A f.1 y)/\(∀y,y∈f.2.2.nodes->dB A f.1 y)/\Heap A t/\Heap A f.2.2:=by
 unfold bP
 split
 ·simp only[Heap];constructor
  ·rintro⟨a,b,c,d⟩;exact⟨b,a,d,c⟩
  ·rintro⟨a,b,c,d⟩;exact⟨b,a,d,c⟩
 ·simp only[Heap]
theorem uu{A:NS}:∀{P:List Fr} {t:BT},Heap A (au P t)->Heap A t
 | [],_,h=>h
 |f::P,t,h=>(vU.1 (uu (P:=P) h)).2.2.1
theorem vB{A:NS}:∀{P:List Fr} {t t':BT},Heap A (au P t)->Heap A t'->(∀y,y∈t'.nodes->y∈t.nodes)->Heap A (au P t')
 | [],_,_,_,h,_=>h
 |f::P,t,t',h,h',hs=>by
  have h1:=vU.1 (uu (P:=P) h);refine vB (P:=P) h (vU.2 ⟨λy hy=>h1.1 y (hs y hy),h1.2.1,h',h1.2.2.2⟩) (λy hy=>?_);have hy':=(jA f t').mem_iff.1 hy;refine(jA f t).mem_iff.2 ?_;simp only[ρ,τ] at hy' ⊢;rcases hy' with h|h|h
  ·exact Α h
  ·exact Β (Α (hs y h))
  ·exact Β (Β h)
def kX(f:Fr)(n:Nat):Nat:=(if f.2.1 then n else f.2.2.rank)+1
theorem Bp(f:Fr)(t:BT):(bP f t).rank=kX f t.rank:=by unfold bP kX;split<;>rfl
def UG(rk:Nat->Nat):List Fr->Nat->Prop
 | [],_=>True
 |f::P,n=>gu rk f.2.2/\rk f.1=kX f n/\UG rk P (kX f n)
theorem TB{rk:Nat->Nat}{f:Fr}{t:BT}:gu rk (bP f t)↔gu rk t/\gu rk f.2.2/\rk f.1=kX f t.rank:=by
 unfold bP kX
 split
 ·simp only[gu];constructor
  ·rintro⟨a,b,c⟩;exact⟨c,b,a⟩
  ·rintro⟨a,b,c⟩;exact⟨c,b,a⟩
 ·simp only[gu];constructor
  ·rintro⟨a,b,c⟩;exact⟨b,c,a⟩
  ·rintro⟨a,b,c⟩;exact⟨c,a,b⟩
theorem zN{rk:Nat->Nat}:∀(P:List Fr) (t:BT),gu rk (au P t)↔gu rk t/\UG rk P t.rank
 | [],t=>by simp[au,UG]
 |f::P,t=>by
  show gu rk (au P (bP f t))↔_
  rw[zN P,TB,Bp];simp only[UG];constructor
  ·rintro⟨⟨a,b,c⟩,d⟩;exact⟨a,b,c,d⟩
  ·rintro⟨a,b,c,d⟩;exact⟨⟨a,b,c⟩,d⟩
theorem UG.frame{rk mV:Nat->Nat}:∀{P:List Fr} {n:Nat},UG rk P n->(∀y,y∈eH P->mV y=rk y)->UG mV P n
 | [],_,_,_=>trivial
 |f::P,n,h,hs=>⟨h.1.frame (λy hy=>hs y (by simp[eH,hy])),by rw[hs f.1 (by simp[eH])];exact h.2.1,h.2.2.frame (λy hy=>hs y (by simp[eH,hy]))⟩
def DT:List Fr->Nat->Prop
 | [],_=>True
 |f::P,n=>Lean f.2.2/\(if f.2.1 then n<=f.2.2.rank else f.2.2.rank<=n)/\DT P (kX f n)
theorem LM{f:Fr}{t:BT}:Lean (bP f t)↔Lean t/\Lean f.2.2/\(if f.2.1 then t.rank<=f.2.2.rank else f.2.2.rank<=t.rank):=by
 unfold bP
 split
 ·simp only[Lean];constructor
  ·rintro⟨a,b,c⟩;exact⟨c,b,a⟩
  ·rintro⟨a,b,c⟩;exact⟨c,b,a⟩
 ·simp only[Lean];constructor
  ·rintro⟨a,b,c⟩;exact⟨b,c,a⟩
  ·rintro⟨a,b,c⟩;exact⟨c,a,b⟩
theorem uY:∀(P:List Fr) (t:BT),Lean (au P t)↔Lean t/\DT P t.rank
 | [],t=>by simp[au,DT]
 |f::P,t=>by
  show Lean (au P (bP f t))↔_
  rw[uY P,LM,Bp];simp only[DT];constructor
  ·rintro⟨⟨a,b,c⟩,d⟩;exact⟨a,b,c,d⟩
  ·rintro⟨a,b,c,d⟩;exact⟨⟨a,b,c⟩,d⟩
def kK:List Fr->Nat->Nat->BT->BT->BT
 | [],_,x,l,r=>aB x l r
 |f::P,was,x,l,r=>
  if(aB x l r).rank=was then au (f::P) (aB x l r)
  else if f.2.1 then kK P (kX f was) f.1 f.2.2 (aB x l r) else kK P (kX f was) f.1 (aB x l r) f.2.2
theorem ru:∀(P:List Fr) (was x:Nat) (l r:BT),(kK P was x l r).nodes.Perm (au P (.node x l r)).nodes
 | [],was,x,l,r=>lu x l r
 |f::P,was,x,l,r=>by
  have h0:(bP f (aB x l r)).nodes.Perm (bP f (.node x l r)).nodes:=
   (jA f _).trans ((List.Perm.cons _ ((lu x l r).append_right _)).trans (jA f (.node x l r)).symm)
  have h1:(au P (bP f (aB x l r))).nodes.Perm (au P (bP f (.node x l r))).nodes:=
   (aW P _).trans ((h0.append_right _).trans (aW P _).symm)
  unfold kK
  split
  ·exact h1
  ·split
   ·rename_i hs
    have e:bP f (aB x l r)=.node f.1 f.2.2 (aB x l r):=by unfold bP;rw[Δ hs]
    rw[e] at h1;exact(ru P _ _ _ _).trans h1
   ·rename_i hs
    have e:bP f (aB x l r)=.node f.1 (aB x l r) f.2.2:=by unfold bP;rw[Γ hs]
    rw[e] at h1;exact(ru P _ _ _ _).trans h1
theorem uD:∀(P:List Fr) (was x:Nat) (l r:BT),(kK P was x l r).root=(au P (.node x l r)).root
 | [],was,x,l,r=>jB x l r
 |f::P,was,x,l,r=>by
  have h1:=jU f P (aB x l r) (.node x l r);unfold kK
  split
  ·exact h1
  ·split
   ·rename_i hs
    have e:bP f (aB x l r)=.node f.1 f.2.2 (aB x l r):=by unfold bP;rw[Δ hs]
    unfold au at h1;rw[e] at h1;exact(uD P _ _ _ _).trans h1
   ·rename_i hs
    have e:bP f (aB x l r)=.node f.1 (aB x l r) f.2.2:=by unfold bP;rw[Γ hs]
    unfold au at h1;rw[e] at h1;exact(uD P _ _ _ _).trans h1
theorem uL{A:NS}:∀(P:List Fr) (was x:Nat) (l r:BT),Heap A (au P (.node x l r))->Heap A (kK P was x l r)
 | [],was,x,l,r,h=>tH h.1 h.2.1 h.2.2.1 h.2.2.2
 |f::P,was,x,l,r,h=>by
  have h0:=uu h;have h1:Heap A (au (f::P) (aB x l r)):=vB h (tH h0.1 h0.2.1 h0.2.2.1 h0.2.2.2) (λy hy=>(lu x l r).mem_iff.1 hy);unfold kK
  split
  ·exact h1
  ·split
   ·rename_i hs
    have e:bP f (aB x l r)=.node f.1 f.2.2 (aB x l r):=by unfold bP;rw[Δ hs]
    unfold au at h1;rw[e] at h1;exact uL P _ _ _ _ h1
   ·rename_i hs
    have e:bP f (aB x l r)=.node f.1 (aB x l r) f.2.2:=by unfold bP;rw[Γ hs]
    unfold au at h1;rw[e] at h1;exact uL P _ _ _ _ h1
theorem uC:∀(P:List Fr) (was x:Nat) (l r:BT),Lean l->Lean r->DT P was->Lean (kK P was x l r)
 | [],was,x,l,r,hl,hr,_=>kE hl hr
 |f::P,was,x,l,r,hl,hr,h=>by
  unfold kK
  split
  ·rename_i e
   exact(uY _ _).2 ⟨kE hl hr,by rw[e];exact h⟩
  ·split
   ·exact uC P _ _ _ _ h.1 (kE hl hr) h.2.2
   ·exact uC P _ _ _ _ (kE hl hr) h.1 h.2.2
theorem Heap.frame{A A':NS}:∀{t:BT},Heap A t->(∀x,x∈t.nodes->A'.c x=A.c x)->Heap A' t
 | .nil,_,_=>trivial
 | .node x l r,h,hs=>by
  have hx:=hs x (by simp[BT.nodes]);refine⟨λy hy=>(fE hx (hs y (by simp[BT.nodes,hy]))).2 (h.1 y hy),λy hy=>(fE hx (hs y (by simp[BT.nodes,hy]))).2 (h.2.1 y hy),h.2.2.1.frame (λy hy=>hs y (by simp[BT.nodes,hy])),h.2.2.2.frame (λy hy=>hs y (by simp[BT.nodes,hy]))⟩
structure Rb where
 H:NS->BT->Prop
 frame:∀{A A':NS} {t:BT},H A t->(∀x,x∈t.nodes->A'.c x=A.c x)->H A' t
 nil:∀A,H A .nil
abbrev heapK:Rb:=⟨Heap,Heap.frame,λ_=>trivial⟩
structure vN(K:Rb)(A:NS)(S:TS)(ai:List Int)(tr:Nat->BT):Prop where
 top:∀h,h<A.hs.length->ai.getD h 0=(tr h).root
 zG:∀h,dL S (-1) (tr h).root (tr h)
 mem:∀h x,x∈(tr h).nodes↔0<h/\x<A.cs.length/\(A.c x).i=h
 nd:∀h,(tr h).nodes.Nodup
 heap:∀h,K.H A (tr h)
 free:∀x,x<A.cs.length->(A.c x).i=0->S.l x=-1/\S.r x=-1/\S.u x=-1
abbrev TrI:=vN heapK
theorem vN.next{K:Rb}{A A':NS}{S S':TS}{ai iI:List Int}{tr JE:Nat->BT}(h:vN K A S ai tr)(hc:A'.cs.length=A.cs.length)(keep:Nat->Prop)
  (k1:∀g,keep g->JE g=tr g/\∀x,x∈(tr g).nodes->S.at S' x/\A'.c x=A.c x)
  (k2:∀g,keep g->∀x,x<A.cs.length->0<g->((A'.c x).i=g↔(A.c x).i=g))
  (n1:∀g,¬keep g->dL S' (-1) (JE g).root (JE g)/\(JE g).nodes.Nodup/\K.H A' (JE g)/\∀x,x∈(JE g).nodes↔0<g/\x<A.cs.length/\(A'.c x).i=g)
  (tp:∀g,g<A'.hs.length->iI.getD g 0=(JE g).root)
  (fr:∀x,x<A.cs.length->(A'.c x).i=0->S'.l x=-1/\S'.r x=-1/\S'.u x=-1):vN K A' S' iI JE:=by
 refine⟨tp,λg=>?_,λg x=>?_,λg=>?_,λg=>?_,λx hx=>fr x ω⟩
 ·by_cases hk:keep g
  ·obtain⟨e,hs⟩:=k1 g hk;rw[e];exact(h.zG g).frame (λy hy=>(hs y hy).1)
  ·exact(n1 g hk).1
 ·rw[hc]
  by_cases hk:keep g
  ·rw[(k1 g hk).1,h.mem g x];constructor
   ·rintro⟨a,b,c⟩;exact⟨a,b,(k2 g hk x b a).2 c⟩
   ·rintro⟨a,b,c⟩;exact⟨a,b,(k2 g hk x b a).1 c⟩
  ·exact(n1 g hk).2.2.2 x
 ·by_cases hk:keep g
  ·rw[(k1 g hk).1];exact h.nd g
  ·exact(n1 g hk).2.1
 ·by_cases hk:keep g
  ·obtain⟨e,hs⟩:=k1 g hk;rw[e];exact K.frame (h.heap g) (λy hy=>(hs y hy).2)
  ·exact(n1 g hk).2.2.1
def single(x:Nat):BT:=.node x .nil .nil
theorem wH{S:TS}{x:Nat}(h:S.l x=-1/\S.r x=-1/\S.u x=-1):dL S (-1) (single x).root (single x):=⟨rfl,h.2.2,h.1,h.2.1⟩
theorem vN.out{K:Rb}{A:NS}{S:TS}{ai:List Int}{tr:Nat->BT}(h:vN K A S ai tr){x g:Nat}(hx:(A.c x).i=0):x∉(tr g).nodes:=λhm=>by
 have:=(h.mem g x).1 hm;omega
theorem vN.put{K:Rb}{A:NS}{S S':TS}{ai:List Int}{tr:Nat->BT}(h:vN K A S ai tr)(ok:A.Ok)(hn:ai.length=A.hs.length){g x:Nat}{k s:Int}(hB:rG A g x=true){t':BT}
  (hT:dL S' (-1) t'.root t') (hp:t'.nodes.Perm ((tr g).nodes++[x])) (hH:K.H (aO A g x k s) t') (hs:∀y,y∉(tr g).nodes++[x]->S.at S' y) :
  vN K (aO A g x k s) S' (ai.set g t'.root) (λq=>if q=g then t' else tr q):=by
 obtain⟨b1,b2,b3⟩:=(fP _ _ _).1 hB;have b4:=(aC _ _).1 b1;have hx:x<A.cs.length:=by have:=(ic _ _).1 b2;omega
 have h0:(A.c x).i=0:=by
  have:=(ok.nat x hx).1;have h3:¬(0<(A.c x).i):=λh'=>by rw[(aj A x).2 ⟨hx,h'⟩] at b3;cases b3
  omega
 have hc:∀y,(aO A g x k s).c y=if y=x then⟨g,k,s⟩ else A.c y:=λy=>by
  unfold aO;rw[Δ hB,π,lg]
  by_cases e:y=x
  ·rw[Δ ⟨e,hx⟩,Δ e]
  ·rw[Γ (λh=>e h.1),Γ e]
 have hl:(aO A g x k s).cs.length=A.cs.length:=by unfold aO;rw[Δ hB,fO]
 have hh:(aO A g x k s).hs=A.hs:=by unfold aO;rw[Δ hB];rfl
 have hgn:g<A.hs.length:=ω;refine h.next hl (λq=>q≠g) (λq hq=>⟨Γ hq,λy hy=>?_⟩) (λq hq y hy hq0=>?_) (λq hq=>?_) (λq hq=>?_) (λy hy hy0=>?_)
 ·have hyx:y≠x:=λe=>h.out (g:=q) h0 (by rw[←e];exact hy);have hyg:y∉(tr g).nodes:=λhm=>by
   have a1:=(h.mem g y).1 hm;have a2:=(h.mem q y).1 hy;omega
  exact⟨hs y (by simp[hyx,hyg]),by rw[hc,Γ hyx]⟩
 ·rw[hc]
  by_cases e:y=x
  ·rw[Δ e,e];simp only;omega
  ·rw[Γ e]
 ·have hq':q=g:=Classical.not_not.1 hq;subst hq';rw[Δ rfl];refine⟨hT,hp.nodup_iff.2 ?_,hH,λy=>?_⟩
  ·rw[θ];refine⟨h.nd q,σ,λa ha b hb e=>?_⟩;simp only[ϓ] at hb;exact h.out (g:=q) h0 (by rw[←hb,←e];exact ha)
  ·rw[hp.mem_iff,τ,ϓ,h.mem q y,hc]
   by_cases e:y=x
   ·rw[Δ e];simp only[e,or_true,true_iff];exact⟨ω,hx,trivial⟩
   ·rw[Γ e];simp only[e,or_false]
 ·rw[hh] at hq
  by_cases e:q=g
  ·rw[Δ e,e,φ,ύ,Δ rfl,Δ ω];rfl
  ·rw[Γ e,φ,ύ,Γ (λh=>e h.symm),←φ];exact h.top q hq
 ·rw[hc] at hy0
  by_cases e:y=x
  ·rw[Δ e] at hy0;simp only at hy0;omega
  ·rw[Γ e] at hy0;have hyn:y∉(tr g).nodes++[x]:=by
    simp only[τ,ϓ,e,or_false];exact h.out hy0
   have a1:=h.free y hy hy0;have a2:=hs y hyn;exact⟨a2.1.trans a1.1,a2.2.1.trans a1.2.1,a2.2.2.trans a1.2.2⟩
theorem Gi{K:Rb}(n:Nat):vN K (NS.new n) TS.none [-1] (λ_=>BT.nil):=by
 refine⟨λh hh=>?_,λh=>rfl,λh x=>?_,λh=>Ϥ,λh=>K.nil _,λx hx _=>⟨rfl,rfl,rfl⟩⟩
 ·have:h=0:=by simp[NS.new] at hh;exact hh
  subst this;rfl
 ·rw[NS.tV];simp only[BT.nodes,ς,false_iff,Cl.z];omega
theorem vN.make{K:Rb}{A:NS}{S:TS}{ai:List Int}{tr:Nat->BT}(h:vN K A S ai tr)(ok:A.Ok)(hn:ai.length=A.hs.length)(hl:¬65536<A.hs.length)  :vN K (aU A) S (ai++[-1]) tr:=by
 have hc:(aU A).cs=A.cs:=by unfold aU;rw[Γ hl]
 have hh:(aU A).hs=A.hs++[true]:=by unfold aU;rw[Γ hl]
 have hcc:∀x,(aU A).c x=A.c x:=λx=>by unfold NS.c;rw[hc]
 refine h.next (by rw[hc]) (λ_=>True) (λg _=>⟨rfl,λx _=>⟨⟨rfl,rfl,rfl⟩,hcc x⟩⟩) (λg _ x _ _=>by rw[hcc]) (λg hg=>absurd trivial hg) (λg hg=>?_) (λx hx h0=>h.free x hx (by rw[hcc] at h0;exact h0));rw[hh,υ,List.length_singleton] at hg
 by_cases e:g<A.hs.length
 ·rw[φ,Ρ ω,←φ];exact h.top g e
 ·have e2:g=ai.length:=ω;have hnil:tr g=.nil:=by
   cases ht:tr g with
   |nil=>rfl
   |node x l r=>
    have hm:=(h.mem g x).1 (by rw[ht];simp[BT.nodes]);have:=(ok.nat x hm.2.1).2;omega
  rw[φ,e2,ϊ (Θ _)];rw[←e2,hnil];simp[BT.root]
end Go.Proofs.YtnpdakpagnpanaaGreat
namespace Go.Proofs.YtnpdakpagnpanaaGreat
open Tryz
open Go Go.RowKit
theorem RN{A:NS}{x:Nat}{k s:Int}(hB:jf A x k s=true)(hx:x<A.cs.length){l r:BT}(h:Heap A (.node x l r))(hn:(BT.node x l r).nodes.Nodup):Heap (aA A x k s) (.node x l r):=by
 simp only[BT.nodes,Ζ,τ,not_or] at hn;have hle:=uJ hB;rw[π] at hle;have hc:=uo hB hx;have hy:∀y,y≠x->(aA A x k s).c y=A.c y:=λy e=>by rw[hc,Γ e]
 have Gm:(aA A x k s).c x=⟨(A.c x).i,k,s⟩:=by rw[hc,Δ rfl]
 refine⟨λy m=>mD (h.1 y m) (hy y (λe=>hn.1.1 (by rw[←e];exact m))) ?_,λy m=>mD (h.2.1 y m) (hy y (λe=>hn.1.2 (by rw[←e];exact m))) ?_,h.2.2.1.frame (λy m=>hy y (λe=>hn.1.1 (by rw[←e];exact m))),h.2.2.2.frame (λy m=>hy y (λe=>hn.1.2 (by rw[←e];exact m)))⟩
 ·rw[Gm];exact hle
 ·rw[Gm];exact hle
theorem vN.low{K:Rb}{A:NS}{S S':TS}{ai iI:List Int}{tr:Nat->BT}(h:vN K A S ai tr){g x:Nat}{k s:Int}(hB:jf A x k s=true)(hx:x∈(tr g).nodes){t':BT}
  (hT:dL S' (-1) t'.root t') (hp:t'.nodes.Perm (tr g).nodes) (hH:K.H (aA A x k s) t') (hs:∀y,y∉(tr g).nodes->S.at S' y)
  (htp:∀q,q<A.hs.length->iI.getD q 0=if q=g then t'.root else ai.getD q 0) :
  vN K (aA A x k s) S' iI (λq=>if q=g then t' else tr q):=by
 have hm:=(h.mem g x).1 hx;have hc:=uo hB hm.2.1;have hi:=iH hB hm.2.1;refine h.next (gD _ _ _ _) (λq=>q≠g) (λq hq=>⟨Γ hq,λy hy=>?_⟩) (λq hq y hy hq0=>?_) (λq hq=>?_) (λq hq=>?_) (λy hy hy0=>?_)
 ·have hyg:y∉(tr g).nodes:=λhm=>by
   have a1:=(h.mem g y).1 hm;have a2:=(h.mem q y).1 hy;omega
  exact⟨hs y hyg,by rw[hc,Γ (λe=>hyg (by rw[e];exact hx))]⟩
 ·rw[hi]
 ·have hq':q=g:=Classical.not_not.1 hq;subst hq';rw[Δ rfl];refine⟨hT,hp.nodup_iff.2 (h.nd q),hH,λy=>?_⟩;rw[hp.mem_iff,h.mem q y,hi]
 ·rw[lQ] at hq;rw[htp q hq]
  by_cases e:q=g
  ·rw[Δ e,Δ e]
  ·rw[Γ e,Γ e];exact h.top q hq
 ·rw[hi] at hy0;have a1:=h.free y hy hy0;have a2:=hs y (h.out hy0);exact⟨a2.1.trans a1.1,a2.2.1.trans a1.2.1,a2.2.2.trans a1.2.2⟩
theorem vN.del{K:Rb}{A:NS}{S S':TS}{ai iI:List Int}{tr:Nat->BT}(h:vN K A S ai tr){g x:Nat}(hx:x∈(tr g).nodes){t':BT}
  (hT:dL S' (-1) t'.root t') (hp:(x::t'.nodes).Perm (tr g).nodes) (hH:K.H A t') (hs:∀y,y∉(tr g).nodes->S.at S' y) (hf:S'.l x=-1/\S'.r x=-1/\S'.u x=-1)
  (htp:∀q,q<A.hs.length->iI.getD q 0=if q=g then t'.root else ai.getD q 0) :
  vN K (bg A x) S' iI (λq=>if q=g then t' else tr q):=by
 have hm:=(h.mem g x).1 hx;have hin:bY A (x:Int)=true:=(aj A x).2 ⟨hm.2.1,ω⟩;have hc:=yA hin;have hnd:(x::t'.nodes).Nodup:=hp.nodup_iff.2 (h.nd g);have hxt:x∉t'.nodes:=(Ζ.1 hnd).1;refine h.next (fD _ _) (λq=>q≠g) (λq hq=>⟨Γ hq,λy hy=>?_⟩) (λq hq y hy hq0=>?_) (λq hq=>?_) (λq hq=>?_) (λy hy hy0=>?_)
 ·have hyg:y∉(tr g).nodes:=λhm=>by
   have a1:=(h.mem g y).1 hm;have a2:=(h.mem q y).1 hy;omega
  exact⟨hs y hyg,by rw[hc,Γ (λe=>hyg (by rw[e];exact hx))]⟩
 ·rw[hc]
  by_cases e:y=x
  ·rw[Δ e,e]
   show(0:Int)=(q:Int)↔_
   omega
  ·rw[Γ e]
 ·have hq':q=g:=Classical.not_not.1 hq;subst hq';rw[Δ rfl];refine⟨hT,(Ζ.1 hnd).2,K.frame hH (λy hy=>by rw[hc,Γ (λe=>hxt (by rw[←e];exact hy))]),λy=>?_⟩;have e1:=hp.mem_iff (a:=y);rw[ρ,h.mem q y] at e1;rw[hc]
  by_cases e:y=x
  ·rw[Δ e,e];refine⟨λhh=>absurd hh hxt,λhh=>?_⟩;have:(0:Int)=(q:Int):=hh.2.2;omega
  ·rw[Γ e,←e1];simp[e]
 ·rw[iV] at hq;rw[htp q hq]
  by_cases e:q=g
  ·rw[Δ e,Δ e]
  ·rw[Γ e,Γ e];exact h.top q hq
 ·rw[hc] at hy0
  by_cases e:y=x
  ·rw[e];exact hf
  ·rw[Γ e] at hy0;have a1:=h.free y hy hy0;have a2:=hs y (h.out hy0);exact⟨a2.1.trans a1.1,a2.2.1.trans a1.2.1,a2.2.2.trans a1.2.2⟩
theorem nO{A:NS}{a b:Int}(hj:gJ A a b=true):∀{t:BT},Heap A t->Heap (az A a b) t
 | .nil,_=>trivial
 | .node x l r,h=>⟨λy hy=>(nY hj x y).2 (h.1 y hy),λy hy=>(nY hj x y).2 (h.2.1 y hy),nO hj h.2.2.1,nO hj h.2.2.2⟩
theorem vN.join{K:Rb}{A:NS}{S S':TS}{ai iI:List Int}{tr:Nat->BT}(h:vN K A S ai tr){a b:Nat}(hj:gJ A a b=true){t':BT}
  (hT:dL S' (-1) t'.root t') (hp:t'.nodes.Perm ((tr a).nodes++(tr b).nodes)) (hH:K.H (az A a b) t') (hs:∀y,y∉(tr a).nodes++(tr b).nodes->S.at S' y)
  (htp:∀q,q<A.hs.length->iI.getD q 0=if q=a then t'.root else if q=b then -1 else ai.getD q 0) :
  vN K (az A a b) S' iI (λq=>if q=a then t' else if q=b then .nil else tr q):=by
 obtain⟨j1,j2,j3⟩:=(dG _ _ _).1 hj;have a1:=(aC _ _).1 j1;have a2:=(aC _ _).1 j2;have hc:∀y,((az A a b).c y).i=if(A.c y).i=b/\y<A.cs.length then(a:Int) else(A.c y).i:=λy=>by rw[oO hj]
 have hne:a≠b:=λe=>j3 (by rw[e]);have hlen:(az A a b).hs.length=A.hs.length:=by unfold az;rw[Δ hj];simp
 refine h.next (eY _ _ _) (λq=>q≠a/\q≠b) (λq hq=>⟨by rw[Γ hq.1,Γ hq.2],λy hy=>?_⟩) (λq hq y hy hq0=>?_) (λq hq=>?_) (λq hq=>?_) (λy hy hy0=>?_)
 ·have c0:=(h.mem q y).1 hy;have hya:y∉(tr a).nodes:=λhm=>by
   have a1:=(h.mem a y).1 hm;omega
  have hyb:y∉(tr b).nodes:=λhm=>by
   have a1:=(h.mem b y).1 hm;omega
  refine⟨hs y (by simp[hya,hyb]),?_⟩;rw[oO hj,Γ ω]
 ·rw[hc];split<;>omega
 ·by_cases e:q=a
  ·rw[Δ e];refine⟨hT,hp.nodup_iff.2 ?_,hH,λy=>?_⟩
   ·rw[θ];refine⟨h.nd a,h.nd b,λx hx y hy e2=>?_⟩;have b1:=(h.mem a x).1 hx;have b2:=(h.mem b y).1 hy;rw[e2] at b1;omega
   ·rw[hp.mem_iff,τ,h.mem a y,h.mem b y,hc];subst e;split<;>omega
  ·have e2:q=b:=ω;rw[Γ e,Δ e2];refine⟨rfl,by simp[BT.nodes],K.nil _,λy=>?_⟩;rw[hc];simp only[BT.nodes,ς,false_iff]
   split<;>omega
 ·rw[hlen] at hq;rw[htp q hq]
  by_cases e:q=a
  ·rw[Δ e,Δ e]
  ·rw[Γ e,Γ e]
   by_cases e2:q=b
   ·rw[Δ e2,Δ e2];rfl
   ·rw[Γ e2,Γ e2];exact h.top q hq
 ·have hy1:(A.c y).i=0:=by rw[hc] at hy0;split at hy0<;>omega
  have a1:=h.free y hy hy1;have a2:=hs y (by simp[h.out (g:=a) hy1,h.out (g:=b) hy1]);exact⟨a2.1.trans a1.1,a2.2.1.trans a1.2.1,a2.2.2.trans a1.2.2⟩
instance:Nonempty (List Fr×BT×BT):=⟨([],.nil,.nil)⟩
noncomputable def pathOf(t:BT)(x:Nat):List Fr×BT×BT:=Classical.epsilon λq:List Fr×BT×BT=>t=au q.1 (.node x q.2.1 q.2.2)
theorem nP{t:BT}{x:Nat}(h:x∈t.nodes):t=au (pathOf t x).1 (.node x (pathOf t x).2.1 (pathOf t x).2.2):=by
 obtain⟨P,l,r,e⟩:=yD h;unfold pathOf;exact Classical.epsilon_spec (p:=λq:List Fr×BT×BT=>t=au q.1 (.node x q.2.1 q.2.2)) ⟨(P,l,r),e⟩
structure LB where
 n0:Nat
 c:Nat
 bt:Nat
 ba:Nat
 br:Nat
structure lG(w:World)(B:LB)(F:List Nat)(gt ct:Nat)(A:NS)(st:Nat)(S:TS)(rk:Nat->Nat)(ai:List Int):Prop where
 head:aS w B.n0 204 4 (λj=>[Value.pointer (some ⟨B.c,0,none⟩),.pointer (some ⟨B.bt,0,none⟩),.slice (some ⟨B.br,0,none⟩) A.cs.length A.cs.length,.slice (some ⟨gt,0,none⟩) ai.length ct].getD j undef)
 cells:aF w B.c F A st
 trees:bL w B.bt B.ba A.cs.length S
 ranks:aS w B.br 3 A.cs.length (λj=>.int .i64 (rk j:Int))
 iG:IZ w gt ct ai
 iJ:ai.length=A.hs.length
 bS:B.n0∉F/\B.bt∉F/\B.ba∉F/\B.br∉F/\gt∉F
 sep:(B.n0≠B.bt/\B.n0≠B.ba/\B.n0≠B.br/\B.n0≠gt)/\(B.bt≠B.br/\B.bt≠gt/\B.ba≠B.br/\B.ba≠gt/\B.br≠gt)
section
variable{w:World}{B:LB}{F:List Nat}{gt ct:Nat}{A:NS}{st:Nat}{S:TS}{rk:Nat->Nat}{ai:List Int}
def LB.blk(B:LB)(F:List Nat)(gt:Nat):List Nat:=B.n0::B.bt::B.ba::B.br::gt::F
theorem lG.upd{w':World}{G:List Nat}(h:lG w B F gt ct A st S rk ai)(hu:ae G w w')(hG:∀x,x∈G->x∉B.blk F gt):lG w' B F gt ct A st S rk ai:=by
 have h1:∀x,x∈B.blk F gt->x∉G:=λx hx hg=>hG x hg hx;exact⟨h.head.upd hu (h1 _ (by simp[LB.blk])),h.cells.upd hu (λx hx=>λhm=>hG x hx (by simp[LB.blk,hm])),h.trees.upd hu (h1 _ (by simp[LB.blk])) (h1 _ (by simp[LB.blk])),h.ranks.upd hu (h1 _ (by simp[LB.blk])),h.iG.upd hu (h1 _ (by simp[LB.blk])),h.iJ,h.bS,h.sep⟩
theorem lG.ag{w':World}(h:lG w B F gt ct A st S rk ai)(hu:ae [] w w'):lG w' B F gt ct A st S rk ai:=h.upd hu σ
theorem lG.lt(h:lG w B F gt ct A st S rk ai):∀x,x∈B.blk F gt->x<w.heap.size:=by
 intro x hx;have:=h.head.lt;have:=h.trees.head.lt;have:=h.trees.row.lt;have:=h.ranks.lt;have:=h.iG.lt;simp only[LB.blk,ρ] at hx;rcases hx with rfl|rfl|rfl|rfl|rfl|hx
 ·assumption
 ·assumption
 ·assumption
 ·assumption
 ·assumption
 ·exact h.cells.lt x hx
theorem lG.cF(h:lG w B F gt ct A st S rk ai):B.c∈F:=h.cells.mem
theorem lG.h0(h:lG w B F gt ct A st S rk ai):w.cell? ⟨B.n0,0,none⟩=some (.pointer (some ⟨B.c,0,none⟩)):=h.head.cellAt 0 ω rfl
theorem lG.h1(h:lG w B F gt ct A st S rk ai):w.cell? ⟨B.n0,1,none⟩=some (.pointer (some ⟨B.bt,0,none⟩)):=h.head.cellAt 1 ω rfl
theorem lG.h2(h:lG w B F gt ct A st S rk ai):w.cell? ⟨B.n0,2,none⟩=some (.slice (some ⟨B.br,0,none⟩) A.cs.length A.cs.length):=h.head.cellAt 2 ω rfl
theorem lG.h3(h:lG w B F gt ct A st S rk ai):w.cell? ⟨B.n0,3,none⟩=some (.slice (some ⟨gt,0,none⟩) ai.length ct):=h.head.cellAt 3 ω rfl
theorem lG.iC{w':World}{S':TS}(h:lG w B F gt ct A st S rk ai)(hu:ae [B.ba] w w')(hT:bL w' B.bt B.ba A.cs.length S'):lG w' B F gt ct A st S' rk ai:=by
 have s:=h.sep;have f:=h.bS;have hne:=h.trees.ne;exact⟨h.head.upd hu ζ,h.cells.upd hu (λx hx=>by simp at hx;rw[hx];exact f.2.2.1),hT,h.ranks.upd hu ζ,h.iG.upd hu ζ,h.iJ,f,s⟩
theorem lG.cO(h:lG w B F gt ct A st S rk ai)(x:Nat)(k:Nat):lG (w.setCell ⟨B.br,x,none⟩ (.int .i64 (k:Int))) B F gt ct A st S (λy=>if y=x then k else rk y) ai:=by
 have s:=h.sep;have f:=h.bS;have hu:ae [B.br] w (w.setCell ⟨B.br,x,none⟩ (.int .i64 (k:Int))):=β;refine⟨h.head.upd hu ζ,h.cells.upd hu (λx hx=>by simp at hx;rw[hx];exact f.2.2.2.1),h.trees.upd hu ζ ζ,(h.ranks.set x _).ext (λj hj=>?_),h.iG.upd hu ζ,h.iJ,f,s⟩
 by_cases e:j=x
 ·simp only[e,if_true]
 ·simp only[e,if_false]
theorem lG.mg(h:lG w B F gt ct A st S rk ai)(x:Nat)(k:Int):lG (w.setCell ⟨gt,x,none⟩ (.int .i64 k)) B F gt ct A st S rk (ai.set x k):=by
 have s:=h.sep;have f:=h.bS;have hu:ae [gt] w (w.setCell ⟨gt,x,none⟩ (.int .i64 k)):=β;refine⟨by rw[Ι];exact h.head.upd hu ζ,h.cells.upd hu (λx hx=>by simp at hx;rw[hx];exact f.2.2.2.2),h.trees.upd hu ζ ζ,h.ranks.upd hu ζ,h.iG.set x k,by rw[Ι];exact h.iJ,f,s⟩
theorem lG.cB{w':World}{F':List Nat}{A':NS}{st':Nat}(h:lG w B F gt ct A st S rk ai)(hu:ae F w w')(hC:aF w' B.c F' A' st')(hF:∀x,x∈F'->x∈F\/w.heap.size<=x)(h1:A'.cs.length=A.cs.length)(h2:A'.hs.length=A.hs.length):lG w' B F' gt ct A' st' S rk ai:=by
 have f:=h.bS;have g:=h.lt;have hf:∀x,x<w.heap.size->x∉F->x∉F':=λx hx hn hm=>by rcases hF x hm with h'|h';exact hn h';omega
 have l0:=g B.n0 (by simp[LB.blk]);have l1:=g B.bt (by simp[LB.blk]);have l2:=g B.ba (by simp[LB.blk]);have l3:=g B.br (by simp[LB.blk]);have l4:=g gt (by simp[LB.blk]);exact⟨by rw[h1];exact h.head.upd hu f.1,hC,by rw[h1];exact h.trees.upd hu f.2.1 f.2.2.1,by rw[h1];exact h.ranks.upd hu f.2.2.2.1,h.iG.upd hu f.2.2.2.2,by rw[h2];exact h.iJ,⟨hf _ l0 f.1,hf _ l1 f.2.1,hf _ l2 f.2.2.1,hf _ l3 f.2.2.2.1,hf _ l4 f.2.2.2.2⟩,h.sep⟩
end
theorem nZ(z:Int)(w:World):Calls prog 237 #[.int .i64 (tv z),.bool (tb z)] w λe w'=>e=.returned (.int .i64 z)/\w'=w:=by
 unfold tv tb
 by_cases h:z=-1
 ·subst h;simp only[if_true,ne_eq,not_true,decide_false]
  go_enter func237,ntmps237
  go_wp2;go_ret;exact⟨rfl,rfl⟩
 ·rw[Γ h,Ν h]
  go_enter func237,ntmps237
  go_wp2;go_ret;exact⟨rfl,rfl⟩
def iU(rk:Nat->Nat)(z:Int):Int:=if z=-1 then 0 else(rk z.toNat:Int)
section
variable{w:World}{B:LB}{F:List Nat}{gt ct:Nat}{A:NS}{st:Nat}{S:TS}{rk:Nat->Nat}{ai:List Int}
theorem j5(h:lG w B F gt ct A st S rk ai)(z:Int)(hz:z=-1\/(0<=z/\z<A.cs.length)) :
  Calls prog 248 #[.pointer (some ⟨B.n0,0,none⟩),.int .i64 z] w λe w'=>e=.returned (.int .i64 (iU rk z))/\w'=w:=by
 unfold iU;have h2:=h.h2
 by_cases e:z=-1
 ·subst e;clear h
  go_enter func248,ntmps248
  go_wp2;go_ret;exact⟨rfl,rfl⟩
 ·obtain⟨i,rfl⟩:∃i:Nat,z=i:=⟨z.toNat,ω⟩;have hi:i<A.cs.length:=ω;have d:=h.ranks.cell i hi;have hb:((i:Int) == -1)=false:=σ;rw[Γ e];simp only[π];clear h e hz
  go_enter func248,ntmps248
  go_wp2;go_ret;exact⟨rfl,rfl⟩
theorem C9(rk:Nat->Nat)(z:Int):0<=iU rk z:=by unfold iU;split<;>omega
theorem FX(h:lG w B F gt ct A st S rk ai)(x:Nat)(hx:x<A.cs.length)(hl:S.l x=-1\/(0<=S.l x/\S.l x<A.cs.length))(hr:S.r x=-1\/(0<=S.r x/\S.r x<A.cs.length))(Ra:iU rk (S.l x)<=65536)(hbb:iU rk (S.r x)<=65536)(hab:iU rk (S.l x)<iU rk (S.r x)) :
  Calls prog 245 #[.pointer (some ⟨B.n0,0,none⟩),.int .i64 (x:Int)] w λe w'=>e=.returned (.tuple #[])/\ae [B.ba,B.br] w w'/\lG w' B F gt ct A st (jD S x) (λy=>if y=x then(iU rk (S.l x)).toNat + 1 else rk y) ai:=by
 have kl:=λd=>Bc B.bt B.ba A.cs.length S (x:Int) (w.drewN d) (h.trees.drewN d);have kr:=λd=>qJ B.bt B.ba A.cs.length S (x:Int) (w.drewN d) (h.trees.drewN d);rw[show gV A.cs.length S (x:Int) false=S.l x by unfold gV TS.kid;rw[Δ ω];simp] at kl;rw[show gV A.cs.length S (x:Int) true=S.r x by unfold gV TS.kid;rw[Δ ω];simp] at kr;have q1:∀d,(w.drewN d).cell? ⟨B.n0,1,none⟩=some (.pointer (some ⟨B.bt,0,none⟩)):=λd=>h.h1;have H:=χ h;have rl:=λd=>j5 (h.ag ((ae.refl [] w).drewN d)) (S.l x) hl;have rr:=λd=>j5 (h.ag ((ae.refl [] w).drewN d)) (S.r x) hr
 have ba1:0<=iU rk (S.l x)/\iU rk (S.l x)<=65536:=⟨C9 _ _,Ra⟩;clear Ra hbb;have HL:=χ (ψ hl hr);generalize hzl:S.l x=zl at *;generalize M8:S.r x=zr at *;generalize hra:iU rk zl=a at *;generalize hrb:iU rk zr=b at *;have HZ:=χ (ψ hzl (ψ M8 (ψ hra hrb)));have hs:=h.sep;clear h hzl M8 hra hrb hl hr
 go_enter func245,ntmps245
 go_wp2
 go_quiet ((first
  |(go_at_call 238;exact Calls.quiet_of (kl _))
  |(go_at_call 239;exact Calls.quiet_of (kr _))
  | (go_at_call 237;exact Calls.quiet_of_same (nZ _ _))))
 have H2:=χ (H.out.ag ((ae.refl [] w).drewN nq));have rln:=rl nq;have rrn:=rr nq;have h1:=q1 nq;clear kl kr q1 rl rr;have kt:=BI B.bt B.ba A.cs.length S x (w.drewN nq) H2.out.trees hx
 go_wp2_with (first
  |(go_at_call 248;(with_reducible refine aT (rln) ?_))
  |(go_at_call 248;(with_reducible refine aT (rrn) ?_))
  | (go_at_call 249;(with_reducible refine (kt).mono ?_);rintro e w2 ⟨rfl,hT,hu2⟩))
 have h3:=χ (H2.out.iC hu2 hT);have hw2:ae [B.ba,B.br] w w2:=((ae.refl _ w).drewN nq).trans (hu2.mono σ);have kq:=λW (hW:ae [] w2 W)=>j5 (h3.out.ag hW) zl HL.out.1;rw[HZ.out.2.2.1] at kq;have r0:∀W,ae [B.br] w2 W->W.cell? ⟨B.n0,2,none⟩=some (.slice (some ⟨B.br,0,none⟩) A.cs.length A.cs.length):=λW hW=>hW.kept h3.out.h2 ζ;have d0:=h3.out.ranks.cell x hx;have d1:=h3.out.ranks.free x;have hwr:IntKind.i64.wrap (a+1)=a+1:=Μ _ ω
 go_region_held3 (ae [B.br] w2) (exact ν) ((go_at_call 248;(with_reducible refine((kq _ β)).mono ?_);rintro e w9 ⟨rfl,zu⟩;rw[zu];clear zu w9))
 go_wp2;go_end0;clear hwr;obtain⟨an,rfl⟩:∃an:Nat,a=an:=⟨a.toNat,ω⟩;have hR:=h3.out.cO x (an+1);rw[show((an+1:Nat):Int)=(an:Int)+1 by omega] at hR;exact⟨rfl,((hw2.setCell (Α σ) _)).drew,hR.ag ((ae.refl _ _).drew)⟩
theorem EW(h:lG w B F gt ct A st S rk ai)(x:Nat)(hx:x<A.cs.length)(hl:S.l x=-1\/(0<=S.l x/\S.l x<A.cs.length))(hr:S.r x=-1\/(0<=S.r x/\S.r x<A.cs.length))(Ra:iU rk (S.l x)<=65536)(hbb:iU rk (S.r x)<=65536)(hab:¬iU rk (S.l x)<iU rk (S.r x)) :
  Calls prog 245 #[.pointer (some ⟨B.n0,0,none⟩),.int .i64 (x:Int)] w λe w'=>e=.returned (.tuple #[])/\ae [B.ba,B.br] w w'/\lG w' B F gt ct A st S (λy=>if y=x then(iU rk (S.r x)).toNat + 1 else rk y) ai:=by
 have kl:=λd=>Bc B.bt B.ba A.cs.length S (x:Int) (w.drewN d) (h.trees.drewN d);have kr:=λd=>qJ B.bt B.ba A.cs.length S (x:Int) (w.drewN d) (h.trees.drewN d);rw[show gV A.cs.length S (x:Int) false=S.l x by unfold gV TS.kid;rw[Δ ω];simp] at kl;rw[show gV A.cs.length S (x:Int) true=S.r x by unfold gV TS.kid;rw[Δ ω];simp] at kr;have q1:∀d,(w.drewN d).cell? ⟨B.n0,1,none⟩=some (.pointer (some ⟨B.bt,0,none⟩)):=λd=>h.h1;have H:=χ h;have rl:=λd=>j5 (h.ag ((ae.refl [] w).drewN d)) (S.l x) hl;have rr:=λd=>j5 (h.ag ((ae.refl [] w).drewN d)) (S.r x) hr
 have bb1:0<=iU rk (S.r x)/\iU rk (S.r x)<=65536:=⟨C9 _ _,hbb⟩;clear Ra hbb;have HL:=χ (ψ hl hr);generalize hzl:S.l x=zl at *;generalize M8:S.r x=zr at *;generalize hra:iU rk zl=a at *;generalize hrb:iU rk zr=b at *;have HZ:=χ (ψ hzl (ψ M8 (ψ hra hrb)));have hs:=h.sep;clear h hzl M8 hra hrb hl hr
 go_enter func245,ntmps245
 go_wp2
 go_quiet ((first
  |(go_at_call 238;exact Calls.quiet_of (kl _))
  |(go_at_call 239;exact Calls.quiet_of (kr _))
  | (go_at_call 237;exact Calls.quiet_of_same (nZ _ _))))
 have H2:=χ (H.out.ag ((ae.refl [] w).drewN nq));have rln:=rl nq;have rrn:=rr nq;clear kl kr q1 rl rr
 go_wp2_with (first
  |(go_at_call 248;(with_reducible refine aT (rln) ?_))
  | (go_at_call 248;(with_reducible refine aT (rrn) ?_)))
 obtain⟨w2,hw2⟩:∃w2,w2=w.drewN nq:=⟨_,rfl⟩;have hu2:ae [B.ba,B.br] w w2:=by rw[hw2];exact(ae.refl _ w).drewN nq
 rw[←hw2] at H2 ⊢;clear hw2 rln rrn;have kq:=λW (hW:ae [] w2 W)=>j5 (H2.out.ag hW) zr HL.out.2;rw[HZ.out.2.2.2] at kq;have r0:∀W,ae [B.br] w2 W->W.cell? ⟨B.n0,2,none⟩=some (.slice (some ⟨B.br,0,none⟩) A.cs.length A.cs.length):=λW hW=>hW.kept H2.out.h2 ζ;have d0:=H2.out.ranks.cell x hx;have d1:=H2.out.ranks.free x;have hwr:IntKind.i64.wrap (b+1)=b+1:=Μ _ ω
 go_region_held3 (ae [B.br] w2) (exact ν) ((go_at_call 248;(with_reducible refine((kq _ β)).mono ?_);rintro e w9 ⟨rfl,zu⟩;rw[zu];clear zu w9))
 go_wp2;go_end0;clear hwr;obtain⟨bn,rfl⟩:∃bn:Nat,b=bn:=⟨b.toNat,ω⟩;have hR:=H2.out.cO x (bn+1);rw[show((bn+1:Nat):Int)=(bn:Int)+1 by omega] at hR;exact⟨rfl,((hu2.setCell (Α σ) _)).drew,hR.ag ((ae.refl _ _).drew)⟩
end
theorem FD:∀t:BT,t.rank<=t.size
 | .nil=>Θ _
 | .node x l r=>by have:=FD r;simp only[BT.rank,BT.size];omega
theorem nI{n:Nat}{l:List Nat}(hn:l.Nodup)(hl:∀x,x∈l->x<n):l.length<=n:=by
 have:=nodup_range n (l.map λ(x:Nat)=>(x:Int)) (by
  unfold List.Nodup;rw[List.pairwise_map];exact hn.imp (λ{a b} h e=>h ω)) (λy hy=>by
  obtain⟨x,hx,rfl⟩:=List.mem_map.1 hy;have:=hl x hx
  exact ⟨ω,ω⟩)
 simpa using this
theorem AZ{rk:Nat->Nat}{t:BT}(h:gu rk t):iU rk t.root=t.rank:=by
 unfold iU
 by_cases e:t=.nil
 ·subst e;simp[BT.root,BT.rank]
 ·have:=cz e;rw[Γ ω];rw[h.root e]
theorem xU{n:Nat}{t:BT}(h:∀x,x∈t.nodes->x<n):t.root=-1\/(0<=t.root/\t.root<n):=by
 by_cases e:t=.nil
 ·subst e;exact Α rfl
 ·have h1:=cz e;have:=h _ h1.1;exact Β ⟨ω,ω⟩
theorem Vf{S:TS}{p:Int}{x:Nat}{l r:BT}(hu:S.u x=p)(hl:dL S x (S.l x) l)(hr:dL S x (S.r x) r):dL S p x (.node x l r):=⟨rfl,hu,hl,hr⟩
section
variable{w:World}{B:LB}{F:List Nat}{gt ct:Nat}{A:NS}{st:Nat}{S:TS}{rk:Nat->Nat}{ai:List Int}
theorem rX(h:lG w B F gt ct A st S rk ai){p:Int}{x:Nat}{l r:BT}(hT:dL S p x (.node x l r))(hl:gu rk l)(hr:gu rk r)(hn:(BT.node x l r).nodes.Nodup)(hlt:∀y,y∈(BT.node x l r).nodes->y<A.cs.length) :
  Calls prog 245 #[.pointer (some ⟨B.n0,0,none⟩),.int .i64 (x:Int)] w λe w'=>e=.returned (.tuple #[])/\ae [B.ba,B.br] w w'/\
   ∃S' mV,lG w' B F gt ct A st S' mV ai/\dL S' p x (aB x l r)/\gu mV (aB x l r)/\(∀y,y≠x->S.at S' y)/\S'.u x=S.u x/\(∀y,y≠x->mV y=rk y):=by
 obtain⟨_,hu,Qm,hTr⟩:=hT;have hx:=hlt x (by simp[BT.nodes]);have hll:∀y,y∈l.nodes->y<A.cs.length:=λy hy=>hlt y (by simp[BT.nodes,hy]);have hlr:∀y,y∈r.nodes->y<A.cs.length:=λy hy=>hlt y (by simp[BT.nodes,hy]);have hA:=h.cells.ok.c1;have hn2:=hn;simp only[BT.nodes,Ζ,τ,not_or,θ] at hn2;have sl:=nI hn2.2.1 hll;have sr:=nI hn2.2.2.1 hlr;rw[BT.lW] at sl sr;have rl:=FD l;have rr:=FD r;have el:=Qm.root;have er:=hTr.root;have fr:∀{S':TS},(∀y,y≠x->S.at S' y)->(∀z,dL S x z l->dL S' x z l)/\(∀z,dL S x z r->dL S' x z r):=λhS=>
  ⟨λz hz=>hz.frame (λy hy=>hS y (λe=>hn2.1.1 (by rw[←e];exact hy))),λz hz=>hz.frame (λy hy=>hS y (λe=>hn2.1.2 (by rw[←e];exact hy)))⟩
 have zl:iU rk (S.l x)=l.rank:=by rw[el];exact AZ hl
 have zr:iU rk (S.r x)=r.rank:=by rw[er];exact AZ hr
 by_cases hab:l.rank<r.rank
 ·refine(FX h x hx (by rw[el];exact xU hll) (by rw[er];exact xU hlr) (by rw[zl];omega) (by rw[zr];omega) (by rw[zl,zr];omega)).mono ?_;rintro e w' ⟨rfl,hU,hM⟩;have hat:∀y,y≠x->S.at (jD S x) y:=λy hy=>⟨by unfold jD TS.aK;simp[hy],by unfold jD TS.aK;simp[hy],by unfold jD TS.aK;simp⟩
  have e1:(jD S x).l x=S.r x:=by unfold jD TS.aK;simp
  have e2:(jD S x).r x=S.l x:=by unfold jD TS.aK;simp
  have e3:(jD S x).u x=S.u x:=by unfold jD TS.aK;simp
  refine⟨rfl,hU,_,_,hM,?_,?_,hat,e3,λy hy=>by rw[Γ hy]⟩
  ·unfold aB;rw[Δ hab];exact⟨rfl,by rw[e3];exact hu,by rw[e1];exact(fr hat).2 _ hTr,by rw[e2];exact(fr hat).1 _ Qm⟩
  ·unfold aB;rw[Δ hab];refine⟨by simp[zl],hr.frame (λy hy=>by rw[Γ (λe=>hn2.1.2 (by rw[←e];exact hy))]),hl.frame (λy hy=>by rw[Γ (λe=>hn2.1.1 (by rw[←e];exact hy))])⟩
 ·refine(EW h x hx (by rw[el];exact xU hll) (by rw[er];exact xU hlr) (by rw[zl];omega) (by rw[zr];omega) (by rw[zl,zr];omega)).mono ?_;rintro e w' ⟨rfl,hU,hM⟩;refine⟨rfl,hU,_,_,hM,?_,?_,λy _=>⟨rfl,rfl,rfl⟩,rfl,λy hy=>by rw[Γ hy]⟩
  ·unfold aB;rw[Γ hab];exact⟨rfl,hu,Qm,hTr⟩
  ·unfold aB;rw[Γ hab];refine⟨by simp[zr],hl.frame (λy hy=>by rw[Γ (λe=>hn2.1.1 (by rw[←e];exact hy))]),hr.frame (λy hy=>by rw[Γ (λe=>hn2.1.2 (by rw[←e];exact hy))])⟩
end
theorem BT.yX{t:BT}(h:t≠.nil):t.root=(t.root.toNat:Int):=(cz h).2
def Av(S:TS)(x:Nat)(r:BT):TS:=match r with | .nil=>S | .node y _ _=>mY S x y
theorem Ov{S:TS}{p:Int}{x:Nat}{l r:BT}(h:dL S p x (.node x l r))(hn:(BT.node x l r).nodes.Nodup) :
  dL (Av S x r) p x (.node x l .nil)/\dL (Av S x r) (-1) r.root r/\∀y,y≠x->y∉r.nodes->S.at (Av S x r) y:=by
 obtain⟨_,hu,hl,hr⟩:=h;simp only[BT.nodes,Ζ,τ,not_or,θ] at hn;cases r with
 |nil=>exact⟨⟨rfl,hu,hl,hr⟩,rfl,λy _ _=>⟨rfl,rfl,rfl⟩⟩
 |node y a b=>
  have hxy:x≠y:=λe=>hn.1.2 (by rw[e];simp[BT.nodes]);have hry:S.r x=y:=hr.1;have e:Av S x (.node y a b)=mY S x y:=rfl;rw[e];have hl':∀z,(mY S x y).l z=S.l z:=λz=>by unfold mY TS.aK TS.dC;rw[Ν hry];rfl
  have hr':∀z,(mY S x y).r z=if z=x then -1 else S.r z:=λz=>by unfold mY TS.aK TS.dC;rw[Ν hry];rfl
  have hu':∀z,(mY S x y).u z=if z=y then -1 else S.u z:=λz=>by unfold mY TS.aK TS.dC;rw[Ν hry];rfl
  refine⟨⟨rfl,by rw[hu',Γ hxy];exact hu,?_,by rw[hr',Δ rfl];rfl⟩,?_,λz h1 h2=>⟨hl' z,by rw[hr',Γ h1],by rw[hu',Γ (λe=>h2 (by rw[e];simp[BT.nodes]))]⟩⟩
  ·rw[hl'];refine hl.frame (λz hz=>⟨hl' z,by rw[hr',Γ (λe=>hn.1.1 (by rw[←e];exact hz))],by rw[hu',Γ (λe=>hn.2.2.2 z hz y (by simp[BT.nodes]) e)]⟩)
  ·have h0:dL S x ((BT.node y a b).root) (.node y a b):=by rw[←hr.root];exact hr
   refine h0.QL (p':=-1) hn.2.2.1 (λz hz=>⟨hl' z,by rw[hr',Γ (λe=>hn.1.2 (by rw[←e];exact hz))],λM8=>by rw[hu',Γ (λe=>M8 (by rw[e];simp[BT.root]))]⟩) (λ_=>by rw[hu'];simp[BT.root])
theorem Dl{S:TS}{p:Int}{x:Nat}{l m:BT}(h:dL S p x (.node x l .nil))(hm:dL S (-1) m.root m)(hne:m≠.nil)(hn:(BT.node x l m).nodes.Nodup) :
  dL (lh S x m.root true) p x (.node x l m)/\∀y,y≠x->y∉m.nodes->S.at (lh S x m.root true) y:=by
 obtain⟨_,hu,hl,_⟩:=h;simp only[BT.nodes,Ζ,τ,not_or,θ] at hn;obtain⟨r1,r2⟩:=cz hne;have hl':∀z,(lh S x m.root true).l z=S.l z:=λz=>by unfold lh TS.aK TS.dC;rfl
 have hr':∀z,(lh S x m.root true).r z=if z=x then m.root else S.r z:=λz=>by unfold lh TS.aK TS.dC;simp
 have hu':∀z,(lh S x m.root true).u z=if z=m.root.toNat then(x:Int) else S.u z:=λz=>by unfold lh TS.aK TS.dC;simp
 have hxm:x≠m.root.toNat:=λe=>hn.1.2 (by rw[e];exact r1);refine⟨⟨rfl,by rw[hu',Γ hxm];exact hu,?_,?_⟩,λz h1 h2=>⟨hl' z,by rw[hr',Γ h1],by rw[hu',Γ (λe=>h2 (by rw[e];exact r1))]⟩⟩
 ·rw[hl'];exact hl.frame (λz hz=>⟨hl' z,by rw[hr',Γ (λe=>hn.1.1 (by rw[←e];exact hz))],by rw[hu',Γ (λe=>hn.2.2.2 z hz _ r1 e)]⟩)
 ·rw[hr',Δ rfl];exact hm.QL (p':=(x:Int)) hn.2.2.1 (λz hz=>⟨hl' z,by rw[hr',Γ (λe=>hn.1.2 (by rw[←e];exact hz))],λM8=>by rw[hu',Γ M8]⟩) (λ_=>by rw[hu',Δ rfl])
structure Down(up:Nat->BT->BT->BT)(A:NS)(S0:TS)(ta tb:BT)(S:TS)(W:List (Nat×BT))(a b:BT):Prop where
 isA:dL S (-1) a.root a
 isB:dL S (-1) b.root b
 way:∀p,p∈W->dL S (-1) (p.1:Int) (.node p.1 p.2 .nil)
 far:∀y,y∉ta.nodes++tb.nodes->S0.at S y
 perm:(vF W++(a.nodes++b.nodes)).Perm (ta.nodes++tb.nodes)
 res:aH up A ta tb=(vM up W (aH up A a b).1,W.length+(aH up A a b).2)
theorem Down.start(up:Nat->BT->BT->BT)(A:NS){S0:TS}{ta tb:BT}(ha:dL S0 (-1) ta.root ta)(hb:dL S0 (-1) tb.root tb):Down up A S0 ta tb S0 [] ta tb:=
 ⟨ha,hb,λp hp=>(by cases hp),λy _=>⟨rfl,rfl,rfl⟩,by simp[vF],by simp[vM]⟩
theorem qc(W:List (Nat×BT))(x:Nat)(l:BT):vF (W++[(x,l)])=vF W++(x::l.nodes):=by unfold vF;simp
theorem FK{W:List (Nat×BT)}{p:Nat×BT}(hp:p∈W):p.1∈vF W/\∀y,y∈p.2.nodes->y∈vF W:=by
 unfold vF;exact⟨List.mem_flatMap.2 ⟨p,hp,σ⟩,λy hy=>List.mem_flatMap.2 ⟨p,hp,by simp[hy]⟩⟩
theorem Down.take{up:Nat->BT->BT->BT}{A:NS}{S0 S:TS}{ta tb b l r:BT}{x:Nat}{W:List (Nat×BT)}(hX:(ta.nodes++tb.nodes).Nodup)
  (h1:dL S (-1) (x:Int) (.node x l r)) (h2:dL S (-1) b.root b) (h3:∀p,p∈W->dL S (-1) (p.1:Int) (.node p.1 p.2 .nil)) (h4:∀y,y∉ta.nodes++tb.nodes->S0.at S y)
  (h5:(vF W++((BT.node x l r).nodes++b.nodes)).Perm (ta.nodes++tb.nodes)) (h6:aH up A ta tb=(vM up W (up x l (aH up A r b).1),W.length+((aH up A r b).2+1))) :
  Down up A S0 ta tb (Av S x r) (W++[(x,l)]) r b:=by
 have hnd:=h5.nodup_iff.2 hX;rw[θ] at hnd;obtain⟨n1,n2,n3⟩:=hnd;rw[θ] at n2;obtain⟨n4,n5,n6⟩:=n2;obtain⟨c1,c2,c3⟩:=Ov h1 n4;have hout:∀y,y∉ta.nodes++tb.nodes->y≠x/\y∉r.nodes:=λy hy=>
  ⟨λe=>hy (h5.mem_iff.1 (by rw[e];simp[BT.nodes])),λhm=>hy (h5.mem_iff.1 (by simp[BT.nodes,hm]))⟩
 refine⟨c2,h2.frame (λy hy=>c3 y (λe=>n6 x (by simp[BT.nodes]) y hy e.symm) (λhm=>n6 y (by simp[BT.nodes,hm]) y hy rfl)),λp hp=>?_,λy hy=>?_,?_,?_⟩
 ·rcases τ.1 hp with hp|hp
  ·have hw:=FK hp;refine(h3 p hp).frame (λy hy=>?_);have hyw:y∈vF W:=by
    simp only[BT.nodes,Υ,ρ] at hy;rcases hy with rfl|hy
    ·exact hw.1
    ·exact hw.2 y hy
   exact c3 y (λe=>n3 y hyw x (by simp[BT.nodes]) e) (λhm=>n3 y hyw y (by simp[BT.nodes,hm]) rfl)
  ·simp only[ϓ] at hp;subst hp;exact c1
 ·obtain⟨k1,k2⟩:=hout y hy;have a1:=h4 y hy;have a2:=c3 y k1 k2;exact⟨a2.1.trans a1.1,a2.2.1.trans a1.2.1,a2.2.2.trans a1.2.2⟩
 ·rw[qc];refine Ϡ ?_ h5;simp only[BT.nodes,ϋ,List.cons_append];exact ό _
 ·rw[h6,BU];simp only[υ,Ω,List.length_nil];exact Prod.ext rfl (by simp only;omega)
theorem Down.takeA{up:Nat->BT->BT->BT}{A:NS}{S0 S:TS}{ta tb l r l' r':BT}{x y:Nat}{W:List (Nat×BT)}(h:Down up A S0 ta tb S W (.node x l r) (.node y l' r'))(hX:(ta.nodes++tb.nodes).Nodup)(hlt:¬dB A y x) :
  Down up A S0 ta tb (Av S x r) (W++[(x,l)]) r (.node y l' r'):=by
 refine Down.take hX h.isA h.isB h.way h.far h.perm ?_;rw[h.res,pz,Γ hlt]
theorem Down.takeB{up:Nat->BT->BT->BT}{A:NS}{S0 S:TS}{ta tb l r l' r':BT}{x y:Nat}{W:List (Nat×BT)}(h:Down up A S0 ta tb S W (.node x l r) (.node y l' r'))(hX:(ta.nodes++tb.nodes).Nodup)(hlt:dB A y x) :
  Down up A S0 ta tb (Av S y r') (W++[(y,l')]) r' (.node x l r):=by
 refine Down.take hX h.isB h.isA h.way h.far ?_ ?_
 ·refine Ϡ ?_ h.perm;exact List.Perm.append_left _ Φ
 ·rw[h.res,pz,Δ hlt]
structure Xi(up:Nat->BT->BT->BT)(S0:TS)(X:List Nat)(t:BT)(S:TS)(W:List (Nat×BT))(m:BT):Prop where
 isM:dL S (-1) m.root m
 way:∀p,p∈W->dL S (-1) (p.1:Int) (.node p.1 p.2 .nil)
 far:∀y,y∉X->S0.at S y
 perm:(vF W++m.nodes).Perm X
 res:t=vM up W m
theorem Down.turn{up:Nat->BT->BT->BT}{A:NS}{S0 S:TS}{ta tb a b:BT}{W:List (Nat×BT)}(h:Down up A S0 ta tb S W a b)(he:a=.nil\/b=.nil) :
  ∃m,m.root=(if a.root=-1 then b.root else a.root)/\Xi up S0 (ta.nodes++tb.nodes) (aH up A ta tb).1 S W m/\(aH up A ta tb).2=W.length/\(m=a\/m=b):=by
 rcases he with rfl|rfl
 ·refine⟨b,by simp[BT.root],⟨h.isB,h.way,h.far,by simpa[BT.nodes] using h.perm,by rw[h.res,lU]⟩,by rw[h.res,lU];simp,Β rfl⟩
 ·refine⟨a,?_,⟨h.isA,h.way,h.far,by simpa[BT.nodes] using h.perm,by rw[h.res,pg]⟩,by rw[h.res,pg];simp,Α rfl⟩
  split
  ·rename_i e;rw[e];rfl
  ·rfl
theorem Xi.turn{up:Nat->BT->BT->BT}{S0 S2 S3:TS}{X:List Nat}{t m l:BT}{x:Nat}{W:List (Nat×BT)}(U:Xi up S0 X t S2 (W++[(x,l)]) m)(K:Vl up)(hX:X.Nodup)
  (hT:dL S3 (-1) x (up x l m)) (FV:∀y,y≠x->y∉l.nodes->y∉m.nodes->S2.at S3 y):Xi up S0 X t S3 W (up x l m):=by
 have hp:=U.perm;rw[qc,ϋ] at hp;have hnd:=hp.nodup_iff.2 hX;rw[θ] at hnd;obtain⟨n1,n2,n3⟩:=hnd;refine⟨by rw[K.root];exact hT,λp hpW=>?_,λy hy=>?_,?_,by rw[U.res,BU]⟩
 ·have hw:=FK hpW;refine(U.way p (List.mem_append_left _ hpW)).frame (λy hy=>?_);have hyw:y∈vF W:=by
   simp only[BT.nodes,Υ,ρ] at hy;rcases hy with rfl|hy
   ·exact hw.1
   ·exact hw.2 y hy
  exact FV y (λe=>n3 y hyw x σ e) (λhm=>n3 y hyw y (by simp[hm]) rfl) (λhm=>n3 y hyw y (by simp[hm]) rfl)
 ·have h1:=U.far y hy;have h2:=FV y (λe=>hy (hp.mem_iff.1 (by rw[e];simp))) (λhm=>hy (hp.mem_iff.1 (by simp[hm]))) (λhm=>hy (hp.mem_iff.1 (by simp[hm])));exact⟨h2.1.trans h1.1,h2.2.1.trans h1.2.1,h2.2.2.trans h1.2.2⟩
 ·refine Ϡ (List.Perm.append_left _ (K.nodes x l m)) ?_;simpa using hp
theorem Xi.len{up:Nat->BT->BT->BT}{S0 S:TS}{X:List Nat}{t m:BT}{W:List (Nat×BT)}(U:Xi up S0 X t S W m):W.length<=X.length:=by
 have:=U.perm.length_eq;rw[υ] at this;have h2:W.length<=(vF W).length:=by
  clear this U
  induction W with
  |nil=>simp
  |cons p t ih=>unfold vF at *;simp only[List.flatMap_cons,υ,Ω];omega
 omega
theorem Down.len{up:Nat->BT->BT->BT}{A:NS}{S0 S:TS}{ta tb a b:BT}{W:List (Nat×BT)}(U:Down up A S0 ta tb S W a b):W.length+a.nodes.length+b.nodes.length<=(ta.nodes++tb.nodes).length:=by
 have:=U.perm.length_eq;rw[υ,υ] at this;have h2:W.length<=(vF W).length:=by
  clear this U
  induction W with
  |nil=>simp
  |cons p t ih=>unfold vF at *;simp only[List.flatMap_cons,υ,Ω];omega
 omega
theorem CX{S0 S2:TS}{X:List Nat}{t m l:BT}{x:Nat}{W:List (Nat×BT)}{Ch Vo:Nat->Nat}{up:Nat->BT->BT->BT}(U:Xi up S0 X t S2 (W++[(x,l)]) m)(hX:X.Nodup)
  (hk:∀y,y≠x->Vo y=Ch y) (hr:∀p,p∈W->gu Ch p.2):∀p,p∈W->gu Vo p.2:=λp hp=>by
 have hpx:=U.perm;rw[qc,ϋ] at hpx;have hnd:=hpx.nodup_iff.2 hX;rw[θ] at hnd;exact(hr p hp).frame (λy hy=>hk y (λe=>hnd.2.2 y ((FK hp).2 y hy) x σ e))
section
variable{w:World}{B:LB}{F:List Nat}{gt ct:Nat}{A:NS}{st:Nat}{S:TS}{rk:Nat->Nat}{ai:List Int}
theorem QG(h:lG w B F gt ct A st S rk ai){p:Int}{x:Nat}{l r:BT}(hT:dL S p x (.node x l r))(hx:x<A.cs.length)(hr:∀y,y∈r.nodes->y<A.cs.length) :
  Calls prog 234 #[.pointer (some ⟨B.bt,0,none⟩),.int .i64 r.root] w λe w'=>(∃v,e=.returned v)/\lG w' B F gt ct A st (Av S x r) rk ai/\ae [B.ba] w w':=by
 cases r with
 |nil=>
  refine(Fs B.bt B.ba A.cs.length S (-1) w h.trees (by unfold pQ;simp)).mono ?_;rintro e w' ⟨rfl,rfl⟩;exact⟨⟨_,rfl⟩,h,ae.refl _ _⟩
 |node y a b=>
  obtain⟨_,_,_,hr'⟩:=hT;have e2:S.u y=x:=hr'.2.1;refine(E5 B.bt B.ba A.cs.length S x y w h.trees hx (hr y (by simp[BT.nodes])) e2).mono ?_;rintro e w' ⟨rfl,hT,hu⟩;exact⟨⟨_,rfl⟩,h.iC hu hT,hu⟩
theorem LX(h:lG w B F gt ct A st S rk ai){p:Int}{x:Nat}{l r:BT}(hT:dL S p x (.node x l r))(hx:x<A.cs.length) :
  Calls prog 239 #[.pointer (some ⟨B.bt,0,none⟩),.int .i64 (x:Int)] w λe w'=>e=.returned (.tuple #[.int .i64 (tv r.root),.bool (tb r.root)])/\ae [] w w':=by
 have e:gV A.cs.length S (x:Int) true=r.root:=by
  unfold gV TS.kid;rw[Δ ω];simp only[if_true,π];exact hT.2.2.2.root
 refine(qJ B.bt B.ba A.cs.length S (x:Int) w h.trees).mono ?_;rw[e];rintro e w' ⟨rfl,k,rfl⟩;exact⟨rfl,(ae.refl _ _).drewN k⟩
def Kq(W:List (Nat×BT)):List Value:=bz (W.map λp=>(p.1:Int))
theorem D5(W:List (Nat×BT))(x:Nat)(l:BT):Kq (W++[(x,l)])=Kq W++[.int .i64 (x:Int)]:=by unfold Kq bz;simp
theorem q9(h:lG w B F gt ct A st S rk ai){ta tb:BT}(ha:dL S (-1) ta.root ta)(hb:dL S (-1) tb.root tb)(hX:(ta.nodes++tb.nodes).Nodup)(hin:∀y,y∈ta.nodes++tb.nodes->bY A (y:Int)=true)(ra:gu rk ta)(rb:gu rk tb) :
  Calls prog 236 #[.pointer (some ⟨B.n0,0,none⟩),.int .i64 ta.root,.int .i64 tb.root] w λe w'=>e=.returned (.int .i64 (aH aB A ta tb).1.root)/\ae [B.c,B.ba,B.br] w w'/\
   ∃S' mV,lG w' B F gt ct A (cK st (aH aB A ta tb).2) S' mV ai/\dL S' (-1) (aH aB A ta tb).1.root (aH aB A ta tb).1/\gu mV (aH aB A ta tb).1/\∀y,y∉ta.nodes++tb.nodes->S.at S' y/\mV y=rk y:=by
 have hblk:=h.lt;have oC:=h.cF;have hbl2:=hblk B.ba (by simp[LB.blk]);have hbl3:=hblk B.br (by simp[LB.blk]);have hbl4:=hblk B.c (by simp[LB.blk,oC]);have hs:=χ h.sep;have hA:=h.cells.ok.c1;have hlt:Hid (∀y,y∈ta.nodes++tb.nodes->y<A.cs.length):=λy hy=>((aj A y).1 (hin y hy)).1;have hXl:(ta.nodes++tb.nodes).length<=A.cs.length:=nI hX hlt.out;have HM0:=χ h;have HBL:=χ hblk;have D0:=χ (Down.start aB A ha hb);have OB:=χ hin;have HX:=χ hX;have RA:=χ (ψ ra rb);have hst:=h.cells.nH;clear h ha hb hblk oC hin hX ra rb
 go_enter func236,ntmps236
 go_wp2
 go_loopw [1,2,7] (λa b way wr=>∃(S1:TS) (W:List (Nat×BT)) (a1 b1:BT),a=.int .i64 a1.root/\b=.int .i64 b1.root/\wr.ownsRow w.heap.size 3 1 way W.length (Kq W)/\lG wr B F gt ct A (cK st W.length) S1 rk ai/\Down aB A S ta tb S1 W a1 b1/\gu rk a1/\gu rk b1/\(∀p,p∈W->gu rk p.2)/\ae [B.c,B.ba] w wr) (λ_ _ way _=>(ta.nodes++tb.nodes).length-lenOf way)
 case atStart=>
  exact⟨S,[],ta,tb,rfl,rfl,⟨by simp[Kq,bz],Α ⟨rfl,rfl⟩⟩,by rw[List.length_nil,fF hst];exact HM0.out.ag β,D0.out,RA.out.1,RA.out.2,(λp hp=>by cases hp),β⟩
 case round=>
  obtain⟨S1,W,a1,b1,rfl,rfl,ho,hM,hD,r1,r2,r3,hu⟩:=hrel;have HM:=χ hM;have HD:=χ hD;have HR:=χ (ψ r1 (ψ r2 r3));have HO:=χ ho;have hlen:=hD.len;have h0:=hM.h0;have h1:=hM.h1;clear hM hD r1 r2 r3;obtain⟨a5,c5,rfl,hc5⟩:=aV ho;have I6:∀g,(Value.slice a5 W.length c5).ownBlock=some g->w.heap.size<=g:=λg hg=>(ho.lt g hg).1;have Yb:=χ I6;clear ho I6
  by_cases hne:a1=.nil\/b1=.nil
  ·obtain⟨m0,e0,U0,hcnt,hor⟩:=HD.out.turn hne;have hm0:gu rk m0:=by rcases hor with rfl|rfl;exact HR.out.1;exact HR.out.2.1
   have hz:a1.root=-1\/(a1.root≠-1/\b1.root=-1):=by
    rcases hne with rfl|rfl
    ·exact Α rfl
    ·by_cases e:a1.root=-1
     ·exact Α e
     ·exact Β ⟨e,rfl⟩
   have HU:=χ (ψ U0 (ψ hm0 (ψ hcnt HR.out.2.2)));have hWl:=U0.len;have HUP:=χ hu;rw[←hcnt] at HM;clear hne hor U0 hm0 HR HD hcnt hu hlen h0;generalize a1.root=za at *;generalize b1.root=zb at *;have HEX:Hid (∃W2 U2:List (Nat×BT),W=W2++U2):=⟨W,[],σ⟩;have e9:∃z9,m0.root=z9:=⟨_,rfl⟩;obtain⟨z9,e9⟩:=e9;rw[e9] at e0;generalize hn0:W.length=n0 at *;have XZ:=χ hn0;clear hn0;rcases hz with rfl|⟨hz1,rfl⟩
   all_goals
    first|rw[Δ rfl] at e0|rw[Γ hz1] at e0
    subst e0
    try(have hz2:(z9 != -1)=true:=by simpa using hz1)
    try(have hz3:(z9 == -1)=false:=by simpa using hz1)
    go_wp2
    go_loopw [9,10] (λtop i w5=>∃(S2:TS) (W2 U2:List (Nat×BT)) (m:BT) (Ch:Nat->Nat),W=W2++U2/\top=.int .i64 m.root/\i=.int .i64 ((W2.length:Int)-1)/\lG w5 B F gt ct A (cK st (aH aB A ta tb).2) S2 Ch ai/\Xi aB S (ta.nodes++tb.nodes) (aH aB A ta tb).1 S2 W2 m/\gu Ch m/\(∀p,p∈W2->gu Ch p.2)/\(∀y,y∉ta.nodes++tb.nodes->Ch y=rk y)/\ae [B.ba,B.br] wr w5) (λ_ i _=>(intOf i+1).toNat)
    case atStart=>exact⟨S1,W,[],m0,rk,σ,by rw[e9],by rw[XZ.out],HM.out,HU.out.1,HU.out.2.1,HU.out.2.2.2,λ_ _=>rfl,ae.refl _ _⟩
    case round=>
     obtain⟨S2,W2,U2,m,Ch,rfl,rfl,rfl,hM,hU,r1,r2,r3,hu⟩:=hrel;rename World=>w5;rcases List.eq_nil_or_concat W2 with rfl|⟨W3,⟨x,l⟩,rfl⟩
     ·have e0:=hU.res;simp only[vM] at e0;simp only[List.length_nil];go_wp2;go_ret;rw[e0];exact⟨rfl,(HUP.out.mono σ).trans (hu.mono σ),S2,Ch,hM,hU.isM,r1,λy hy=>⟨hU.far y hy,r3 y hy⟩⟩
     ·have hpx:=hU.perm;simp only[List.concat_eq_append] at *;rw[qc,ϋ] at hpx;have CW:∀q,q∈(x::l.nodes)++m.nodes->q<A.cs.length:=λq hq=>hlt.out q (hpx.mem_iff.1 (List.mem_append_right _ hq));have hnd:((x::l.nodes)++m.nodes).Nodup:=(θ.1 (hpx.nodup_iff.2 HX.out)).2.1;have hxA:=CW x σ;obtain⟨g,cap,ee,hI,hg⟩:=IZ.iA (l:=(W3++[(x,l)]++U2).map λp=>(p.1:Int)) (by rw[List.length_map,XZ.out];exact ak HO.out hu (λk hk=>by have:=Yb.out k hk;simp;omega)) ζ;rw[List.length_map,XZ.out] at ee
      injection ee with ee1 ee2 ee3
      subst ee1 ee3;have dz:=hI.cell W3.length σ;rw[show(((W3++[(x,l)]++U2).map λp=>(p.1:Int)).getD W3.length 0)=(x:Int) by simp[φ]] at dz;have h0:=hM.h0;have h1:=hM.h1;have wK:=χ hM;have Qe:=χ hU;have YN:=χ (ψ r1 (ψ r2 r3));have JV:=χ (ψ CW hnd);have hTx:=hU.way (x,l) σ;have Zg:=χ hTx;have HPX:=χ hpx;have hil:((W3++[(x,l)]).length:Int)-1=W3.length:=σ;rw[hil];have hi0:((W3.length:Int)≥0):=ω;have hWn:W3.length+1+U2.length=n0:=by have:=XZ.out;simp at this;omega
      have hW3:W3.length<=65536:=ω;clear hM hU r1 r2 r3 CW hnd hTx hpx hil hI ee2
      by_cases hm:m=.nil
      ·subst hm;simp only[BT.root]
       go_wp2_with fail
       have zW:dL S2 (-1) x (.node x l .nil):=Zg.out;refine(rX wK.out zW (YN.out.2.1 (x,l) σ) YN.out.1 (by simpa[BT.nodes] using JV.out.2) (λq hq=>JV.out.1 q (by simpa[BT.nodes] using hq))).mono ?_;rintro e w7 ⟨rfl,kS,S3,Vo,JR,VE,WH,hs7,_,YP⟩;have HM7:=χ JR;have zT:=χ (ψ VE (ψ WH (ψ hs7 YP)));have HU7:=χ (hu.trans kS);clear JR VE WH hs7 YP hu kS Zg h0 h1 dz;go_wp2
       go_roundw
       case rel=>
        refine⟨S3,W3,(x,l)::U2,aB x l .nil,Vo,σ,congrArg (Value.int .i64) (jB x l .nil).symm,by go_num,HM7.out,Qe.out.turn mq HX.out zT.out.1 (λy h1 _ _=>zT.out.2.2.1 y h1),zT.out.2.1,?_,?_,HU7.out⟩
        ·exact CX Qe.out HX.out zT.out.2.2.2 (λp hp=>YN.out.2.1 p (List.mem_append_left _ hp))
        ·exact λy hy=>(zT.out.2.2.2 y (λe=>hy (by rw[e];exact HPX.out.mem_iff.1 σ))).trans (YN.out.2.2 y hy)
       case measure=>simp[intOf]
      ·obtain⟨mr,hmr⟩:∃mr:Nat,m.root=mr:=⟨_,BT.yX hm⟩;have hmm:=(cz hm).1;rw[hmr,π] at hmm;have zW:dL S2 (-1) x (.node x l .nil):=Zg.out;have hTm:=Qe.out.isM;have hur:S2.u mr=-1:=by
        cases m with
        |nil=>exact absurd rfl hm
        |node q a b=>
         have e:q=mr:=by have e':(q:Int)=mr:=hmr;omega
         subst e;exact hTm.2.1
       have hnd:=JV.out.2;have hxm:x≠mr:=λe=>by
        rw[θ] at hnd;exact hnd.2.2 x σ mr hmm e
       obtain⟨Cg,Vy⟩:=Dl (m:=m) zW hTm hm (by simpa[BT.nodes] using hnd);rw[hmr] at Cg Vy;have HT3:=χ (ψ Cg (ψ hm Vy));have kh:=λW (hW:ae [] w5 W)=>Ae B.bt B.ba A.cs.length S2 x mr true W ((wK.out.ag hW).trees) hxA (JV.out.1 mr (List.mem_append_right _ hmm)) hxm hur zW.2.2.2;rw[hmr];have hz4:((mr:Int) != -1)=true:=σ;have rr1:∀W,ae [B.ba] w5 W->W.cell? ⟨B.n0,1,none⟩=some (.pointer (some ⟨B.bt,0,none⟩)):=λW hW=>hW.kept h1 (by have:=hs.out;simp;omega);have rr2:∀W,ae [B.ba] w5 W->W.cell? ⟨g,W3.length,none⟩=some (.int .i64 (x:Int)):=λW hW=>hW.kept dz ζ
       clear zW hTm hur hnd Cg Vy hm hmr h0 h1 dz hmm
       go_wp2_with fail
       have CB:(W3.length:Int)<(n0:Int):=ω
       go_region_held3 (ae [B.ba] w5) (exact ν)
        ((go_at_call 241;(with_reducible refine(kh _ β).mono ?_);rintro e w6 ⟨rfl,Qj,iX⟩;(have Wv:ae [B.ba] w5 w6:=ν)))
       have dz6:=rr2 w6 Wv;have xn:=χ (wK.out.iC Wv Qj);clear rr1 rr2 kh iX Qj
       go_wp2_with fail
       refine(rX xn.out HT3.out.1 (YN.out.2.1 (x,l) σ) YN.out.1 (by simpa[BT.nodes] using JV.out.2) (λq hq=>JV.out.1 q (by simpa[BT.nodes] using hq))).mono ?_;rintro e w7 ⟨rfl,kS,S3,Vo,JR,VE,WH,hs7,_,YP⟩;have HM7:=χ JR;have zT:=χ (ψ VE (ψ WH (ψ hs7 YP)));have HU7:=χ (hu.trans ((Wv.mono σ).trans kS));clear JR VE WH hs7 YP hu kS Zg dz6 Wv;go_wp2
       go_roundw
       case rel=>
        refine⟨S3,W3,(x,l)::U2,aB x l m,Vo,σ,by rw[jB],by go_num,HM7.out,Qe.out.turn mq HX.out zT.out.1 (λy h1 _ h3=>?_),zT.out.2.1,?_,?_,HU7.out⟩
        ·have a1:=HT3.out.2.2 y h1 h3;have a2:=zT.out.2.2.1 y h1;exact⟨a2.1.trans a1.1,a2.2.1.trans a1.2.1,a2.2.2.trans a1.2.2⟩
        ·exact CX Qe.out HX.out zT.out.2.2.2 (λp hp=>YN.out.2.1 p (List.mem_append_left _ hp))
        ·exact λy hy=>(zT.out.2.2.2 y (λe=>hy (by rw[e];exact HPX.out.mem_iff.1 σ))).trans (YN.out.2.2 y hy)
       case measure=>simp[intOf]
  ·obtain⟨x,l,r,rfl⟩:∃x l r,a1=.node x l r:=by
    cases a1 with
    |nil=>exact absurd (Α rfl) hne
    |node x l r=>exact⟨x,l,r,rfl⟩
   obtain⟨y,l',r',rfl⟩:∃x l r,b1=.node x l r:=by
    cases b1 with
    |nil=>exact absurd (Β rfl) hne
    |node x l r=>exact⟨x,l,r,rfl⟩
   clear hne;have hmx:∀z,z∈(BT.node x l r).nodes++(BT.node y l' r').nodes->z∈ta.nodes++tb.nodes:=λz hz=>HD.out.perm.mem_iff.1 (List.mem_append_right _ hz);have hxm:=hmx x (by simp[BT.nodes]);have hym:=hmx y (by simp[BT.nodes]);have hWl:W.length+2<=(ta.nodes++tb.nodes).length:=by simp only[BT.nodes,Ω,υ] at hlen ⊢;omega
   have HMX:=χ hmx;have hxb:((x:Int) != -1)=true:=σ;have hyb:((y:Int) != -1)=true:=σ;clear hmx hlen;have kA:=fB HM.out.cells y x (OB.out y hym) (OB.out x hxm);obtain⟨sw,hsw⟩:∃sw,decide (dB A y x)=sw:=⟨_,rfl⟩;rw[hsw] at kA;have KEY:∃(z:Nat) (lz rz o:BT),z=(if sw then y else x)/\Down aB A S ta tb (Av S1 z rz) (W++[(z,lz)]) rz o/\dL S1 (-1) z (.node z lz rz)/\gu rk lz/\gu rk rz/\gu rk o/\z<A.cs.length/\(∀q,q∈rz.nodes->q<A.cs.length)/\o.root=(if sw then(x:Int) else(y:Int)):=by
    cases sw with
    |true=>
     exact⟨y,l',r',.node x l r,rfl,HD.out.takeB HX.out (ϣ hsw),HD.out.isB,HR.out.2.1.2.1,HR.out.2.1.2.2,HR.out.1,hlt.out y hym,λq hq=>hlt.out q (HMX.out q (by simp[BT.nodes,hq])),rfl⟩
    |false=>
     exact⟨x,l,r,.node y l' r',rfl,HD.out.takeA HX.out (of_decide_eq_false hsw),HD.out.isA,HR.out.1.2.1,HR.out.1.2.2,HR.out.2.1,hlt.out x hxm,λq hq=>hlt.out q (HMX.out q (by simp[BT.nodes,hq])),rfl⟩
   obtain⟨z,lz,rz,o,ez,hD2,hTz,q1,q2,q3,hz,hrz,eo⟩:=KEY;have HD2:=χ hD2;have HT:=χ hTz;have HQ:=χ (ψ q1 (ψ q2 (ψ q3 hrz)));clear hD2 hTz q1 q2 q3 hrz hsw;simp only[BT.root];cases sw
   all_goals
    simp only[if_true,if_false,Ϣ] at ez eo;subst ez
    go_wp2_with fail
    refine kA.mono ?_;rintro e w1 ⟨rfl,gG,hu1⟩;have hM1:=χ (HM.out.cB (hu1.mono (by simp[HM.out.cF])) gG (λx hx=>Α hx) rfl rfl);have hss:cK (cK st W.length) 1=cK st (W.length+1):=iN _ _ _;rw[hss] at hM1;have ho1:=ak HO.out hu1 (λk hk=>by have:=Yb.out k hk;simp;omega);clear h0 h1 kA hss;have WT:=χ (ψ hu hu1);clear hu hu1 gG;have HGB:Hid (∀g,g∈(Value.slice a5 W.length c5).ownBlock.toList->g∉B.blk F gt):=λg hg hb=>by
     have h1:=Yb.out g (Option.mem_toList.1 hg);have h2:=HBL.out g hb;omega
    have hsz1:w.heap.size<=w1.heap.size:=(WT.out.1.trans (WT.out.2.mono σ)).size
    go_wp2_with (first
     |((at_builtin;refine bI rfl _ _ 77 rfl w.heap.size 3 (.int .i64 0) 1 8 underlying77 gI rfl δ _ _ _ rfl (ho1) [.int .i64 (z:Int)] rfl (by simp[Value.oneCell']) (by first|rfl|(rw[Κ];rfl)) μ ω (ω) ?_;intro v2 w2 ho2 hu2 nC);(have hM2:=χ (hM1.out.upd hu2 HGB.out));(have k12:=hM2.out.h1);(have kr:=LX hM2.out HT.out hz))
     |(go_at_call 239;(with_reducible refine(kr).mono ?_);rintro e w3 ⟨rfl,hu3⟩;(have k13:=hu3.was k12);(have jo:=χ (hM2.out.ag hu3));(have kc:=QG jo.out HT.out hz HQ.out.2.2.2))
     |(go_at_call 237;(with_reducible refine aT (nZ _ _) ?_))
     |(go_at_call 234;(with_reducible refine(kc).mono ?_);rintro e w4 ⟨⟨v4,rfl⟩,sM,fU⟩)
     | fail)
    obtain⟨a6,c6,rfl,hc6⟩:=aV ho2;have Y9:∀k,(Value.slice a6 (W.length+1) c6).ownBlock=some k->w.heap.size<=k:=λk hk=>(ho2.lt k hk).1;refine⟨⟨_,W++[(z,lz)],rz,o,rfl,congrArg (Value.int .i64) eo.symm,?_,?_,HD2.out,HQ.out.2.1,HQ.out.2.2.1,?_,?_⟩,?_⟩
    ·rw[D5,υ,List.length_singleton];exact ak (ak ho2 hu3 σ) fU (λk hk=>by have:=Y9 k hk;simp;omega)
    ·rw[υ,List.length_singleton];exact sM
    ·intro p hp;rcases τ.1 hp with hp|hp
     ·exact HR.out.2.2 p hp
     ·simp only[ϓ] at hp;subst hp;exact HQ.out.1
    ·have v1:ae [B.c,B.ba] w w1:=WT.out.1.trans (WT.out.2.mono σ);have v2:ae [B.c,B.ba] w w2:=v1.joined hu2 (λg hg=>Β (Yb.out g (Option.mem_toList.1 hg)));exact(v2.trans (hu3.mono σ)).trans (fU.mono σ)
    ·show(ta.nodes++tb.nodes).length-(W.length+1)<(ta.nodes++tb.nodes).length-W.length
     omega
end
structure ym(S0:TS)(Pn:Nat->Nat)(T:BT)(X:List Nat)(S:TS)(rk:Nat->Nat)(P:List Fr)(was x:Nat)(l r:BT):Prop where
 zG:dL S (-1) (au P (.node x l r)).root (au P (.node x l r))
 perm:(au P (.node x l r)).nodes.Perm X
 rl:gu rk l
 rr:gu rk r
 rx:rk x=was
 rP:UG rk P was
 far:∀y,y∉X->S0.at S y/\rk y=Pn y
 res:kK P was x l r=T
structure uM(S0:TS)(Pn:Nat->Nat)(T:BT)(X:List Nat)(S:TS)(rk:Nat->Nat):Prop where
 zG:dL S (-1) T.root T
 isR:gu rk T
 far:∀y,y∉X->S0.at S y/\rk y=Pn y
section
variable{S0 S S2:TS}{Pn rk Ch:Nat->Nat}{T:BT}{X:List Nat}{P:List Fr}{was x:Nat}{l r:BT}
theorem ym.parts(h:ym S0 Pn T X S rk P was x l r)(hX:X.Nodup):x∈X/\(BT.node x l r).nodes.Nodup/\(∀y,y∈(BT.node x l r).nodes->y∈X)/\(∀y,y∈eH P->y≠x/\y∈X)/\(eH P).Nodup:=by
 have hp:=(aW P (.node x l r)).symm.trans h.perm;have hn:=hp.nodup_iff.2 hX;rw[θ] at hn;refine⟨hp.mem_iff.1 (by simp[BT.nodes]),hn.1,λy hy=>hp.mem_iff.1 (List.mem_append_left _ hy),λy hy=>⟨λe=>hn.2.2 x (by simp[BT.nodes]) y hy e.symm,hp.mem_iff.1 (List.mem_append_right _ hy)⟩,hn.2.1⟩
theorem ym.settled(h:ym S0 Pn T X S rk P was x l r)(hX:X.Nodup)(zW:dL S2 (DY P) x (aB x l r))(hs:∀y,y≠x->S.at S2 y)(hk:∀y,y≠x->Ch y=rk y) :
  dL S2 (-1) (au P (aB x l r)).root (au P (aB x l r))/\UG Ch P was/\(∀y,y∉X->S0.at S2 y/\Ch y=Pn y)/\(au P (aB x l r)).nodes.Perm X:=by
 obtain⟨p1,p2,p3,p4,p5⟩:=h.parts hX;refine⟨(fq _ _).2 ⟨by rw[jB];exact zW,?_⟩,h.rP.frame (λy hy=>hk y (p4 y hy).1),λy hy=>?_,?_⟩
 ·have:=((fq _ _).1 h.zG).2;rw[jB];exact this.frame (λy hy=>hs y (p4 y hy).1)
 ·have hne:y≠x:=λe=>hy (by rw[e];exact p1);have a1:=h.far y hy;have a2:=hs y hne;exact⟨⟨a2.1.trans a1.1.1,a2.2.1.trans a1.1.2.1,a2.2.2.trans a1.1.2.2⟩,(hk y hne).trans a1.2⟩
 ·exact(aW P _).trans (((lu x l r).append_right _).trans ((aW P (.node x l r)).symm.trans h.perm))
theorem ym.stay(h:ym S0 Pn T X S rk P was x l r)(hX:X.Nodup)(zW:dL S2 (DY P) x (aB x l r))(hr2:gu Ch (aB x l r))(hs:∀y,y≠x->S.at S2 y)(hk:∀y,y≠x->Ch y=rk y)
  (e:(aB x l r).rank=was):uM S0 Pn T X S2 Ch:=by
 obtain⟨a1,a2,a3,a4⟩:=h.settled hX zW hs hk;have hT:T=au P (aB x l r):=by
  rw[←h.res];cases P with
  |nil=>rfl
  |cons f P=>unfold kK;rw[Δ e]
 rw[hT];exact⟨a1,(zN _ _).2 ⟨hr2,by rw[e];exact a2⟩,a3⟩
theorem ym.top(h:ym S0 Pn T X S rk [] was x l r)(hX:X.Nodup)(zW:dL S2 (DY []) x (aB x l r))(hr2:gu Ch (aB x l r))(hs:∀y,y≠x->S.at S2 y)(hk:∀y,y≠x->Ch y=rk y) :
  uM S0 Pn T X S2 Ch:=by
 obtain⟨a1,a2,a3,a4⟩:=h.settled hX zW hs hk;have hT:T=au [] (aB x l r):=by rw[←h.res];rfl
 rw[hT];exact⟨a1,hr2,a3⟩
theorem ym.up{f:Fr}(h:ym S0 Pn T X S rk (f::P) was x l r)(hX:X.Nodup)(zW:dL S2 (DY (f::P)) x (aB x l r))(hr2:gu Ch (aB x l r))(hs:∀y,y≠x->S.at S2 y)(hk:∀y,y≠x->Ch y=rk y)
  (e:(aB x l r).rank≠was):∃l' r',ym S0 Pn T X S2 Ch P (kX f was) f.1 l' r':=by
 obtain⟨a1,a2,a3,a4⟩:=h.settled hX zW hs hk;have hres:=h.res;unfold kK at hres;rw[Γ e] at hres;unfold au at a1 a4
 by_cases hsd:f.2.1=true
 ·rw[Δ hsd] at hres;have e1:bP f (aB x l r)=.node f.1 f.2.2 (aB x l r):=by unfold bP;rw[Δ hsd]
  rw[e1] at a1 a4;exact⟨_,_,a1,a4,a2.1,hr2,a2.2.1,a2.2.2,a3,hres⟩
 ·rw[Γ hsd] at hres;have e1:bP f (aB x l r)=.node f.1 (aB x l r) f.2.2:=by unfold bP;rw[Γ hsd]
  rw[e1] at a1 a4;exact⟨_,_,a1,a4,hr2,a2.1,a2.2.1,a2.2.2,a3,hres⟩
end
theorem MO:∀{P:List Fr},(eH P).Nodup->(P.map (·.1)).Nodup/\∀y,y∈P.map (·.1)->y∈eH P
 | [],_=>⟨Ϥ,λy hy=>by cases hy⟩
 |f::P,h=>by
  simp only[eH,Ζ,τ,not_or,θ] at h;obtain⟨h1,h2⟩:=MO (P:=P) h.2.2.1;refine⟨Ζ.2 ⟨λhm=>h.1.2 (h2 _ hm),h1⟩,λy hy=>?_⟩;simp only[List.map_cons,ρ] at hy;rcases hy with rfl|hy
  ·simp[eH]
  ·simp[eH,h2 y hy]
theorem Mg{L done rest:List Nat}{x:Nat}(hL:L.Nodup)(e:L=done++x::rest):L.idxOf x=done.length/\done.length<L.length:=by
 subst e;have hx:x∉done:=λhm=>by
  rw[θ] at hL;exact hL.2.2 x hm x σ rfl
 refine⟨by rw[List.idxOf_append,Γ hx];simp,σ⟩
section
variable{w:World}{B:LB}{F:List Nat}{gt ct:Nat}{A:NS}{st:Nat}{S:TS}{rk:Nat->Nat}{ai:List Int}
theorem Dj(h:lG w B F gt ct A st S rk ai){P:List Fr}{was x:Nat}{l r:BT}(hM:ym S rk (kK P was x l r) (au P (.node x l r)).nodes S rk P was x l r)(hX:(au P (.node x l r)).nodes.Nodup)
  (hlt:∀y,y∈(au P (.node x l r)).nodes->y<A.cs.length) :
  Calls prog 235 #[.pointer (some ⟨B.n0,0,none⟩),.int .i64 (x:Int)] w λe w'=>e=.returned (.tuple #[])/\ae [B.ba,B.br] w w'/\
   ∃S' mV,lG w' B F gt ct A st S' mV ai/\uM S rk (kK P was x l r) (au P (.node x l r)).nodes S' mV:=by
 generalize hT:kK P was x l r=T at *;generalize hXX:(au P (.node x l r)).nodes=X at *;have hL:(x::P.map (·.1)).Nodup:=by
  obtain⟨p1,p2,p3,p4,p5⟩:=hM.parts hX;obtain⟨q1,q2⟩:=MO p5;exact Ζ.2 ⟨λhm=>(p4 x (q2 x hm)).1 rfl,q1⟩
 generalize hLL:x::P.map (·.1)=L at *;have HM0:=χ h;have MM:=χ hM;have HX:=χ hX;have HL:=χ hL;have HLL:=χ hLL;have Zj:=χ hlt;clear h hM hX hL hlt hT hXX hLL
 go_enter func235,ntmps235
 go_wp2
 go_loopw [1] (λa wr=>∃(S1:TS) (rk1:Nat->Nat),lG wr B F gt ct A st S1 rk1 ai/\ae [B.ba,B.br] w wr/\((∃(P1:List Fr) (P7 x1:Nat) (l1 r1:BT) (dn:List Nat),a=.int .i64 (x1:Int)/\L=dn++x1::P1.map (·.1)/\ym S rk T X S1 rk1 P1 P7 x1 l1 r1)\/(a=.int .i64 (-1)/\uM S rk T X S1 rk1))) (λa _=>if intOf a=-1 then 0 else L.length-L.idxOf (intOf a).toNat)
 case atStart=>exact⟨S,rk,HM0.out,ae.refl _ _,Α ⟨P,was,x,l,r,[],rfl,HLL.out.symm,MM.out⟩⟩
 case round=>
  obtain⟨S1,rk1,hM,hu,hor⟩:=hrel;rename World=>w5;rcases hor with⟨P1,P7,x1,l1,r1,dn,rfl,hLe,hMe⟩|⟨rfl,hE⟩
  ·have hxb:((x1:Int) != -1)=true:=σ;obtain⟨p1,p2,p3,p4,p5⟩:=hMe.parts HX.out;have hx1:=Zj.out x1 p1;have h2:=hM.h2;have d0:=hM.ranks.cell x1 hx1;have ex:=hMe.rx;rw[ex] at d0;have hT1:=((fq _ _).1 hMe.zG).1;have ks:=rX hM (p:=DY P1) hT1 hMe.rl hMe.rr p2 (λy hy=>Zj.out y (p3 y hy));have ME:=χ hMe;have HLe:=χ hLe;have hu1:S1.u x1=DY P1:=hT1.2.1;have HPU:=χ hu1;clear hMe p1 p2 p3 p4 p5 hT1 hM ex hLe hu1
   go_wp2_with fail
   refine ks.mono ?_;rintro e w7 ⟨rfl,kS,S3,Vo,JR,VE,WH,hs7,hsu,YP⟩;have e7:Vo x1=(aB x1 l1 r1).rank:=by
    have:=WH.root (by unfold aB;split<;>simp);rw[jB] at this;simpa using this
   have g2:=JR.h2;have g1:=JR.h1;have d7:=JR.ranks.cell x1 hx1;rw[e7] at d7;have hsu2:S3.u x1=DY P1:=hsu.trans HPU.out;have ku:=Ve B.bt B.ba A.cs.length S3 (x1:Int) w7 JR.trees;rw[show pQ A.cs.length S3 (x1:Int)=DY P1 by unfold pQ;rw[Δ ω];simpa using hsu2] at ku;have HM7:=χ JR;have zT:=χ (ψ VE (ψ WH (ψ hs7 YP)));have HU7:=χ (hu.trans kS);have M9:∃k3,(aB x1 l1 r1).rank=k3:=⟨_,rfl⟩;obtain⟨k3,M9⟩:=M9;rw[M9] at d7;have HRK:=χ M9;clear JR VE WH hs7 YP hu kS hsu hsu2 e7 ks h2 d0 M9 HPU
   by_cases he:k3=P7
   ·have hb:((k3:Int) == (P7:Int))=true:=by rw[he];simp
    go_wp2;exact bodyPost_ret (v:=.tuple #[]) (by simp[results,results235,go_sem]) rfl ⟨rfl,HU7.out,S3,Vo,HM7.out,ME.out.stay HX.out zT.out.1 zT.out.2.1 zT.out.2.2.1 zT.out.2.2.2 (HRK.out.trans he)⟩
   ·have hb:((k3:Int) == (P7:Int))=false:=ζ;have HNE:=χ (show(aB x1 l1 r1).rank≠P7 from λe=>he (HRK.out.symm.trans e));generalize hz:DY P1=z at *;clear he
    go_wp2_with (first
     |(go_at_call 240;(with_reducible refine(ku).mono ?_);rintro e w8 ⟨rfl,kk,rfl⟩)
     |(go_at_call 237;(with_reducible refine aT (nZ _ _) ?_))
     | fail)
    cases P1 with
    |nil=>
     subst hz;refine⟨⟨S3,Vo,HM7.out.ag ((ae.refl _ _).drewN kk),HU7.out.drewN kk,Β ⟨rfl,ME.out.top HX.out zT.out.1 zT.out.2.1 zT.out.2.2.1 zT.out.2.2.2⟩⟩,?_⟩;have hi:=Mg HL.out HLe.out
     show(if((-1:Int))=-1 then 0 else _)<(if((x1:Int))=-1 then 0 else L.length-L.idxOf ((x1:Int)).toNat)
     rw[Δ rfl,Γ ω,π,hi.1];omega
    |cons f P2=>
     subst hz;obtain⟨l2,r2,hM2⟩:=ME.out.up HX.out zT.out.1 zT.out.2.1 zT.out.2.2.1 zT.out.2.2.2 HNE.out;refine⟨⟨S3,Vo,HM7.out.ag ((ae.refl _ _).drewN kk),HU7.out.drewN kk,Α ⟨P2,_,f.1,l2,r2,dn++[x1],rfl,by rw[HLe.out];simp,hM2⟩⟩,?_⟩;have hi:=Mg HL.out HLe.out;have hi2:=Mg (done:=dn++[x1]) (x:=f.1) (rest:=P2.map (·.1)) HL.out (by rw[HLe.out];simp)
     show(if((f.1:Int))=-1 then 0 else L.length-L.idxOf ((f.1:Int)).toNat)<(if((x1:Int))=-1 then 0 else L.length-L.idxOf ((x1:Int)).toNat)
     rw[Γ ω,Γ ω,π,π,hi.1,hi2.1];rw[υ,List.length_singleton] at hi2 ⊢;omega
  ·go_wp2
   (first|go_end0|go_ret)
   exact⟨rfl,hu,S1,rk1,hM,hE⟩
end
def lC(w:World)(B:LB)(F:List Nat)(gt ct:Nat)(A:NS)(st:Nat)(tr:Nat->BT):Prop:=
 ∃S rk ai,lG w B F gt ct A st S rk ai/\TrI A S ai tr/\(∀h,Lean (tr h))/\(∀h,gu rk (tr h))
theorem lC.upd{w w':World}{B:LB}{F:List Nat}{gt ct:Nat}{A:NS}{st:Nat}{tr:Nat->BT}{G:List Nat}(h:lC w B F gt ct A st tr)(hu:ae G w w')(hG:∀x,x∈G->x∉B.blk F gt):lC w' B F gt ct A st tr:=by
 obtain⟨S,rk,ai,hM,h1,h2,h3⟩:=h;exact⟨S,rk,ai,hM.upd hu hG,h1,h2,h3⟩
theorem lC.ag{w w':World}{B:LB}{F:List Nat}{gt ct:Nat}{A:NS}{st:Nat}{tr:Nat->BT}(h:lC w B F gt ct A st tr)(hu:ae [] w w'):lC w' B F gt ct A st tr:=h.upd hu σ
section
variable{w:World}{B:LB}{F:List Nat}{gt ct:Nat}{A:NS}{st:Nat}{tr:Nat->BT}
theorem Jz(h:lC w B F gt ct A st tr)(hh x:Nat)(k s:Int)(hk:-9223372036854775808<=k/\k<=9223372036854775807/\0<=s/\s<=18446744073709551615)(hB:rG A hh x=true) :
  Calls prog 230 #[.pointer (some ⟨B.n0,0,none⟩),.int .i64 (hh:Int),.int .i64 (x:Int),.agg #[.int .i64 k,.int .u64 s]] w λe w'=>e=.returned (.bool true)/\ae (B.blk F gt) w w'/\
   lC w' B F gt ct (aO A hh x k s) (cK st (aH aB (aO A hh x k s) (tr hh) (single x)).2) (λq=>if q=hh then(aH aB (aO A hh x k s) (tr hh) (single x)).1 else tr q):=by
 obtain⟨S,rk,ai,hM,hI,hL,hR⟩:=h;have hlt:=hM.lt;have ok:=hM.cells.ok;obtain⟨b1,b2,b3⟩:=(fP _ _ _).1 hB;have b4:=(aC _ _).1 b1;have hx:x<A.cs.length:=by have:=(ic _ _).1 b2;omega
 have QX:(A.c x).i=0:=by
  have:=(ok.nat x hx).1;have h3:¬(0<(A.c x).i):=λh'=>by rw[(aj A x).2 ⟨hx,h'⟩] at b3;cases b3
  omega
 have hcs:(aO A hh x k s).cs.length=A.cs.length:=by unfold aO;rw[Δ hB,fO]
 have jd:(aO A hh x k s).hs.length=A.hs.length:=by unfold aO;rw[Δ hB];rfl
 have hcx:∀y,(aO A hh x k s).c y=if y=x then⟨hh,k,s⟩ else A.c y:=λy=>by
  unfold aO;rw[Δ hB,π,lg]
  by_cases e:y=x
  ·rw[Δ ⟨e,hx⟩,Δ e]
  ·rw[Γ (λh=>e h.1),Γ e]
 have wM:x∉(tr hh).nodes:=hI.out QX;have hX:((tr hh).nodes++(single x).nodes).Nodup:=by
  rw[θ];refine⟨hI.nd hh,by simp[single,BT.nodes],λa ha b hb e=>?_⟩;simp only[single,BT.nodes,Υ,ϓ] at hb;exact wM (by rw[←hb,←e];exact ha)
 have hin:∀y,y∈(tr hh).nodes++(single x).nodes->bY (aO A hh x k s) (y:Int)=true:=λy hy=>by
  rw[aj,hcs,hcx];simp only[single,BT.nodes,Υ,τ,ϓ] at hy
  by_cases e:y=x
  ·rw[Δ e,e];exact⟨hx,by show(0:Int)<(hh:Int);omega⟩
  ·rw[Γ e];have:=(hI.mem hh y).1 (hy.resolve_right e);exact⟨this.2.1,ω⟩
 have Yy:Heap (aO A hh x k s) (tr hh):=(hI.heap hh).frame (λy hy=>by rw[hcx,Γ (λe=>wM (by rw[←e];exact hy))]);obtain⟨mp,mh⟩:=jO mq (aO A hh x k s) _ (tr hh) (single x) (Θ _);have Qz:=mh Yy ⟨by simp[BT.nodes],by simp[BT.nodes],trivial,trivial⟩ hX;have ml:=r9 (aO A hh x k s) _ (tr hh) (single x) (Θ _) (hL hh) ⟨Θ _,trivial,trivial⟩;have hfr:=hI.free x hx QX
 have FI:Hid (∀ (W:World) (S':TS) (mV:Nat->Nat) (st':Nat),lG W B F gt ct (aO A hh x k s) st' S' mV (ai.set hh (aH aB (aO A hh x k s) (tr hh) (single x)).1.root)->dL S' (-1) (aH aB (aO A hh x k s) (tr hh) (single x)).1.root (aH aB (aO A hh x k s) (tr hh) (single x)).1->gu mV (aH aB (aO A hh x k s) (tr hh) (single x)).1->
   (∀y,y∉(tr hh).nodes++(single x).nodes->S.at S' y/\mV y=rk y)->lC W B F gt ct (aO A hh x k s) st' (λq=>if q=hh then (aH aB (aO A hh x k s) (tr hh) (single x)).1 else tr q)):=λW S' mV st' a1 a2 a3 a4=>by
  refine⟨S',mV,_,a1,hI.put ok hM.iJ hB a2 mp Qz (λy hy=>(a4 y hy).1),λq=>?_,λq=>?_⟩
  ·show Lean (if q=hh then _ else _)
   split
   ·exact ml
   ·exact hL q
  ·show gu mV (if q=hh then _ else _)
   split
   ·exact a3
   ·rename_i hq
    refine(hR q).frame (λy hy=>(a4 y (λhm=>?_)).2);simp only[single,BT.nodes,Υ,τ,ϓ] at hm;rcases hm with hm|hm
    ·have c1:=(hI.mem hh y).1 hm;have c2:=(hI.mem q y).1 hy;omega
    ·exact hI.out (g:=q) QX (by rw[←hm];exact hy)
 have YF:=hI.zG hh;have hRh:=hR hh;have htop:=hI.top hh ω;have hgn:hh<ai.length:=by rw[hM.iJ];omega
 have u1:ae [] w (w.alloc (.cells #[.int .i64 k,.int .u64 s] 97)):=(ae.refl _ _).alloc _;have kp:=λW (hW:ae [] (w.alloc (.cells #[.int .i64 k,.int .u64 s] 97)) W)=>og (hM.cells.ag (u1.trans hW)) hh x k s hk hB;have h0:=hM.h0;have wN:B.n0∉F:=hM.bS.1;have hsz:w.heap.size∉F:=λhm=>by have:=hlt w.heap.size (by simp[LB.blk,hm]);omega
 have r0:∀W,ae F (w.alloc (.cells #[.int .i64 k,.int .u64 s] 97)) W->W.cell? ⟨B.n0,0,none⟩=some (.pointer (some ⟨B.c,0,none⟩)):=λW hW=>hW.kept (u1.was h0) wN;have r1:∀W,ae F (w.alloc (.cells #[.int .i64 k,.int .u64 s] 97)) W->W.cell? ⟨w.heap.size,0,none⟩=some (.int .i64 k):=λW h=>h.kept σ hsz;have r2:∀W,ae F (w.alloc (.cells #[.int .i64 k,.int .u64 s] 97)) W->W.cell? ⟨w.heap.size,1,none⟩=some (.int .u64 s):=λW h=>h.kept σ hsz;have HM:=χ hM;have HH:=χ (ψ hX (ψ hin (ψ YF (ψ hRh hfr))));have Xo:=χ (ψ hM.sep hM.bS);have HXN:=χ wM
 clear hM hI hL hR ok b1 b2 b3 QX hcx wM hX hin Yy mp mh Qz ml hfr h0 hlt YF hRh;generalize hA':aO A hh x k s=A' at *;generalize htr:tr hh=th at *
 go_enter func230,ntmps230
 go_wp2
 go_region_held3 (ae F (w.alloc (.cells #[.int .i64 k,.int .u64 s] 97))) (exact ν)
  ((go_at_call 138;(with_reducible refine(kp _ β).mono ?_);rintro e w1 ⟨rfl,gG,hu1⟩;(have hu2:ae F (w.alloc (.cells #[.int .i64 k,.int .u64 s] 97)) w1:=ν)))
 have uF:ae F w (w.alloc (.cells #[.int .i64 k,.int .u64 s] 97)):=u1.mono σ;have hM1:=HM.out.cB (uF.trans hu2) gG (λy hy=>Α hy) hcs jd;have h2:=hM1.h2;have dR:=hM1.ranks.cell x (by rw[hcs];exact hx);have fR:=hM1.ranks.free x;have hw1:ae F w w1:=uF.trans hu2;have jJ:=χ hM1;clear r0 r1 r2 kp hu1 hu2 gG hM1 uF;rw[hcs] at h2;go_wp2;obtain⟨w2,hw2⟩:∃w2,w2=w1.setCell ⟨B.br,x,none⟩ (.int .i64 1):=⟨_,rfl⟩;have u2:ae [B.br] w1 w2:=by rw[hw2];exact β
 have hM2:lG w2 B F gt ct A' st S (λy=>if y=x then 1 else rk y) ai:=by rw[hw2];exact jJ.out.cO x 1
 rw[←hw2];clear hw2 jJ h2 dR fR;have km:=λW (hW:ae [] w2 W)=>q9 (hM2.ag hW) HH.out.2.2.1 (wH HH.out.2.2.2.2) HH.out.1 HH.out.2.1 (HH.out.2.2.2.1.frame (λy hy=>Γ (λe=>HXN.out (by rw[←e];exact hy)))) ⟨by simp[BT.rank],trivial,trivial⟩;rw[show(single x).root=(x:Int) from rfl] at km;have d4:=hM2.iG.cell hh hgn;rw[htop] at d4;have f4:=hM2.iG.free hh;have h3:=hM2.h3;have wJ:B.n0∉[B.c,B.ba,B.br,gt]:=by
  have a1:=Xo.out;have a2:B.n0≠B.c:=λe=>a1.2.1 (by rw[e];exact HM.out.cF);simp;omega
 have hgc:gt∉[B.c,B.ba,B.br]:=by
  have a1:=Xo.out;have a2:gt≠B.c:=λe=>a1.2.2.2.2.2 (by rw[e];exact HM.out.cF);simp;omega
 have r3:∀W,ae [B.c,B.ba,B.br,gt] w2 W->W.cell? ⟨B.n0,3,none⟩=some (.slice (some ⟨gt,0,none⟩) ai.length ct):=λW hW=>hW.kept h3 wJ;have r4:∀W,ae [B.c,B.ba,B.br] w2 W->W.cell? ⟨gt,hh,none⟩=some (.int .i64 th.root)/\W.frozen? ⟨gt,hh,none⟩=false:=λW hW=>⟨hW.kept d4 hgc,hW.aM d4 hgc f4⟩
 have BF:(0:Int)<=(hh:Int):=ω;have CB:(hh:Int)<(ai.length:Int):=ω;generalize hmt:(aH aB A' th (single x)).1=mt at *;generalize hmk:(aH aB A' th (single x)).2=mk at *;clear hM2 f4 h3;have q3:=r3 _ (ae.refl _ _)
 go_region_law
  (first
   | (go_simp;go_at_call 236;(with_reducible refine (km _ β).mono ?_);rintro e w5 ⟨rfl,pW,S5,VB,vQ,CZ,LA,hs5⟩;(have bW:ae [B.c,B.ba,B.br] w2 w5:=ae.trans β pW);(have iX:ae [B.c,B.ba,B.br,gt] w2 w5:=bW.mono σ);obtain ⟨d5,f5⟩:=r4 _ bW))
 all_goals
  go_wp2;go_ret;have oC:=HM.out.cF;have v1:ae (B.blk F gt) w w1:=hw1.mono (λy hy=>by simp only[LB.blk,ρ];simp[hy]);have v2:ae (B.blk F gt) w w2:=v1.trans (u2.mono (λy hy=>by simp at hy;simp[LB.blk,hy]))
  have v3:ae (B.blk F gt) w w5:=v2.trans (bW.mono (λy hy=>by
   simp only[ρ,ς,or_false] at hy;simp only[LB.blk,ρ];rcases hy with rfl|rfl|rfl
   ·simp[oC]
   ·simp
   ·simp))
  subst hmt hmk;refine⟨rfl,v3.setCell (Α (by simp[LB.blk])) _,FI.out _ S5 VB _ (vQ.mg hh _) CZ LA (λy hy=>⟨(hs5 y hy).1,?_⟩)⟩;rw[(hs5 y hy).2,Γ (λe=>hy (by rw[e];simp[single,BT.nodes]))]
end
theorem U4(n j:Nat)(hj:j<n):(madeCells #[Value.int .i64 0] (n*1)).toList.getD j undef=.int .i64 0:=by
 rw[φ,ε (by simp[madeCells];omega)];simp[madeCells,Nat.mod_one]
theorem RL(n:Nat)(w:World)(h:n<=65536) :
  Calls prog 66 #[.int .i64 (n:Int)] w λe w'=>∃B F gt,e=.returned (.tuple #[.pointer (some ⟨B.n0,0,none⟩),.int .i64 0])/\lC w' B F gt 1 (NS.new n) 0 (λ_=>.nil)/\ae [] w w'/\∀x,x∈B.blk F gt->w.heap.size<=x:=by
 go_enter func66,ntmps66
 go_wp2_with (first
  |((go_at_call 84;(with_reducible refine(oH n _ h).mono ?_));rintro e w1 ⟨c,F,rfl,hC,hu1,hF⟩)
  |((go_at_call 89;(with_reducible refine(wS n _ h).mono ?_));rintro e w2 ⟨bt,ba,rfl,hT,hu2,hb1,hb2⟩)
  | (at_make;refine wpList_make_row rfl _ 77 rfl 3 (.int .i64 0) 1 8 underlying77 gI n rfl ω μ ?_;intro w3 hr3 hu3))
 go_ret2;have hcs:(NS.new n).cs.length=n:=by simp[NS.new]
 have l1:=hu1.size;have l2:=hu2.size;have l4:=hr3.lt;have l5:=hT.head.lt;have l6:=hT.row.lt;have l7:=hC.lt;have e3:((w3.alloc (.cells #[.int .i64 (-1)] 3)).heap.size)=w3.heap.size+1:=by rw[Κ]
 have hv:ae [] w3 (w3.alloc (.cells #[.int .i64 (-1)] 3)):=(ae.refl _ _).alloc _;have hw:ae [] w3 ((w3.alloc (.cells #[.int .i64 (-1)] 3)).alloc (.cells #[.pointer (some ⟨c,0,none⟩),.pointer (some ⟨bt,0,none⟩),.slice (some ⟨w2.heap.size,0,none⟩) n n,.slice (some ⟨w3.heap.size,0,none⟩) 1 1] 204)):=hv.alloc _;have hh:=eZ (w3.alloc (.cells #[.int .i64 (-1)] 3)) [.pointer (some ⟨c,0,none⟩),.pointer (some ⟨bt,0,none⟩),.slice (some ⟨w2.heap.size,0,none⟩) n n,.slice (some ⟨w3.heap.size,0,none⟩) 1 1] 204;rw[e3] at hh
 have hi:IZ (w3.alloc (.cells #[.int .i64 (-1)] 3)) w3.heap.size 1 [-1]:=IZ.lit w3 [-1] σ;have hF':∀x,x∈F->x<w1.heap.size:=l7;have hnF:∀x,w1.heap.size<=x->x∉F:=λx hx hm=>by have:=hF' x hm;omega
 refine⟨⟨w3.heap.size+1,c,bt,ba,w2.heap.size⟩,F,w3.heap.size,rfl,⟨TS.none,λ_=>0,[-1],⟨by rw[hcs];exact hh,((hC.ag hu2).ag hu3).ag hw,by rw[hcs];exact(hT.upd hu3 σ σ).upd hw σ σ,?_,hi.upd ((ae.refl [] _).alloc _) σ,rfl,⟨hnF _ (by first|omega|(simp only;omega)),hnF _ (by first|omega|(simp only;omega)),hnF _ (by first|omega|(simp only;omega)),hnF _ (by first|omega|(simp only;omega)),hnF _ (by first|omega|(simp only;omega))⟩,⟨⟨by simp only;omega,by simp only;omega,by simp only;omega,by simp only;omega⟩,by simp only;omega,by simp only;omega,by simp only;omega,by simp only;omega,by simp only;omega⟩⟩,Gi n,λ_=>trivial,λ_=>trivial⟩,((hu1.trans hu2).trans hu3).trans hw,λx hx=>?_⟩
 ·rw[hcs];have:=hr3.upd hw σ;rw[Nat.mul_one] at this;refine this.ext (λj hj=>?_);have hz:(Value.int .i64 0).cells=#[.int .i64 0]:=rfl;have e:=U4 n j hj;rw[Nat.mul_one] at e;rw[hz,e];rfl
 ·simp only[LB.blk,ρ] at hx;rcases hx with rfl|rfl|rfl|rfl|rfl|hx
  ·omega
  ·omega
  ·omega
  ·omega
  ·omega
  ·exact hF x hx
section
variable{w:World}{B:LB}{F:List Nat}{gt ct:Nat}{A:NS}{st:Nat}{tr:Nat->BT}
theorem Tv(h:lC w B F gt ct A st tr)(hl:65536<A.hs.length) :
  Calls prog 231 #[.pointer (some ⟨B.n0,0,none⟩)] w λe w'=>e=.returned (.int .i64 0)/\Goes (B.blk F gt) w w' (λF'=>∃F1,F'=B.blk F1 gt/\lC w' B F1 gt ct A st tr):=by
 obtain⟨S,rk,ai,hM,hI⟩:=h;have k:=iP hM.cells;have e1:dJ A=0:=by unfold dJ;rw[Δ hl]
 have e2:aU A=A:=by unfold aU;rw[Δ hl]
 rw[e1,e2] at k;have h0:=hM.h0;have HM:=χ hM;have HI:=χ hI;clear hM hI e1 e2
 go_enter func231,ntmps231
 go_wp2_with (first|((go_at_call 140;(with_reducible refine(k).mono ?_));rintro e w1 ⟨rfl,F1,hC,hu,hF⟩))
 go_ret
 exact ⟨rfl,B.blk F1 gt,⟨F1,rfl,S,rk,ai,HM.out.cB hu hC hF rfl rfl,HI.out⟩,hu.mono (λy hy=>by simp [LB.blk,hy]),λx hx=>by
  simp only[LB.blk,ρ] at hx ⊢;rcases hx with rfl|rfl|rfl|rfl|rfl|hx
  ·simp
  ·simp
  ·simp
  ·simp
  ·simp
  ·rcases hF x hx with h|h
   ·simp[h]
   ·exact Β h⟩
theorem P8(h:lC w B F gt ct A st tr)(hl:¬65536<A.hs.length) :
  Calls prog 231 #[.pointer (some ⟨B.n0,0,none⟩)] w λe w'=>e=.returned (.int .i64 (A.hs.length:Int))/\Goes (B.blk F gt) w w' (λF'=>∃F1 pX H8,F'=B.blk F1 pX/\lC w' B F1 pX H8 (aU A) st tr):=by
 obtain⟨S,rk,ai,hM,hI,hL,hR⟩:=h;have k:=iP hM.cells;have e1:dJ A=A.hs.length:=by unfold dJ;rw[Γ hl]
 rw[e1] at k;have hcs:(aU A).cs.length=A.cs.length:=by unfold aU;rw[Γ hl]
 have jd:(aU A).hs.length=A.hs.length+1:=by unfold aU;rw[Γ hl];simp
 have hI2:=hI.make hM.cells.ok hM.iJ hl;have h0:=hM.h0;have hh0:=hM.cells.ok.h0;have HTN:=χ hM.iJ;have htb:ai.length<=65536:=by rw[hM.iJ];omega
 have HM:=χ hM;have HI:=χ (ψ hI2 (ψ hL hR));clear hM hI hL hR e1 hI2
 go_enter func231,ntmps231
 go_wp2_with (first
  |((go_at_call 140;(with_reducible refine(k).mono ?_));rintro e w1 ⟨rfl,F1,hC,hu,hF⟩;(have d3:=hu.kept HM.out.h3 HM.out.bS.1);(have f3:=hu.aM HM.out.h3 HM.out.bS.1 (HM.out.head.free 3));(have ho1:=(HM.out.iG.upd hu HM.out.bS.2.2.2.2).own);(have g0:B.n0≠gt:=HM.out.sep.1.2.2.2);(have gl:=(HM.out.iG.upd hu HM.out.bS.2.2.2.2).lt))
  | ((at_builtin;refine bI rfl _ _ 77 rfl 0 3 (.int .i64 0) 1 8 underlying77 gI rfl δ _ _ _ rfl (ho1) [.int .i64 (-1)] rfl (by simp [Value.oneCell']) (by first|rfl|(rw [Κ];rfl)) μ ω (ω) ?_;intro v2 w2 ho2 hu2 nC);(have hu2:ae [gt] w1 w2:=hu2);obtain ⟨pX,H8,ev,hI2, -⟩:=IZ.iA (l:=ai++[-1]) (by rw [dO,υ];exact ho2) σ;rw [υ,List.length_singleton] at ev;subst ev;(have d4:=hu2.kept d3 ζ);(have f4:=hu2.aM d3 ζ f3)))
 go_ret;have hM:=HM.out;have hlt:=hM.lt;have f:=hM.bS;have q:=hM.sep;have hw3:ae [B.n0] w2 (w2.setCell ⟨B.n0,3,none⟩ (.slice (some ⟨pX,0,none⟩) (ai.length+1) H8)):=β;have hg1:pX=gt\/w1.heap.size<pX:=by
  rcases nC with h|h
  ·exact Α (Option.some.inj h)
  ·exact Β (h pX rfl)
 have hws:=hu.size;have gG:=hC.lt;have l0:=hlt B.n0 (by simp[LB.blk]);have l1:=hlt B.bt (by simp[LB.blk]);have l2:=hlt B.ba (by simp[LB.blk]);have l3:=hlt B.br (by simp[LB.blk]);have l4:=hlt gt (by simp[LB.blk]);have hnF:∀y,y<w.heap.size->y∉F->y∉F1:=λy hy hn hm=>by rcases hF y hm with h'|h';exact hn h';omega
 have wy:pX∉F1:=by
  rcases hg1 with e|e
  ·rw[e];exact hnF gt l4 f.2.2.2.2
  ·exact λhm=>by have:=gG pX hm;omega
 have hb:w.heap.size<=pX\/pX=gt:=ω;have hhd:=((hM.head.upd hu f.1).upd hu2 ζ).set 3 (.slice (some ⟨pX,0,none⟩) (ai.length+1) H8);refine⟨rfl,B.blk F1 pX,⟨F1,pX,H8,rfl,S,rk,ai++[-1],⟨?_,?_,?_,?_,hI2.upd hw3 ζ,?_,⟨hnF _ l0 f.1,hnF _ l1 f.2.1,hnF _ l2 f.2.2.1,hnF _ l3 f.2.2.2.1,wy⟩,⟨⟨q.1.1,q.1.2.1,q.1.2.2.1,ω⟩,q.2.1,ω,q.2.2.2.1,ω,ω⟩⟩,HI.out⟩,?_,λy hy=>?_⟩
 ·rw[hcs,υ,List.length_singleton];refine hhd.ext (λj hj=>?_);rcases(ω:j=0\/j=1\/j=2\/j=3) with rfl|rfl|rfl|rfl<;>rfl
 ·exact(hC.upd hu2 (λy hy=>by simp at hy;rw[hy];exact hnF gt l4 f.2.2.2.2)).upd hw3 (λy hy=>by simp at hy;rw[hy];exact hnF _ l0 f.1)
 ·rw[hcs];exact((hM.trees.upd hu f.2.1 f.2.2.1).upd hu2 ζ ζ).upd hw3 ζ ζ
 ·rw[hcs];exact((hM.ranks.upd hu f.2.2.2.1).upd hu2 ζ).upd hw3 ζ
 ·rw[υ,List.length_singleton,jd,HTN.out]
 ·have u1:ae (B.blk F gt) w w1:=hu.mono (λy hy=>by simp[LB.blk,hy]);exact(u1.trans (hu2.mono (λy hy=>by simp at hy;simp[LB.blk,hy]))).trans (hw3.mono (λy hy=>by simp at hy;simp[LB.blk,hy]))
 ·simp only[LB.blk,ρ] at hy ⊢;rcases hy with rfl|rfl|rfl|rfl|rfl|hy
  ·simp
  ·simp
  ·simp
  ·simp
  ·rcases hb with h|h
   ·exact Β h
   ·exact Α (by simp[h])
  ·rcases hF y hy with h|h
   ·simp[h]
   ·exact Β h
end
theorem vN.first{A:NS}{S:TS}{ai:List Int}{tr:Nat->BT}(h:TrI A S ai tr){g:Nat}(hg:0<dD A g):∃m:Nat,(tr g).root=m/\dN A g=some m:=by
 obtain⟨x,hx,hi,h0⟩:=fM.1 hg;have hxm:x∈(tr g).nodes:=(h.mem g x).2 ⟨ω,hx,hi⟩;cases ht:tr g with
 |nil=>rw[ht] at hxm;cases hxm
 |node m l r=>
  have hm:=(h.mem g m).1 (by rw[ht];simp[BT.nodes]);have hH:=h.heap g;rw[ht] at hH;refine⟨m,rfl,(iY h0).2 ⟨hm.2.1,hm.2.2,λy hy hyi=>?_⟩⟩;have hym:=(h.mem g y).2 ⟨ω,hy,hyi⟩;rw[ht] at hym;simp only[BT.nodes,ρ,τ] at hym;rcases hym with e|e|e
  ·exact Α e
  ·exact Β (hH.1 y e)
  ·exact Β (hH.2.1 y e)
section
variable{w:World}{B:LB}{F:List Nat}{gt ct:Nat}{A:NS}{st:Nat}{tr:Nat->BT}
theorem Pv(h:lC w B F gt ct A st tr)(x:Int)(hx:-9223372036854775808<=x/\x<=9223372036854775807)(hn:dD A x=0) :
  Calls prog 233 #[.pointer (some ⟨B.n0,0,none⟩),.int .i64 x] w λe w'=>e=.returned (.tuple #[.int .i64 0,.bool false])/\w'=w:=by
 obtain⟨S,rk,ai,hM, -, -, -⟩:=h;have k:=iT hM.cells x hx;rw[hn] at k;have h0:=hM.h0;clear hM hn
 go_enter func233,ntmps233
 go_wp2_with (first|(go_at_call 126;(with_reducible refine aT (k) ?_)))
 go_ret2;exact⟨rfl,rfl⟩
theorem Eb(h:lC w B F gt ct A st tr)(g:Nat)(hn:0<dD A g) :
  Calls prog 233 #[.pointer (some ⟨B.n0,0,none⟩),.int .i64 (g:Int)] w λe w'=>∃m:Nat,dN A g=some m/\(tr g).root=m/\e=.returned (.tuple #[.int .i64 (m:Int),.bool true])/\w'=w:=by
 obtain⟨S,rk,ai,hM,hI, -, -⟩:=h;obtain⟨m,hm,hf⟩:=hI.first hn;obtain⟨x,hx,hi,h0⟩:=fM.1 hn;have ok:=hM.cells.ok;have hgl:g<A.hs.length:=by have:=(ok.nat x hx).2;omega
 have hAh:=ok.h1;have k:=iT hM.cells (g:Int) ω;have hh0:=hM.h0;have h3:=hM.h3;have d:=hM.iG.cell g (by rw[hM.iJ];exact hgl);rw[hI.top g hgl,hm] at d;have htl:g<ai.length:=by rw[hM.iJ];exact hgl
 generalize hl:dD A (g:Int)=n at *;have hb:((n:Int) == 0)=false:=ζ;have HF:=χ (ψ hf hm);clear hM hI hm hf hx hi h0 ok hl
 go_enter func233,ntmps233
 go_wp2_with (first|(go_at_call 126;(with_reducible refine aT (k) ?_)))
 go_ret2;exact⟨m,HF.out.1,HF.out.2,rfl,rfl⟩
end
theorem aI{P:List Fr}{t:BT}{y:Nat}:y∈(au P t).nodes↔y∈t.nodes\/y∈eH P:=by
 rw[(aW P t).mem_iff,τ]
def cutV(f:Fr)(t:BT):Int:=if t.root=-1 then 0 else(f.1:Int)
section
variable{w:World}{bt ba n:Nat}{S:TS}
theorem nV(h:bL w bt ba n S){f:Fr}{P:List Fr}{t:BT}(hT:dL S (-1) (au (f::P) t).root (au (f::P) t))(hn:(au (f::P) t).nodes.Nodup)(hlt:∀y,y∈(au (f::P) t).nodes->y<n) :
  Calls prog 234 #[.pointer (some ⟨bt,0,none⟩),.int .i64 t.root] w λe w'=>e=.returned (.tuple #[.int .i64 (cutV f t),.bool (tb t.root)])/\ae [ba] w w'/\
   ∃S',bL w' bt ba n S'/\dL S' (-1) t.root t/\dL S' (-1) (au (f::P) .nil).root (au (f::P) .nil)/\∀y,y∉(au (f::P) t).nodes->S.at S' y:=by
 by_cases ht:t=.nil
 ·subst ht;refine(Fs bt ba n S (-1) w h (by unfold pQ;simp)).mono ?_;rintro e w' ⟨rfl,rfl⟩;exact⟨by simp[cutV,BT.root,tb],ae.refl _ _,S,h,rfl,hT,λy _=>⟨rfl,rfl,rfl⟩⟩
 ·obtain⟨c1,c2,c3⟩:=Uo hT ht hn;obtain⟨m1,m2⟩:=cz ht;have hp:=(fq _ _).1 hT;have hu:S.u t.root.toNat=(f.1:Int):=by
   cases t with
   |nil=>exact absurd rfl ht
   |node y a b=>exact hp.1.2.1
  have hf:f.1<n:=hlt _ (aI.2 (Β (by simp[eH])));have hr:t.root.toNat<n:=hlt _ (aI.2 (Α m1));have hne:t.root≠-1:=ω;have k:=E5 bt ba n S f.1 t.root.toNat w h hf hr hu;rw[←m2] at k;refine k.mono ?_;rintro e w' ⟨rfl,h',hu'⟩;refine⟨by unfold cutV tb;rw[Γ hne];simp[hne],hu',_,h',c1,c2,λy hy=>c3 y (λe=>hy ?_) (λe=>hy ?_)⟩
  ·rw[e];exact aI.2 (Β (by simp[eH]))
  ·rw[e];exact aI.2 (Α m1)
theorem D6(h:bL w bt ba n S){f:Fr}{P:List Fr}{m:BT}(hT:dL S (-1) (au (f::P) .nil).root (au (f::P) .nil))(hM:dL S (-1) m.root m)(hm:m≠.nil)(hn:(m.nodes++eH (f::P)).Nodup)(hlt:∀y,y∈m.nodes++eH (f::P)->y<n) :
  Calls prog 241 #[.pointer (some ⟨bt,0,none⟩),.int .i64 (f.1:Int),.int .i64 m.root,.bool f.2.1] w λe w'=>e=.returned (.bool true)/\ae [ba] w w'/\
   ∃S',bL w' bt ba n S'/\dL S' (-1) (au (f::P) m).root (au (f::P) m)/\∀y,y∉m.nodes++eH (f::P)->S.at S' y:=by
 obtain⟨c1,c2⟩:=PQ hT hM hm hn;obtain⟨m1,m2⟩:=cz hm;have hp:=(fq _ _).1 hT;have hk:S.kid f.2.1 f.1=-1:=hp.2.1;have hu:S.u m.root.toNat=-1:=by
  cases m with
  |nil=>exact absurd rfl hm
  |node y a b=>exact hM.2.1
 have hf:f.1<n:=hlt _ (by simp[eH]);have hr:m.root.toNat<n:=hlt _ (by simp[m1]);have hne:f.1≠m.root.toNat:=λe=>by
  rw[θ] at hn;exact hn.2.2 _ m1 f.1 (by simp[eH]) e.symm
 have k:=Ae bt ba n S f.1 m.root.toNat f.2.1 w h hf hr hne hu hk;rw[←m2] at k;refine k.mono ?_;rintro e w' ⟨rfl,h',hu'⟩;refine⟨rfl,hu',_,h',c1,λy hy=>c2 y (λe=>hy ?_) (λe=>hy ?_)⟩
 ·rw[e];simp[eH]
 ·rw[e];simp[m1]
theorem NF(h:bL w bt ba n S){P:List Fr}{x:Nat}{l r:BT}(hT:dL S (-1) (au P (.node x l r)).root (au P (.node x l r)))(hx:x<n) :
  Calls prog 240 #[.pointer (some ⟨bt,0,none⟩),.int .i64 (x:Int)] w λe w'=>e=.returned (.tuple #[.int .i64 (tv (DY P)),.bool (tb (DY P))])/\∃k,w'=w.drewN k:=by
 have k:=Ve bt ba n S (x:Int) w h;have e:pQ n S (x:Int)=DY P:=by
  unfold pQ;rw[Δ ω,π];exact((fq _ _).1 hT).1.2.1
 rw[e] at k;exact k
theorem De(h:bL w bt ba n S){p:Int}{x:Nat}{l r:BT}(hT:dL S p x (.node x l r))(hx:x<n) :
  Calls prog 238 #[.pointer (some ⟨bt,0,none⟩),.int .i64 (x:Int)] w λe w'=>e=.returned (.tuple #[.int .i64 (tv l.root),.bool (tb l.root)])/\∃k,w'=w.drewN k:=by
 have e:gV n S (x:Int) false=l.root:=by
  unfold gV TS.kid;rw[Δ ω];simp only[π];exact hT.2.2.1.root
 have k:=Bc bt ba n S (x:Int) w h;rw[e] at k;exact k
theorem wB(h:bL w bt ba n S){p:Int}{x:Nat}{l r:BT}(hT:dL S p x (.node x l r))(hx:x<n) :
  Calls prog 239 #[.pointer (some ⟨bt,0,none⟩),.int .i64 (x:Int)] w λe w'=>e=.returned (.tuple #[.int .i64 (tv r.root),.bool (tb r.root)])/\∃k,w'=w.drewN k:=by
 have e:gV n S (x:Int) true=r.root:=by
  unfold gV TS.kid;rw[Δ ω];simp only[if_true,π];exact hT.2.2.2.root
 have k:=qJ bt ba n S (x:Int) w h;rw[e] at k;exact k
theorem Et(h:bL w bt ba n S){f:Fr}{P:List Fr}{x:Nat}{l r:BT}(hT:dL S (-1) (au (f::P) (.node x l r)).root (au (f::P) (.node x l r)))(hn:(au (f::P) (.node x l r)).nodes.Nodup)(hf:f.1<n) :
  ∃z:Int,(z == (x:Int))=f.2.1/\Calls prog 239 #[.pointer (some ⟨bt,0,none⟩),.int .i64 (f.1:Int)] w λe w'=>e=.returned (.tuple #[.int .i64 (tv z),.bool (tb z)])/\∃k,w'=w.drewN k:=by
 refine⟨S.r f.1,?_,?_⟩
 ·have hp:=(fq _ _).1 hT;obtain⟨q1,q2,_,_⟩:=hp.2;unfold TS.kid at q1 q2;cases hs:f.2.1
  ·rw[hs] at q1 q2;simp only[Bool.not_false,if_true] at q2;have e2:=q2.root;have hx:x∉f.2.2.nodes:=λhm=>by
    have h1:=(aW (f::P) (.node x l r)).nodup_iff.1 hn;rw[θ] at h1;exact h1.2.2 x (by simp[BT.nodes]) x (by simp[eH,hm]) rfl
   have:S.r f.1≠(x:Int):=λe=>by
    rw[e2] at e
    by_cases hnil:f.2.2=.nil
    ·rw[hnil] at e;have e:(-1:Int)=x:=e;omega
    ·have:=(cz hnil).1;rw[e] at this;exact hx this
   simpa using this
  ·rw[hs] at q1;simp only[if_true] at q1;rw[q1];simp[BT.root]
 ·have k:=qJ bt ba n S (f.1:Int) w h;have e:gV n S (f.1:Int) true=S.r f.1:=by unfold gV TS.kid;rw[Δ ω];simp
  rw[e] at k;exact k
end
def om:List Fr->BT->BT->BT
 | [],_,m=>m
 |f::P,old,m=>if f.2.1 then kK P (kX f old.rank) f.1 f.2.2 m else kK P (kX f old.rank) f.1 m f.2.2
theorem qA(f:Fr)(P:List Fr)(old m:BT):om (f::P) old m=if f.2.1 then kK P (kX f old.rank) f.1 f.2.2 m else kK P (kX f old.rank) f.1 m f.2.2:=rfl
theorem vw:∀(P:List Fr) (old m:BT),(om P old m).nodes.Perm (au P m).nodes
 | [],_,_=>ό _
 |f::P,old,m=>by
  rw[qA]
  show List.Perm _ (au P (bP f m)).nodes
  unfold bP
  split
  ·exact ru _ _ _ _ _
  ·exact ru _ _ _ _ _
theorem Jl(f:Fr)(P:List Fr)(old m:BT):(om (f::P) old m).root=(au (f::P) m).root:=by
 rw[qA]
 show _=(au P (bP f m)).root
 unfold bP
 split
 ·exact uD _ _ _ _ _
 ·exact uD _ _ _ _ _
theorem Jm{A:NS}:∀(P:List Fr) (old m:BT),Heap A (au P m)->Heap A (om P old m)
 | [],_,_,h=>h
 |f::P,old,m,h=>by
  have h1:Heap A (au P (bP f m)):=h;rw[qA];unfold bP at h1
  split at h1
  ·rename_i e;rw[Δ e];exact uL _ _ _ _ _ h1
  ·rename_i e;rw[Γ e];exact uL _ _ _ _ _ h1
theorem Ib:∀(P:List Fr) (old m:BT),Lean m->DT P old.rank->Lean (om P old m)
 | [],_,_,h,_=>h
 |f::P,old,m,h,hp=>by
  rw[qA]
  split
  ·exact uC _ _ _ _ _ hp.1 h hp.2.2
  ·exact uC _ _ _ _ _ h hp.1 hp.2.2
noncomputable def GN(A:NS)(t:BT)(x:Nat):BT×Nat:=
 (om (pathOf t x).1 (.node x (pathOf t x).2.1 (pathOf t x).2.2) (aH aB A (pathOf t x).2.1 (pathOf t x).2.2).1,(aH aB A (pathOf t x).2.1 (pathOf t x).2.2).2)
noncomputable def Vi(A':NS)(t:BT)(x:Nat):BT×Nat:=
 match(pathOf t x).1 with
 | []=>(t,0)
 |_::_=>aH aB A' (om (pathOf t x).1 (.node x (pathOf t x).2.1 (pathOf t x).2.2) .nil) (.node x (pathOf t x).2.1 (pathOf t x).2.2)
theorem rq{P:List Fr}{x:Nat}{l r:BT}(hn:(au P (.node x l r)).nodes.Nodup) :
  (x∉l.nodes/\x∉r.nodes/\x∉eH P)/\(l.nodes++r.nodes).Nodup/\(∀y,y∈l.nodes->y∉eH P)/\(∀y,y∈r.nodes->y∉eH P)/\(eH P).Nodup:=by
 have h:=(aW P (.node x l r)).nodup_iff.1 hn;rw[θ] at h;obtain⟨h1,h2,h3⟩:=h;simp only[BT.nodes,Ζ,τ,not_or] at h1;exact⟨⟨h1.1.1,h1.1.2,λhm=>h3 x (by simp[BT.nodes]) x hm rfl⟩,h1.2,λy hy hm=>h3 y (by simp[BT.nodes,hy]) y hm rfl,λy hy hm=>h3 y (by simp[BT.nodes,hy]) y hm rfl,h2⟩
theorem IK{up:Nat->BT->BT->BT}(U:Vl up){A:NS}{P:List Fr}{x:Nat}{l r:BT}(hn:(au P (.node x l r)).nodes.Nodup)(hH:Heap A (au P (.node x l r))) :
  (x::(au P (aH up A l r).1).nodes).Perm (au P (.node x l r)).nodes/\Heap A (au P (aH up A l r).1)/\(aH up A l r).1.nodes.Perm (l.nodes++r.nodes):=by
 obtain⟨mp,mh⟩:=jO U A _ l r (Θ _);have h1:=rq hn;have hs:=uu hH;have Qz:=mh hs.2.2.1 hs.2.2.2 h1.2.1;refine⟨?_,vB hH Qz (λy hy=>?_),mp⟩
 ·refine((((aW P _).trans (mp.append_right _)).cons x)).trans ?_;exact(aW P (.node x l r)).symm
 ·have:=mp.mem_iff.1 hy;simp only[BT.nodes,ρ];exact Β this
section
variable{w:World}{B:LB}{F:List Nat}{gt ct:Nat}{A:NS}{st:Nat}{S:TS}{rk:Nat->Nat}{ai:List Int}
theorem Ai(h:lG w B F gt ct A st S rk ai){f:Fr}{P:List Fr}{old m:BT}(hT:dL S (-1) (au (f::P) m).root (au (f::P) m))(hm:gu rk m)(hP:UG rk (f::P) old.rank)(hX:(au (f::P) m).nodes.Nodup)
  (hlt:∀y,y∈(au (f::P) m).nodes->y<A.cs.length) :
  Calls prog 235 #[.pointer (some ⟨B.n0,0,none⟩),.int .i64 (f.1:Int)] w λe w'=>e=.returned (.tuple #[])/\ae [B.ba,B.br] w w'/\
   ∃S' mV,lG w' B F gt ct A st S' mV ai/\uM S rk (om (f::P) old m) (au (f::P) m).nodes S' mV:=by
 rw[qA];have hT1:dL S (-1) (au P (bP f m)).root (au P (bP f m)):=hT;have hX1:(au P (bP f m)).nodes.Nodup:=hX;have hlt1:∀y,y∈(au P (bP f m)).nodes->y<A.cs.length:=hlt
 show Calls _ _ _ _ λe w'=>e=_/\_/\∃S' mV,_/\uM S rk _ (au P (bP f m)).nodes S' mV
 by_cases hs:f.2.1=true
 ·have e1:bP f m=.node f.1 f.2.2 m:=by unfold bP;rw[Δ hs]
  rw[e1] at hT1 hX1 hlt1 ⊢;rw[Δ hs];exact Dj h ⟨hT1,ό _,hP.1,hm,hP.2.1,hP.2.2,λy _=>⟨⟨rfl,rfl,rfl⟩,rfl⟩,rfl⟩ hX1 hlt1
 ·have e1:bP f m=.node f.1 m f.2.2:=by unfold bP;rw[Γ hs]
  rw[e1] at hT1 hX1 hlt1 ⊢;rw[Γ hs];exact Dj h ⟨hT1,ό _,hm,hP.1,hP.2.1,hP.2.2,λy _=>⟨⟨rfl,rfl,rfl⟩,rfl⟩,rfl⟩ hX1 hlt1
end
theorem Ut(n:Nat):tv (n:Int)=n:=by unfold tv;rw[Γ ω]
theorem Ey(n:Nat):tb (n:Int)=true:=by unfold tb;simp
section
variable{w:World}{B:LB}{F:List Nat}{gt ct:Nat}{A:NS}{st:Nat}{tr:Nat->BT}{S:TS}{rk:Nat->Nat}{ai:List Int}
def Z7(w':World)(B:LB)(F:List Nat)(gt ct:Nat)(A:NS)(st:Nat)(S:TS)(rk:Nat->Nat)(ai:List Int)(g x:Nat)(P:List Fr)(X:List Nat)(T:BT):Prop:=
 ∃S' mV iI,lG w' B F gt ct (bg A x) st S' mV iI/\dL S' (-1) T.root T/\gu mV T/\(∀y,y∉X->S.at S' y/\mV y=rk y)/\(S'.l x=-1/\S'.r x=-1/\S'.u x=-1)/\
  ∀q,q<A.hs.length->iI.getD q 0=if P=[]/\q=g then T.root else ai.getD q 0
theorem gL{S S' S'':TS}{x:Nat}(h:S.at S' x)(h':S'.at S'' x):S.at S'' x:=⟨h'.1.trans h.1,h'.2.1.trans h.2.1,h'.2.2.trans h.2.2⟩
theorem F6(hM:lG w B F gt ct A st S rk ai){g x:Nat}{P:List Fr}{l r:BT}(hin:bY A (x:Int)=true)(hg:(A.c x).i=g)(hgt:g<ai.length)
  (hT:dL S (-1) (au P (.node x l r)).root (au P (.node x l r))) (hn:(au P (.node x l r)).nodes.Nodup) (hR:gu rk (au P (.node x l r))) (hall:∀y,y∈(au P (.node x l r)).nodes->bY A (y:Int)=true) :
  Calls prog 228 #[.pointer (some ⟨B.n0,0,none⟩),.int .i64 (x:Int)] w λe w'=>e=.returned (.bool true)/\ae (B.blk F gt) w w'/\
   Z7 w' B F gt ct A (cK st (aH aB A l r).2) S rk ai g x P (au P (.node x l r)).nodes (om P (.node x l r) (aH aB A l r).1):=by
 have hxl:=((aj A x).1 hin).1;have hlt:∀y,y∈(au P (.node x l r)).nodes->y<A.cs.length:=λy hy=>((aj A y).1 (hall y hy)).1;have kh:=bV hM.cells x hin;rw[hg] at kh;have h0:=hM.h0;have HM:=χ hM;have Vx:=rq hn;have hrr:=(zN P (.node x l r)).1 hR;have mp:=(jO mq A _ l r (Θ _)).1;have oC:=χ hM.cF;have hsep:=χ (ψ hM.sep hM.bS);have HT:=χ (ψ hT (ψ hn (ψ hrr (ψ hall hlt))));have HP:=χ Vx;obtain⟨m,k,hmk⟩:∃m k,aH aB A l r=(m,k):=⟨_,_,rfl⟩;rw[hmk] at mp;rw[hmk];have ZE:=χ mp;have HMK:=χ hmk;have OB:=χ hin;clear hM hT hn hR hall hlt Vx hrr mp hmk hin hg
 go_enter func228,ntmps228
 go_wp2_with (first|((go_at_call 124;(with_reducible refine(kh).mono ?_));rintro e w1 ⟨rfl,gG,hu1⟩))
 have hM1:=HM.out.cB hu1 gG (λy hy=>Α hy) rfl rfl;have q1:∀d,(w1.drewN d).cell? ⟨B.n0,1,none⟩=some (.pointer (some ⟨B.bt,0,none⟩)):=λd=>hM1.h1;have kl:=λd=>De (hM1.trees.drewN d) ((fq _ _).1 HT.out.1).1 hxl;have kr:=λd=>wB (hM1.trees.drewN d) ((fq _ _).1 HT.out.1).1 hxl;have jJ:=χ hM1;clear hM1 gG kh h0
 go_quiet ((first
  |(go_at_call 238;exact Calls.quiet_of (kl _))
  |(go_at_call 239;exact Calls.quiet_of (kr _))
  | (go_at_call 237;exact Calls.quiet_of_same (nZ _ _))))
 obtain⟨w2,hw2⟩:∃w2,w2=w1.drewN nq:=⟨_,rfl⟩;have u2:ae F w w2:=by rw[hw2];exact hu1.drewN nq
 have hM2:lG w2 B F gt ct A st S rk ai:=by rw[hw2];exact jJ.out.ag ((ae.refl [] w1).drewN nq)
 rw[←hw2];clear hw2 kl kr q1 jJ hu1;have YV:=nV hM2.trees (f:=(x,false,r)) (P:=P) (t:=l) HT.out.1 HT.out.2.1 HT.out.2.2.2.2;have g2:=hM2.h1;have oQ:=χ hM2;clear hM2
 go_wp2_with (first
  |((go_at_call 234;(with_reducible refine(YV).mono ?_));rintro e w3 ⟨rfl,hu3,S3,Cg,hl3,hp3,hs3⟩;(have g3:=(oQ.out.iC hu3 Cg).h1);clear g2)
  | fail)
 have jo:=oQ.out.iC hu3 Cg;have PR:dL S3 (-1) (au ((x,true,.nil)::P) r).root (au ((x,true,.nil)::P) r):=hp3;have MN:(au ((x,true,.nil)::P) r).nodes.Nodup:=by
  have e:=(aW P (.node x .nil r));refine e.nodup_iff.2 ?_;obtain⟨⟨a1,a2,a3⟩,a4,a5,a6,a7⟩:=HP.out;simp only[BT.nodes,ϛ,θ] at a4 ⊢;refine⟨Ζ.2 ⟨a2,a4.2.1⟩,a7,λy hy z hz e=>?_⟩;subst e;rcases ρ.1 hy with e|hy
  ·exact a3 (by rw[←e];exact hz)
  ·exact a6 y hy hz
 have Dg:∀y,y∈(au ((x,true,.nil)::P) r).nodes->y∈(au P (.node x l r)).nodes:=λy hy=>by
  have h':y∈(au P (.node x .nil r)).nodes:=hy;rw[aI] at h' ⊢;simp only[BT.nodes,ϛ,ρ,τ] at h' ⊢;rcases h' with(h'|h')|h'
  ·exact Α (Α h')
  ·exact Α (Β (Β h'))
  ·exact Β h'
 have ZJ:=nV jo.trees (f:=(x,true,.nil)) (P:=P) (t:=r) PR MN (λy hy=>HT.out.2.2.2.2 y (Dg y hy));have Te:l.nodes.Nodup/\∀y,y∈l.nodes->y∉(au ((x,true,.nil)::P) r).nodes:=by
  obtain⟨⟨a1,a2,a3⟩,a4,a5,a6,a7⟩:=HP.out;rw[θ] at a4;refine⟨a4.1,λy hy hm=>?_⟩;have h':y∈(au P (.node x .nil r)).nodes:=hm;rw[aI] at h';simp only[BT.nodes,ϛ,ρ] at h';rcases h' with(h'|h')|h'
  ·exact a1 (by rw[←h'];exact hy)
  ·exact a4.2.2 y hy y h' rfl
  ·exact a5 y hy h'
 have Dt:=χ jo;have H3:=χ (ψ hl3 (ψ hs3 (ψ Dg Te)));have u3:ae (B.ba::F) w w3:=(u2.mono (by simp;intro x hx;exact Β hx)).trans (hu3.mono σ);clear jo Cg hl3 hp3 PR hs3 MN Dg Te YV hu3 u2
 go_wp2_with (first
  |((go_at_call 234;(with_reducible refine(ZJ).mono ?_));rintro e w4 ⟨rfl,fU,S4,Q0,hr4,QA,hs4⟩)
  | fail)
 have sM:=Dt.out.iC fU Q0;have hl4:dL S4 (-1) l.root l:=H3.out.1.frame (λy hy=>hs4 y (H3.out.2.2.2.2 y hy));have km:=q9 sM hl4 hr4 HP.out.2.1 (λy hy=>HT.out.2.2.2.1 y (aI.2 (Α (by simp only[BT.nodes];exact Λ _ hy)))) HT.out.2.2.1.1.2.1 HT.out.2.2.1.1.2.2;rw[HMK.out] at km;have hp4':dL S4 (-1) (au P (.node x .nil .nil)).root (au P (.node x .nil .nil)):=QA;have u4:ae (B.ba::F) w w4:=u3.trans (fU.mono σ);have f4:∀y,y∉(au P (.node x l r)).nodes->S.at S4 y:=λy hy=>gL (H3.out.2.1 y hy) (hs4 y (λhm=>hy (H3.out.2.2.1 y hm)));have H4:=χ (ψ hp4' f4)
 clear sM Q0 hr4 QA hp4' hs4 hl4 ZJ fU u3 f4 H3 Dt oQ g3
 go_wp2_with (first
  |((go_at_call 236;(with_reducible refine(km).mono ?_));rintro e w5 ⟨rfl,bW,S5,VB,vQ,CZ,LA,hs5⟩;(have g5:=vQ.h1))
  | fail)
 have VD:dL S5 (-1) (au P (.node x .nil .nil)).root (au P (.node x .nil .nil)):=H4.out.1.frame (λy hy=>(hs5 y (λhm=>by
  obtain⟨⟨a1,a2,a3⟩,a4,a5,a6,a7⟩:=HP.out;rw[aI] at hy;simp only[BT.nodes,ϛ,ρ,ς,or_false] at hy;rw[τ] at hm;rcases hy with e|hy
  ·subst e;rcases hm with hm|hm;exact a1 hm;exact a2 hm
  ·rcases hm with hm|hm;exact a5 y hm hy;exact a6 y hm hy)).1)
 have f5:∀y,y∉(au P (.node x l r)).nodes->S.at S5 y/\VB y=rk y:=λy hy=>by
  have h1:y∉l.nodes++r.nodes:=λhm=>hy (aI.2 (Α (by simp only[BT.nodes];exact Λ _ hm)));exact⟨gL (H4.out.2 y hy) (hs5 y h1).1,(hs5 y h1).2⟩
 have NK:UG VB P (BT.node x l r).rank:=HT.out.2.2.1.2.frame (λy hy=>(hs5 y (λhm=>by
  rw[τ] at hm;rcases hm with hm|hm
  ·exact HP.out.2.2.1 y hm hy
  ·exact HP.out.2.2.2.1 y hm hy)).2)
 have u5:ae (B.blk F gt) w w5:=(u4.mono (λy hy=>by simp only [LB.blk,ρ] at hy ⊢;rcases hy with h|h<;>simp [h])).trans (bW.mono (λy hy=>by
   have:=oC.out;simp only[ρ,ς,or_false] at hy;simp only[LB.blk,ρ];rcases hy with rfl|rfl|rfl
   ·simp[this]
   ·simp
   ·simp))
 have ku:=NF vQ.trees VD hxl;have wK:=χ vQ;have H5:=χ (ψ VD (ψ f5 (ψ NK (ψ CZ LA))));clear vQ CZ LA hs5 km u4 H4 VD f5 NK bW;have hmm:∀y,y∈m.nodes->y∉eH P/\y≠x:=λy hy=>by
  obtain⟨⟨a1,a2,a3⟩,a4,a5,a6,a7⟩:=HP.out;have h1:=ZE.out.mem_iff.1 hy;rw[τ] at h1;rcases h1 with h1|h1
  ·exact⟨a5 y h1,λe=>a1 (by rw[←e];exact h1)⟩
  ·exact⟨a6 y h1,λe=>a2 (by rw[←e];exact h1)⟩
 have hmx:∀y,y∈m.nodes->y∈(au P (.node x l r)).nodes:=λy hy=>aI.2 (Α (by
  have h1:=ZE.out.mem_iff.1 hy
  simp only [BT.nodes,ρ];exact Β h1))
 have PM:m.nodes.Nodup:=ZE.out.nodup_iff.2 HP.out.2.1;have HMM:=χ (ψ hmm (ψ hmx PM));clear hmm hmx PM;have sp:=hsep.out;have s1:B.n0≠gt:=sp.1.1.2.2.2;clear sp;cases P with
 |nil=>
  rw[show DY ([]:List Fr)=-1 from rfl,show tv (-1)=0 from rfl,show tb (-1)=false from rfl] at ku
  go_wp2_with (first
   |((go_at_call 240;(with_reducible refine(ku).mono ?_));rintro e w6 ⟨rfl,kk,VC⟩;(have u6:ae [] w5 w6:=by(rw[VC];exact(ae.refl _ _).drewN kk));clear VC;(have g60:=(wK.out.ag u6).h0);(have g63:=(wK.out.ag u6).h3);(have d6:=(wK.out.ag u6).iG.cell g hgt);(have f6:=(wK.out.ag u6).iG.free g);(have kd:=gT ((wK.out.ag u6).mg g m.root).cells x OB.out))
   |((go_at_call 134;(with_reducible refine(kd).mono ?_));rintro e w7 ⟨rfl,hC7,kS⟩)
   | fail)
  go_ret;obtain⟨b1,b2,b3,b4,b5⟩:=H5.out;have bx:=((fq _ _).1 b1).1;refine⟨rfl,((u5.trans (u6.mono σ)).setCell (Α (by simp[LB.blk])) _).trans (kS.mono (λy hy=>by simp only[LB.blk,ρ];simp[hy])),S5,VB,ai.set g m.root,((wK.out.ag u6).mg g m.root).cB kS hC7 (λy hy=>Α hy) (fD _ _) (by rw[iV]),b4,b5,b2,⟨bx.2.2.1.root,bx.2.2.2.root,bx.2.1⟩,λq hq=>?_⟩
  by_cases e:q=g
  ·rw[Δ ⟨rfl,e⟩,e,φ,ύ,Δ rfl,Δ hgt];rfl
  ·rw[Γ (λh=>e h.2),φ,ύ,Γ (λh=>e h.symm),←φ]
 |cons f P2=>
  rw[show DY (f::P2)=(f.1:Int) from rfl,Ut,Ey] at ku;have hfl:f.1<A.cs.length:=HT.out.2.2.2.2 f.1 (aI.2 (Β (by simp[eH])));have Jy:(au (f::P2) (.node x .nil .nil)).nodes.Nodup:=by
   refine(aW (f::P2) (.node x .nil .nil)).nodup_iff.2 ?_;obtain⟨⟨a1,a2,a3⟩,a4,a5,a6,a7⟩:=HP.out;simp only[BT.nodes,ϛ,List.singleton_append,Ζ];exact⟨a3,a7⟩
  have Ll:∀y,y∈(au (f::P2) (.node x .nil .nil)).nodes->y∈(au (f::P2) (.node x l r)).nodes:=λy hy=>by
   rw[aI] at hy ⊢;simp only[BT.nodes,ϛ,ρ,ς,or_false] at hy;rcases hy with hy|hy
   ·exact Α (by simp[BT.nodes,hy])
   ·exact Β hy
  have ksd:∀W,ae [] w5 W->∃z:Int,(z == (x:Int))=f.2.1/\Calls prog 239 #[.pointer (some ⟨B.bt,0,none⟩),.int .i64 (f.1:Int)] W λe w'=>e=.returned (.tuple #[.int .i64 (tv z),.bool (tb z)])/\∃k,w'=W.drewN k:=λW hW=>Et (wK.out.ag hW).trees H5.out.1 Jy hfl;have Gr:=λW (hW:ae [] w5 W)=>nV (wK.out.ag hW).trees (f:=f) (P:=P2) (t:=.node x .nil .nil) H5.out.1 Jy (λy hy=>HT.out.2.2.2.2 y (Ll y hy));rw[show BT.root (.node x .nil .nil)=(x:Int) from rfl] at Gr;generalize hcv:cutV f (.node x .nil .nil)=cv at Gr;generalize hcb:tb (x:Int)=cb at Gr;have JV:=χ (ψ Jy Ll);clear Jy Ll hcv hcb
  by_cases hmz:m=.nil
  ·have hmb:(m.root != -1)=false:=by rw[hmz];rfl
   have HMZ:=χ hmz;clear hmz
   go_wp2_with (first
    |((go_at_call 240;(with_reducible refine(ku).mono ?_));rintro e w6 ⟨rfl,kk,VC⟩;(have u6:ae [] w5 w6:=by(rw[VC];exact(ae.refl _ _).drewN kk));clear VC;(have g61:=(wK.out.ag u6).h1);obtain⟨z,hz,kr⟩:=ksd w6 u6)
    |((go_at_call 239;(with_reducible refine(kr).mono ?_));rintro e w7 ⟨rfl,kk7,hw7⟩;(have u7:ae [] w5 w7:=by(rw[hw7];exact u6.drewN kk7));clear hw7;(have g71:=(wK.out.ag u7).h1);(have kc:=Gr w7 u7))
    |(go_at_call 237;(with_reducible refine aT (nZ _ _) ?_))
    |((go_at_call 234;(with_reducible refine(kc).mono ?_));rintro e w8 ⟨rfl,wD,S8,hT8,hx8,hp8,hs8⟩;(have kmd:=Ai ((wK.out.ag u7).iC wD hT8) (old:=.node x l r) hp8 (by trivial) H5.out.2.2.1 (by first|(refine(aW (f::P2) .nil).nodup_iff.2 ?_;simpa[BT.nodes] using HP.out.2.2.2.2)) (by intro y hy;rw[aI] at hy;exact HT.out.2.2.2.2 y (aI.2 (Β (by simpa[BT.nodes] using hy))))))
    |((go_at_call 235;(with_reducible refine(kmd).mono ?_));rintro e w9 ⟨rfl,Ca,S9,rk9,hM9,Wy⟩;(have g90:=hM9.h0);(have kd:=gT hM9.cells x OB.out))
    |((go_at_call 134;(with_reducible refine(kd).mono ?_));rintro e w10 ⟨rfl,K8,Ad⟩)
    | fail)
   go_ret;have hz:=HMZ.out;subst hz;refine⟨rfl,((((u5.trans (u7.mono σ)).trans (wD.mono (by simp[LB.blk]))).trans (Ca.mono (by simp[LB.blk]))).trans (Ad.mono (λy hy=>by simp only[LB.blk,ρ];simp[hy]))),S9,rk9,ai,hM9.cB Ad K8 (λy hy=>Α hy) (fD _ _) (by rw[iV]),Wy.zG,Wy.isR,λy hy=>?_,?_,λq hq=>by rw[Γ σ]⟩
   ·have a1:=H5.out.2.1 y hy;have a2:=hs8 y (λhm=>hy (JV.out.2 y hm));have a3:=Wy.far y (λhm=>hy (aI.2 (Β (by rw[aI] at hm;simpa[BT.nodes] using hm))));exact⟨gL (gL a1.1 a2) a3.1,a3.2.trans a1.2⟩
   ·have a3:=(Wy.far x (λhm=>HP.out.1.2.2 (by rw[aI] at hm;simpa[BT.nodes] using hm))).1;have a4:=hx8;exact⟨a3.1.trans a4.2.2.1.root,a3.2.1.trans a4.2.2.2.root,a3.2.2.trans a4.2.1⟩
  ·have hmb:(m.root != -1)=true:=by
    have:=(cz hmz).2;simp;omega
   have HMZ:=χ hmz;have hxm:∀y,y∈m.nodes->y∉(au (f::P2) (.node x .nil .nil)).nodes:=λy hy hm=>by
    have b1:=HMM.out.1 y hy;rw[aI] at hm;simp only[BT.nodes,ϛ,ρ,ς,or_false] at hm;rcases hm with hm|hm
    ·exact b1.2 hm
    ·exact b1.1 hm
   have hnd:(m.nodes++eH (f::P2)).Nodup:=by
    rw[θ];exact⟨HMM.out.2.2,HP.out.2.2.2.2,λa ha b hb e=>(HMM.out.1 a ha).1 (by rw[e];exact hb)⟩
   have hsm:∀y,y∈m.nodes++eH (f::P2)->y∈(au (f::P2) (.node x l r)).nodes:=λy hy=>by
    rw[τ] at hy;rcases hy with hy|hy
    ·exact HMM.out.2.1 y hy
    ·exact aI.2 (Β hy)
   have Q9:=χ (ψ hxm (ψ hnd hsm));clear hmz hxm hnd hsm
   go_wp2_with (first
    |((go_at_call 240;(with_reducible refine(ku).mono ?_));rintro e w6 ⟨rfl,kk,VC⟩;(have u6:ae [] w5 w6:=by(rw[VC];exact(ae.refl _ _).drewN kk));clear VC;(have g61:=(wK.out.ag u6).h1);obtain⟨z,hz,kr⟩:=ksd w6 u6)
    |((go_at_call 239;(with_reducible refine(kr).mono ?_));rintro e w7 ⟨rfl,kk7,hw7⟩;(have u7:ae [] w5 w7:=by(rw[hw7];exact u6.drewN kk7));clear hw7;(have g71:=(wK.out.ag u7).h1);(have kc:=Gr w7 u7))
    |(go_at_call 237;(with_reducible refine aT (nZ _ _) ?_))
    |((go_at_call 234;(with_reducible refine(kc).mono ?_));rintro e w8 ⟨rfl,wD,S8,hT8,hx8,hp8,hs8⟩;(have g81:=((wK.out.ag u7).iC wD hT8).h1);(have khg:=D6 hT8 hp8 (H5.out.2.2.2.1.frame (λy hy=>hs8 y (Q9.out.1 y hy))) HMZ.out Q9.out.2.1 (λy hy=>HT.out.2.2.2.2 y (Q9.out.2.2 y hy))))
    |((go_at_call 241;(with_reducible refine(khg).mono ?_));rintro e w8b ⟨rfl,hu8b,S8b,hT8b,hp8b,hs8b⟩;(have kmd:=Ai (((wK.out.ag u7).iC wD hT8).iC hu8b hT8b) (old:=.node x l r) hp8b H5.out.2.2.2.2 H5.out.2.2.1 ((aW (f::P2) m).nodup_iff.2 Q9.out.2.1) (λy hy=>HT.out.2.2.2.2 y (Q9.out.2.2 y ((aW (f::P2) m).mem_iff.1 hy)))))
    |((go_at_call 235;(with_reducible refine(kmd).mono ?_));rintro e w9 ⟨rfl,Ca,S9,rk9,hM9,Wy⟩;(have g90:=hM9.h0);(have kd:=gT hM9.cells x OB.out))
    |((go_at_call 134;(with_reducible refine(kd).mono ?_));rintro e w10 ⟨rfl,K8,Ad⟩)
    | fail)
   go_ret;refine⟨rfl,(((((u5.trans (u7.mono σ)).trans (wD.mono (by simp[LB.blk]))).trans (hu8b.mono (by simp[LB.blk]))).trans (Ca.mono (by simp[LB.blk]))).trans (Ad.mono (λy hy=>by simp only[LB.blk,ρ];simp[hy]))),S9,rk9,ai,hM9.cB Ad K8 (λy hy=>Α hy) (fD _ _) (by rw[iV]),Wy.zG,Wy.isR,λy hy=>?_,?_,λq hq=>by rw[Γ σ]⟩
   ·have a1:=H5.out.2.1 y hy;have a2:=hs8 y (λhm=>hy (JV.out.2 y hm));have a2b:=hs8b y (λhm=>hy (Q9.out.2.2 y hm));have a3:=Wy.far y (λhm=>hy (Q9.out.2.2 y ((aW (f::P2) m).mem_iff.1 hm)));exact⟨gL (gL (gL a1.1 a2) a2b) a3.1,a3.2.trans a1.2⟩
   ·have wM:x∉m.nodes++eH (f::P2):=λhm=>by
     rw[τ] at hm;rcases hm with hm|hm
     ·exact(HMM.out.1 x hm).2 rfl
     ·exact HP.out.1.2.2 hm
    have a3:=gL (hs8b x wM) (Wy.far x (λhm=>wM ((aW (f::P2) m).mem_iff.1 hm))).1;have a4:=hx8;exact⟨a3.1.trans a4.2.2.1.root,a3.2.1.trans a4.2.2.2.root,a3.2.2.trans a4.2.1⟩
theorem zq(h:lC w B F gt ct A st tr)(g x:Nat)(hx:x∈(tr g).nodes) :
  Calls prog 228 #[.pointer (some ⟨B.n0,0,none⟩),.int .i64 (x:Int)] w λe w'=>e=.returned (.bool true)/\ae (B.blk F gt) w w'/\
   lC w' B F gt ct (bg A x) (cK st (GN A (tr g) x).2) (λq=>if q=g then(GN A (tr g) x).1 else tr q):=by
 obtain⟨S,rk,ai,hM,hI,hL,hR⟩:=h;have hm:=(hI.mem g x).1 hx;have hin:bY A (x:Int)=true:=(aj A x).2 ⟨hm.2.1,ω⟩;have e:=nP hx;unfold GN;generalize (pathOf (tr g) x).1=P at *;generalize (pathOf (tr g) x).2.1=l at *;generalize (pathOf (tr g) x).2.2=r at *;have hgt:g<ai.length:=by rw[hM.iJ];have:=(hM.cells.ok.nat x hm.2.1);omega
 have hgh:g<A.hs.length:=by rw[←hM.iJ];exact hgt
 have hT:=hI.zG g;have hn:=hI.nd g;have hH:=hI.heap g;have hRg:=hR g;have J2:=hL g;rw[e] at hT hn hH hRg J2;obtain⟨d1,d2,d3⟩:=IK mq hn hH;obtain⟨l1,l2⟩:=(uY _ _).1 J2;have ml:=r9 A _ l r (Θ _) l1.2.1 l1.2.2;refine(F6 hM hin hm.2.2 hgt hT hn hRg (λy hy=>?_)).mono ?_
 ·rw[←e] at hy;have:=(hI.mem g y).1 hy;exact(aj A y).2 ⟨this.2.1,ω⟩
 ·rintro e' w' ⟨rfl,hu,S',mV,iI,q1,q2,q3,q4,q5,q6⟩;refine⟨rfl,hu,S',mV,iI,q1,hI.del hx q2 ?_ (Jm _ _ _ d2) (λy hy=>(q4 y (by rw[←e];exact hy)).1) q5 (λq hq=>?_),λq=>?_,λq=>?_⟩
  ·rw[e];exact((vw _ _ _).cons x).trans d1
  ·rw[q6 q hq]
   by_cases hq':q=g
   ·rw[Δ hq']
    by_cases hp:P=[]
    ·rw[Δ ⟨hp,hq'⟩]
    ·rw[Γ (λh=>hp h.1),hq',hI.top g hgh,e];cases P with
     |nil=>exact absurd rfl hp
     |cons f P2=>rw[Jl];exact jU _ _ _ _
   ·rw[Γ hq',Γ (λh=>hq' h.2)]
  ·show Lean (if q=g then _ else _)
   split
   ·exact Ib _ _ _ ml l2
   ·exact hL q
  ·show gu mV (if q=g then _ else _)
   split
   ·exact q3
   ·rename_i hq
    refine(hR q).frame (λy hy=>(q4 y (λhm'=>?_)).2);rw[←e] at hm';have c1:=(hI.mem g y).1 hm';have c2:=(hI.mem q y).1 hy;omega
end
theorem IY{A:NS}{P:List Fr}{x:Nat}{l r:BT}{k s:Int}(hB:jf A x k s=true)(hx:x<A.cs.length)(hn:(au P (.node x l r)).nodes.Nodup)(hH:Heap A (au P (.node x l r))) :
  Heap (aA A x k s) (au P .nil)/\Heap (aA A x k s) (.node x l r):=by
 have h1:=rq hn;have hs:=uu hH;refine⟨(vB (t':=.nil) hH trivial (λy hy=>by cases hy)).frame (λy hy=>?_),RN hB hx hs ?_⟩
 ·rw[uo hB hx,Γ];intro e;rw[e,aI] at hy;rcases hy with hy|hy
  ·cases hy
  ·exact h1.1.2.2 hy
 ·have:=(aW P (.node x l r)).nodup_iff.1 hn;rw[θ] at this;exact this.1
section
variable{w:World}{B:LB}{F:List Nat}{gt ct:Nat}{A:NS}{st:Nat}{tr:Nat->BT}{S:TS}{rk:Nat->Nat}{ai:List Int}
def Km(w':World)(B:LB)(F:List Nat)(gt ct:Nat)(A':NS)(st:Nat)(S:TS)(rk:Nat->Nat)(ai:List Int)(g:Nat)(X:List Nat)(T:BT):Prop:=
 ∃S' mV iI,lG w' B F gt ct A' st S' mV iI/\dL S' (-1) T.root T/\gu mV T/\(∀y,y∉X->S.at S' y/\mV y=rk y)/\
  ∀q,q<A'.hs.length->iI.getD q 0=if q=g then T.root else ai.getD q 0
theorem Td(hM:lG w B F gt ct A st S rk ai){g x:Nat}{l r:BT}{k s:Int}(hk:-9223372036854775808<=k/\k<=9223372036854775807/\0<=s/\s<=18446744073709551615)(hB:jf A x k s=true)
  (hg:(A.c x).i=g) (hg0:0<g) (htop:ai.getD g 0=x) (hxl:x<A.cs.length) (hT:dL S (-1) (BT.node x l r).root (.node x l r)) (hR:gu rk (.node x l r)) :
  Calls prog 227 #[.pointer (some ⟨B.n0,0,none⟩),.int .i64 (x:Int),.agg #[.int .i64 k,.int .u64 s]] w λe w'=>e=.returned (.bool true)/\ae (B.blk F gt) w w'/\
   Km w' B F gt ct (aA A x k s) st S rk ai g (BT.node x l r).nodes (.node x l r):=by
 have hcs:=gD A x k s;have jd:=lQ A x k s;have hin':bY (aA A x k s) (x:Int)=true:=(aj _ x).2 ⟨by rw[hcs];exact hxl,by rw[iH hB hxl,hg];omega⟩;have hi':((aA A x k s).c x).i=g:=by rw[iH hB hxl,hg]
 have hux:S.u x=-1:=hT.2.1;have u1:ae [] w (w.alloc (.cells #[.int .i64 k,.int .u64 s] 97)):=(ae.refl _ _).alloc _;have kp:=λW (hW:ae [] (w.alloc (.cells #[.int .i64 k,.int .u64 s] 97)) W)=>iD (hM.cells.ag (u1.trans hW)) x k s hk hB;have h0:=hM.h0;have wN:B.n0∉F:=hM.bS.1;have hlt:=hM.lt;have hsz:w.heap.size∉F:=λhm=>by have:=hlt w.heap.size (by simp[LB.blk,hm]);omega
 have r0:∀W,ae F (w.alloc (.cells #[.int .i64 k,.int .u64 s] 97)) W->W.cell? ⟨B.n0,0,none⟩=some (.pointer (some ⟨B.c,0,none⟩)):=λW hW=>hW.kept (u1.was h0) wN;have r1:∀W,ae F (w.alloc (.cells #[.int .i64 k,.int .u64 s] 97)) W->W.cell? ⟨w.heap.size,0,none⟩=some (.int .i64 k):=λW h=>h.kept σ hsz;have r2:∀W,ae F (w.alloc (.cells #[.int .i64 k,.int .u64 s] 97)) W->W.cell? ⟨w.heap.size,1,none⟩=some (.int .u64 s):=λW h=>h.kept σ hsz;have HM:=χ hM;have HG:=χ (ψ htop (ψ hT hR));clear hM hT hR htop hlt h0 hg;generalize hA':aA A x k s=A' at *
 go_enter func227,ntmps227
 go_wp2
 go_region_held3 (ae F (w.alloc (.cells #[.int .i64 k,.int .u64 s] 97))) (exact ν)
  ((go_at_call 131;(with_reducible refine(kp _ β).mono ?_);rintro e w1 ⟨rfl,gG,hu1⟩;(have hu2:ae F (w.alloc (.cells #[.int .i64 k,.int .u64 s] 97)) w1:=ν)))
 have uF:ae F w (w.alloc (.cells #[.int .i64 k,.int .u64 s] 97)):=u1.mono σ;have hM1:=HM.out.cB (uF.trans hu2) gG (λy hy=>Α hy) hcs (by rw[jd]);have kh:=bV hM1.cells x hin';rw[hi'] at kh;have g10:=hM1.h0;have jJ:=χ hM1;have u01:=χ (uF.trans hu2);clear r0 r1 r2 kp hu1 hu2 gG hM1 uF
 go_wp2_with (first
  |((go_at_call 124;(with_reducible refine(kh).mono ?_));rintro e w2 ⟨rfl,hC2,hu2⟩;(have g21:=(jJ.out.cB hu2 hC2 (λy hy=>Α hy) rfl rfl).h1);(have kc:=Fs B.bt B.ba A'.cs.length S (x:Int) w2 (jJ.out.cB hu2 hC2 (λy hy=>Α hy) rfl rfl).trees (by unfold pQ;rw[Δ ω,π];exact hux)))
  |(go_at_call 234;(with_reducible refine aT (kc) ?_))
  | fail)
 go_ret;refine⟨rfl,(u01.out.trans hu2).mono (λy hy=>by simp only[LB.blk,ρ];simp[hy]),S,rk,ai,jJ.out.cB hu2 hC2 (λy hy=>Α hy) rfl rfl,HG.out.2.1,HG.out.2.2,λy _=>⟨⟨rfl,rfl,rfl⟩,rfl⟩,λq hq=>?_⟩
 by_cases e:q=g
 ·rw[Δ e,e,HG.out.1];rfl
 ·rw[Γ e]
theorem XQ(hM:lG w B F gt ct A st S rk ai){g x:Nat}{f:Fr}{P:List Fr}{l r:BT}{k s:Int}(hk:-9223372036854775808<=k/\k<=9223372036854775807/\0<=s/\s<=18446744073709551615)(hB:jf A x k s=true)
  (hg:(A.c x).i=g) (hg0:0<g) (hgt:g<ai.length) (htop:ai.getD g 0=(au (f::P) (.node x l r)).root) (hT:dL S (-1) (au (f::P) (.node x l r)).root (au (f::P) (.node x l r))) (hn:(au (f::P) (.node x l r)).nodes.Nodup)
  (hR:gu rk (au (f::P) (.node x l r))) (hall:∀y,y∈(au (f::P) (.node x l r)).nodes->bY A (y:Int)=true) :
  Calls prog 227 #[.pointer (some ⟨B.n0,0,none⟩),.int .i64 (x:Int),.agg #[.int .i64 k,.int .u64 s]] w λe w'=>e=.returned (.bool true)/\ae (B.blk F gt) w w'/\
   Km w' B F gt ct (aA A x k s) (cK st (aH aB (aA A x k s) (om (f::P) (.node x l r) .nil) (.node x l r)).2) S rk ai g (au (f::P) (.node x l r)).nodes (aH aB (aA A x k s) (om (f::P) (.node x l r) .nil) (.node x l r)).1:=by
 have hcs:=gD A x k s;have jd:=lQ A x k s;have hxl:x<A.cs.length:=by
  have:=hall x (aI.2 (Α (by simp[BT.nodes])));exact((aj A x).1 this).1
 have hin':bY (aA A x k s) (x:Int)=true:=(aj _ x).2 ⟨by rw[hcs];exact hxl,by rw[iH hB hxl,hg];omega⟩;have hi':((aA A x k s).c x).i=g:=by rw[iH hB hxl,hg]
 have sU:∀y,y∈(au (f::P) (.node x l r)).nodes->bY (aA A x k s) (y:Int)=true:=λy hy=>by
  have:=(aj A y).1 (hall y hy);exact(aj _ y).2 ⟨by rw[hcs];exact this.1,by rw[iH hB hxl];exact this.2⟩
 have hlt':∀y,y∈(au (f::P) (.node x l r)).nodes->y<(aA A x k s).cs.length:=λy hy=>((aj _ y).1 (sU y hy)).1;have hpn:=(aW (f::P) (.node x l r)).nodup_iff.1 hn;have hrr:=(zN _ _).1 hR;rw[θ] at hpn;have hn0:(au (f::P) .nil).nodes.Nodup:=(aW (f::P) .nil).nodup_iff.2 (by simpa[BT.nodes] using hpn.2.1);have BO:∀y,y∈(au (f::P) .nil).nodes↔y∈eH (f::P):=λy=>by rw[aI];simp[BT.nodes]
 have hfm:∀y,y∈(om (f::P) (.node x l r) .nil).nodes↔y∈eH (f::P):=λy=>by rw[(vw _ _ _).mem_iff];exact BO y
 have hfn:(om (f::P) (.node x l r) .nil).nodes.Nodup:=(vw _ _ _).nodup_iff.2 hn0;have tC:((om (f::P) (.node x l r) .nil).nodes++(BT.node x l r).nodes).Nodup:=by
  rw[θ];exact⟨hfn,hpn.1,λa ha b hb e=>hpn.2.2 b hb a ((hfm a).1 ha) e.symm⟩
 have Nu:∀y,y∈(om (f::P) (.node x l r) .nil).nodes++(BT.node x l r).nodes->y∈(au (f::P) (.node x l r)).nodes:=λy hy=>by
  rw[τ,hfm] at hy;rw[aI];exact hy.symm
 have hrt:(au (f::P) (.node x l r)).root=(om (f::P) (.node x l r) .nil).root:=by rw[Jl];exact jU _ _ _ _
 rw[hrt] at htop;have u1:ae [] w (w.alloc (.cells #[.int .i64 k,.int .u64 s] 97)):=(ae.refl _ _).alloc _;have kp:=λW (hW:ae [] (w.alloc (.cells #[.int .i64 k,.int .u64 s] 97)) W)=>iD (hM.cells.ag (u1.trans hW)) x k s hk hB;have h0:=hM.h0;have wN:B.n0∉F:=hM.bS.1;have hlt:=hM.lt;have hsz:w.heap.size∉F:=λhm=>by have:=hlt w.heap.size (by simp[LB.blk,hm]);omega
 have r0:∀W,ae F (w.alloc (.cells #[.int .i64 k,.int .u64 s] 97)) W->W.cell? ⟨B.n0,0,none⟩=some (.pointer (some ⟨B.c,0,none⟩)):=λW hW=>hW.kept (u1.was h0) wN;have r1:∀W,ae F (w.alloc (.cells #[.int .i64 k,.int .u64 s] 97)) W->W.cell? ⟨w.heap.size,0,none⟩=some (.int .i64 k):=λW h=>h.kept σ hsz;have r2:∀W,ae F (w.alloc (.cells #[.int .i64 k,.int .u64 s] 97)) W->W.cell? ⟨w.heap.size,1,none⟩=some (.int .u64 s):=λW h=>h.kept σ hsz;have HM:=χ hM;have Xo:=χ (ψ hM.sep hM.bS);have HG:=χ (ψ hT (ψ hn (ψ hrr (ψ sU hlt'))));have HX:=χ (ψ tC Nu);have H0:=χ (ψ hn0 (ψ BO hfm))
 clear hM hT hR hn hall sU hlt' hpn hrr hlt h0 hg tC Nu hn0 BO hfm hfn hrt wN hsz;generalize hA':aA A x k s=A' at *
 go_enter func227,ntmps227
 go_wp2
 go_region_held3 (ae F (w.alloc (.cells #[.int .i64 k,.int .u64 s] 97))) (exact ν)
  ((go_at_call 131;(with_reducible refine(kp _ β).mono ?_);rintro e w1 ⟨rfl,gG,hu1⟩;(have hu2:ae F (w.alloc (.cells #[.int .i64 k,.int .u64 s] 97)) w1:=ν)))
 have uF:ae F w (w.alloc (.cells #[.int .i64 k,.int .u64 s] 97)):=u1.mono σ;have hM1:=HM.out.cB (uF.trans hu2) gG (λy hy=>Α hy) hcs (by rw[jd]);have kh:=bV hM1.cells x hin';rw[hi'] at kh;have g10:=hM1.h0;have jJ:=χ hM1;have u01:=χ (uF.trans hu2);clear r0 r1 r2 kp hu1 hu2 gG hM1 uF;have Gr:∀w2,ae F w1 w2->aF w2 B.c F A' st->_:=λw2 hu2 hC2=>nV (jJ.out.cB hu2 hC2 (λy hy=>Α hy) rfl rfl).trees (f:=f) (P:=P) (t:=.node x l r) HG.out.1 HG.out.2.1 HG.out.2.2.2.2
 rw[show BT.root (.node x l r)=(x:Int) from rfl,show cutV f (.node x l r)=(f.1:Int) by unfold cutV;rw[Γ (by show ¬(x:Int)=-1;omega)],Ey] at Gr
 go_wp2_with (first
  |((go_at_call 124;(with_reducible refine(kh).mono ?_));rintro e w2 ⟨rfl,hC2,hu2⟩;(have g21:=(jJ.out.cB hu2 hC2 (λy hy=>Α hy) rfl rfl).h1);(have kc:=Gr w2 hu2 hC2))
  |((go_at_call 234;(with_reducible refine(kc).mono ?_));rintro e w3 ⟨rfl,hu3,S3,Cg,hx3,hp3,hs3⟩;(have kmd:=Ai ((jJ.out.cB hu2 hC2 (λy hy=>Α hy) rfl rfl).iC hu3 Cg) (old:=.node x l r) (m:=.nil) hp3 trivial HG.out.2.2.1.2 H0.out.1 (λy hy=>HG.out.2.2.2.2 y (aI.2 (Β ((H0.out.2.1 y).1 hy))))))
  |((go_at_call 235;(with_reducible refine(kmd).mono ?_));rintro e w4 ⟨rfl,fU,S4,rk4,sM,Zz⟩)
  | fail)
 have hx4:dL S4 (-1) (x:Int) (.node x l r):=dL.frame hx3 (λy hy=>(Zz.far y (λhm=>by
  have h1:=(H0.out.2.1 y).1 hm;have h2:=(aW (f::P) (.node x l r)).nodup_iff.1 HG.out.2.1;rw[θ] at h2
  exact h2.2.2 y hy y h1 rfl)).1)
 have hr4:gu rk4 (.node x l r):=HG.out.2.2.1.1.frame (λy hy=>(Zz.far y (λhm=>by
  have h1:=(H0.out.2.1 y).1 hm;have h2:=(aW (f::P) (.node x l r)).nodup_iff.1 HG.out.2.1;rw[θ] at h2
  exact h2.2.2 y hy y h1 rfl)).2)
 have f4:∀y,y∉(au (f::P) (.node x l r)).nodes->S.at S4 y/\rk4 y=rk y:=λy hy=>by
  have a1:=hs3 y hy;have a2:=Zz.far y (λhm=>hy (aI.2 (Β ((H0.out.2.1 y).1 hm))));exact⟨gL a1 a2.1,a2.2⟩
 have u4:ae (B.blk F gt) w w4:=(((u01.out.trans hu2).mono (λy hy=>by simp only[LB.blk,ρ];simp[hy])).trans (hu3.mono (by simp[LB.blk]))).trans (fU.mono (by simp[LB.blk]));have hE:=χ (ψ Zz f4);have oC:=HM.out.cF;have km:=λW (hW:ae [] w4 W)=>q9 (sM.ag hW) (tb:=.node x l r) Zz.zG hx4 HX.out.1 (λy hy=>HG.out.2.2.2.1 y (HX.out.2 y hy)) Zz.isR hr4;rw[show BT.root (.node x l r)=(x:Int) from rfl] at km;have d4:=sM.iG.cell g hgt;rw[htop] at d4;have f4':=sM.iG.free g;have h3:=sM.h3;have wJ:B.n0∉[B.c,B.ba,B.br,gt]:=by
  have a1:=Xo.out;have a2:B.n0≠B.c:=λe=>a1.2.1 (by rw[e];exact oC);simp;omega
 have hgc:gt∉[B.c,B.ba,B.br]:=by
  have a1:=Xo.out;have a2:gt≠B.c:=λe=>a1.2.2.2.2.2 (by rw[e];exact oC);simp;omega
 have r3:∀W,ae [B.c,B.ba,B.br,gt] w4 W->W.cell? ⟨B.n0,3,none⟩=some (.slice (some ⟨gt,0,none⟩) ai.length ct):=λW hW=>hW.kept h3 wJ;have r4:∀W,ae [B.c,B.ba,B.br] w4 W->W.cell? ⟨gt,g,none⟩=some (.int .i64 (om (f::P) (.node x l r) .nil).root)/\W.frozen? ⟨gt,g,none⟩=false:=λW hW=>⟨hW.kept d4 hgc,hW.aM d4 hgc f4'⟩
 have BF:(0:Int)<=(g:Int):=ω;have CB:(g:Int)<(ai.length:Int):=ω;have HF:Hid (∀(W:World) (S':TS) (mV:Nat->Nat) (st':Nat),(∀y,y∉(om (f::P) (.node x l r) .nil).nodes++(BT.node x l r).nodes->S4.at S' y/\mV y=rk4 y)->∀y,y∉(au (f::P) (.node x l r)).nodes->S.at S' y/\mV y=rk y):=λW S' mV st' a y hy=>by
  have b1:=hE.out.2 y hy;have b2:=a y (λhm=>hy (HX.out.2 y hm));exact⟨gL b1.1 b2.1,b2.2.trans b1.2⟩
 clear hE f4 Zz hx4 hr4 hs3 hp3 hx3 Cg;generalize hmt:(aH aB A' (om (f::P) (.node x l r) .nil) (.node x l r)).1=mt at *;generalize hmk:(aH aB A' (om (f::P) (.node x l r) .nil) (.node x l r)).2=mk at *;generalize hth:om (f::P) (.node x l r) .nil=th at *;clear sM f4' h3;have q3:=r3 _ (ae.refl _ _);have q4:=(r4 _ (ae.refl _ _)).1
 go_region_law
  (first
   | (go_simp;go_at_call 236;(with_reducible refine (km _ β).mono ?_);rintro e w5 ⟨rfl,pW,S5,VB,vQ,CZ,LA,hs5⟩;(have bW:ae [B.c,B.ba,B.br] w4 w5:=ae.trans β pW);(have iX:ae [B.c,B.ba,B.br,gt] w4 w5:=bW.mono σ);obtain ⟨d5,f5⟩:=r4 _ bW))
 all_goals
  go_wp2;go_ret
  have v3:ae (B.blk F gt) w w5:=u4.trans (bW.mono (λy hy=>by
   simp only[ρ,ς,or_false] at hy;simp only[LB.blk,ρ];rcases hy with rfl|rfl|rfl
   ·simp[oC]
   ·simp
   ·simp))
  subst hth hmt hmk;refine⟨rfl,v3.setCell (Α (by simp[LB.blk])) _,S5,VB,_,vQ.mg g _,CZ,LA,HF.out w5 S5 VB 0 hs5,λq hq=>?_⟩
  by_cases e:q=g
  ·rw[Δ e,e,φ,ύ,Δ rfl,Δ hgt];rfl
  ·rw[Γ e,φ,ύ,Γ (λh=>e h.symm),←φ]
theorem UL(h:lC w B F gt ct A st tr)(g x:Nat)(hx:x∈(tr g).nodes)(k s:Int)(hk:-9223372036854775808<=k/\k<=9223372036854775807/\0<=s/\s<=18446744073709551615)(hB:jf A x k s=true) :
  Calls prog 227 #[.pointer (some ⟨B.n0,0,none⟩),.int .i64 (x:Int),.agg #[.int .i64 k,.int .u64 s]] w λe w'=>e=.returned (.bool true)/\ae (B.blk F gt) w w'/\
   lC w' B F gt ct (aA A x k s) (cK st (Vi (aA A x k s) (tr g) x).2) (λq=>if q=g then(Vi (aA A x k s) (tr g) x).1 else tr q):=by
 obtain⟨S,rk,ai,hM,hI,hL,hR⟩:=h;have hm:=(hI.mem g x).1 hx;have e:=nP hx;unfold Vi;generalize (pathOf (tr g) x).1=P at *;generalize (pathOf (tr g) x).2.1=l at *;generalize (pathOf (tr g) x).2.2=r at *;have hgt:g<ai.length:=by rw[hM.iJ];have:=(hM.cells.ok.nat x hm.2.1);omega
 have hgh:g<A.hs.length:=by rw[←hM.iJ];exact hgt
 have hT:=hI.zG g;have hn:=hI.nd g;have hH:=hI.heap g;have hRg:=hR g;have J2:=hL g;have htp:=hI.top g hgh;rw[e] at hT hn hH hRg J2 htp;obtain⟨d1,d2⟩:=IY hB hm.2.1 hn hH;obtain⟨l1,l2⟩:=(uY _ _).1 J2;have fin:∀w' T st',Km w' B F gt ct (aA A x k s) st' S rk ai g (tr g).nodes T->T.nodes.Perm (tr g).nodes->Heap (aA A x k s) T->Lean T->lC w' B F gt ct (aA A x k s) st' (λq=>if q=g then T else tr q):=λw' T st' hE hp hh hl=>by
  obtain⟨S',mV,iI,q1,q2,q3,q4,q6⟩:=hE;refine⟨S',mV,iI,q1,hI.low hB hx q2 hp hh (λy hy=>(q4 y hy).1) (λq hq=>q6 q (by rw[lQ];exact hq)),λq=>?_,λq=>?_⟩
  ·show Lean (if q=g then _ else _)
   split
   ·exact hl
   ·exact hL q
  ·show gu mV (if q=g then _ else _)
   split
   ·exact q3
   ·rename_i hq
    refine(hR q).frame (λy hy=>(q4 y (λhm'=>?_)).2);have c1:=(hI.mem g y).1 hm';have c2:=(hI.mem q y).1 hy;omega
 cases P with
 |nil=>
  refine(Td hM hk hB hm.2.2 hm.1 htp hm.2.1 hT hRg).mono ?_;rintro e' w' ⟨rfl,hu,hE⟩;have e2:tr g=.node x l r:=e;refine⟨rfl,hu,?_⟩
  show lC w' B F gt ct (aA A x k s) (cK st 0) (λq=>if q=g then tr g else tr q)
  rw[fF hM.cells.nH];refine fin w' _ st (by rw[e2];exact hE) (ό _) (by rw[e2];exact d2) (hL g)
 |cons f P2=>
  refine(XQ hM hk hB hm.2.2 hm.1 hgt htp hT hn hRg (λy hy=>?_)).mono ?_
  ·rw[←e] at hy;have:=(hI.mem g y).1 hy;exact(aj A y).2 ⟨this.2.1,ω⟩
  ·rintro e' w' ⟨rfl,hu,hE⟩;refine⟨rfl,hu,?_⟩;obtain⟨mp,mh⟩:=jO mq (aA A x k s) _ (om (f::P2) (.node x l r) .nil) (.node x l r) (Θ _);have pn:((om (f::P2) (.node x l r) .nil).nodes++(BT.node x l r).nodes).Perm (tr g).nodes:=by
    rw[e];refine(((vw _ _ _).trans (aW (f::P2) .nil)).append_right _).trans ?_;refine List.perm_append_comm.trans ?_;simp only[BT.nodes,ϛ];exact(aW (f::P2) (.node x l r)).symm
   refine fin w' _ _ (by rw[e];exact hE) (mp.trans pn) (mh (Jm _ _ _ d1) d2 (pn.nodup_iff.2 (hI.nd g))) (r9 _ _ _ _ (Θ _) (Ib _ _ _ trivial l2) l1)
end
section
variable{w:World}{B:LB}{F:List Nat}{gt ct:Nat}{A:NS}{st:Nat}{tr:Nat->BT}{S:TS}{rk:Nat->Nat}{ai:List Int}
def DJ(up:Nat->BT->BT->BT)(A:NS)(tr:Nat->BT)(a b:Nat):BT×Nat:=aH up (az A a b) (tr a) (tr b)
theorem Oh(h:lC w B F gt ct A st tr)(a b:Nat)(hj:gJ A a b=true) :
  Calls prog 232 #[.pointer (some ⟨B.n0,0,none⟩),.int .i64 (a:Int),.int .i64 (b:Int)] w λe w'=>e=.returned (.bool true)/\ae (B.blk F gt) w w'/\
   lC w' B F gt ct (az A a b) (cK st (DJ aB A tr a b).2) (λq=>if q=a then(DJ aB A tr a b).1 else if q=b then .nil else tr q):=by
 obtain⟨S,rk,ai,hM,hI,hL,hR⟩:=h;obtain⟨j1,j2,j3⟩:=(dG _ _ _).1 hj;have a1:=(aC _ _).1 j1;have a2:=(aC _ _).1 j2;have hne:a≠b:=λe=>j3 (by rw[e]);have hcs:=eY A a b;have jd:(az A a b).hs.length=A.hs.length:=by unfold az;rw[Δ hj];simp
 have Cf:=hI.top a ω;have htb:=hI.top b ω;have hX:((tr a).nodes++(tr b).nodes).Nodup:=by
  rw[θ];refine⟨hI.nd a,hI.nd b,λx hx y hy e2=>?_⟩;have b1:=(hI.mem a x).1 hx;have b2:=(hI.mem b y).1 hy;rw[e2] at b1;omega
 have hin:∀y,y∈(tr a).nodes++(tr b).nodes->bY (az A a b) (y:Int)=true:=λy hy=>by
  rw[aj,hcs,oO hj];rw[τ] at hy;rcases hy with hy|hy
  ·have:=(hI.mem a y).1 hy;refine⟨this.2.1,?_⟩
   show 0<(if _ then _ else _:Int)
   split<;>omega
  ·have:=(hI.mem b y).1 hy;refine⟨this.2.1,?_⟩
   show 0<(if _ then _ else _:Int)
   split<;>omega
 obtain⟨mp,mh⟩:=jO mq (az A a b) _ (tr a) (tr b) (Θ _);have Qz:=mh (nO hj (hI.heap a)) (nO hj (hI.heap b)) hX;have ml:=r9 (az A a b) _ (tr a) (tr b) (Θ _) (hL a) (hL b);have Iw:=hI.zG a;have JH:=hI.zG b;have hra:=hR a;have hrb:=hR b;unfold DJ
 have FI:Hid (∀ (W:World) (S':TS) (mV:Nat->Nat) (st':Nat),lG W B F gt ct (az A a b) st' S' mV ((ai.set a (aH aB (az A a b) (tr a) (tr b)).1.root).set b (-1))->dL S' (-1) (aH aB (az A a b) (tr a) (tr b)).1.root (aH aB (az A a b) (tr a) (tr b)).1->gu mV (aH aB (az A a b) (tr a) (tr b)).1->
   (∀y,y∉(tr a).nodes++(tr b).nodes->S.at S' y/\mV y=rk y)->lC W B F gt ct (az A a b) st' (λq=>if q=a then (aH aB (az A a b) (tr a) (tr b)).1 else if q=b then .nil else tr q)):=λW S' mV st' b1 b2 b3 b4=>by
  refine⟨S',mV,_,b1,hI.join hj b2 mp Qz (λy hy=>(b4 y hy).1) (λq hq=>?_),λq=>?_,λq=>?_⟩
  ·have hl:ai.length=A.hs.length:=hM.iJ;rw[φ,ύ,Ι]
   by_cases e:q=a
   ·rw[Γ ω,ύ,Δ e.symm,Δ ω,Δ e];rfl
   ·by_cases e2:q=b
    ·rw[Δ e2.symm,Δ ω,Γ e,Δ e2];rfl
    ·rw[Γ ω,ύ,Γ ω,Γ e,Γ e2,←φ]
  ·show Lean (if q=a then _ else if q=b then _ else _)
   split
   ·exact ml
   ·split
    ·exact trivial
    ·exact hL q
  ·show gu mV (if q=a then _ else if q=b then _ else _)
   split
   ·exact b3
   ·split
    ·exact trivial
    ·rename_i hq1 hq2
     refine(hR q).frame (λy hy=>(b4 y (λhm=>?_)).2);have c2:=(hI.mem q y).1 hy;rw[τ] at hm;rcases hm with hm|hm
     ·have c1:=(hI.mem a y).1 hm;omega
     ·have c1:=(hI.mem b y).1 hm;omega
 have hga:a<ai.length:=by rw[hM.iJ];omega
 have hgb:b<ai.length:=by rw[hM.iJ];omega
 have kj:=mf hM.cells a b hj;have h0:=hM.h0;have HM:=χ hM;have Xo:=χ (ψ hM.sep hM.bS);have oC:=hM.cF;have HH:=χ (ψ hX (ψ hin (ψ (ψ Iw JH) (ψ hra hrb))));clear hM hI hL hR hX hin mp mh Qz ml Iw JH hra hrb j1 j2 j3 a1 a2;generalize hA':az A a b=A' at *;generalize htra:tr a=ta at *;generalize htrb:tr b=tb at *
 go_enter func232,ntmps232
 go_wp2_with (first
  |((go_at_call 141;(with_reducible refine(kj).mono ?_));rintro e w1 ⟨rfl,gG,hu1⟩)
  | fail)
 have hM1:=HM.out.cB hu1 gG (λy hy=>Α hy) hcs jd;have km:=λW (hW:ae [] w1 W)=>q9 (hM1.ag hW) HH.out.2.2.1.1 HH.out.2.2.1.2 HH.out.1 HH.out.2.1 HH.out.2.2.2.1 HH.out.2.2.2.2;have d4:=hM1.iG.cell a hga;rw[Cf] at d4;have Zu:=hM1.iG.cell b hgb;rw[htb] at Zu;have f4:=hM1.iG.free a;have f4b:=hM1.iG.free b;have h3:=hM1.h3;have wJ:B.n0∉[B.c,B.ba,B.br,gt]:=by
  have a1:=Xo.out;have a2:B.n0≠B.c:=λe=>a1.2.1 (by rw[e];exact oC);simp;omega
 have hgc:gt∉[B.c,B.ba,B.br]:=by
  have a1:=Xo.out;have a2:gt≠B.c:=λe=>a1.2.2.2.2.2 (by rw[e];exact oC);simp;omega
 have r3:∀W,ae [B.c,B.ba,B.br,gt] w1 W->W.cell? ⟨B.n0,3,none⟩=some (.slice (some ⟨gt,0,none⟩) ai.length ct):=λW hW=>hW.kept h3 wJ;have r4:∀W,ae [B.c,B.ba,B.br] w1 W->W.cell? ⟨gt,a,none⟩=some (.int .i64 ta.root)/\W.frozen? ⟨gt,a,none⟩=false:=λW hW=>⟨hW.kept d4 hgc,hW.aM d4 hgc f4⟩
 have r5:∀W,ae [B.c,B.ba,B.br] w1 W->W.cell? ⟨gt,b,none⟩=some (.int .i64 tb.root)/\W.frozen? ⟨gt,b,none⟩=false:=λW hW=>⟨hW.kept Zu hgc,hW.aM Zu hgc f4b⟩
 have BF:(0:Int)<=(a:Int):=ω;have CB:(a:Int)<(ai.length:Int):=ω;have hib3:(0:Int)<=(b:Int):=ω;have hib4:(b:Int)<(ai.length:Int):=ω;generalize hmt:(aH aB A' ta tb).1=mt at *;generalize hmk:(aH aB A' ta tb).2=mk at *;have s1:B.n0≠gt:=Xo.out.1.1.2.2.2;clear hM1 f4 f4b h3;have q3:=r3 _ (ae.refl _ _)
 go_region_law
  (first
   | (go_simp;go_at_call 236;(with_reducible refine (km _ β).mono ?_);rintro e w5 ⟨rfl,pW,S5,VB,vQ,CZ,LA,hs5⟩;(have bW:ae [B.c,B.ba,B.br] w1 w5:=ae.trans β pW);(have iX:ae [B.c,B.ba,B.br,gt] w1 w5:=bW.mono σ);obtain ⟨d5,f5⟩:=r4 _ bW;obtain ⟨d5b,f5b⟩:=r5 _ bW))
 all_goals
  go_wp2;go_ret;have v1:ae (B.blk F gt) w w1:=hu1.mono (λy hy=>by simp only[LB.blk,ρ];simp[hy])
  have v3:ae (B.blk F gt) w w5:=v1.trans (bW.mono (λy hy=>by
   simp only[ρ,ς,or_false] at hy;simp only[LB.blk,ρ];rcases hy with rfl|rfl|rfl
   ·simp[oC]
   ·simp
   ·simp))
  subst hmt hmk;exact⟨rfl,(v3.setCell (Α (by simp[LB.blk])) _).setCell (Α (by simp[LB.blk])) _,FI.out _ S5 VB _ ((vQ.mg a _).mg b (-1)) CZ LA hs5⟩
theorem CO(h:lC w B F gt ct A st tr)(g:Nat)(hn:0<dD A g) :
  Calls prog 229 #[.pointer (some ⟨B.n0,0,none⟩),.int .i64 (g:Int)] w λe w'=>∃m:Nat,dN A g=some m/\e=.returned (.tuple #[.int .i64 (m:Int),.bool true])/\ae (B.blk F gt) w w'/\
   lC w' B F gt ct (bg A m) (cK st (GN A (tr g) m).2) (λq=>if q=g then(GN A (tr g) m).1 else tr q):=by
 have k:=Eb h g hn;have h':=h;obtain⟨S,rk,ai,hM,hI,hL,hR⟩:=h';have kd:=λm hm=>zq h g m hm;have hroot:∀m:Nat,(tr g).root=m->m∈(tr g).nodes:=λm hm=>by
  have hne:tr g≠.nil:=λe=>by rw[e] at hm;have:(-1:Int)=m:=hm;omega
  have:=(cz hne).1;rw[hm] at this;simpa using this
 clear hM hI hL hR h
 go_enter func229,ntmps229
 go_wp2_with (first
  |((go_at_call 233;(with_reducible refine(k).mono ?_));rintro e w1 ⟨m,hm1,hm2,rfl,rfl⟩;(have SQ:=kd m (hroot m hm2)))
  |((go_at_call 228;(with_reducible refine(SQ).mono ?_));rintro e w2 ⟨rfl,hu2,hL2⟩)
  | fail)
 go_ret2;exact⟨m,hm1,rfl,hu2,hL2⟩
end
theorem KJ:VI 138 "Has" 123:=by intro p c W h;unfold method;obtain⟨m,h1,h2,h3,h4⟩:=wC Tryz.t138.methods "Has" [⟨204,0,true⟩] 123 (by kernel_rfl);exact vZ
theorem Gb:VI 138 "Entry" 121:=by intro p c W h;unfold method;obtain⟨m,h1,h2,h3,h4⟩:=wC Tryz.t138.methods "Entry" [⟨204,0,true⟩] 121 (by kernel_rfl);exact vZ
theorem XF:MI 138 "Make" 231:=λ_ _=>by kernel_rfl
theorem O7:MI 138 "Insert" 230:=λ_ _=>by kernel_rfl
theorem Z0:MI 138 "Min" 233:=λ_ _=>by kernel_rfl
theorem Kz:MI 138 "Extract" 229:=λ_ _=>by kernel_rfl
theorem Ic:MI 138 "Decrease" 227:=λ_ _=>by kernel_rfl
def LfQ(w:World)(p:Nat)(F:List Nat)(A:NS):Prop:=∃B F1 gt ct st tr,p=B.n0/\F=B.blk F1 gt/\lC w B F1 gt ct A st tr
def xw:NestQ where
 ty:=138
 at_:=LfQ
 upd:=λh hu hS=>by
  obtain⟨B,F1,gt,ct,st,tr,rfl,rfl,hL⟩:=h;exact⟨B,F1,gt,ct,st,tr,rfl,rfl,hL.upd hu hS⟩
 lt:=λh=>by
  obtain⟨B,F1,gt,ct,st,tr,rfl,rfl,S,rk,ai,hM, -⟩:=h;exact hM.lt
 ok:=λh=>by
  obtain⟨B,F1,gt,ct,st,tr,rfl,rfl,S,rk,ai,hM, -⟩:=h;exact hM.cells.ok
 make:=λ{w p F A} h=>by
  obtain⟨B,F1,gt,ct,st,tr,rfl,rfl,hL⟩:=h;refine aJ 231 (λ_ _=>by kernel_rfl) (XF _) (λW hW=>?_);have jG:=hL.ag hW
  by_cases hl:65536<A.hs.length
  ·have e1:dJ A=0:=by unfold dJ;rw[Δ hl]
   have e2:aU A=A:=by unfold aU;rw[Δ hl]
   rw[e1,e2];refine(Tv jG hl).mono ?_;rintro e w' ⟨rfl,F',⟨F2,rfl,hA⟩,hu,hf⟩;exact⟨rfl,_,⟨B,F2,gt,ct,st,tr,rfl,rfl,hA⟩,hu,hf⟩
  ·have e1:dJ A=A.hs.length:=by unfold dJ;rw[Γ hl]
   rw[e1];refine(P8 jG hl).mono ?_;rintro e w' ⟨rfl,F',⟨F2,gt2,ct2,rfl,hA⟩,hu,hf⟩;exact⟨rfl,_,⟨B,F2,gt2,ct2,st,tr,rfl,rfl,hA⟩,hu,hf⟩
 insert:=λ{w p F A} g y k s hk hB h=>by
  obtain⟨B,F1,gt,ct,st,tr,rfl,rfl,hL⟩:=h;refine aJ 230 (λ_ _=>by kernel_rfl) (O7 _) (λW hW=>?_);refine(Jz (hL.ag hW) g y k s hk hB).mono ?_;rintro e w' ⟨rfl,hu,hL2⟩;exact⟨rfl,Goes.stay ⟨B,F1,gt,ct,_,_,rfl,rfl,hL2⟩ hu⟩
 min:=λ{w p F A} y hB h=>by
  obtain⟨B,F1,gt,ct,st,tr,rfl,rfl,hL⟩:=h;refine aJ 233 (λ_ _=>by kernel_rfl) (Z0 _) (λW hW=>?_);have jG:=hL.ag hW;have hok:A.Ok:=by obtain⟨S,rk,ai,hM, -⟩:=hL;exact hM.cells.ok
  by_cases hl:dD A (y:Int)=0
  ·rw[iB.2 hl];have h4:=(aC _ _).1 hB;have h5:=hok.h1;refine(Pv jG y ω hl).mono ?_;rintro e w' ⟨rfl,rfl⟩;exact⟨rfl,Goes.stay ⟨B,F1,gt,ct,st,tr,rfl,rfl,jG⟩ (ae.refl _ _)⟩
  ·refine(Eb jG y ω).mono ?_;rintro e w' ⟨m,hm, -,rfl,rfl⟩;rw[hm];exact⟨rfl,Goes.stay ⟨B,F1,gt,ct,st,tr,rfl,rfl,jG⟩ (ae.refl _ _)⟩
 extract:=λ{w p F A} y m hm h=>by
  obtain⟨B,F1,gt,ct,st,tr,rfl,rfl,hL⟩:=h;refine aJ 229 (λ_ _=>by kernel_rfl) (Kz _) (λW hW=>?_);have hl:¬dD A (y:Int)=0:=λe=>by rw[iB.2 e] at hm;cases hm
  refine(CO (hL.ag hW) y ω).mono ?_;rintro e w' ⟨m',hm',rfl,hu,hL2⟩;rw[hm] at hm';cases hm';exact⟨rfl,Goes.stay ⟨B,F1,gt,ct,_,_,rfl,rfl,hL2⟩ hu⟩
 mJ:=λ{w p F A} y k s hk hB h=>by
  obtain⟨B,F1,gt,ct,st,tr,rfl,rfl,hL⟩:=h;refine aJ 227 (λ_ _=>by kernel_rfl) (Ic _) (λW hW=>?_);have jG:=hL.ag hW;have hin:=ry hB;have hx:y∈(tr (A.c y).i.toNat).nodes:=by
   obtain⟨S,rk,ai,hM,hI, -⟩:=jG;have:=(aj _ _).1 hin;exact(hI.mem _ y).2 ⟨ω,this.1,ω⟩
  refine(UL jG _ y hx k s hk hB).mono ?_;rintro e w' ⟨rfl,hu,hL2⟩;exact⟨rfl,Goes.stay ⟨B,F1,gt,ct,_,_,rfl,rfl,hL2⟩ hu⟩
 has:=λx h=>by
  obtain⟨B,F1,gt,ct,st,tr,rfl,rfl,S,rk,ai,hM, -⟩:=h;exact dQ 123 (λ_ _=>by kernel_rfl) hM.h0 (KJ _ _) (λW hW=>jr (hM.ag hW).cells x)
 entry:=λ{w p F A} x h=>by
  obtain⟨B,F1,gt,ct,st,tr,rfl,rfl,S,rk,ai,hM, -⟩:=h;refine dQ 121 (λ_ _=>by kernel_rfl) hM.h0 (Gb _ _) (λW hW=>?_);cases hin:bY A x with
  |false=>simpa using l9 (hM.ag hW).cells x hin
  |true=>
   obtain⟨y,rfl⟩:=rC hin;simpa using jT (hM.ag hW).cells y hin
theorem Mv(p:Nat)(w:World):Calls prog 65 #[.pointer (some ⟨p,0,none⟩),.int .i64 0] w λe w'=>e=.returned (.tuple #[.iface 138 (.pointer (some ⟨p,0,none⟩)),.int .i64 0])/\w'=w:=by
 go_enter func65,ntmps65
 go_wp2;go_ret2;exact⟨rfl,rfl⟩
theorem Jc(n:Nat)(hn:n<=65536):o9 xw 6 0 n:=by
 intro w;have kn:=λW=>RL n W hn;have km:=Mv;have hty:xw.ty=138:=rfl;have hat:∀w' B F gt,lC w' B F gt 1 (NS.new n) 0 (λ_=>.nil)->xw.at_ w' B.n0 (B.blk F gt) (NS.new n)/\Ih w' B.n0 n:=λw' B F gt h=>⟨⟨B,F,gt,_,_,_,rfl,rfl,h⟩,by obtain⟨S,rk,ai,hM, -⟩:=h;exact⟨_,_,hM.h0,hM.cells⟩⟩
 generalize xw=K at *;rw[hty]
 go_enter func35,ntmps35
 go_wp2_with (first
  |((go_at_call 66;(with_reducible refine(kn _).mono ?_));rintro e w1 ⟨B,F,gt,rfl,hS,hu1,hf⟩)
  |((go_at_call 65;(with_reducible refine(km _ _).mono ?_));rintro e w2 ⟨rfl,rfl⟩)
  | fail)
 go_ret2;exact⟨B.n0,B.blk F gt,rfl,(hat _ _ _ _ hS).1,(hat _ _ _ _ hS).2,ae.trans β hu1,λx hx=>by have:=hf x hx;simp at this;omega⟩
def iC(tr:Nat->BT)(h:Nat)(t:BT):Nat->BT:=λq=>if q=h then t else tr q
end Go.Proofs.YtnpdakpagnpanaaGreat
