/-
  Lemmas for PqOpens: Spine, Spine2, Bt, Bt2, Bt3, Bt4, Lf, Lf2, Lf3, Lf4, Lf6, Lf7, Lf8, Lf9, Bt5, LfQ, TOps. Conditions: those of each lemma.
-/
import Derived.IntWalk
import Derived.Test.YtnpdakpagnpanaaGreatD02
set_option linter.all false
set_option maxHeartbeats 8000000
set_option maxRecDepth 10000
namespace Go.Proofs.YtnpdakpagnpanaaGreat
open Go Go.RowKit
structure TS where
 l:Nat->Int
 r:Nat->Int
 u:Nat->Int
def TS.none:TS:=⟨λ_=>-1,λ_=>-1,λ_=>-1⟩
def TS.kid (S:TS) (s:Bool) (x:Nat):Int:=if s then S.r x else S.l x
def aV (S:TS) (j:Nat):Value:=.int .i64 (if j % 3=0 then S.l (j / 3) else if j % 3=1 then S.r (j / 3) else S.u (j / 3))
theorem gT (S:TS) (x:Nat):aV S (x*3)=.int .i64 (S.l x):=by unfold aV;rw [Δ ω,show x*3 / 3=x by omega]
theorem gV (S:TS) (x:Nat):aV S (x*3+1)=.int .i64 (S.r x):=by unfold aV;rw [Γ ω,Δ ω,show (x*3+1) / 3=x by omega]
theorem jy (S:TS) (x:Nat):aV S (x*3+2)=.int .i64 (S.u x):=by unfold aV;rw [Γ ω,Γ ω,show (x*3+2) / 3=x by omega]
structure aO (w:World) (bt ba n:Nat) (S:TS):Prop where
 head:ak w bt 238 1 (λ_=>.slice (some ⟨ba,0,none⟩) n n)
 row:ak w ba 241 (n*3) (aV S)
 ne:bt≠ba
 le:n<=65536
theorem aO.upd {w w':World} {F:List Nat} {bt ba n:Nat} {S:TS} (h:aO w bt ba n S) (hu:aa F w w') (h1:bt∉F) (h2:ba∉F):aO w' bt ba n S:=
 ⟨h.head.upd hu h1,h.row.upd hu h2,h.ne,h.le⟩
theorem aO.drewN {w:World} {bt ba n:Nat} {S:TS} (h:aO w bt ba n S) (k:Nat):aO (w.drewN k) bt ba n S:=⟨h.head,h.row,h.ne,h.le⟩
theorem aO.drew {w:World} {bt ba n:Nat} {S:TS} (h:aO w bt ba n S):aO w.drew bt ba n S:=⟨h.head,h.row,h.ne,h.le⟩
theorem wY:(Tryz.prog.info? 241).map (λi=>(i.zero,i.size,i.bytes))=some (some (.agg #[.int .i64 0,.int .i64 0,.int .i64 0]),3,24):=by kernel_rfl
theorem jY (n:Nat) (w:World) (h:n<=65536) :
  Calls Tryz.prog 89 #[.int .i64 (n:Int)] w λe w'=>∃bt ba,e=.returned (.tuple #[.pointer (some ⟨bt,0,none⟩),.int .i64 0])/\aO w' bt ba n TS.none/\aa [] w w'/\w.heap.size<=bt/\w.heap.size<=ba:=by
 go_enter Tryz.func89,Tryz.ntmps89
 go_wp2_with (at_make;refine wpList_make_row rfl _ 236 rfl 241 (.agg #[.int .i64 0,.int .i64 0,.int .i64 0]) 3 24 Tryz.underlying236 wY n rfl ω μ ?_;intro w1 hr1 hu1)
 have hlt:=hr1.lt
 go_loopw [21] (λi wr=>∃ (k:Nat) (f:Nat->Value),k<=n/\i=.int .i64 k/\ak wr w1.heap.size 238 1 (λ_=>.slice (some ⟨w.heap.size,0,none⟩) n n)/\ak wr w.heap.size 241 (n*3) f/\(∀j,j<k*3->f j=.int .i64 (-1))/\aa [] w wr) (λi _=>n-(intOf i).toNat)
 case atStart=>exact ⟨0,_,ω,rfl,aY _ _ _ |>.ext (λj hj=>by simp at hj;subst hj;rfl),hr1.alloc _,ω,hu1.alloc _⟩
 case round=>
  obtain ⟨k,f,hk,rfl,hH,hR,hf,hu⟩:=hrel
  by_cases hkn:k<n
  ·have c0:=hH.cell 0 ω;have d0:=hR.cell (k*3) ω;have d1:=hR.cell (k*3+1) ω;have d2:=hR.cell (k*3+2) ω;have e0:=hR.free (k*3);have e1:=hR.free (k*3+1);have e2:=hR.free (k*3+2);have HF:=χ hf;clear hf;go_wp2
   go_roundw
   case rel=>
    refine ⟨k+1,_,ω,by go_num,((hH.far _ _ ζ).far _ _ ζ).far _ _ ζ,((hR.set _ _).set _ _).set _ _,λj hj=>?_,((hu.setCell (Β σ) _).setCell (Β σ) _).setCell (Β σ) _⟩
    show (if j=k*3+2 then _ else if j=k*3+1 then _ else if j=k*3 then _ else f j)=_
    split
    ·rfl
    ·split
     ·rfl
     ·split
      ·rfl
      ·exact HF.out j ω
   case measure=>simp [intOf];omega
  ·obtain rfl:k=n:=ω;go_wp2;go_ret2;exact ⟨_,_,rfl,⟨hH,hR.ext (λj hj=>by rw [hf j hj];unfold aV TS.none;simp),ω,h⟩,hu,hu1.size,Θ _⟩
theorem ik (bt ba n:Nat) (S:TS) (x:Int) (w:World) (h:aO w bt ba n S) (b:Bool) (hb:b=decide (0<=x/\x<n)) :
  Calls Tryz.prog 247 #[.pointer (some ⟨bt,0,none⟩),.int .i64 x] w λe w'=>e=.returned (.bool b)/\w'=w:=by
 have hle:=h.le;have c0:=h.head.cell 0 ω;clear h;subst hb
 by_cases h0:0<=x
 ·by_cases h1:x<n
  ·go_enter Tryz.func247,Tryz.ntmps247
   go_wp2;go_ret;exact ⟨aP (by simp [h0,h1]),rfl⟩
  ·go_enter Tryz.func247,Tryz.ntmps247
   go_wp2;go_ret;exact ⟨aP (by simp [h0,h1]),rfl⟩
 ·go_enter Tryz.func247,Tryz.ntmps247
  go_wp2;go_ret;exact ⟨aP ζ,rfl⟩
theorem iZ (b:Bool) (w:World):Calls Tryz.prog 243 #[.bool b] w λe w'=>e=.returned (.int .i64 (if b then 1 else 0))/\w'=w:=by
 cases b
 all_goals
  go_enter Tryz.func243,Tryz.ntmps243
  go_wp2;go_ret;exact ⟨rfl,rfl⟩
theorem told_none (w:World):Calls Tryz.prog 246 #[.int .i64 (-1)] w λe w'=>e=.returned (.tuple #[.int .i64 0,.bool false])/\w'=w:=by
 go_enter Tryz.func246,Tryz.ntmps246
 go_wp2;go_ret2;exact ⟨rfl,rfl⟩
theorem xW (x:Int) (w:World) (h:x≠-1):Calls Tryz.prog 246 #[.int .i64 x] w λe w'=>e=.returned (.tuple #[.int .i64 x,.bool true])/\w'=w:=by
 have h':(x == -1)=false:=by simpa using h
 go_enter Tryz.func246,Tryz.ntmps246
 go_wp2;go_ret2;exact ⟨rfl,rfl⟩
def cK (n:Nat) (S:TS) (x:Int) (r:Bool):Int:=if 0<=x/\x<n then S.kid r x.toNat else -1
def mJ (n:Nat) (S:TS) (x:Int):Int:=if 0<=x/\x<n then S.u x.toNat else -1
theorem mf (bt ba n:Nat) (S:TS) (x:Int) (r:Bool) (w:World) (h:aO w bt ba n S) :
  Calls Tryz.prog 244 #[.pointer (some ⟨bt,0,none⟩),.int .i64 x,.bool r] w λe w'=>e=.returned (.int .i64 (cK n S x r))/\∃k,w'=w.drewN k:=by
 by_cases hx:0<=x/\x<n
 ·obtain ⟨k,rfl⟩:∃k:Nat,x=k:=⟨x.toNat,ω⟩;have hk:k<n:=ω;have e:cK n S k r=S.kid r k:=by unfold cK;rw [Δ hx];simp
  have hle:=h.le;have c0:=h.head.cell 0 ω;have d0:=h.row.cellAt (k*3) ω (gT S k);have d1:=h.row.cellAt (k*3+1) ω (gV S k);rw [e];clear e;cases r
  all_goals
   unfold TS.kid;simp only [if_true,if_false,ϗ]
   go_enter Tryz.func244,Tryz.ntmps244
   go_wp2_with (go_at_call 247;refine (ik bt ba n S k _ h true (by simp [hk])).mono ?_;rintro e w' ⟨rfl,rfl⟩)
   go_quiet ((go_at_call 243;exact Calls.quiet_of_same (iZ _ _)))
   go_wp2;go_ret;exact ⟨rfl,_,rfl⟩
 ·have e:cK n S x r=-1:=by unfold cK;rw [Γ hx]
  rw [e];clear e
  go_enter Tryz.func244,Tryz.ntmps244
  go_wp2_with (go_at_call 247;refine (ik bt ba n S x _ h false (by simp [hx])).mono ?_;rintro e w' ⟨rfl,rfl⟩)
  go_ret;exact ⟨rfl,0,rfl⟩
theorem lJ (bt ba n:Nat) (S:TS) (x:Int) (w:World) (h:aO w bt ba n S) :
  Calls Tryz.prog 242 #[.pointer (some ⟨bt,0,none⟩),.int .i64 x] w λe w'=>e=.returned (.int .i64 (mJ n S x))/\w'=w:=by
 by_cases hx:0<=x/\x<n
 ·obtain ⟨k,rfl⟩:∃k:Nat,x=k:=⟨x.toNat,ω⟩;have hk:k<n:=ω;have e:mJ n S k=S.u k:=by unfold mJ;rw [Δ hx];simp
  have hle:=h.le;have c0:=h.head.cell 0 ω;have d0:=h.row.cellAt (k*3+2) ω (jy S k);rw [e];clear e
  go_enter Tryz.func242,Tryz.ntmps242
  go_wp2_with (go_at_call 247;refine (ik bt ba n S k _ h true (by simp [hk])).mono ?_;rintro e w' ⟨rfl,rfl⟩)
  go_ret;exact ⟨rfl,rfl⟩
 ·have e:mJ n S x=-1:=by unfold mJ;rw [Γ hx]
  rw [e];clear e
  go_enter Tryz.func242,Tryz.ntmps242
  go_wp2_with (go_at_call 247;refine (ik bt ba n S x _ h false (by simp [hx])).mono ?_;rintro e w' ⟨rfl,rfl⟩)
  go_ret;exact ⟨rfl,rfl⟩
def tv (x:Int):Int:=if x=-1 then 0 else x
def tb (x:Int):Bool:=decide (x≠-1)
theorem qX (x:Int) (w:World):Calls Tryz.prog 246 #[.int .i64 x] w λe w'=>e=.returned (.tuple #[.int .i64 (tv x),.bool (tb x)])/\w'=w:=by
 by_cases h:x=-1
 ·subst h;exact told_none w
 ·have e1:tv x=x:=by unfold tv;rw [Γ h]
  have e2:tb x=true:=by unfold tb;simp [h]
  rw [e1,e2];exact xW x w h
theorem sO (bt ba n:Nat) (S:TS) (x:Int) (w:World) (h:aO w bt ba n S) :
  Calls Tryz.prog 238 #[.pointer (some ⟨bt,0,none⟩),.int .i64 x] w λe w'=>e=.returned (.tuple #[.int .i64 (tv (cK n S x false)),.bool (tb (cK n S x false))])/\∃k,w'=w.drewN k:=by
 generalize hy:cK n S x false=y;have c1:=mf bt ba n S x false w h;rw [hy] at c1;have c2:=λW=>qX y W
 go_enter Tryz.func238,Tryz.ntmps238
 go_wp2_with (first|(go_at_call 244;refine c1.mono ?_;rintro e w' ⟨rfl,k,rfl⟩)|(go_at_call 246;refine (c2 _).mono ?_;rintro e w' ⟨rfl,rfl⟩))
 go_ret2;exact ⟨rfl,_,rfl⟩
theorem jB (bt ba n:Nat) (S:TS) (x:Int) (w:World) (h:aO w bt ba n S) :
  Calls Tryz.prog 239 #[.pointer (some ⟨bt,0,none⟩),.int .i64 x] w λe w'=>e=.returned (.tuple #[.int .i64 (tv (cK n S x true)),.bool (tb (cK n S x true))])/\∃k,w'=w.drewN k:=by
 generalize hy:cK n S x true=y;have c1:=mf bt ba n S x true w h;rw [hy] at c1;have c2:=λW=>qX y W
 go_enter Tryz.func239,Tryz.ntmps239
 go_wp2_with (first|(go_at_call 244;refine c1.mono ?_;rintro e w' ⟨rfl,k,rfl⟩)|(go_at_call 246;refine (c2 _).mono ?_;rintro e w' ⟨rfl,rfl⟩))
 go_ret2;exact ⟨rfl,_,rfl⟩
def TS.aC (S:TS) (p:Nat) (s:Bool) (v:Int):TS:=if s then ⟨S.l,λi=>if i=p then v else S.r i,S.u⟩ else ⟨λi=>if i=p then v else S.l i,S.r,S.u⟩
def TS.bL (S:TS) (p:Nat) (v:Int):TS:=⟨S.l,S.r,λi=>if i=p then v else S.u i⟩
theorem aO.aC {w:World} {bt ba n:Nat} {S:TS} (h:aO w bt ba n S) (p:Nat) (s:Bool) (v:Int) :
  aO (w.setCell ⟨ba,p*3+(if s then 1 else 0),none⟩ (.int .i64 v)) bt ba n (S.aC p s v):=by
 refine ⟨h.head.far _ _ h.ne,(h.row.set _ _).ext (λj hj=>?_),h.ne,h.le⟩;cases s
 ·unfold aV TS.aC
  by_cases hj2:j=p*3
  ·subst hj2;simp
  ·have:¬ (j % 3=0/\j / 3=p):=ω
   by_cases h0:j % 3=0
   ·simp [hj2,h0];intro hh;exfalso;omega
   ·simp [hj2,h0]
 ·unfold aV TS.aC
  by_cases hj2:j=p*3+1
  ·subst hj2;simp;intro hh;exfalso;omega
  ·by_cases h0:j % 3=1
   ·simp [hj2,h0];intro hh;exfalso;omega
   ·simp [hj2,h0]
theorem aO.bL {w:World} {bt ba n:Nat} {S:TS} (h:aO w bt ba n S) (p:Nat) (v:Int) :
  aO (w.setCell ⟨ba,p*3+2,none⟩ (.int .i64 v)) bt ba n (S.bL p v):=by
 refine ⟨h.head.far _ _ h.ne,(h.row.set _ _).ext (λj hj=>?_),h.ne,h.le⟩;unfold aV TS.bL
 by_cases hj2:j=p*3+2
 ·subst hj2;simp;intro hh;exfalso;omega
 ·by_cases h0:j % 3=0
  ·simp [hj2,h0]
  ·by_cases h1:j % 3=1
   ·simp [hj2,h1]
   ·simp [hj2,h0,h1];intro hh;exfalso;omega
def kK (S:TS) (p x:Int) (r:Bool):TS:=(S.aC p.toNat r x).bL x.toNat p
theorem rZ (bt ba n:Nat) (S:TS) (i j:Nat) (r:Bool) (w:World) (h:aO w bt ba n S) (hi:i<n) (hj:j<n) (hne:i≠j) (hu:S.u j=-1) (hk:S.kid r i=-1) :
  Calls Tryz.prog 241 #[.pointer (some ⟨bt,0,none⟩),.int .i64 (i:Int),.int .i64 (j:Int),.bool r] w λe w'=>e=.returned (.bool true)/\aO w' bt ba n (kK S i j r)/\aa [ba] w w':=by
 have hle:=h.le;have hbne:=h.ne;have hbne':ba≠bt:=λe=>h.ne e.symm;have c0:=h.head.cell 0 ω;have d0:=h.row.cellAt (i*3) ω (gT S i);have d1:=h.row.cellAt (i*3+1) ω (gV S i);have d2:=h.row.cellAt (j*3+2) ω (jy S j);have e0:=h.row.free (i*3);have e1:=h.row.free (i*3+1);have e2:=h.row.free (j*3+2);have k1:=ik bt ba n S i w h true (by simp [hi]);have k2:=ik bt ba n S j w h true (by simp [hj]);have k3:=lJ bt ba n S j w h;rw [show mJ n S j=-1 by unfold mJ;rw [Δ ω];simpa using hu] at k3;have k4:=mf bt ba n S i r w h;rw [show cK n S i r=-1 by unfold cK;rw [Δ ω];simpa using hk] at k4
 have hij:((i:Int) == (j:Int))=false:=ζ;have H:=χ h;clear h hu hk;cases r
 ·go_enter Tryz.func241,Tryz.ntmps241
  go_wp2_with (first
   | (go_at_call 247;(with_reducible refine (k1).mono ?_);rintro e w' ⟨rfl,rfl⟩)
   | (go_at_call 247;(with_reducible refine (k2).mono ?_);rintro e w' ⟨rfl,rfl⟩)
   | (go_at_call 242;(with_reducible refine (k3).mono ?_);rintro e w' ⟨rfl,rfl⟩)
   | (go_at_call 244;(with_reducible refine (k4).mono ?_);rintro e w' ⟨rfl,kd,rfl⟩))
  go_region_held3 (λW=>W.cell? ⟨bt,0,none⟩=some (.slice (some ⟨ba,0,none⟩) n n)) (go_keep) ((go_at_call 243;refine (iZ _ _).mono ?_;rintro e w' ⟨rfl,rfl⟩))
  go_wp2;go_ret;exact ⟨rfl,((H.out.drewN _).aC i false j).bL j i,(((aa.refl _ _).drewN _).setCell (Α σ) _).setCell (Α σ) _⟩
 ·go_enter Tryz.func241,Tryz.ntmps241
  go_wp2_with (first
   | (go_at_call 247;(with_reducible refine (k1).mono ?_);rintro e w' ⟨rfl,rfl⟩)
   | (go_at_call 247;(with_reducible refine (k2).mono ?_);rintro e w' ⟨rfl,rfl⟩)
   | (go_at_call 242;(with_reducible refine (k3).mono ?_);rintro e w' ⟨rfl,rfl⟩)
   | (go_at_call 244;(with_reducible refine (k4).mono ?_);rintro e w' ⟨rfl,kd,rfl⟩))
  go_region_held3 (λW=>W.cell? ⟨bt,0,none⟩=some (.slice (some ⟨ba,0,none⟩) n n)) (go_keep) ((go_at_call 243;refine (iZ _ _).mono ?_;rintro e w' ⟨rfl,rfl⟩))
  go_wp2;go_ret;exact ⟨rfl,((H.out.drewN _).aC i true j).bL j i,(((aa.refl _ _).drewN _).setCell (Α σ) _).setCell (Α σ) _⟩
theorem FJ (bt ba n:Nat) (S:TS) (x:Int) (w:World) (h:aO w bt ba n S) (hu:mJ n S x=-1) :
  Calls Tryz.prog 234 #[.pointer (some ⟨bt,0,none⟩),.int .i64 x] w λe w'=>e=.returned (.tuple #[.int .i64 0,.bool false])/\w'=w:=by
 have k3:=lJ bt ba n S x w h;rw [hu] at k3;clear h hu
 go_enter Tryz.func234,Tryz.ntmps234
 go_wp2_with ((go_at_call 242;(with_reducible refine (k3).mono ?_);rintro e w' ⟨rfl,rfl⟩))
 go_ret2;exact ⟨rfl,rfl⟩
def lH (S:TS) (i j:Nat):TS:=(S.aC i (decide (S.r i=j)) (-1)).bL j (-1)
theorem wI (bt ba n:Nat) (S:TS) (i j:Nat) (w:World) (h:aO w bt ba n S) (hi:i<n) (hj:j<n) (hu:S.u j=i) :
  Calls Tryz.prog 234 #[.pointer (some ⟨bt,0,none⟩),.int .i64 (j:Int)] w λe w'=>e=.returned (.tuple #[.int .i64 (i:Int),.bool true])/\aO w' bt ba n (lH S i j)/\aa [ba] w w':=by
 have hle:=h.le;have hbne:ba≠bt:=λe=>h.ne e.symm;have c0:=h.head.cell 0 ω;have d0:=h.row.cellAt (i*3) ω (gT S i);have d1:=h.row.cellAt (i*3+1) ω (gV S i);have d2:=h.row.cellAt (j*3+2) ω (jy S j);have e0:=h.row.free (i*3);have e1:=h.row.free (i*3+1);have e2:=h.row.free (j*3+2);have k3:=lJ bt ba n S j w h;rw [show mJ n S j=i by unfold mJ;rw [Δ ω];simpa using hu] at k3;have k4:=λW (hW:aO W bt ba n S)=>mf bt ba n S i true W hW;rw [show cK n S i true=S.r i by unfold cK TS.kid;rw [Δ ω];simp] at k4;have H:=χ h;have hi1:((i:Int) == -1)=false:=σ;clear h
 by_cases hr:S.r i=j
 ·have hb:(S.r i == (j:Int))=true:=by simpa using hr
  have ec:lH S i j=(S.aC i true (-1)).bL j (-1):=by unfold lH;rw [Ν hr]
  have EC:=χ ec;clear hr ec hu
  go_enter Tryz.func234,Tryz.ntmps234
  go_wp2_with ((go_at_call 242;(with_reducible refine (k3).mono ?_);rintro e w' ⟨rfl,rfl⟩))
  go_region_held3 (λW=>W.cell? ⟨bt,0,none⟩=some (.slice (some ⟨ba,0,none⟩) n n)) (go_keep)
   (first|((go_at_call 243;refine (iZ _ _).mono ?_;rintro e w' ⟨rfl,rfl⟩))|((go_at_call 244;refine (k4 _ (H.out.drew)).mono ?_;rintro e w' ⟨rfl,kd,rfl⟩)))
  go_wp2;go_ret2;exact ⟨rfl,by rw [EC.out];exact ((H.out.drewN _).aC i true (-1)).bL j (-1),(((aa.refl _ _).drewN _).setCell (Α σ) _).setCell (Α σ) _⟩
 ·have hb:(S.r i == (j:Int))=false:=by simpa using hr
  have ec:lH S i j=(S.aC i false (-1)).bL j (-1):=by unfold lH;rw [Ξ hr]
  have EC:=χ ec;clear hr ec hu
  go_enter Tryz.func234,Tryz.ntmps234
  go_wp2_with ((go_at_call 242;(with_reducible refine (k3).mono ?_);rintro e w' ⟨rfl,rfl⟩))
  go_region_held3 (λW=>W.cell? ⟨bt,0,none⟩=some (.slice (some ⟨ba,0,none⟩) n n)) (go_keep)
   (first|((go_at_call 243;refine (iZ _ _).mono ?_;rintro e w' ⟨rfl,rfl⟩))|((go_at_call 244;refine (k4 _ (H.out.drew)).mono ?_;rintro e w' ⟨rfl,kd,rfl⟩)))
  go_wp2;go_ret2;exact ⟨rfl,by rw [EC.out];exact ((H.out.drewN _).aC i false (-1)).bL j (-1),(((aa.refl _ _).drewN _).setCell (Α σ) _).setCell (Α σ) _⟩
def dG (S:TS) (i:Nat):TS:=(S.aC i false (S.r i)).aC i true (S.l i)
theorem mK (bt ba n:Nat) (S:TS) (i:Nat) (w:World) (h:aO w bt ba n S) (hi:i<n) :
  Calls Tryz.prog 249 #[.pointer (some ⟨bt,0,none⟩),.int .i64 (i:Int)] w λe w'=>e=.returned (.bool true)/\aO w' bt ba n (dG S i)/\aa [ba] w w':=by
 have hle:=h.le;have c0:=h.head.cell 0 ω;have d0:=h.row.cellAt (i*3) ω (gT S i);have d1:=h.row.cellAt (i*3+1) ω (gV S i);have e0:=h.row.free (i*3);have e1:=h.row.free (i*3+1);have k1:=ik bt ba n S i w h true (by simp [hi]);have H:=χ h;clear h
 go_enter Tryz.func249,Tryz.ntmps249
 go_wp2_with ((go_at_call 247;(with_reducible refine (k1).mono ?_);rintro e w' ⟨rfl,rfl⟩))
 go_region
 go_wp2;go_ret;exact ⟨rfl,((H.out.aC i false (S.r i)).aC i true (S.l i)).drew,(((aa.refl _ _).setCell (Α σ) _).setCell (Α σ) _).drew⟩
end Go.Proofs.YtnpdakpagnpanaaGreat
namespace Go.Proofs.YtnpdakpagnpanaaGreat
inductive BT where
 | nil:BT
 | node:Nat->BT->BT->BT
def BT.root:BT->Int | .nil=>-1 | .node x _ _=>x
def BT.nodes:BT->List Nat | .nil=>[] | .node x l r=>x::(l.nodes++r.nodes)
def BT.size:BT->Nat | .nil=>0 | .node _ l r=>l.size+r.size+1
theorem BT.jL:∀t:BT,t.nodes.length=t.size
 | .nil=>rfl
 | .node x l r=>by simp [BT.nodes,BT.size,BT.jL l,BT.jL r]
def dD (S:TS):Int->Int->BT->Prop
 | _,z,.nil=>z=-1
 | p,z,.node x l r=>z=x/\S.u x=p/\dD S x (S.l x) l/\dD S x (S.r x) r
theorem dD.root {S:TS}:∀ {t:BT} {p z:Int},dD S p z t->z=t.root
 | .nil,_,_,h=>h
 | .node _ _ _,_,_,h=>h.1
def TS.at (S S':TS) (x:Nat):Prop:=S'.l x=S.l x/\S'.r x=S.r x/\S'.u x=S.u x
theorem dD.frame {S S':TS}:∀ {t:BT} {p z:Int},dD S p z t->(∀x,x∈t.nodes->S.at S' x)->dD S' p z t
 | .nil,_,_,h,_=>h
 | .node x l r,p,z,h,hs=>by
  have hx:=hs x (by simp [BT.nodes]);refine ⟨h.1,by rw [hx.2.2];exact h.2.1,?_,?_⟩
  ·rw [hx.1];exact dD.frame h.2.2.1 (λy hy=>hs y (by simp [BT.nodes,hy]))
  ·rw [hx.2.1];exact dD.frame h.2.2.2 (λy hy=>hs y (by simp [BT.nodes,hy]))
theorem dD.EG {S S':TS} {t:BT} {p p' z:Int} (h:dD S p z t) (hn:t.nodes.Nodup) (hs:∀x,x∈t.nodes->S'.l x=S.l x/\S'.r x=S.r x/\(x≠t.root.toNat->S'.u x=S.u x)) (hr:t≠.nil->S'.u t.root.toNat=p'):dD S' p' z t:=by
 cases t with
 | nil=>exact h
 | node x l r=>
  have hx:=hs x (by simp [BT.nodes]);simp only [BT.nodes,Ζ,τ,not_or] at hn;refine ⟨h.1,?_,?_,?_⟩
  ·have:=hr σ;simpa [BT.root] using this
  ·rw [hx.1];refine h.2.2.1.frame (λy hy=>?_);have hy':=hs y (by simp [BT.nodes,hy]);exact ⟨hy'.1,hy'.2.1,hy'.2.2 (λe=>by simp [BT.root] at e;rw [e] at hy;exact hn.1.1 hy)⟩
  ·rw [hx.2.1];refine h.2.2.2.frame (λy hy=>?_);have hy':=hs y (by simp [BT.nodes,hy]);exact ⟨hy'.1,hy'.2.1,hy'.2.2 (λe=>by simp [BT.root] at e;rw [e] at hy;exact hn.1.2 hy)⟩
theorem dH {t:BT} (h:t≠.nil):t.root.toNat∈t.nodes/\t.root=(t.root.toNat:Int):=by
 cases t with
 | nil=>exact absurd rfl h
 | node x l r=>simp [BT.root,BT.nodes]
/-! ### ranks; what a merge gives -/
def BT.rank:BT->Nat | .nil=>0 | .node _ _ r=>r.rank+1
def aD (x:Nat) (l r:BT):BT:=if l.rank<r.rank then .node x r l else .node x l r
def dZ (rk:Nat->Nat):BT->Prop
 | .nil=>True
 | .node x l r=>rk x=r.rank+1/\dZ rk l/\dZ rk r
theorem dZ.frame {rk q9:Nat->Nat}:∀ {t:BT},dZ rk t->(∀x,x∈t.nodes->q9 x=rk x)->dZ q9 t
 | .nil,_,_=>trivial
 | .node x l r,h,hs=>⟨by rw [hs x (by simp [BT.nodes])];exact h.1,h.2.1.frame (λy hy=>hs y (by simp [BT.nodes,hy])),h.2.2.frame (λy hy=>hs y (by simp [BT.nodes,hy]))⟩
theorem dZ.root {rk:Nat->Nat} {t:BT} (h:dZ rk t) (ht:t≠.nil):rk t.root.toNat=t.rank:=by
 cases t with
 | nil=>exact absurd rfl ht
 | node x l r=>simpa [BT.root,BT.rank] using h.1
def Lean:BT->Prop
 | .nil=>True
 | .node _ l r=>r.rank<=l.rank/\Lean l/\Lean r
theorem lQ {x:Nat} {l r:BT} (hl:Lean l) (hr:Lean r):Lean (aD x l r):=by
 unfold aD;split
 ·exact ⟨ω,hr,hl⟩
 ·exact ⟨ω,hl,hr⟩
def Heap (A:NS):BT->Prop
 | .nil=>True
 | .node x l r=>(∀y,y∈l.nodes->dm A x y)/\(∀y,y∈r.nodes->dm A x y)/\Heap A l/\Heap A r
theorem qx (x:Nat) (l r:BT):(aD x l r).nodes.Perm (x::(l.nodes++r.nodes)):=by
 unfold aD;split
 ·simp only [BT.nodes];exact List.Perm.cons x Φ
 ·exact ό _
theorem ry {A:NS} {x:Nat} {l r:BT} (h1:∀y,y∈l.nodes->dm A x y) (h2:∀y,y∈r.nodes->dm A x y) (hl:Heap A l) (hr:Heap A r):Heap A (aD x l r):=by
 unfold aD;split
 ·exact ⟨h2,h1,hr,hl⟩
 ·exact ⟨h1,h2,hl,hr⟩
theorem je (x:Nat) (l r:BT):(aD x l r).root=x:=by unfold aD;split<;>rfl
def az (up:Nat->BT->BT->BT) (A:NS):BT->BT->BT×Nat
 | .nil,t=>(t,0)
 | .node x l r,.nil=>(.node x l r,0)
 | .node x l r,.node y l' r'=>
  if dm A y x then (up y l' (az up A r' (.node x l r)).1,(az up A r' (.node x l r)).2+1)
  else (up x l (az up A r (.node y l' r')).1,(az up A r (.node y l' r')).2+1)
termination_by a b=>a.size+b.size
decreasing_by
 all_goals simp only [BT.size]
 all_goals omega
theorem eD (up:Nat->BT->BT->BT) (A:NS) (t:BT):az up A .nil t=(t,0):=by rw [az]
theorem gI (up:Nat->BT->BT->BT) (A:NS) (t:BT):az up A t .nil=(t,0):=by cases t<;>rw [az]
theorem gK (up:Nat->BT->BT->BT) (A:NS) (x y:Nat) (l r l' r':BT):az up A (.node x l r) (.node y l' r')=
  if dm A y x then (up y l' (az up A r' (.node x l r)).1,(az up A r' (.node x l r)).2+1)
  else (up x l (az up A r (.node y l' r')).1,(az up A r (.node y l' r')).2+1):=by rw [az]
structure CJ (up:Nat->BT->BT->BT):Prop where
 nodes:∀x l r,(up x l r).nodes.Perm (x::(l.nodes++r.nodes))
 heap:∀A x l r,(∀y,y∈l.nodes->dm A x y)->(∀y,y∈r.nodes->dm A x y)->Heap A l->Heap A r->Heap A (up x l r)
 root:∀x l r,(up x l r).root=x
theorem lu:CJ aD:=⟨qx,λ_ _ _ _=>ry,je⟩
theorem rX {up:Nat->BT->BT->BT} (U:CJ up) (A:NS) (k:Nat):∀ (a b:BT),a.size+b.size<=k->
  (az up A a b).1.nodes.Perm (a.nodes++b.nodes)/\(Heap A a->Heap A b->(a.nodes++b.nodes).Nodup->Heap A (az up A a b).1):=by
 induction k with
 | zero=>
  intro a b hk;cases a with
  | nil=>rw [eD];exact ⟨by simp [BT.nodes],λ_ h _=>h⟩
  | node x l r=>simp only [BT.size] at hk;omega
 | succ k ih=>
  intro a b hk;cases a with
  | nil=>rw [eD];exact ⟨by simp [BT.nodes],λ_ h _=>h⟩
  | node x l r=>
   cases b with
   | nil=>rw [gI];exact ⟨by simp [BT.nodes],λh _ _=>h⟩
   | node y l' r'=>
    rw [gK];simp only [BT.size] at hk
    by_cases h:dm A y x
    ·rw [Δ h];obtain ⟨i1,i2⟩:=ih r' (.node x l r) (by simp only [BT.size];omega);have i3:=U.nodes y l' (az up A r' (.node x l r)).1;have i4:(y::(l'.nodes++(az up A r' (.node x l r)).1.nodes)).Perm ((BT.node x l r).nodes++(BT.node y l' r').nodes):=by
      refine ϖ (List.Perm.cons y (List.Perm.append_left _ i1)) ?_;rw [←ϋ]
      show (y::(l'.nodes++r'.nodes++(BT.node x l r).nodes)).Perm ((BT.node x l r).nodes++(y::(l'.nodes++r'.nodes)))
      exact (Φ (l₁:=y::(l'.nodes++r'.nodes)))
     refine ⟨i3.trans i4,λha hb hn=>?_⟩;have hn2:(r'.nodes++(BT.node x l r).nodes).Nodup:=by
      rw [θ] at hn ⊢;simp only [BT.nodes,Ζ,θ] at hn;refine ⟨hn.2.1.2.2.1,by simp only [BT.nodes,Ζ,θ];exact hn.1,λp hp q hq e=>hn.2.2 q hq p (by simp [hp]) e.symm⟩
     refine U.heap A y l' _ hb.1 (λz hz=>?_) hb.2.2.1 (i2 hb.2.2.2 ha hn2);rcases τ.1 (i1.mem_iff.1 hz) with hz|hz
     ·exact hb.2.1 z hz
     ·simp only [BT.nodes,ρ,τ] at hz;rcases hz with rfl|hz|hz
      ·exact h
      ·exact bK h (ha.1 z hz)
      ·exact bK h (ha.2.1 z hz)
    ·rw [Γ h];obtain ⟨i1,i2⟩:=ih r (.node y l' r') (by simp only [BT.size];omega);have i3:=U.nodes x l (az up A r (.node y l' r')).1;have i4:(x::(l.nodes++(az up A r (.node y l' r')).1.nodes)).Perm ((BT.node x l r).nodes++(BT.node y l' r').nodes):=by
      refine ϖ (List.Perm.cons x (List.Perm.append_left _ i1)) ?_;rw [←ϋ];exact ό _
     refine ⟨i3.trans i4,λha hb hn=>?_⟩;have hn1:=hn;rw [θ] at hn;have hxy:x≠y:=hn.2.2 x (by simp [BT.nodes]) y (by simp [BT.nodes]);have hlt:dm A x y:=by
      rcases eU (A:=A) hxy with h'|h'
      ·exact h'
      ·exact absurd h' h
     have hn2:(r.nodes++(BT.node y l' r').nodes).Nodup:=by
      rw [θ];simp only [BT.nodes,Ζ,θ] at hn;refine ⟨hn.1.2.2.1,by simp only [BT.nodes,Ζ,θ];exact hn.2.1,λp hp q hq e=>hn.2.2 p (by simp [hp]) q hq e⟩
     refine U.heap A x l _ ha.1 (λz hz=>?_) ha.2.2.1 (i2 ha.2.2.2 hb hn2);rcases τ.1 (i1.mem_iff.1 hz) with hz|hz
     ·exact ha.2.1 z hz
     ·simp only [BT.nodes,ρ,τ] at hz;rcases hz with rfl|hz|hz
      ·exact hlt
      ·exact bK hlt (hb.1 z hz)
      ·exact bK hlt (hb.2.1 z hz)
theorem uo (A:NS) (k:Nat):∀ (a b:BT),a.size+b.size<=k->Lean a->Lean b->Lean (az aD A a b).1:=by
 induction k with
 | zero=>
  intro a b hk ha hb;cases a with
  | nil=>rw [eD];exact hb
  | node x l r=>simp only [BT.size] at hk;omega
 | succ k ih=>
  intro a b hk ha hb;cases a with
  | nil=>rw [eD];exact hb
  | node x l r=>
   cases b with
   | nil=>rw [gI];exact ha
   | node y l' r'=>
    rw [gK];simp only [BT.size] at hk
    split
    ·exact lQ hb.2.1 (ih r' (.node x l r) (by simp only [BT.size];omega) hb.2.2 ha)
    ·exact lQ ha.2.1 (ih r (.node y l' r') (by simp only [BT.size];omega) ha.2.2 hb)
def jH (up:Nat->BT->BT->BT):List (Nat×BT)->BT->BT
 | [],m=>m
 | (x,l)::t,m=>up x l (jH up t m)
theorem nu (up:Nat->BT->BT->BT) (W:List (Nat×BT)) (x:Nat) (l m:BT):jH up (W++[(x,l)]) m=jH up W (up x l m):=by
 induction W with
 | nil=>rfl
 | cons p t ih=>obtain ⟨y,k⟩:=p;simp only [List.cons_append,jH,ih]
def jD (W:List (Nat×BT)):List Nat:=W.flatMap λp=>p.1::p.2.nodes
abbrev Fr:=Nat×Bool×BT
theorem Heap.frame {A A':NS}:∀ {t:BT},Heap A t->(∀x,x∈t.nodes->A'.c x=A.c x)->Heap A' t
 | .nil,_,_=>trivial
 | .node x l r,h,hs=>by
  have hx:=hs x (by simp [BT.nodes]);refine ⟨λy hy=>(dM hx (hs y (by simp [BT.nodes,hy]))).2 (h.1 y hy),λy hy=>(dM hx (hs y (by simp [BT.nodes,hy]))).2 (h.2.1 y hy),h.2.2.1.frame (λy hy=>hs y (by simp [BT.nodes,hy])),h.2.2.2.frame (λy hy=>hs y (by simp [BT.nodes,hy]))⟩
structure BV where
 H:NS->BT->Prop
 frame:∀ {A A':NS} {t:BT},H A t->(∀x,x∈t.nodes->A'.c x=A.c x)->H A' t
 nil:∀A,H A .nil
abbrev heapK:BV:=⟨Heap,Heap.frame,λ_=>trivial⟩
structure oq (K:BV) (A:NS) (S:TS) (ae:List Int) (tr:Nat->BT):Prop where
 top:∀h,h<A.hs.length->ae.getD h 0=(tr h).root
 Hf:∀h,dD S (-1) (tr h).root (tr h)
 mem:∀h x,x∈(tr h).nodes↔0<h/\x<A.cs.length/\(A.c x).i=h
 nd:∀h,(tr h).nodes.Nodup
 heap:∀h,K.H A (tr h)
 free:∀x,x<A.cs.length->(A.c x).i=0->S.l x=-1/\S.r x=-1/\S.u x=-1
abbrev IX:=oq heapK
theorem oq.next {K:BV} {A A':NS} {S S':TS} {ae D9:List Int} {tr Ei:Nat->BT} (h:oq K A S ae tr) (hc:A'.cs.length=A.cs.length) (keep:Nat->Prop)
  (k1:∀g,keep g->Ei g=tr g/\∀x,x∈(tr g).nodes->S.at S' x/\A'.c x=A.c x)
  (k2:∀g,keep g->∀x,x<A.cs.length->0<g->((A'.c x).i=g↔(A.c x).i=g))
  (n1:∀g,¬keep g->dD S' (-1) (Ei g).root (Ei g)/\(Ei g).nodes.Nodup/\K.H A' (Ei g)/\∀x,x∈(Ei g).nodes↔0<g/\x<A.cs.length/\(A'.c x).i=g)
  (tp:∀g,g<A'.hs.length->D9.getD g 0=(Ei g).root)
  (fr:∀x,x<A.cs.length->(A'.c x).i=0->S'.l x=-1/\S'.r x=-1/\S'.u x=-1):oq K A' S' D9 Ei:=by
 refine ⟨tp,λg=>?_,λg x=>?_,λg=>?_,λg=>?_,λx hx=>fr x ω⟩
 ·by_cases hk:keep g
  ·obtain ⟨e,hs⟩:=k1 g hk;rw [e];exact (h.Hf g).frame (λy hy=>(hs y hy).1)
  ·exact (n1 g hk).1
 ·rw [hc]
  by_cases hk:keep g
  ·rw [(k1 g hk).1,h.mem g x];constructor
   ·rintro ⟨a,b,c⟩;exact ⟨a,b,(k2 g hk x b a).2 c⟩
   ·rintro ⟨a,b,c⟩;exact ⟨a,b,(k2 g hk x b a).1 c⟩
  ·exact (n1 g hk).2.2.2 x
 ·by_cases hk:keep g
  ·rw [(k1 g hk).1];exact h.nd g
  ·exact (n1 g hk).2.1
 ·by_cases hk:keep g
  ·obtain ⟨e,hs⟩:=k1 g hk;rw [e];exact K.frame (h.heap g) (λy hy=>(hs y hy).2)
  ·exact (n1 g hk).2.2.1
def single (x:Nat):BT:=.node x .nil .nil
theorem jN {S:TS} {x:Nat} (h:S.l x=-1/\S.r x=-1/\S.u x=-1):dD S (-1) (single x).root (single x):=⟨rfl,h.2.2,h.1,h.2.1⟩
theorem oq.out {K:BV} {A:NS} {S:TS} {ae:List Int} {tr:Nat->BT} (h:oq K A S ae tr) {x g:Nat} (hx:(A.c x).i=0):x∉(tr g).nodes:=λhm=>by
 have:=(h.mem g x).1 hm;omega
theorem oq.put {K:BV} {A:NS} {S S':TS} {ae:List Int} {tr:Nat->BT} (h:oq K A S ae tr) (ok:A.Ok) (hn:ae.length=A.hs.length) {g x:Nat} {k s:Int} (hB:iq A g x=true) {t':BT}
  (hT:dD S' (-1) t'.root t') (hp:t'.nodes.Perm ((tr g).nodes++[x])) (hH:K.H (af A g x k s) t') (hs:∀y,y∉(tr g).nodes++[x]->S.at S' y) :
  oq K (af A g x k s) S' (ae.set g t'.root) (λq=>if q=g then t' else tr q):=by
 obtain ⟨b1,b2,b3⟩:=(bG _ _ _).1 hB;have b4:=(aA _ _).1 b1;have hx:x<A.cs.length:=by have:=(bS _ _).1 b2;omega
 have h0:(A.c x).i=0:=by
  have:=(ok.nat x hx).1;have h3:¬ (0<(A.c x).i):=λh'=>by rw [(aK A x).2 ⟨hx,h'⟩] at b3;cases b3
  omega
 have hc:∀y,(af A g x k s).c y=if y=x then ⟨g,k,s⟩ else A.c y:=λy=>by
  unfold af;rw [Δ hB,π,fE]
  by_cases e:y=x
  ·rw [Δ ⟨e,hx⟩,Δ e]
  ·rw [Γ (λh=>e h.1),Γ e]
 have hl:(af A g x k s).cs.length=A.cs.length:=by unfold af;rw [Δ hB,bU]
 have hh:(af A g x k s).hs=A.hs:=by unfold af;rw [Δ hB];rfl
 have hgn:g<A.hs.length:=ω;refine h.next hl (λq=>q≠g) (λq hq=>⟨Γ hq,λy hy=>?_⟩) (λq hq y hy hq0=>?_) (λq hq=>?_) (λq hq=>?_) (λy hy hy0=>?_)
 ·have hyx:y≠x:=λe=>h.out (g:=q) h0 (by rw [←e];exact hy);have hyg:y∉(tr g).nodes:=λhm=>by
   have a1:=(h.mem g y).1 hm;have a2:=(h.mem q y).1 hy;omega
  exact ⟨hs y (by simp [hyx,hyg]),by rw [hc,Γ hyx]⟩
 ·rw [hc]
  by_cases e:y=x
  ·rw [Δ e,e];simp only;omega
  ·rw [Γ e]
 ·have hq':q=g:=Classical.not_not.1 hq;subst hq';rw [Δ rfl];refine ⟨hT,hp.nodup_iff.2 ?_,hH,λy=>?_⟩
  ·rw [θ];refine ⟨h.nd q,σ,λa ha b hb e=>?_⟩;simp only [Ϗ] at hb;exact h.out (g:=q) h0 (by rw [←hb,←e];exact ha)
  ·rw [hp.mem_iff,τ,Ϗ,h.mem q y,hc]
   by_cases e:y=x
   ·rw [Δ e];simp only [e,or_true,true_iff];exact ⟨ω,hx,trivial⟩
   ·rw [Γ e];simp only [e,or_false]
 ·rw [hh] at hq
  by_cases e:q=g
  ·rw [Δ e,e,φ,ύ,Δ rfl,Δ ω];rfl
  ·rw [Γ e,φ,ύ,Γ (λh=>e h.symm),←φ];exact h.top q hq
 ·rw [hc] at hy0
  by_cases e:y=x
  ·rw [Δ e] at hy0;simp only at hy0;omega
  ·rw [Γ e] at hy0;have hyn:y∉(tr g).nodes++[x]:=by
    simp only [τ,Ϗ,e,or_false];exact h.out hy0
   have a1:=h.free y hy hy0;have a2:=hs y hyn;exact ⟨a2.1.trans a1.1,a2.2.1.trans a1.2.1,a2.2.2.trans a1.2.2⟩
theorem pM {K:BV} (n:Nat):oq K (NS.new n) TS.none [-1] (λ_=>BT.nil):=by
 refine ⟨λh hh=>?_,λh=>rfl,λh x=>?_,λh=>List.nodup_nil,λh=>K.nil _,λx hx _=>⟨rfl,rfl,rfl⟩⟩
 ·have:h=0:=by simp [NS.new] at hh;exact hh
  subst this;rfl
 ·rw [NS.iW];simp only [BT.nodes,ς,false_iff,Cl.z];omega
theorem oq.make {K:BV} {A:NS} {S:TS} {ae:List Int} {tr:Nat->BT} (h:oq K A S ae tr) (ok:A.Ok) (hn:ae.length=A.hs.length) (hl:¬65536<A.hs.length)  :oq K (ag A) S (ae++[-1]) tr:=by
 have hc:(ag A).cs=A.cs:=by unfold ag;rw [Γ hl]
 have hh:(ag A).hs=A.hs++[true]:=by unfold ag;rw [Γ hl]
 have hcc:∀x,(ag A).c x=A.c x:=λx=>by unfold NS.c;rw [hc]
 refine h.next (by rw [hc]) (λ_=>True) (λg _=>⟨rfl,λx _=>⟨⟨rfl,rfl,rfl⟩,hcc x⟩⟩) (λg _ x _ _=>by rw [hcc]) (λg hg=>absurd trivial hg) (λg hg=>?_) (λx hx h0=>h.free x hx (by rw [hcc] at h0;exact h0));rw [hh,υ,List.length_singleton] at hg
 by_cases e:g<A.hs.length
 ·rw [φ,Ρ ω,←φ];exact h.top g e
 ·have e2:g=ae.length:=ω;have hnil:tr g=.nil:=by
   cases ht:tr g with
   | nil=>rfl
   | node x l r=>
    have hm:=(h.mem g x).1 (by rw [ht];simp [BT.nodes]);have:=(ok.nat x hm.2.1).2;omega
  rw [φ,e2,ϊ (Θ _)];rw [←e2,hnil];simp [BT.root]
end Go.Proofs.YtnpdakpagnpanaaGreat
namespace Go.Proofs.YtnpdakpagnpanaaGreat
open Go Go.RowKit
instance:Nonempty (List Fr×BT×BT):=⟨([],.nil,.nil)⟩
structure LB where
 n0:Nat
 c:Nat
 bt:Nat
 ba:Nat
 br:Nat
structure fU (w:World) (B:LB) (F:List Nat) (gt ct:Nat) (A:NS) (st:Nat) (S:TS) (rk:Nat->Nat) (ae:List Int):Prop where
 head:ak w B.n0 204 4 (λj=>[Value.pointer (some ⟨B.c,0,none⟩),.pointer (some ⟨B.bt,0,none⟩),.slice (some ⟨B.br,0,none⟩) A.cs.length A.cs.length,.slice (some ⟨gt,0,none⟩) ae.length ct].getD j undef)
 cells:ai w B.c F A st
 trees:aO w B.bt B.ba A.cs.length S
 ranks:ak w B.br 3 A.cs.length (λj=>.int .i64 (rk j:Int))
 gB:IZ w gt ct ae
 fG:ae.length=A.hs.length
 aS:B.n0∉F/\B.bt∉F/\B.ba∉F/\B.br∉F/\gt∉F
 sep:(B.n0≠B.bt/\B.n0≠B.ba/\B.n0≠B.br/\B.n0≠gt)/\(B.bt≠B.br/\B.bt≠gt/\B.ba≠B.br/\B.ba≠gt/\B.br≠gt)
section
variable {w:World} {B:LB} {F:List Nat} {gt ct:Nat} {A:NS} {st:Nat} {S:TS} {rk:Nat->Nat} {ae:List Int}
def LB.blk (B:LB) (F:List Nat) (gt:Nat):List Nat:=B.n0::B.bt::B.ba::B.br::gt::F
theorem fU.upd {w':World} {G:List Nat} (h:fU w B F gt ct A st S rk ae) (hu:aa G w w') (hG:∀x,x∈G->x∉B.blk F gt):fU w' B F gt ct A st S rk ae:=by
 have h1:∀x,x∈B.blk F gt->x∉G:=λx hx hg=>hG x hg hx;exact ⟨h.head.upd hu (h1 _ (by simp [LB.blk])),h.cells.upd hu (λx hx=>λhm=>hG x hx (by simp [LB.blk,hm])),h.trees.upd hu (h1 _ (by simp [LB.blk])) (h1 _ (by simp [LB.blk])),h.ranks.upd hu (h1 _ (by simp [LB.blk])),h.gB.upd hu (h1 _ (by simp [LB.blk])),h.fG,h.aS,h.sep⟩
theorem fU.ah {w':World} (h:fU w B F gt ct A st S rk ae) (hu:aa [] w w'):fU w' B F gt ct A st S rk ae:=h.upd hu σ
theorem fU.lt (h:fU w B F gt ct A st S rk ae):∀x,x∈B.blk F gt->x<w.heap.size:=by
 intro x hx;have:=h.head.lt;have:=h.trees.head.lt;have:=h.trees.row.lt;have:=h.ranks.lt;have:=h.gB.lt;simp only [LB.blk,ρ] at hx;rcases hx with rfl|rfl|rfl|rfl|rfl|hx
 ·assumption
 ·assumption
 ·assumption
 ·assumption
 ·assumption
 ·exact h.cells.lt x hx
theorem fU.cF (h:fU w B F gt ct A st S rk ae):B.c∈F:=h.cells.mem
theorem fU.h0 (h:fU w B F gt ct A st S rk ae):w.cell? ⟨B.n0,0,none⟩=some (.pointer (some ⟨B.c,0,none⟩)):=h.head.cellAt 0 ω rfl
theorem fU.h1 (h:fU w B F gt ct A st S rk ae):w.cell? ⟨B.n0,1,none⟩=some (.pointer (some ⟨B.bt,0,none⟩)):=h.head.cellAt 1 ω rfl
theorem fU.h2 (h:fU w B F gt ct A st S rk ae):w.cell? ⟨B.n0,2,none⟩=some (.slice (some ⟨B.br,0,none⟩) A.cs.length A.cs.length):=h.head.cellAt 2 ω rfl
theorem fU.h3 (h:fU w B F gt ct A st S rk ae):w.cell? ⟨B.n0,3,none⟩=some (.slice (some ⟨gt,0,none⟩) ae.length ct):=h.head.cellAt 3 ω rfl
theorem fU.iY {w':World} {S':TS} (h:fU w B F gt ct A st S rk ae) (hu:aa [B.ba] w w') (hT:aO w' B.bt B.ba A.cs.length S'):fU w' B F gt ct A st S' rk ae:=by
 have s:=h.sep;have f:=h.aS;have hne:=h.trees.ne;exact ⟨h.head.upd hu ζ,h.cells.upd hu (λx hx=>by simp at hx;rw [hx];exact f.2.2.1),hT,h.ranks.upd hu ζ,h.gB.upd hu ζ,h.fG,f,s⟩
theorem fU.gq (h:fU w B F gt ct A st S rk ae) (x:Nat) (k:Nat):fU (w.setCell ⟨B.br,x,none⟩ (.int .i64 (k:Int))) B F gt ct A st S (λy=>if y=x then k else rk y) ae:=by
 have s:=h.sep;have f:=h.aS;have hu:aa [B.br] w (w.setCell ⟨B.br,x,none⟩ (.int .i64 (k:Int))):=β;refine ⟨h.head.upd hu ζ,h.cells.upd hu (λx hx=>by simp at hx;rw [hx];exact f.2.2.2.1),h.trees.upd hu ζ ζ,(h.ranks.set x _).ext (λj hj=>?_),h.gB.upd hu ζ,h.fG,f,s⟩
 by_cases e:j=x
 ·simp only [e,if_true]
 ·simp only [e,if_false]
theorem fU.uJ (h:fU w B F gt ct A st S rk ae) (x:Nat) (k:Int):fU (w.setCell ⟨gt,x,none⟩ (.int .i64 k)) B F gt ct A st S rk (ae.set x k):=by
 have s:=h.sep;have f:=h.aS;have hu:aa [gt] w (w.setCell ⟨gt,x,none⟩ (.int .i64 k)):=β;refine ⟨by rw [Ι];exact h.head.upd hu ζ,h.cells.upd hu (λx hx=>by simp at hx;rw [hx];exact f.2.2.2.2),h.trees.upd hu ζ ζ,h.ranks.upd hu ζ,h.gB.set x k,by rw [Ι];exact h.fG,f,s⟩
theorem fU.fw {w':World} {F':List Nat} {A':NS} {st':Nat} (h:fU w B F gt ct A st S rk ae) (hu:aa F w w') (hC:ai w' B.c F' A' st') (hF:∀x,x∈F'->x∈F\/w.heap.size<=x) (h1:A'.cs.length=A.cs.length) (h2:A'.hs.length=A.hs.length):fU w' B F' gt ct A' st' S rk ae:=by
 have f:=h.aS;have g:=h.lt;have hf:∀x,x<w.heap.size->x∉F->x∉F':=λx hx hn hm=>by rcases hF x hm with h'|h';exact hn h';omega
 have l0:=g B.n0 (by simp [LB.blk]);have l1:=g B.bt (by simp [LB.blk]);have l2:=g B.ba (by simp [LB.blk]);have l3:=g B.br (by simp [LB.blk]);have l4:=g gt (by simp [LB.blk]);exact ⟨by rw [h1];exact h.head.upd hu f.1,hC,by rw [h1];exact h.trees.upd hu f.2.1 f.2.2.1,by rw [h1];exact h.ranks.upd hu f.2.2.2.1,h.gB.upd hu f.2.2.2.2,by rw [h2];exact h.fG,⟨hf _ l0 f.1,hf _ l1 f.2.1,hf _ l2 f.2.2.1,hf _ l3 f.2.2.2.1,hf _ l4 f.2.2.2.2⟩,h.sep⟩
end
theorem mX (z:Int) (w:World):Calls Tryz.prog 237 #[.int .i64 (tv z),.bool (tb z)] w λe w'=>e=.returned (.int .i64 z)/\w'=w:=by
 unfold tv tb
 by_cases h:z=-1
 ·subst h;simp only [if_true,ne_eq,not_true,decide_false]
  go_enter Tryz.func237,Tryz.ntmps237
  go_wp2;go_ret;exact ⟨rfl,rfl⟩
 ·rw [Γ h,Ν h]
  go_enter Tryz.func237,Tryz.ntmps237
  go_wp2;go_ret;exact ⟨rfl,rfl⟩
def bP (rk:Nat->Nat) (z:Int):Int:=if z=-1 then 0 else (rk z.toNat:Int)
section
variable {w:World} {B:LB} {F:List Nat} {gt ct:Nat} {A:NS} {st:Nat} {S:TS} {rk:Nat->Nat} {ae:List Int}
theorem dU (h:fU w B F gt ct A st S rk ae) (z:Int) (hz:z=-1\/(0<=z/\z<A.cs.length)) :
  Calls Tryz.prog 248 #[.pointer (some ⟨B.n0,0,none⟩),.int .i64 z] w λe w'=>e=.returned (.int .i64 (bP rk z))/\w'=w:=by
 unfold bP;have h2:=h.h2;have hA:=h.cells.ok.c1
 by_cases e:z=-1
 ·subst e;clear h
  go_enter Tryz.func248,Tryz.ntmps248
  go_wp2;go_ret;exact ⟨rfl,rfl⟩
 ·obtain ⟨i,rfl⟩:∃i:Nat,z=i:=⟨z.toNat,ω⟩;have hi:i<A.cs.length:=ω;have d:=h.ranks.cell i hi;have hb:((i:Int) == -1)=false:=σ;rw [Γ e];simp only [π];clear h e hz
  go_enter Tryz.func248,Tryz.ntmps248
  go_wp2;go_ret;exact ⟨rfl,rfl⟩
theorem jk (rk:Nat->Nat) (z:Int):0<=bP rk z:=by unfold bP;split<;>omega
theorem qH (h:fU w B F gt ct A st S rk ae) (x:Nat) (hx:x<A.cs.length) (hl:S.l x=-1\/(0<=S.l x/\S.l x<A.cs.length)) (hr:S.r x=-1\/(0<=S.r x/\S.r x<A.cs.length)) (zS:bP rk (S.l x)<=65536) (hbb:bP rk (S.r x)<=65536) (hab:bP rk (S.l x)<bP rk (S.r x)) :
  Calls Tryz.prog 245 #[.pointer (some ⟨B.n0,0,none⟩),.int .i64 (x:Int)] w λe w'=>e=.returned (.tuple #[])/\aa [B.ba,B.br] w w'/\fU w' B F gt ct A st (dG S x) (λy=>if y=x then (bP rk (S.l x)).toNat + 1 else rk y) ae:=by
 have kl:=λd=>sO B.bt B.ba A.cs.length S (x:Int) (w.drewN d) (h.trees.drewN d);have kr:=λd=>jB B.bt B.ba A.cs.length S (x:Int) (w.drewN d) (h.trees.drewN d);rw [show cK A.cs.length S (x:Int) false=S.l x by unfold cK TS.kid;rw [Δ ω];simp] at kl;rw [show cK A.cs.length S (x:Int) true=S.r x by unfold cK TS.kid;rw [Δ ω];simp] at kr;have q1:∀d,(w.drewN d).cell? ⟨B.n0,1,none⟩=some (.pointer (some ⟨B.bt,0,none⟩)):=λd=>h.h1;have H:=χ h;have rl:=λd=>dU (h.ah ((aa.refl [] w).drewN d)) (S.l x) hl;have rr:=λd=>dU (h.ah ((aa.refl [] w).drewN d)) (S.r x) hr
 have ba1:0<=bP rk (S.l x)/\bP rk (S.l x)<=65536:=⟨jk _ _,zS⟩;have bb1:0<=bP rk (S.r x)/\bP rk (S.r x)<=65536:=⟨jk _ _,hbb⟩;clear zS hbb;have HL:=χ (ψ hl hr);generalize hzl:S.l x=zl at *;generalize Ch:S.r x=zr at *;generalize hra:bP rk zl=a at *;generalize hrb:bP rk zr=b at *;have HZ:=χ (ψ hzl (ψ Ch (ψ hra hrb)));have hn0:=h.lt B.n0 (by simp [LB.blk]);have hbr:=h.lt B.br (by simp [LB.blk]);have hs:=h.sep;have hA:=h.cells.ok.c1;clear h hzl Ch hra hrb hl hr
 go_enter Tryz.func245,Tryz.ntmps245
 go_wp2
 go_quiet ((first
  | (go_at_call 238;exact Calls.quiet_of (kl _))
  | (go_at_call 239;exact Calls.quiet_of (kr _))
  | (go_at_call 237;exact Calls.quiet_of_same (mX _ _))))
 have H2:=χ (H.out.ah ((aa.refl [] w).drewN nq));have IY:=rl nq;have I9:=rr nq;have h1:=q1 nq;clear kl kr q1 rl rr;have kt:=mK B.bt B.ba A.cs.length S x (w.drewN nq) H2.out.trees hx
 go_wp2_with (first
  | (go_at_call 248;(with_reducible refine (IY).mono ?_);rintro e w9 ⟨rfl,aB⟩;rw [aB];clear aB w9)
  | (go_at_call 248;(with_reducible refine (I9).mono ?_);rintro e w9 ⟨rfl,aB⟩;rw [aB];clear aB w9)
  | (go_at_call 249;(with_reducible refine (kt).mono ?_);rintro e w2 ⟨rfl,hT,hu2⟩))
 have h3:=χ (H2.out.iY hu2 hT);have hw2:aa [B.ba,B.br] w w2:=((aa.refl _ w).drewN nq).trans (hu2.mono σ);have kq:=λW (hW:aa [] w2 W)=>dU (h3.out.ah hW) zl HL.out.1;rw [HZ.out.2.2.1] at kq;have r0:∀W,aa [B.br] w2 W->W.cell? ⟨B.n0,2,none⟩=some (.slice (some ⟨B.br,0,none⟩) A.cs.length A.cs.length):=λW hW=>hW.kept h3.out.h2 ζ;have d0:=h3.out.ranks.cell x hx;have d1:=h3.out.ranks.free x;have hwr:IntKind.i64.wrap (a+1)=a+1:=Μ _ ω
 go_region_held3 (aa [B.br] w2) (exact ν) ((go_at_call 248;(with_reducible refine ((kq _ β)).mono ?_);rintro e w9 ⟨rfl,aB⟩;rw [aB];clear aB w9))
 go_wp2;go_end0;clear hwr;obtain ⟨an,rfl⟩:∃an:Nat,a=an:=⟨a.toNat,ω⟩;have hR:=h3.out.gq x (an+1);rw [show ((an+1:Nat):Int)=(an:Int)+1 by omega] at hR;exact ⟨rfl,((hw2.setCell (Α σ) _)).drew,hR.ah ((aa.refl _ _).drew)⟩
theorem qJ (h:fU w B F gt ct A st S rk ae) (x:Nat) (hx:x<A.cs.length) (hl:S.l x=-1\/(0<=S.l x/\S.l x<A.cs.length)) (hr:S.r x=-1\/(0<=S.r x/\S.r x<A.cs.length)) (zS:bP rk (S.l x)<=65536) (hbb:bP rk (S.r x)<=65536) (hab:¬bP rk (S.l x)<bP rk (S.r x)) :
  Calls Tryz.prog 245 #[.pointer (some ⟨B.n0,0,none⟩),.int .i64 (x:Int)] w λe w'=>e=.returned (.tuple #[])/\aa [B.ba,B.br] w w'/\fU w' B F gt ct A st S (λy=>if y=x then (bP rk (S.r x)).toNat + 1 else rk y) ae:=by
 have kl:=λd=>sO B.bt B.ba A.cs.length S (x:Int) (w.drewN d) (h.trees.drewN d);have kr:=λd=>jB B.bt B.ba A.cs.length S (x:Int) (w.drewN d) (h.trees.drewN d);rw [show cK A.cs.length S (x:Int) false=S.l x by unfold cK TS.kid;rw [Δ ω];simp] at kl;rw [show cK A.cs.length S (x:Int) true=S.r x by unfold cK TS.kid;rw [Δ ω];simp] at kr;have q1:∀d,(w.drewN d).cell? ⟨B.n0,1,none⟩=some (.pointer (some ⟨B.bt,0,none⟩)):=λd=>h.h1;have H:=χ h;have rl:=λd=>dU (h.ah ((aa.refl [] w).drewN d)) (S.l x) hl;have rr:=λd=>dU (h.ah ((aa.refl [] w).drewN d)) (S.r x) hr
 have ba1:0<=bP rk (S.l x)/\bP rk (S.l x)<=65536:=⟨jk _ _,zS⟩;have bb1:0<=bP rk (S.r x)/\bP rk (S.r x)<=65536:=⟨jk _ _,hbb⟩;clear zS hbb;have HL:=χ (ψ hl hr);generalize hzl:S.l x=zl at *;generalize Ch:S.r x=zr at *;generalize hra:bP rk zl=a at *;generalize hrb:bP rk zr=b at *;have HZ:=χ (ψ hzl (ψ Ch (ψ hra hrb)));have hn0:=h.lt B.n0 (by simp [LB.blk]);have hbr:=h.lt B.br (by simp [LB.blk]);have hs:=h.sep;have hA:=h.cells.ok.c1;clear h hzl Ch hra hrb hl hr
 go_enter Tryz.func245,Tryz.ntmps245
 go_wp2
 go_quiet ((first
  | (go_at_call 238;exact Calls.quiet_of (kl _))
  | (go_at_call 239;exact Calls.quiet_of (kr _))
  | (go_at_call 237;exact Calls.quiet_of_same (mX _ _))))
 have H2:=χ (H.out.ah ((aa.refl [] w).drewN nq));have IY:=rl nq;have I9:=rr nq;have h1:=q1 nq;clear kl kr q1 rl rr
 go_wp2_with (first
  | (go_at_call 248;(with_reducible refine (IY).mono ?_);rintro e w9 ⟨rfl,aB⟩;rw [aB];clear aB w9)
  | (go_at_call 248;(with_reducible refine (I9).mono ?_);rintro e w9 ⟨rfl,aB⟩;rw [aB];clear aB w9))
 obtain ⟨w2,hw2⟩:∃w2,w2=w.drewN nq:=⟨_,rfl⟩;have hu2:aa [B.ba,B.br] w w2:=by rw [hw2];exact (aa.refl _ w).drewN nq
 rw [←hw2] at H2 ⊢;clear hw2 h1 IY I9;have kq:=λW (hW:aa [] w2 W)=>dU (H2.out.ah hW) zr HL.out.2;rw [HZ.out.2.2.2] at kq;have r0:∀W,aa [B.br] w2 W->W.cell? ⟨B.n0,2,none⟩=some (.slice (some ⟨B.br,0,none⟩) A.cs.length A.cs.length):=λW hW=>hW.kept H2.out.h2 ζ;have d0:=H2.out.ranks.cell x hx;have d1:=H2.out.ranks.free x;have hwr:IntKind.i64.wrap (b+1)=b+1:=Μ _ ω
 go_region_held3 (aa [B.br] w2) (exact ν) ((go_at_call 248;(with_reducible refine ((kq _ β)).mono ?_);rintro e w9 ⟨rfl,aB⟩;rw [aB];clear aB w9))
 go_wp2;go_end0;clear hwr;obtain ⟨bn,rfl⟩:∃bn:Nat,b=bn:=⟨b.toNat,ω⟩;have hR:=H2.out.gq x (bn+1);rw [show ((bn+1:Nat):Int)=(bn:Int)+1 by omega] at hR;exact ⟨rfl,((hu2.setCell (Α σ) _)).drew,hR.ah ((aa.refl _ _).drew)⟩
end
theorem qG:∀t:BT,t.rank<=t.size
 | .nil=>Θ _
 | .node x l r=>by have:=qG r;simp only [BT.rank,BT.size];omega
theorem fI {n:Nat} {l:List Nat} (hn:l.Nodup) (hl:∀x,x∈l->x<n):l.length<=n:=by
 have:=nodup_range n (l.map λ(x:Nat)=>(x:Int)) (by
  unfold List.Nodup;rw [List.pairwise_map];exact hn.imp (λ{a b} h e=>h ω)) (λy hy=>by
  obtain ⟨x,hx,rfl⟩:=List.mem_map.1 hy;have:=hl x hx
  exact ⟨ω,ω⟩)
 simpa using this
theorem mO {rk:Nat->Nat} {t:BT} (h:dZ rk t):bP rk t.root=t.rank:=by
 unfold bP
 by_cases e:t=.nil
 ·subst e;simp [BT.root,BT.rank]
 ·have:=dH e;rw [Γ ω];rw [h.root e]
theorem kv {n:Nat} {t:BT} (h:∀x,x∈t.nodes->x<n):t.root=-1\/(0<=t.root/\t.root<n):=by
 by_cases e:t=.nil
 ·subst e;exact Α rfl
 ·have h1:=dH e;have:=h _ h1.1;exact Β ⟨ω,ω⟩
theorem Bb {S:TS} {p:Int} {x:Nat} {l r:BT} (hu:S.u x=p) (hl:dD S x (S.l x) l) (hr:dD S x (S.r x) r):dD S p x (.node x l r):=⟨rfl,hu,hl,hr⟩
section
variable {w:World} {B:LB} {F:List Nat} {gt ct:Nat} {A:NS} {st:Nat} {S:TS} {rk:Nat->Nat} {ae:List Int}
theorem kT (h:fU w B F gt ct A st S rk ae) {p:Int} {x:Nat} {l r:BT} (hT:dD S p x (.node x l r)) (hl:dZ rk l) (hr:dZ rk r) (hn:(BT.node x l r).nodes.Nodup) (hlt:∀y,y∈(BT.node x l r).nodes->y<A.cs.length) :
  Calls Tryz.prog 245 #[.pointer (some ⟨B.n0,0,none⟩),.int .i64 (x:Int)] w λe w'=>e=.returned (.tuple #[])/\aa [B.ba,B.br] w w'/\
   ∃S' q9,fU w' B F gt ct A st S' q9 ae/\dD S' p x (aD x l r)/\dZ q9 (aD x l r)/\(∀y,y≠x->S.at S' y)/\S'.u x=S.u x/\(∀y,y≠x->q9 y=rk y):=by
 obtain ⟨_,hu,Jb,hTr⟩:=hT;have hx:=hlt x (by simp [BT.nodes]);have hll:∀y,y∈l.nodes->y<A.cs.length:=λy hy=>hlt y (by simp [BT.nodes,hy]);have hlr:∀y,y∈r.nodes->y<A.cs.length:=λy hy=>hlt y (by simp [BT.nodes,hy]);have hA:=h.cells.ok.c1;have hn2:=hn;simp only [BT.nodes,Ζ,τ,not_or,θ] at hn2;have sl:=fI hn2.2.1 hll;have sr:=fI hn2.2.2.1 hlr;rw [BT.jL] at sl sr;have rl:=qG l;have rr:=qG r;have el:=Jb.root;have er:=hTr.root;have fr:∀ {S':TS},(∀y,y≠x->S.at S' y)->(∀z,dD S x z l->dD S' x z l)/\(∀z,dD S x z r->dD S' x z r):=λhS=>
  ⟨λz hz=>hz.frame (λy hy=>hS y (λe=>hn2.1.1 (by rw [←e];exact hy))),λz hz=>hz.frame (λy hy=>hS y (λe=>hn2.1.2 (by rw [←e];exact hy)))⟩
 have zl:bP rk (S.l x)=l.rank:=by rw [el];exact mO hl
 have zr:bP rk (S.r x)=r.rank:=by rw [er];exact mO hr
 by_cases hab:l.rank<r.rank
 ·refine (qH h x hx (by rw [el];exact kv hll) (by rw [er];exact kv hlr) (by rw [zl];omega) (by rw [zr];omega) (by rw [zl,zr];omega)).mono ?_;rintro e w' ⟨rfl,hU,hM⟩;have hat:∀y,y≠x->S.at (dG S x) y:=λy hy=>⟨by unfold dG TS.aC;simp [hy],by unfold dG TS.aC;simp [hy],by unfold dG TS.aC;simp⟩
  have e1:(dG S x).l x=S.r x:=by unfold dG TS.aC;simp
  have e2:(dG S x).r x=S.l x:=by unfold dG TS.aC;simp
  have e3:(dG S x).u x=S.u x:=by unfold dG TS.aC;simp
  refine ⟨rfl,hU,_,_,hM,?_,?_,hat,e3,λy hy=>by rw [Γ hy]⟩
  ·unfold aD;rw [Δ hab];exact ⟨rfl,by rw [e3];exact hu,by rw [e1];exact (fr hat).2 _ hTr,by rw [e2];exact (fr hat).1 _ Jb⟩
  ·unfold aD;rw [Δ hab];refine ⟨by simp [zl],hr.frame (λy hy=>by rw [Γ (λe=>hn2.1.2 (by rw [←e];exact hy))]),hl.frame (λy hy=>by rw [Γ (λe=>hn2.1.1 (by rw [←e];exact hy))])⟩
 ·refine (qJ h x hx (by rw [el];exact kv hll) (by rw [er];exact kv hlr) (by rw [zl];omega) (by rw [zr];omega) (by rw [zl,zr];omega)).mono ?_;rintro e w' ⟨rfl,hU,hM⟩;refine ⟨rfl,hU,_,_,hM,?_,?_,λy _=>⟨rfl,rfl,rfl⟩,rfl,λy hy=>by rw [Γ hy]⟩
  ·unfold aD;rw [Γ hab];exact ⟨rfl,hu,Jb,hTr⟩
  ·unfold aD;rw [Γ hab];refine ⟨by simp [zr],hl.frame (λy hy=>by rw [Γ (λe=>hn2.1.1 (by rw [←e];exact hy))]),hr.frame (λy hy=>by rw [Γ (λe=>hn2.1.2 (by rw [←e];exact hy))])⟩
end
theorem BT.oJ {t:BT} (h:t≠.nil):t.root=(t.root.toNat:Int):=(dH h).2
def nC (S:TS) (x:Nat) (r:BT):TS:=match r with | .nil=>S | .node y _ _=>lH S x y
theorem xg {S:TS} {p:Int} {x:Nat} {l r:BT} (h:dD S p x (.node x l r)) (hn:(BT.node x l r).nodes.Nodup) :
  dD (nC S x r) p x (.node x l .nil)/\dD (nC S x r) (-1) r.root r/\∀y,y≠x->y∉r.nodes->S.at (nC S x r) y:=by
 obtain ⟨_,hu,hl,hr⟩:=h;simp only [BT.nodes,Ζ,τ,not_or,θ] at hn;cases r with
 | nil=>exact ⟨⟨rfl,hu,hl,hr⟩,rfl,λy _ _=>⟨rfl,rfl,rfl⟩⟩
 | node y a b=>
  have hxy:x≠y:=λe=>hn.1.2 (by rw [e];simp [BT.nodes]);have Hd:S.r x=y:=hr.1;have e:nC S x (.node y a b)=lH S x y:=rfl;rw [e];have hl':∀z,(lH S x y).l z=S.l z:=λz=>by unfold lH TS.aC TS.bL;rw [Ν Hd];rfl
  have hr':∀z,(lH S x y).r z=if z=x then -1 else S.r z:=λz=>by unfold lH TS.aC TS.bL;rw [Ν Hd];rfl
  have hu':∀z,(lH S x y).u z=if z=y then -1 else S.u z:=λz=>by unfold lH TS.aC TS.bL;rw [Ν Hd];rfl
  refine ⟨⟨rfl,by rw [hu',Γ hxy];exact hu,?_,by rw [hr',Δ rfl];rfl⟩,?_,λz h1 h2=>⟨hl' z,by rw [hr',Γ h1],by rw [hu',Γ (λe=>h2 (by rw [e];simp [BT.nodes]))]⟩⟩
  ·rw [hl'];refine hl.frame (λz hz=>⟨hl' z,by rw [hr',Γ (λe=>hn.1.1 (by rw [←e];exact hz))],by rw [hu',Γ (λe=>hn.2.2.2 z hz y (by simp [BT.nodes]) e)]⟩)
  ·have h0:dD S x ((BT.node y a b).root) (.node y a b):=by rw [←hr.root];exact hr
   refine h0.EG (p':=-1) hn.2.2.1 (λz hz=>⟨hl' z,by rw [hr',Γ (λe=>hn.1.2 (by rw [←e];exact hz))],λCh=>by rw [hu',Γ (λe=>Ch (by rw [e];simp [BT.root]))]⟩) (λ_=>by rw [hu'];simp [BT.root])
theorem oU {S:TS} {p:Int} {x:Nat} {l m:BT} (h:dD S p x (.node x l .nil)) (hm:dD S (-1) m.root m) (hne:m≠.nil) (hn:(BT.node x l m).nodes.Nodup) :
  dD (kK S x m.root true) p x (.node x l m)/\∀y,y≠x->y∉m.nodes->S.at (kK S x m.root true) y:=by
 obtain ⟨_,hu,hl,_⟩:=h;simp only [BT.nodes,Ζ,τ,not_or,θ] at hn;obtain ⟨r1,r2⟩:=dH hne;have hl':∀z,(kK S x m.root true).l z=S.l z:=λz=>by unfold kK TS.aC TS.bL;rfl
 have hr':∀z,(kK S x m.root true).r z=if z=x then m.root else S.r z:=λz=>by unfold kK TS.aC TS.bL;simp
 have hu':∀z,(kK S x m.root true).u z=if z=m.root.toNat then (x:Int) else S.u z:=λz=>by unfold kK TS.aC TS.bL;simp
 have hxm:x≠m.root.toNat:=λe=>hn.1.2 (by rw [e];exact r1);refine ⟨⟨rfl,by rw [hu',Γ hxm];exact hu,?_,?_⟩,λz h1 h2=>⟨hl' z,by rw [hr',Γ h1],by rw [hu',Γ (λe=>h2 (by rw [e];exact r1))]⟩⟩
 ·rw [hl'];exact hl.frame (λz hz=>⟨hl' z,by rw [hr',Γ (λe=>hn.1.1 (by rw [←e];exact hz))],by rw [hu',Γ (λe=>hn.2.2.2 z hz _ r1 e)]⟩)
 ·rw [hr',Δ rfl];exact hm.EG (p':=(x:Int)) hn.2.2.1 (λz hz=>⟨hl' z,by rw [hr',Γ (λe=>hn.1.2 (by rw [←e];exact hz))],λCh=>by rw [hu',Γ Ch]⟩) (λ_=>by rw [hu',Δ rfl])
structure Down (up:Nat->BT->BT->BT) (A:NS) (S0:TS) (ta tb:BT) (S:TS) (W:List (Nat×BT)) (a b:BT):Prop where
 Ic:dD S (-1) a.root a
 Iz:dD S (-1) b.root b
 way:∀p,p∈W->dD S (-1) (p.1:Int) (.node p.1 p.2 .nil)
 far:∀y,y∉ta.nodes++tb.nodes->S0.at S y
 perm:(jD W++(a.nodes++b.nodes)).Perm (ta.nodes++tb.nodes)
 res:az up A ta tb=(jH up W (az up A a b).1,W.length+(az up A a b).2)
theorem Down.start (up:Nat->BT->BT->BT) (A:NS) {S0:TS} {ta tb:BT} (ha:dD S0 (-1) ta.root ta) (hb:dD S0 (-1) tb.root tb):Down up A S0 ta tb S0 [] ta tb:=
 ⟨ha,hb,λp hp=>(by cases hp),λy _=>⟨rfl,rfl,rfl⟩,by simp [jD],by simp [jH]⟩
theorem gY (W:List (Nat×BT)) (x:Nat) (l:BT):jD (W++[(x,l)])=jD W++(x::l.nodes):=by unfold jD;simp
theorem p9 {W:List (Nat×BT)} {p:Nat×BT} (hp:p∈W):p.1∈jD W/\∀y,y∈p.2.nodes->y∈jD W:=by
 unfold jD;exact ⟨List.mem_flatMap.2 ⟨p,hp,σ⟩,λy hy=>List.mem_flatMap.2 ⟨p,hp,by simp [hy]⟩⟩
theorem Down.take {up:Nat->BT->BT->BT} {A:NS} {S0 S:TS} {ta tb b l r:BT} {x:Nat} {W:List (Nat×BT)} (hX:(ta.nodes++tb.nodes).Nodup)
  (h1:dD S (-1) (x:Int) (.node x l r)) (h2:dD S (-1) b.root b) (h3:∀p,p∈W->dD S (-1) (p.1:Int) (.node p.1 p.2 .nil)) (h4:∀y,y∉ta.nodes++tb.nodes->S0.at S y)
  (h5:(jD W++((BT.node x l r).nodes++b.nodes)).Perm (ta.nodes++tb.nodes)) (h6:az up A ta tb=(jH up W (up x l (az up A r b).1),W.length+((az up A r b).2+1))) :
  Down up A S0 ta tb (nC S x r) (W++[(x,l)]) r b:=by
 have hnd:=h5.nodup_iff.2 hX;rw [θ] at hnd;obtain ⟨n1,n2,n3⟩:=hnd;rw [θ] at n2;obtain ⟨n4,n5,n6⟩:=n2;obtain ⟨c1,c2,c3⟩:=xg h1 n4;have hout:∀y,y∉ta.nodes++tb.nodes->y≠x/\y∉r.nodes:=λy hy=>
  ⟨λe=>hy (h5.mem_iff.1 (by rw [e];simp [BT.nodes])),λhm=>hy (h5.mem_iff.1 (by simp [BT.nodes,hm]))⟩
 refine ⟨c2,h2.frame (λy hy=>c3 y (λe=>n6 x (by simp [BT.nodes]) y hy e.symm) (λhm=>n6 y (by simp [BT.nodes,hm]) y hy rfl)),λp hp=>?_,λy hy=>?_,?_,?_⟩
 ·rcases τ.1 hp with hp|hp
  ·have hw:=p9 hp;refine (h3 p hp).frame (λy hy=>?_);have FV:y∈jD W:=by
    simp only [BT.nodes,Υ,ρ] at hy;rcases hy with rfl|hy
    ·exact hw.1
    ·exact hw.2 y hy
   exact c3 y (λe=>n3 y FV x (by simp [BT.nodes]) e) (λhm=>n3 y FV y (by simp [BT.nodes,hm]) rfl)
  ·simp only [Ϗ] at hp;subst hp;exact c1
 ·obtain ⟨k1,k2⟩:=hout y hy;have a1:=h4 y hy;have a2:=c3 y k1 k2;exact ⟨a2.1.trans a1.1,a2.2.1.trans a1.2.1,a2.2.2.trans a1.2.2⟩
 ·rw [gY];refine ϖ ?_ h5;simp only [BT.nodes,ϋ,List.cons_append];exact ό _
 ·rw [h6,nu];simp only [υ,Ω,List.length_nil];exact Prod.ext rfl (by simp only;omega)
theorem Down.takeA {up:Nat->BT->BT->BT} {A:NS} {S0 S:TS} {ta tb l r l' r':BT} {x y:Nat} {W:List (Nat×BT)} (h:Down up A S0 ta tb S W (.node x l r) (.node y l' r')) (hX:(ta.nodes++tb.nodes).Nodup) (hlt:¬dm A y x) :
  Down up A S0 ta tb (nC S x r) (W++[(x,l)]) r (.node y l' r'):=by
 refine Down.take hX h.Ic h.Iz h.way h.far h.perm ?_;rw [h.res,gK,Γ hlt]
theorem Down.takeB {up:Nat->BT->BT->BT} {A:NS} {S0 S:TS} {ta tb l r l' r':BT} {x y:Nat} {W:List (Nat×BT)} (h:Down up A S0 ta tb S W (.node x l r) (.node y l' r')) (hX:(ta.nodes++tb.nodes).Nodup) (hlt:dm A y x) :
  Down up A S0 ta tb (nC S y r') (W++[(y,l')]) r' (.node x l r):=by
 refine Down.take hX h.Iz h.Ic h.way h.far ?_ ?_
 ·refine ϖ ?_ h.perm;exact List.Perm.append_left _ Φ
 ·rw [h.res,gK,Δ hlt]
structure Cr (up:Nat->BT->BT->BT) (S0:TS) (X:List Nat) (t:BT) (S:TS) (W:List (Nat×BT)) (m:BT):Prop where
 I1:dD S (-1) m.root m
 way:∀p,p∈W->dD S (-1) (p.1:Int) (.node p.1 p.2 .nil)
 far:∀y,y∉X->S0.at S y
 perm:(jD W++m.nodes).Perm X
 res:t=jH up W m
theorem Down.turn {up:Nat->BT->BT->BT} {A:NS} {S0 S:TS} {ta tb a b:BT} {W:List (Nat×BT)} (h:Down up A S0 ta tb S W a b) (he:a=.nil\/b=.nil) :
  ∃m,m.root=(if a.root=-1 then b.root else a.root)/\Cr up S0 (ta.nodes++tb.nodes) (az up A ta tb).1 S W m/\(az up A ta tb).2=W.length/\(m=a\/m=b):=by
 rcases he with rfl|rfl
 ·refine ⟨b,by simp [BT.root],⟨h.Iz,h.way,h.far,by simpa [BT.nodes] using h.perm,by rw [h.res,eD]⟩,by rw [h.res,eD];simp,Β rfl⟩
 ·refine ⟨a,?_,⟨h.Ic,h.way,h.far,by simpa [BT.nodes] using h.perm,by rw [h.res,gI]⟩,by rw [h.res,gI];simp,Α rfl⟩
  split
  ·rename_i e;rw [e];rfl
  ·rfl
theorem Cr.turn {up:Nat->BT->BT->BT} {S0 S2 S3:TS} {X:List Nat} {t m l:BT} {x:Nat} {W:List (Nat×BT)} (U:Cr up S0 X t S2 (W++[(x,l)]) m) (K:CJ up) (hX:X.Nodup)
  (hT:dD S3 (-1) x (up x l m)) (qA:∀y,y≠x->y∉l.nodes->y∉m.nodes->S2.at S3 y):Cr up S0 X t S3 W (up x l m):=by
 have hp:=U.perm;rw [gY,ϋ] at hp;have hnd:=hp.nodup_iff.2 hX;rw [θ] at hnd;obtain ⟨n1,n2,n3⟩:=hnd;refine ⟨by rw [K.root];exact hT,λp hpW=>?_,λy hy=>?_,?_,by rw [U.res,nu]⟩
 ·have hw:=p9 hpW;refine (U.way p (List.mem_append_left _ hpW)).frame (λy hy=>?_);have FV:y∈jD W:=by
   simp only [BT.nodes,Υ,ρ] at hy;rcases hy with rfl|hy
   ·exact hw.1
   ·exact hw.2 y hy
  exact qA y (λe=>n3 y FV x σ e) (λhm=>n3 y FV y (by simp [hm]) rfl) (λhm=>n3 y FV y (by simp [hm]) rfl)
 ·have h1:=U.far y hy;have h2:=qA y (λe=>hy (hp.mem_iff.1 (by rw [e];simp))) (λhm=>hy (hp.mem_iff.1 (by simp [hm]))) (λhm=>hy (hp.mem_iff.1 (by simp [hm])));exact ⟨h2.1.trans h1.1,h2.2.1.trans h1.2.1,h2.2.2.trans h1.2.2⟩
 ·refine ϖ (List.Perm.append_left _ (K.nodes x l m)) ?_;simpa using hp
theorem Cr.len {up:Nat->BT->BT->BT} {S0 S:TS} {X:List Nat} {t m:BT} {W:List (Nat×BT)} (U:Cr up S0 X t S W m):W.length<=X.length:=by
 have:=U.perm.length_eq;rw [υ] at this;have h2:W.length<=(jD W).length:=by
  clear this U
  induction W with
  | nil=>simp
  | cons p t ih=>unfold jD at *;simp only [List.flatMap_cons,υ,Ω];omega
 omega
theorem Down.len {up:Nat->BT->BT->BT} {A:NS} {S0 S:TS} {ta tb a b:BT} {W:List (Nat×BT)} (U:Down up A S0 ta tb S W a b):W.length+a.nodes.length+b.nodes.length<=(ta.nodes++tb.nodes).length:=by
 have:=U.perm.length_eq;rw [υ,υ] at this;have h2:W.length<=(jD W).length:=by
  clear this U
  induction W with
  | nil=>simp
  | cons p t ih=>unfold jD at *;simp only [List.flatMap_cons,υ,Ω];omega
 omega
theorem oQ {S0 S2:TS} {X:List Nat} {t m l:BT} {x:Nat} {W:List (Nat×BT)} {Cg Gd:Nat->Nat} {up:Nat->BT->BT->BT} (U:Cr up S0 X t S2 (W++[(x,l)]) m) (hX:X.Nodup)
  (hk:∀y,y≠x->Gd y=Cg y) (hr:∀p,p∈W->dZ Cg p.2):∀p,p∈W->dZ Gd p.2:=λp hp=>by
 have hpx:=U.perm;rw [gY,ϋ] at hpx;have hnd:=hpx.nodup_iff.2 hX;rw [θ] at hnd;exact (hr p hp).frame (λy hy=>hk y (λe=>hnd.2.2 y ((p9 hp).2 y hy) x σ e))
section
variable {w:World} {B:LB} {F:List Nat} {gt ct:Nat} {A:NS} {st:Nat} {S:TS} {rk:Nat->Nat} {ae:List Int}
theorem xL (h:fU w B F gt ct A st S rk ae) {p:Int} {x:Nat} {l r:BT} (hT:dD S p x (.node x l r)) (hx:x<A.cs.length) (hr:∀y,y∈r.nodes->y<A.cs.length) :
  Calls Tryz.prog 234 #[.pointer (some ⟨B.bt,0,none⟩),.int .i64 r.root] w λe w'=>(∃v,e=.returned v)/\fU w' B F gt ct A st (nC S x r) rk ae/\aa [B.ba] w w':=by
 cases r with
 | nil=>
  refine (FJ B.bt B.ba A.cs.length S (-1) w h.trees (by unfold mJ;simp)).mono ?_;rintro e w' ⟨rfl,rfl⟩;exact ⟨⟨_,rfl⟩,h,aa.refl _ _⟩
 | node y a b=>
  obtain ⟨_,_,_,hr'⟩:=hT;have e1:S.r x=y:=hr'.1;have e2:S.u y=x:=hr'.2.1;refine (wI B.bt B.ba A.cs.length S x y w h.trees hx (hr y (by simp [BT.nodes])) e2).mono ?_;rintro e w' ⟨rfl,hT,hu⟩;exact ⟨⟨_,rfl⟩,h.iY hu hT,hu⟩
theorem uk (h:fU w B F gt ct A st S rk ae) {p:Int} {x:Nat} {l r:BT} (hT:dD S p x (.node x l r)) (hx:x<A.cs.length) :
  Calls Tryz.prog 239 #[.pointer (some ⟨B.bt,0,none⟩),.int .i64 (x:Int)] w λe w'=>e=.returned (.tuple #[.int .i64 (tv r.root),.bool (tb r.root)])/\aa [] w w':=by
 have e:cK A.cs.length S (x:Int) true=r.root:=by
  unfold cK TS.kid;rw [Δ ω];simp only [if_true,π];exact hT.2.2.2.root
 refine (jB B.bt B.ba A.cs.length S (x:Int) w h.trees).mono ?_;rw [e];rintro e w' ⟨rfl,k,rfl⟩;exact ⟨rfl,(aa.refl _ _).drewN k⟩
def uK (W:List (Nat×BT)):List Value:=bD (W.map λp=>(p.1:Int))
theorem oD (W:List (Nat×BT)) (x:Nat) (l:BT):uK (W++[(x,l)])=uK W++[.int .i64 (x:Int)]:=by unfold uK bD;simp
theorem vz (h:fU w B F gt ct A st S rk ae) {ta tb:BT} (ha:dD S (-1) ta.root ta) (hb:dD S (-1) tb.root tb) (hX:(ta.nodes++tb.nodes).Nodup) (hin:∀y,y∈ta.nodes++tb.nodes->dh A (y:Int)=true) (ra:dZ rk ta) (rb:dZ rk tb) :
  Calls Tryz.prog 236 #[.pointer (some ⟨B.n0,0,none⟩),.int .i64 ta.root,.int .i64 tb.root] w λe w'=>e=.returned (.int .i64 (az aD A ta tb).1.root)/\aa [B.c,B.ba,B.br] w w'/\
   ∃S' q9,fU w' B F gt ct A (bR st (az aD A ta tb).2) S' q9 ae/\dD S' (-1) (az aD A ta tb).1.root (az aD A ta tb).1/\dZ q9 (az aD A ta tb).1/\∀y,y∉ta.nodes++tb.nodes->S.at S' y/\q9 y=rk y:=by
 have hblk:=h.lt;have qz:=h.cF;have Jy:=hblk B.n0 (by simp [LB.blk]);have KL:=hblk B.bt (by simp [LB.blk]);have KJ:=hblk B.ba (by simp [LB.blk]);have hbl3:=hblk B.br (by simp [LB.blk]);have KU:=hblk B.c (by simp [LB.blk,qz]);have hs:=χ h.sep;have hA:=h.cells.ok.c1;have hlt:Hid (∀y,y∈ta.nodes++tb.nodes->y<A.cs.length):=λy hy=>((aK A y).1 (hin y hy)).1;have hXl:(ta.nodes++tb.nodes).length<=A.cs.length:=fI hX hlt.out;have Hm:=χ h;have Kz:=χ hblk;have D0:=χ (Down.start aD A ha hb);have G7:=χ hin;have HX:=χ hX;have RA:=χ (ψ ra rb);have hst:=h.cells.ni;clear h ha hb hblk qz hin hX ra rb
 go_enter Tryz.func236,Tryz.ntmps236
 go_wp2
 go_loopw [1,2,7] (λa b way wr=>∃ (S1:TS) (W:List (Nat×BT)) (a1 b1:BT),a=.int .i64 a1.root/\b=.int .i64 b1.root/\wr.ownsRow w.heap.size 3 1 way W.length (uK W)/\fU wr B F gt ct A (bR st W.length) S1 rk ae/\Down aD A S ta tb S1 W a1 b1/\dZ rk a1/\dZ rk b1/\(∀p,p∈W->dZ rk p.2)/\aa [B.c,B.ba] w wr) (λ_ _ way _=>(ta.nodes++tb.nodes).length-lenOf way)
 case atStart=>
  exact ⟨S,[],ta,tb,rfl,rfl,⟨by simp [uK,bD],Α ⟨rfl,rfl⟩⟩,by rw [List.length_nil,eu hst];exact Hm.out.ah β,D0.out,RA.out.1,RA.out.2,(λp hp=>by cases hp),β⟩
 case round=>
  obtain ⟨S1,W,a1,b1,rfl,rfl,ho,hM,hD,r1,r2,r3,hu⟩:=hrel;have HM:=χ hM;have HD:=χ hD;have HR:=χ (ψ r1 (ψ r2 r3));have HO:=χ ho;have hlen:=hD.len;have h0:=hM.h0;have h1:=hM.h1;clear hM hD r1 r2 r3;obtain ⟨a5,c5,rfl,Jv⟩:=bM ho;have yK:∀g,(Value.slice a5 W.length c5).ownBlock=some g->w.heap.size<=g:=λg hg=>(ho.lt g hg).1;have Dl:=χ yK;clear ho yK
  by_cases hne:a1=.nil\/b1=.nil
  ·obtain ⟨m0,e0,U0,hcnt,hor⟩:=HD.out.turn hne;have hm0:dZ rk m0:=by rcases hor with rfl|rfl;exact HR.out.1;exact HR.out.2.1
   have hz:a1.root=-1\/(a1.root≠-1/\b1.root=-1):=by
    rcases hne with rfl|rfl
    ·exact Α rfl
    ·by_cases e:a1.root=-1
     ·exact Α e
     ·exact Β ⟨e,rfl⟩
   have HU:=χ (ψ U0 (ψ hm0 (ψ hcnt HR.out.2.2)));have J5:=U0.len;have Jj:=χ hu;rw [←hcnt] at HM;clear hne hor U0 hm0 HR HD hcnt hu hlen h0;generalize a1.root=za at *;generalize b1.root=zb at *;have HEX:Hid (∃W2 U2:List (Nat×BT),W=W2++U2):=⟨W,[],σ⟩;have e9:∃z9,m0.root=z9:=⟨_,rfl⟩;obtain ⟨z9,e9⟩:=e9;rw [e9] at e0;generalize hn0:W.length=n0 at *;have Ci:=χ hn0;clear hn0;rcases hz with rfl|⟨hz1,rfl⟩
   all_goals
    first|rw [Δ rfl] at e0|rw [Γ hz1] at e0
    subst e0
    try (have hz2:(z9 != -1)=true:=by simpa using hz1)
    try (have hz3:(z9 == -1)=false:=by simpa using hz1)
    go_wp2
    go_loopw [9,10] (λtop i w5=>∃ (S2:TS) (W2 U2:List (Nat×BT)) (m:BT) (Cg:Nat->Nat),W=W2++U2/\top=.int .i64 m.root/\i=.int .i64 ((W2.length:Int)-1)/\fU w5 B F gt ct A (bR st (az aD A ta tb).2) S2 Cg ae/\Cr aD S (ta.nodes++tb.nodes) (az aD A ta tb).1 S2 W2 m/\dZ Cg m/\(∀p,p∈W2->dZ Cg p.2)/\(∀y,y∉ta.nodes++tb.nodes->Cg y=rk y)/\aa [B.ba,B.br] wr w5) (λ_ i _=>(intOf i+1).toNat)
    case atStart=>exact ⟨S1,W,[],m0,rk,σ,by rw [e9],by rw [Ci.out],HM.out,HU.out.1,HU.out.2.1,HU.out.2.2.2,λ_ _=>rfl,aa.refl _ _⟩
    case round=>
     obtain ⟨S2,W2,U2,m,Cg,rfl,rfl,rfl,hM,hU,r1,r2,r3,hu⟩:=hrel;rename World=>w5;rcases List.eq_nil_or_concat W2 with rfl|⟨W3,⟨x,l⟩,rfl⟩
     ·have e0:=hU.res;simp only [jH] at e0;simp only [List.length_nil];go_wp2;go_ret;rw [e0];exact ⟨rfl,(Jj.out.mono σ).trans (hu.mono σ),S2,Cg,hM,hU.I1,r1,λy hy=>⟨hU.far y hy,r3 y hy⟩⟩
     ·have hpx:=hU.perm;simp only [List.concat_eq_append] at *;rw [gY,ϋ] at hpx;have vv:∀q,q∈(x::l.nodes)++m.nodes->q<A.cs.length:=λq hq=>hlt.out q (hpx.mem_iff.1 (List.mem_append_right _ hq));have hnd:((x::l.nodes)++m.nodes).Nodup:=(θ.1 (hpx.nodup_iff.2 HX.out)).2.1;have Ir:=vv x σ;obtain ⟨g,cap,ee,hI,hg⟩:=IZ.gp (l:=(W3++[(x,l)]++U2).map λp=>(p.1:Int)) (by rw [List.length_map,Ci.out];exact ay HO.out hu (λk hk=>by have:=Dl.out k hk;simp;omega)) ζ;rw [List.length_map,Ci.out] at ee
      injection ee with KO Kc Ko
      subst KO Ko;have dz:=hI.cell W3.length σ;rw [show (((W3++[(x,l)]++U2).map λp=>(p.1:Int)).getD W3.length 0)=(x:Int) by simp [φ]] at dz;have h0:=hM.h0;have h1:=hM.h1;have wh:=χ hM;have Cv:=χ hU;have DW:=χ (ψ r1 (ψ r2 r3));have BF:=χ (ψ vv hnd);have hTx:=hU.way (x,l) σ;have El:=χ hTx;have HPX:=χ hpx;have hil:((W3++[(x,l)]).length:Int)-1=W3.length:=σ;rw [hil];have hi0:((W3.length:Int)≥0):=ω;have hWn:W3.length+1+U2.length=n0:=by have:=Ci.out;simp at this;omega
      have hW3:W3.length<=65536:=ω;clear hM hU r1 r2 r3 vv hnd hTx hpx hil hI Kc
      by_cases hm:m=.nil
      ·subst hm;simp only [BT.root]
       go_wp2_with fail
       have wU:dD S2 (-1) x (.node x l .nil):=El.out;refine (kT wh.out wU (DW.out.2.1 (x,l) σ) DW.out.1 (by simpa [BT.nodes] using BF.out.2) (λq hq=>BF.out.1 q (by simpa [BT.nodes] using hq))).mono ?_;rintro e w7 ⟨rfl,DK,S3,Gd,Io,Fe,Ig,hs7,_,GV⟩;have Js:=χ Io;have Ag:=χ (ψ Fe (ψ Ig (ψ hs7 GV)));have Kr:=χ (hu.trans DK);clear Io Fe Ig hs7 GV hu DK El h0 h1 dz;go_wp2
       go_roundw
       case rel=>
        refine ⟨S3,W3,(x,l)::U2,aD x l .nil,Gd,σ,congrArg (Value.int .i64) (je x l .nil).symm,by go_num,Js.out,Cv.out.turn lu HX.out Ag.out.1 (λy h1 _ _=>Ag.out.2.2.1 y h1),Ag.out.2.1,?_,?_,Kr.out⟩
        ·exact oQ Cv.out HX.out Ag.out.2.2.2 (λp hp=>DW.out.2.1 p (List.mem_append_left _ hp))
        ·exact λy hy=>(Ag.out.2.2.2 y (λe=>hy (by rw [e];exact HPX.out.mem_iff.1 σ))).trans (DW.out.2.2 y hy)
       case measure=>simp [intOf]
      ·obtain ⟨mr,hmr⟩:∃mr:Nat,m.root=mr:=⟨_,BT.oJ hm⟩;have hmm:=(dH hm).1;rw [hmr,π] at hmm;have wU:dD S2 (-1) x (.node x l .nil):=El.out;have Ev:=Cv.out.I1;have hur:S2.u mr=-1:=by
        cases m with
        | nil=>exact absurd rfl hm
        | node q a b=>
         have e:q=mr:=by have e':(q:Int)=mr:=hmr;omega
         subst e;exact Ev.2.1
       have hnd:=BF.out.2;have hxm:x≠mr:=λe=>by
        rw [θ] at hnd;exact hnd.2.2 x σ mr hmm e
       obtain ⟨zU,BA⟩:=oU (m:=m) wU Ev hm (by simpa [BT.nodes] using hnd);rw [hmr] at zU BA;have HT3:=χ (ψ zU (ψ hm BA));have kh:=λW (hW:aa [] w5 W)=>rZ B.bt B.ba A.cs.length S2 x mr true W ((wh.out.ah hW).trees) Ir (BF.out.1 mr (List.mem_append_right _ hmm)) hxm hur wU.2.2.2;have HMR:=χ hmr;rw [hmr];have hz4:((mr:Int) != -1)=true:=σ;have rr1:∀W,aa [B.ba] w5 W->W.cell? ⟨B.n0,1,none⟩=some (.pointer (some ⟨B.bt,0,none⟩)):=λW hW=>hW.kept h1 (by have:=hs.out;simp;omega);have rr2:∀W,aa [B.ba] w5 W->W.cell? ⟨g,W3.length,none⟩=some (.int .i64 (x:Int)):=λW hW=>hW.kept dz ζ
       clear wU Ev hur hnd zU BA hm hmr h0 h1 dz hmm
       go_wp2_with fail
       have Dm:(0:Int)<=(W3.length:Int):=ω;have zx:(W3.length:Int)<(n0:Int):=ω
       go_region_held3 (aa [B.ba] w5) (exact ν)
        ((go_at_call 241;(with_reducible refine (kh _ β).mono ?_);rintro e w6 ⟨rfl,DZ,xO⟩;(have Ct:aa [B.ba] w5 w6:=ν)))
       have dz6:=rr2 w6 Ct;have qN:=χ (wh.out.iY Ct DZ);clear rr1 rr2 kh xO DZ
       go_wp2_with fail
       refine (kT qN.out HT3.out.1 (DW.out.2.1 (x,l) σ) DW.out.1 (by simpa [BT.nodes] using BF.out.2) (λq hq=>BF.out.1 q (by simpa [BT.nodes] using hq))).mono ?_;rintro e w7 ⟨rfl,DK,S3,Gd,Io,Fe,Ig,hs7,_,GV⟩;have Js:=χ Io;have Ag:=χ (ψ Fe (ψ Ig (ψ hs7 GV)));have Kr:=χ (hu.trans ((Ct.mono σ).trans DK));clear Io Fe Ig hs7 GV hu DK El dz6 Ct;go_wp2
       go_roundw
       case rel=>
        refine ⟨S3,W3,(x,l)::U2,aD x l m,Gd,σ,by rw [je],by go_num,Js.out,Cv.out.turn lu HX.out Ag.out.1 (λy h1 _ h3=>?_),Ag.out.2.1,?_,?_,Kr.out⟩
        ·have a1:=HT3.out.2.2 y h1 h3;have a2:=Ag.out.2.2.1 y h1;exact ⟨a2.1.trans a1.1,a2.2.1.trans a1.2.1,a2.2.2.trans a1.2.2⟩
        ·exact oQ Cv.out HX.out Ag.out.2.2.2 (λp hp=>DW.out.2.1 p (List.mem_append_left _ hp))
        ·exact λy hy=>(Ag.out.2.2.2 y (λe=>hy (by rw [e];exact HPX.out.mem_iff.1 σ))).trans (DW.out.2.2 y hy)
       case measure=>simp [intOf]
  ·obtain ⟨x,l,r,rfl⟩:∃x l r,a1=.node x l r:=by
    cases a1 with
    | nil=>exact absurd (Α rfl) hne
    | node x l r=>exact ⟨x,l,r,rfl⟩
   obtain ⟨y,l',r',rfl⟩:∃x l r,b1=.node x l r:=by
    cases b1 with
    | nil=>exact absurd (Β rfl) hne
    | node x l r=>exact ⟨x,l,r,rfl⟩
   clear hne;have hmx:∀z,z∈(BT.node x l r).nodes++(BT.node y l' r').nodes->z∈ta.nodes++tb.nodes:=λz hz=>HD.out.perm.mem_iff.1 (List.mem_append_right _ hz);have hxm:=hmx x (by simp [BT.nodes]);have hym:=hmx y (by simp [BT.nodes]);have J5:W.length+2<=(ta.nodes++tb.nodes).length:=by simp only [BT.nodes,Ω,υ] at hlen ⊢;omega
   have Iw:=χ hmx;have hxb:((x:Int) != -1)=true:=σ;have hyb:((y:Int) != -1)=true:=σ;clear hmx hlen;have kA:=dE HM.out.cells y x (G7.out y hym) (G7.out x hxm);obtain ⟨sw,hsw⟩:∃sw,decide (dm A y x)=sw:=⟨_,rfl⟩;rw [hsw] at kA;have KEY:∃ (z:Nat) (lz rz o:BT),z=(if sw then y else x)/\Down aD A S ta tb (nC S1 z rz) (W++[(z,lz)]) rz o/\dD S1 (-1) z (.node z lz rz)/\dZ rk lz/\dZ rk rz/\dZ rk o/\z<A.cs.length/\(∀q,q∈rz.nodes->q<A.cs.length)/\o.root=(if sw then (x:Int) else (y:Int)):=by
    cases sw with
    | true=>
     exact ⟨y,l',r',.node x l r,rfl,HD.out.takeB HX.out (Ϙ hsw),HD.out.Iz,HR.out.2.1.2.1,HR.out.2.1.2.2,HR.out.1,hlt.out y hym,λq hq=>hlt.out q (Iw.out q (by simp [BT.nodes,hq])),rfl⟩
    | false=>
     exact ⟨x,l,r,.node y l' r',rfl,HD.out.takeA HX.out (of_decide_eq_false hsw),HD.out.Ic,HR.out.1.2.1,HR.out.1.2.2,HR.out.2.1,hlt.out x hxm,λq hq=>hlt.out q (Iw.out q (by simp [BT.nodes,hq])),rfl⟩
   obtain ⟨z,lz,rz,o,ez,hD2,GN,q1,q2,q3,hz,hrz,eo⟩:=KEY;have HD2:=χ hD2;have HT:=χ GN;have HQ:=χ (ψ q1 (ψ q2 (ψ q3 hrz)));clear hD2 GN q1 q2 q3 hrz hsw;simp only [BT.root];cases sw
   all_goals
    simp only [if_true,if_false,ϗ] at ez eo;subst ez
    go_wp2_with fail
    refine kA.mono ?_;rintro e w1 ⟨rfl,iU,hu1⟩;have hM1:=χ (HM.out.fw (hu1.mono (by simp [HM.out.cF])) iU (λx hx=>Α hx) rfl rfl);have hss:bR (bR st W.length) 1=bR st (W.length+1):=kI _ _ _;rw [hss] at hM1;have ho1:=ay HO.out hu1 (λk hk=>by have:=Dl.out k hk;simp;omega);have h01:=hM1.out.h0;have h11:=hM1.out.h1;clear h0 h1 kA hss;have Cs:=χ (ψ hu hu1);clear hu hu1 iU;have JL:Hid (∀g,g∈(Value.slice a5 W.length c5).ownBlock.toList->g∉B.blk F gt):=λg hg hb=>by
     have h1:=Dl.out g (Option.mem_toList.1 hg);have h2:=Kz.out g hb;omega
    have hsz1:w.heap.size<=w1.heap.size:=(Cs.out.1.trans (Cs.out.2.mono σ)).size
    go_wp2_with (first
     | ((at_builtin;refine aL rfl _ _ 77 rfl w.heap.size 3 (.int .i64 0) 1 8 Tryz.underlying77 dO rfl δ _ _ _ rfl (ho1) [.int .i64 (z:Int)] rfl (by simp [Value.oneCell']) (by first|rfl|(rw [Κ];rfl)) μ ω (ω) ?_;intro v2 w2 ho2 hu2 iI);(have hM2:=χ (hM1.out.upd hu2 JL.out));(have k12:=hM2.out.h1);(have kr:=uk hM2.out HT.out hz))
     | (go_at_call 239;(with_reducible refine (kr).mono ?_);rintro e w3 ⟨rfl,hu3⟩;(have k13:=hu3.was k12);(have Dx:=χ (hM2.out.ah hu3));(have kc:=xL Dx.out HT.out hz HQ.out.2.2.2))
     | (go_at_call 237;(with_reducible refine (mX _ _).mono ?_);rintro e w9 ⟨rfl,aB⟩;rw [aB];clear aB w9)
     | (go_at_call 234;(with_reducible refine (kc).mono ?_);rintro e w4 ⟨⟨v4,rfl⟩,FX,lC⟩)
     | fail)
    obtain ⟨a6,c6,rfl,hc6⟩:=bM ho2;have Eo:∀k,(Value.slice a6 (W.length+1) c6).ownBlock=some k->w.heap.size<=k:=λk hk=>(ho2.lt k hk).1;refine ⟨⟨_,W++[(z,lz)],rz,o,rfl,congrArg (Value.int .i64) eo.symm,?_,?_,HD2.out,HQ.out.2.1,HQ.out.2.2.1,?_,?_⟩,?_⟩
    ·rw [oD,υ,List.length_singleton];exact ay (ay ho2 hu3 σ) lC (λk hk=>by have:=Eo k hk;simp;omega)
    ·rw [υ,List.length_singleton];exact FX
    ·intro p hp;rcases τ.1 hp with hp|hp
     ·exact HR.out.2.2 p hp
     ·simp only [Ϗ] at hp;subst hp;exact HQ.out.1
    ·have v1:aa [B.c,B.ba] w w1:=Cs.out.1.trans (Cs.out.2.mono σ);have v2:aa [B.c,B.ba] w w2:=v1.joined hu2 (λg hg=>Β (Dl.out g (Option.mem_toList.1 hg)));exact (v2.trans (hu3.mono σ)).trans (lC.mono σ)
    ·show (ta.nodes++tb.nodes).length-(W.length+1)<(ta.nodes++tb.nodes).length-W.length
     omega
end
def iQ (w:World) (B:LB) (F:List Nat) (gt ct:Nat) (A:NS) (st:Nat) (tr:Nat->BT):Prop:=
 ∃S rk ae,fU w B F gt ct A st S rk ae/\IX A S ae tr/\(∀h,Lean (tr h))/\(∀h,dZ rk (tr h))
theorem iQ.upd {w w':World} {B:LB} {F:List Nat} {gt ct:Nat} {A:NS} {st:Nat} {tr:Nat->BT} {G:List Nat} (h:iQ w B F gt ct A st tr) (hu:aa G w w') (hG:∀x,x∈G->x∉B.blk F gt):iQ w' B F gt ct A st tr:=by
 obtain ⟨S,rk,ae,hM,h1,h2,h3⟩:=h;exact ⟨S,rk,ae,hM.upd hu hG,h1,h2,h3⟩
theorem iQ.ah {w w':World} {B:LB} {F:List Nat} {gt ct:Nat} {A:NS} {st:Nat} {tr:Nat->BT} (h:iQ w B F gt ct A st tr) (hu:aa [] w w'):iQ w' B F gt ct A st tr:=h.upd hu σ
section
variable {w:World} {B:LB} {F:List Nat} {gt ct:Nat} {A:NS} {st:Nat} {tr:Nat->BT}
theorem rC (h:iQ w B F gt ct A st tr) (hh x:Nat) (k s:Int) (hk:-9223372036854775808<=k/\k<=9223372036854775807/\0<=s/\s<=18446744073709551615) (hB:iq A hh x=true) :
  Calls Tryz.prog 230 #[.pointer (some ⟨B.n0,0,none⟩),.int .i64 (hh:Int),.int .i64 (x:Int),.agg #[.int .i64 k,.int .u64 s]] w λe w'=>e=.returned (.bool true)/\aa (B.blk F gt) w w'/\
   iQ w' B F gt ct (af A hh x k s) (bR st (az aD (af A hh x k s) (tr hh) (single x)).2) (λq=>if q=hh then (az aD (af A hh x k s) (tr hh) (single x)).1 else tr q):=by
 obtain ⟨S,rk,ae,hM,hI,hL,hR⟩:=h;have hlt:=hM.lt;have ok:=hM.cells.ok;have ok':=pY ok hh x k s hk;obtain ⟨b1,b2,b3⟩:=(bG _ _ _).1 hB;have b4:=(aA _ _).1 b1;have hx:x<A.cs.length:=by have:=(bS _ _).1 b2;omega
 have yO:(A.c x).i=0:=by
  have:=(ok.nat x hx).1;have h3:¬ (0<(A.c x).i):=λh'=>by rw [(aK A x).2 ⟨hx,h'⟩] at b3;cases b3
  omega
 have hcs:(af A hh x k s).cs.length=A.cs.length:=by unfold af;rw [Δ hB,bU]
 have gW:(af A hh x k s).hs.length=A.hs.length:=by unfold af;rw [Δ hB];rfl
 have hcx:∀y,(af A hh x k s).c y=if y=x then ⟨hh,k,s⟩ else A.c y:=λy=>by
  unfold af;rw [Δ hB,π,fE]
  by_cases e:y=x
  ·rw [Δ ⟨e,hx⟩,Δ e]
  ·rw [Γ (λh=>e h.1),Γ e]
 have yM:x∉(tr hh).nodes:=hI.out yO;have hX:((tr hh).nodes++(single x).nodes).Nodup:=by
  rw [θ];refine ⟨hI.nd hh,by simp [single,BT.nodes],λa ha b hb e=>?_⟩;simp only [single,BT.nodes,Υ,Ϗ] at hb;exact yM (by rw [←hb,←e];exact ha)
 have hin:∀y,y∈(tr hh).nodes++(single x).nodes->dh (af A hh x k s) (y:Int)=true:=λy hy=>by
  rw [aK,hcs,hcx];simp only [single,BT.nodes,Υ,τ,Ϗ] at hy
  by_cases e:y=x
  ·rw [Δ e,e];exact ⟨hx,by show (0:Int)<(hh:Int);omega⟩
  ·rw [Γ e];have:=(hI.mem hh y).1 (hy.resolve_right e);exact ⟨this.2.1,ω⟩
 have Eg:Heap (af A hh x k s) (tr hh):=(hI.heap hh).frame (λy hy=>by rw [hcx,Γ (λe=>yM (by rw [←e];exact hy))]);obtain ⟨mp,mh⟩:=rX lu (af A hh x k s) _ (tr hh) (single x) (Θ _);have Hu:=mh Eg ⟨by simp [BT.nodes],by simp [BT.nodes],trivial,trivial⟩ hX;have ml:=uo (af A hh x k s) _ (tr hh) (single x) (Θ _) (hL hh) ⟨Θ _,trivial,trivial⟩;have hfr:=hI.free x hx yO
 have FI:Hid (∀ (W:World) (S':TS) (q9:Nat->Nat) (st':Nat),fU W B F gt ct (af A hh x k s) st' S' q9 (ae.set hh (az aD (af A hh x k s) (tr hh) (single x)).1.root)->dD S' (-1) (az aD (af A hh x k s) (tr hh) (single x)).1.root (az aD (af A hh x k s) (tr hh) (single x)).1->dZ q9 (az aD (af A hh x k s) (tr hh) (single x)).1->
   (∀y,y∉(tr hh).nodes++(single x).nodes->S.at S' y/\q9 y=rk y)->iQ W B F gt ct (af A hh x k s) st' (λq=>if q=hh then (az aD (af A hh x k s) (tr hh) (single x)).1 else tr q)):=λW S' q9 st' a1 a2 a3 a4=>by
  refine ⟨S',q9,_,a1,hI.put ok hM.fG hB a2 mp Hu (λy hy=>(a4 y hy).1),λq=>?_,λq=>?_⟩
  ·show Lean (if q=hh then _ else _)
   split
   ·exact ml
   ·exact hL q
  ·show dZ q9 (if q=hh then _ else _)
   split
   ·exact a3
   ·rename_i hq
    refine (hR q).frame (λy hy=>(a4 y (λhm=>?_)).2);simp only [single,BT.nodes,Υ,τ,Ϗ] at hm;rcases hm with hm|hm
    ·have c1:=(hI.mem hh y).1 hm;have c2:=(hI.mem q y).1 hy;omega
    ·exact hI.out (g:=q) yO (by rw [←hm];exact hy)
 have Ed:=hI.Hf hh;have hRh:=hR hh;have htop:=hI.top hh ω;have hgn:hh<ae.length:=by rw [hM.fG];omega
 have u1:aa [] w (w.alloc (.cells #[.int .i64 k,.int .u64 s] 97)):=(aa.refl _ _).alloc _;have kp:=λW (hW:aa [] (w.alloc (.cells #[.int .i64 k,.int .u64 s] 97)) W)=>fZ (hM.cells.ah (u1.trans hW)) hh x k s hk hB;have h0:=hM.h0;have BP:B.n0∉F:=hM.aS.1;have hsz:w.heap.size∉F:=λhm=>by have:=hlt w.heap.size (by simp [LB.blk,hm]);omega
 have r0:∀W,aa F (w.alloc (.cells #[.int .i64 k,.int .u64 s] 97)) W->W.cell? ⟨B.n0,0,none⟩=some (.pointer (some ⟨B.c,0,none⟩)):=λW hW=>hW.kept (u1.was h0) BP;have r1:∀W,aa F (w.alloc (.cells #[.int .i64 k,.int .u64 s] 97)) W->W.cell? ⟨w.heap.size,0,none⟩=some (.int .i64 k):=λW h=>h.kept σ hsz;have r2:∀W,aa F (w.alloc (.cells #[.int .i64 k,.int .u64 s] 97)) W->W.cell? ⟨w.heap.size,1,none⟩=some (.int .u64 s):=λW h=>h.kept σ hsz;have HM:=χ hM;have HH:=χ (ψ hX (ψ hin (ψ Ed (ψ hRh hfr))));have HLT:=χ hlt;have HSE:=χ (ψ hM.sep hM.aS);have hA:=ok.c1;have KP:=ok.h1;have HXN:=χ yM
 clear hM hI hL hR ok ok' b1 b2 b3 yO hcx yM hX hin Eg mp mh Hu ml hfr h0 hlt Ed hRh;generalize hA':af A hh x k s=A' at *;generalize htr:tr hh=th at *
 go_enter Tryz.func230,Tryz.ntmps230
 go_wp2
 go_region_held3 (aa F (w.alloc (.cells #[.int .i64 k,.int .u64 s] 97))) (exact ν)
  ((go_at_call 138;(with_reducible refine (kp _ β).mono ?_);rintro e w1 ⟨rfl,iU,hu1⟩;(have hu2:aa F (w.alloc (.cells #[.int .i64 k,.int .u64 s] 97)) w1:=ν)))
 have uF:aa F w (w.alloc (.cells #[.int .i64 k,.int .u64 s] 97)):=u1.mono σ;have hM1:=HM.out.fw (uF.trans hu2) iU (λy hy=>Α hy) hcs gW;have h2:=hM1.h2;have dR:=hM1.ranks.cell x (by rw [hcs];exact hx);have fR:=hM1.ranks.free x;have hw1:aa F w w1:=uF.trans hu2;have mY:=χ hM1;clear r0 r1 r2 kp hu1 hu2 iU hM1 uF;rw [hcs] at h2;go_wp2;obtain ⟨w2,hw2⟩:∃w2,w2=w1.setCell ⟨B.br,x,none⟩ (.int .i64 1):=⟨_,rfl⟩;have u2:aa [B.br] w1 w2:=by rw [hw2];exact β
 have hM2:fU w2 B F gt ct A' st S (λy=>if y=x then 1 else rk y) ae:=by rw [hw2];exact mY.out.gq x 1
 rw [←hw2];clear hw2 mY h2 dR fR;have km:=λW (hW:aa [] w2 W)=>vz (hM2.ah hW) HH.out.2.2.1 (jN HH.out.2.2.2.2) HH.out.1 HH.out.2.1 (HH.out.2.2.2.1.frame (λy hy=>Γ (λe=>HXN.out (by rw [←e];exact hy)))) ⟨by simp [BT.rank],trivial,trivial⟩;rw [show (single x).root=(x:Int) from rfl] at km;have d4:=hM2.gB.cell hh hgn;rw [htop] at d4;have f4:=hM2.gB.free hh;have h3:=hM2.h3;have hg:=hM2.lt gt (by simp [LB.blk]);have wZ:=χ hM2;have Dn:B.n0∉[B.c,B.ba,B.br,gt]:=by
  have a1:=HSE.out;have a2:B.n0≠B.c:=λe=>a1.2.1 (by rw [e];exact HM.out.cF);simp;omega
 have hgc:gt∉[B.c,B.ba,B.br]:=by
  have a1:=HSE.out;have a2:gt≠B.c:=λe=>a1.2.2.2.2.2 (by rw [e];exact HM.out.cF);simp;omega
 have r3:∀W,aa [B.c,B.ba,B.br,gt] w2 W->W.cell? ⟨B.n0,3,none⟩=some (.slice (some ⟨gt,0,none⟩) ae.length ct):=λW hW=>hW.kept h3 Dn;have r4:∀W,aa [B.c,B.ba,B.br] w2 W->W.cell? ⟨gt,hh,none⟩=some (.int .i64 th.root)/\W.frozen? ⟨gt,hh,none⟩=false:=λW hW=>⟨hW.kept d4 hgc,hW.aF d4 hgc f4⟩
 have Dm:(0:Int)<=(hh:Int):=ω;have zx:(hh:Int)<(ae.length:Int):=ω;have MG:Hid (az aD A' th (single x)=az aD A' th (single x)):=rfl;generalize hmt:(az aD A' th (single x)).1=mt at *;generalize hmk:(az aD A' th (single x)).2=mk at *;clear hM2 f4 h3 MG;have q3:=r3 _ (aa.refl _ _);have q4:=(r4 _ (aa.refl _ _)).1
 go_region_law
  (first
   | (go_simp;go_at_call 236;(with_reducible refine (km _ β).mono ?_);rintro e w5 ⟨rfl,Am,S5,rk5,Gv,JB,hr5,hs5⟩;(have dV:aa [B.c,B.ba,B.br] w2 w5:=aa.trans β Am);(have xO:aa [B.c,B.ba,B.br,gt] w2 w5:=dV.mono σ);obtain ⟨d5,f5⟩:=r4 _ dV;(have q5:=r3 _ xO)))
 all_goals
  go_wp2;go_ret;have qz:=HM.out.cF;have v1:aa (B.blk F gt) w w1:=hw1.mono (λy hy=>by simp only [LB.blk,ρ];simp [hy]);have v2:aa (B.blk F gt) w w2:=v1.trans (u2.mono (λy hy=>by simp at hy;simp [LB.blk,hy]))
  have v3:aa (B.blk F gt) w w5:=v2.trans (dV.mono (λy hy=>by
   simp only [ρ,ς,or_false] at hy;simp only [LB.blk,ρ];rcases hy with rfl|rfl|rfl
   ·simp [qz]
   ·simp
   ·simp))
  subst hmt hmk;refine ⟨rfl,v3.setCell (Α (by simp [LB.blk])) _,FI.out _ S5 rk5 _ (Gv.uJ hh _) JB hr5 (λy hy=>⟨(hs5 y hy).1,?_⟩)⟩;rw [(hs5 y hy).2,Γ (λe=>hy (by rw [e];simp [single,BT.nodes]))]
end
theorem zJ (n j:Nat) (hj:j<n):(madeCells #[Value.int .i64 0] (n*1)).toList.getD j undef=.int .i64 0:=by
 rw [φ,ε (by simp [madeCells];omega)];simp [madeCells,Nat.mod_one]
theorem Aj (n:Nat) (w:World) (h:n<=65536) :
  Calls Tryz.prog 66 #[.int .i64 (n:Int)] w λe w'=>∃B F gt,e=.returned (.tuple #[.pointer (some ⟨B.n0,0,none⟩),.int .i64 0])/\iQ w' B F gt 1 (NS.new n) 0 (λ_=>.nil)/\aa [] w w'/\∀x,x∈B.blk F gt->w.heap.size<=x:=by
 go_enter Tryz.func66,Tryz.ntmps66
 go_wp2_with (first
  | ((go_at_call 84;(with_reducible refine (gu n _ h).mono ?_));rintro e w1 ⟨c,F,rfl,hC,hu1,hF⟩)
  | ((go_at_call 89;(with_reducible refine (jY n _ h).mono ?_));rintro e w2 ⟨bt,ba,rfl,hT,hu2,hb1,hb2⟩)
  | (at_make;refine wpList_make_row rfl _ 77 rfl 3 (.int .i64 0) 1 8 Tryz.underlying77 dO n rfl ω μ ?_;intro w3 hr3 hu3))
 go_ret2;have hcs:(NS.new n).cs.length=n:=by simp [NS.new]
 have l1:=hu1.size;have l2:=hu2.size;have l3:=hu3.size;have l4:=hr3.lt;have l5:=hT.head.lt;have l6:=hT.row.lt;have l7:=hC.lt;have lc:=l7 c hC.mem;have e3:((w3.alloc (.cells #[.int .i64 (-1)] 3)).heap.size)=w3.heap.size+1:=by rw [Κ]
 have hv:aa [] w3 (w3.alloc (.cells #[.int .i64 (-1)] 3)):=(aa.refl _ _).alloc _;have hw:aa [] w3 ((w3.alloc (.cells #[.int .i64 (-1)] 3)).alloc (.cells #[.pointer (some ⟨c,0,none⟩),.pointer (some ⟨bt,0,none⟩),.slice (some ⟨w2.heap.size,0,none⟩) n n,.slice (some ⟨w3.heap.size,0,none⟩) 1 1] 204)):=hv.alloc _;have hh:=aY (w3.alloc (.cells #[.int .i64 (-1)] 3)) [.pointer (some ⟨c,0,none⟩),.pointer (some ⟨bt,0,none⟩),.slice (some ⟨w2.heap.size,0,none⟩) n n,.slice (some ⟨w3.heap.size,0,none⟩) 1 1] 204;rw [e3] at hh
 have hi:IZ (w3.alloc (.cells #[.int .i64 (-1)] 3)) w3.heap.size 1 [-1]:=IZ.lit w3 [-1] σ;have hF':∀x,x∈F->x<w1.heap.size:=l7;have hnF:∀x,w1.heap.size<=x->x∉F:=λx hx hm=>by have:=hF' x hm;omega
 refine ⟨⟨w3.heap.size+1,c,bt,ba,w2.heap.size⟩,F,w3.heap.size,rfl,⟨TS.none,λ_=>0,[-1],⟨by rw [hcs];exact hh,((hC.ah hu2).ah hu3).ah hw,by rw [hcs];exact (hT.upd hu3 σ σ).upd hw σ σ,?_,hi.upd ((aa.refl [] _).alloc _) σ,rfl,⟨hnF _ (by first|omega|(simp only;omega)),hnF _ (by first|omega|(simp only;omega)),hnF _ (by first|omega|(simp only;omega)),hnF _ (by first|omega|(simp only;omega)),hnF _ (by first|omega|(simp only;omega))⟩,⟨⟨by simp only;omega,by simp only;omega,by simp only;omega,by simp only;omega⟩,by simp only;omega,by simp only;omega,by simp only;omega,by simp only;omega,by simp only;omega⟩⟩,pM n,λ_=>trivial,λ_=>trivial⟩,((hu1.trans hu2).trans hu3).trans hw,λx hx=>?_⟩
 ·rw [hcs];have:=hr3.upd hw σ;rw [Nat.mul_one] at this;refine this.ext (λj hj=>?_);have hz:(Value.int .i64 0).cells=#[.int .i64 0]:=rfl;have e:=zJ n j hj;rw [Nat.mul_one] at e;rw [hz,e];rfl
 ·simp only [LB.blk,ρ] at hx;rcases hx with rfl|rfl|rfl|rfl|rfl|hx
  ·omega
  ·omega
  ·omega
  ·omega
  ·omega
  ·exact hF x hx
section
variable {w:World} {B:LB} {F:List Nat} {gt ct:Nat} {A:NS} {st:Nat} {tr:Nat->BT}
theorem Ao (h:iQ w B F gt ct A st tr) (hl:65536<A.hs.length) :
  Calls Tryz.prog 231 #[.pointer (some ⟨B.n0,0,none⟩)] w λe w'=>e=.returned (.int .i64 0)/\Goes (B.blk F gt) w w' (λF'=>∃F1,F'=B.blk F1 gt/\iQ w' B F1 gt ct A st tr):=by
 obtain ⟨S,rk,ae,hM,hI⟩:=h;have k:=cZ hM.cells;have e1:aT A=0:=by unfold aT;rw [Δ hl]
 have e2:ag A=A:=by unfold ag;rw [Δ hl]
 rw [e1,e2] at k;have h0:=hM.h0;have HM:=χ hM;have HI:=χ hI;clear hM hI e1 e2
 go_enter Tryz.func231,Tryz.ntmps231
 go_wp2_with (first|((go_at_call 140;(with_reducible refine (k).mono ?_));rintro e w1 ⟨rfl,F1,hC,hu,hF⟩))
 go_ret
 exact ⟨rfl,B.blk F1 gt,⟨F1,rfl,S,rk,ae,HM.out.fw hu hC hF rfl rfl,HI.out⟩,hu.mono (λy hy=>by simp [LB.blk,hy]),λx hx=>by
  simp only [LB.blk,ρ] at hx ⊢;rcases hx with rfl|rfl|rfl|rfl|rfl|hx
  ·simp
  ·simp
  ·simp
  ·simp
  ·simp
  ·rcases hF x hx with h|h
   ·simp [h]
   ·exact Β h⟩
theorem xH (h:iQ w B F gt ct A st tr) (hl:¬65536<A.hs.length) :
  Calls Tryz.prog 231 #[.pointer (some ⟨B.n0,0,none⟩)] w λe w'=>e=.returned (.int .i64 (A.hs.length:Int))/\Goes (B.blk F gt) w w' (λF'=>∃F1 gP rR,F'=B.blk F1 gP/\iQ w' B F1 gP rR (ag A) st tr):=by
 obtain ⟨S,rk,ae,hM,hI,hL,hR⟩:=h;have k:=cZ hM.cells;have e1:aT A=A.hs.length:=by unfold aT;rw [Γ hl]
 rw [e1] at k;have hcs:(ag A).cs.length=A.cs.length:=by unfold ag;rw [Γ hl]
 have gW:(ag A).hs.length=A.hs.length+1:=by unfold ag;rw [Γ hl];simp
 have hI2:=hI.make hM.cells.ok hM.fG hl;have h0:=hM.h0;have hh0:=hM.cells.ok.h0;have JP:=χ hM.fG;have htb:ae.length<=65536:=by rw [hM.fG];omega
 have HM:=χ hM;have HI:=χ (ψ hI2 (ψ hL hR));clear hM hI hL hR e1 hI2
 go_enter Tryz.func231,Tryz.ntmps231
 go_wp2_with (first
  | ((go_at_call 140;(with_reducible refine (k).mono ?_));rintro e w1 ⟨rfl,F1,hC,hu,hF⟩;(have d3:=hu.kept HM.out.h3 HM.out.aS.1);(have f3:=hu.aF HM.out.h3 HM.out.aS.1 (HM.out.head.free 3));(have ho1:=(HM.out.gB.upd hu HM.out.aS.2.2.2.2).own);(have g0:B.n0≠gt:=HM.out.sep.1.2.2.2);(have gl:=(HM.out.gB.upd hu HM.out.aS.2.2.2.2).lt))
  | ((at_builtin;refine aL rfl _ _ 77 rfl 0 3 (.int .i64 0) 1 8 Tryz.underlying77 dO rfl δ _ _ _ rfl (ho1) [.int .i64 (-1)] rfl (by simp [Value.oneCell']) (by first|rfl|(rw [Κ];rfl)) μ ω (ω) ?_;intro v2 w2 ho2 hu2 iI);(have hu2:aa [gt] w1 w2:=hu2);obtain ⟨gP,rR,ev,hI2, -⟩:=IZ.gp (l:=ae++[-1]) (by rw [bT,υ];exact ho2) σ;rw [υ,List.length_singleton] at ev;subst ev;(have d4:=hu2.kept d3 ζ);(have f4:=hu2.aF d3 ζ f3)))
 go_ret;have hM:=HM.out;have hlt:=hM.lt;have f:=hM.aS;have q:=hM.sep;have hw3:aa [B.n0] w2 (w2.setCell ⟨B.n0,3,none⟩ (.slice (some ⟨gP,0,none⟩) (ae.length+1) rR)):=β;have hg1:gP=gt\/w1.heap.size<gP:=by
  rcases iI with h|h
  ·exact Α (Option.some.inj h)
  ·exact Β (h gP rfl)
 have hws:=hu.size;have iU:=hC.lt;have l0:=hlt B.n0 (by simp [LB.blk]);have l1:=hlt B.bt (by simp [LB.blk]);have l2:=hlt B.ba (by simp [LB.blk]);have l3:=hlt B.br (by simp [LB.blk]);have l4:=hlt gt (by simp [LB.blk]);have hnF:∀y,y<w.heap.size->y∉F->y∉F1:=λy hy hn hm=>by rcases hF y hm with h'|h';exact hn h';omega
 have tV:gP∉F1:=by
  rcases hg1 with e|e
  ·rw [e];exact hnF gt l4 f.2.2.2.2
  ·exact λhm=>by have:=iU gP hm;omega
 have hb:w.heap.size<=gP\/gP=gt:=ω;have hhd:=((hM.head.upd hu f.1).upd hu2 ζ).set 3 (.slice (some ⟨gP,0,none⟩) (ae.length+1) rR);refine ⟨rfl,B.blk F1 gP,⟨F1,gP,rR,rfl,S,rk,ae++[-1],⟨?_,?_,?_,?_,hI2.upd hw3 ζ,?_,⟨hnF _ l0 f.1,hnF _ l1 f.2.1,hnF _ l2 f.2.2.1,hnF _ l3 f.2.2.2.1,tV⟩,⟨⟨q.1.1,q.1.2.1,q.1.2.2.1,ω⟩,q.2.1,ω,q.2.2.2.1,ω,ω⟩⟩,HI.out⟩,?_,λy hy=>?_⟩
 ·rw [hcs,υ,List.length_singleton];refine hhd.ext (λj hj=>?_);rcases (ω:j=0\/j=1\/j=2\/j=3) with rfl|rfl|rfl|rfl<;>rfl
 ·exact (hC.upd hu2 (λy hy=>by simp at hy;rw [hy];exact hnF gt l4 f.2.2.2.2)).upd hw3 (λy hy=>by simp at hy;rw [hy];exact hnF _ l0 f.1)
 ·rw [hcs];exact ((hM.trees.upd hu f.2.1 f.2.2.1).upd hu2 ζ ζ).upd hw3 ζ ζ
 ·rw [hcs];exact ((hM.ranks.upd hu f.2.2.2.1).upd hu2 ζ).upd hw3 ζ
 ·rw [υ,List.length_singleton,gW,JP.out]
 ·have u1:aa (B.blk F gt) w w1:=hu.mono (λy hy=>by simp [LB.blk,hy]);exact (u1.trans (hu2.mono (λy hy=>by simp at hy;simp [LB.blk,hy]))).trans (hw3.mono (λy hy=>by simp at hy;simp [LB.blk,hy]))
 ·simp only [LB.blk,ρ] at hy ⊢;rcases hy with rfl|rfl|rfl|rfl|rfl|hy
  ·simp
  ·simp
  ·simp
  ·simp
  ·rcases hb with h|h
   ·exact Β h
   ·exact Α (by simp [h])
  ·rcases hF y hy with h|h
   ·simp [h]
   ·exact Β h
end
theorem oq.first {A:NS} {S:TS} {ae:List Int} {tr:Nat->BT} (h:IX A S ae tr) {g:Nat} (hg:0<bO A g):∃m:Nat,(tr g).root=m/\bQ A g=some m:=by
 obtain ⟨x,hx,hi,h0⟩:=bX.1 hg;have hxm:x∈(tr g).nodes:=(h.mem g x).2 ⟨ω,hx,hi⟩;cases ht:tr g with
 | nil=>rw [ht] at hxm;cases hxm
 | node m l r=>
  have hm:=(h.mem g m).1 (by rw [ht];simp [BT.nodes]);have hH:=h.heap g;rw [ht] at hH;refine ⟨m,rfl,(eO h0).2 ⟨hm.2.1,hm.2.2,λy hy hyi=>?_⟩⟩;have hym:=(h.mem g y).2 ⟨ω,hy,hyi⟩;rw [ht] at hym;simp only [BT.nodes,ρ,τ] at hym;rcases hym with e|e|e
  ·exact Α e
  ·exact Β (hH.1 y e)
  ·exact Β (hH.2.1 y e)
section
variable {w:World} {B:LB} {F:List Nat} {gt ct:Nat} {A:NS} {st:Nat} {tr:Nat->BT}
theorem yH (h:iQ w B F gt ct A st tr) (x:Int) (hx:-9223372036854775808<=x/\x<=9223372036854775807) (hn:bO A x=0) :
  Calls Tryz.prog 233 #[.pointer (some ⟨B.n0,0,none⟩),.int .i64 x] w λe w'=>e=.returned (.tuple #[.int .i64 0,.bool false])/\w'=w:=by
 obtain ⟨S,rk,ae,hM, -, -, -⟩:=h;have k:=gZ hM.cells x hx;rw [hn] at k;have h0:=hM.h0;clear hM hn
 go_enter Tryz.func233,Tryz.ntmps233
 go_wp2_with (first|(go_at_call 126;(with_reducible refine (k).mono ?_);rintro e w9 ⟨rfl,aB⟩;rw [aB];clear aB w9))
 go_ret2;exact ⟨rfl,rfl⟩
theorem xR (h:iQ w B F gt ct A st tr) (g:Nat) (hn:0<bO A g) :
  Calls Tryz.prog 233 #[.pointer (some ⟨B.n0,0,none⟩),.int .i64 (g:Int)] w λe w'=>∃m:Nat,bQ A g=some m/\(tr g).root=m/\e=.returned (.tuple #[.int .i64 (m:Int),.bool true])/\w'=w:=by
 obtain ⟨S,rk,ae,hM,hI, -, -⟩:=h;obtain ⟨m,hm,hf⟩:=hI.first hn;obtain ⟨x,hx,hi,h0⟩:=bX.1 hn;have ok:=hM.cells.ok;have hgl:g<A.hs.length:=by have:=(ok.nat x hx).2;omega
 have KP:=ok.h1;have k:=gZ hM.cells (g:Int) ω;have hh0:=hM.h0;have h3:=hM.h3;have d:=hM.gB.cell g (by rw [hM.fG];exact hgl);rw [hI.top g hgl,hm] at d;have htl:g<ae.length:=by rw [hM.fG];exact hgl
 generalize hl:bO A (g:Int)=n at *;have hb:((n:Int) == 0)=false:=ζ;have HF:=χ (ψ hf hm);clear hM hI hm hf hx hi h0 ok hl
 go_enter Tryz.func233,Tryz.ntmps233
 go_wp2_with (first|(go_at_call 126;(with_reducible refine (k).mono ?_);rintro e w9 ⟨rfl,aB⟩;rw [aB];clear aB w9))
 go_ret2;exact ⟨m,HF.out.1,HF.out.2,rfl,rfl⟩
end
section
variable {w:World} {bt ba n:Nat} {S:TS}
theorem uT (h:aO w bt ba n S) {p:Int} {x:Nat} {l r:BT} (hT:dD S p x (.node x l r)) (hx:x<n) :
  Calls Tryz.prog 239 #[.pointer (some ⟨bt,0,none⟩),.int .i64 (x:Int)] w λe w'=>e=.returned (.tuple #[.int .i64 (tv r.root),.bool (tb r.root)])/\∃k,w'=w.drewN k:=by
 have e:cK n S (x:Int) true=r.root:=by
  unfold cK TS.kid;rw [Δ ω];simp only [if_true,π];exact hT.2.2.2.root
 have k:=jB bt ba n S (x:Int) w h;rw [e] at k;exact k
end
theorem vM (p c:Nat):∀W:World,W.cell? ⟨p,0,none⟩=some (.pointer (some ⟨c,0,none⟩))->(method 409 138 (.pointer (some ⟨p,0,none⟩)) "Has").run Tryz.prog W=.ok (123,.pointer (some ⟨c,0,none⟩)) W:=(by intro W h;unfold method;have hm:∃m,(Array.find? (λx=>x.name == "Has") Tryz.t138.methods)=some m/\m.path.toList=[⟨204,0,true⟩]/\m.func=some (123,true)/\m.path.isEmpty=false:=⟨(Array.find? (λx=>x.name == "Has") Tryz.t138.methods).get!,by kernel_rfl,by kernel_rfl,by kernel_rfl,by kernel_rfl⟩;obtain ⟨m,h1,h2,h3,h4⟩:=hm;go_simp;simp only [follow,Place.get];go_simp;(try unfold receiverAt);(try simp only [Place.get]);(try go_simp))
theorem pK (p c:Nat):∀W:World,W.cell? ⟨p,0,none⟩=some (.pointer (some ⟨c,0,none⟩))->(method 409 138 (.pointer (some ⟨p,0,none⟩)) "Entry").run Tryz.prog W=.ok (121,.pointer (some ⟨c,0,none⟩)) W:=(by intro W h;unfold method;have hm:∃m,(Array.find? (λx=>x.name == "Entry") Tryz.t138.methods)=some m/\m.path.toList=[⟨204,0,true⟩]/\m.func=some (121,true)/\m.path.isEmpty=false:=⟨(Array.find? (λx=>x.name == "Entry") Tryz.t138.methods).get!,by kernel_rfl,by kernel_rfl,by kernel_rfl,by kernel_rfl⟩;obtain ⟨m,h1,h2,h3,h4⟩:=hm;go_simp;simp only [follow,Place.get];go_simp;(try unfold receiverAt);(try simp only [Place.get]);(try go_simp))
theorem CQ (p:Nat):∀W:World,(method 409 138 (.pointer (some ⟨p,0,none⟩)) "Make").run Tryz.prog W=.ok (231,.pointer (some ⟨p,0,none⟩)) W:=λ_=>by kernel_rfl
theorem yu (p:Nat):∀W:World,(method 409 138 (.pointer (some ⟨p,0,none⟩)) "Insert").run Tryz.prog W=.ok (230,.pointer (some ⟨p,0,none⟩)) W:=λ_=>by kernel_rfl
theorem EY (p:Nat):∀W:World,(method 409 138 (.pointer (some ⟨p,0,none⟩)) "Min").run Tryz.prog W=.ok (233,.pointer (some ⟨p,0,none⟩)) W:=λ_=>by kernel_rfl
def LfQ (w:World) (p:Nat) (F:List Nat) (A:NS):Prop:=∃B F1 gt ct st tr,p=B.n0/\F=B.blk F1 gt/\iQ w B F1 gt ct A st tr
def mo:bV where
 ty:=138
 at_:=LfQ
 upd:=λh hu hS=>by
  obtain ⟨B,F1,gt,ct,st,tr,rfl,rfl,hL⟩:=h;exact ⟨B,F1,gt,ct,st,tr,rfl,rfl,hL.upd hu hS⟩
 lt:=λh=>by
  obtain ⟨B,F1,gt,ct,st,tr,rfl,rfl,S,rk,ae,hM, -⟩:=h;exact hM.lt
 ok:=λh=>by
  obtain ⟨B,F1,gt,ct,st,tr,rfl,rfl,S,rk,ae,hM, -⟩:=h;exact hM.cells.ok
 make:=λ{w p F A} h=>by
  obtain ⟨B,F1,gt,ct,st,tr,rfl,rfl,hL⟩:=h;refine aQ 231 (λ_ _=>by kernel_rfl) (CQ _) (λW hW=>?_);have jg:=hL.ah hW
  by_cases hl:65536<A.hs.length
  ·have e1:aT A=0:=by unfold aT;rw [Δ hl]
   have e2:ag A=A:=by unfold ag;rw [Δ hl]
   rw [e1,e2];refine (Ao jg hl).mono ?_;rintro e w' ⟨rfl,F',⟨F2,rfl,hA⟩,hu,hf⟩;exact ⟨rfl,_,⟨B,F2,gt,ct,st,tr,rfl,rfl,hA⟩,hu,hf⟩
  ·have e1:aT A=A.hs.length:=by unfold aT;rw [Γ hl]
   rw [e1];refine (xH jg hl).mono ?_;rintro e w' ⟨rfl,F',⟨F2,Kg,Jt,rfl,hA⟩,hu,hf⟩;exact ⟨rfl,_,⟨B,F2,Kg,Jt,st,tr,rfl,rfl,hA⟩,hu,hf⟩
 insert:=λ{w p F A} g y k s hk hB h=>by
  obtain ⟨B,F1,gt,ct,st,tr,rfl,rfl,hL⟩:=h;refine aQ 230 (λ_ _=>by kernel_rfl) (yu _) (λW hW=>?_);refine (rC (hL.ah hW) g y k s hk hB).mono ?_;rintro e w' ⟨rfl,hu,hL2⟩;exact ⟨rfl,Goes.stay ⟨B,F1,gt,ct,_,_,rfl,rfl,hL2⟩ hu⟩
 min:=λ{w p F A} y hB h=>by
  obtain ⟨B,F1,gt,ct,st,tr,rfl,rfl,hL⟩:=h;refine aQ 233 (λ_ _=>by kernel_rfl) (EY _) (λW hW=>?_);have jg:=hL.ah hW;have hok:A.Ok:=by obtain ⟨S,rk,ae,hM, -⟩:=hL;exact hM.cells.ok
  by_cases hl:bO A (y:Int)=0
  ·rw [fe.2 hl];have h4:=(aA _ _).1 hB;have h5:=hok.h1;refine (yH jg y ω hl).mono ?_;rintro e w' ⟨rfl,rfl⟩;exact ⟨rfl,Goes.stay ⟨B,F1,gt,ct,st,tr,rfl,rfl,jg⟩ (aa.refl _ _)⟩
  ·refine (xR jg y ω).mono ?_;rintro e w' ⟨m,hm, -,rfl,rfl⟩;rw [hm];exact ⟨rfl,Goes.stay ⟨B,F1,gt,ct,st,tr,rfl,rfl,jg⟩ (aa.refl _ _)⟩
 has:=λx h=>by
  obtain ⟨B,F1,gt,ct,st,tr,rfl,rfl,S,rk,ae,hM, -⟩:=h;exact cB 123 (λ_ _=>by kernel_rfl) hM.h0 (vM _ _) (λW hW=>dF (hM.ah hW).cells x)
 entry:=λ{w p F A} x h=>by
  obtain ⟨B,F1,gt,ct,st,tr,rfl,rfl,S,rk,ae,hM, -⟩:=h;refine cB 121 (λ_ _=>by kernel_rfl) hM.h0 (pK _ _) (λW hW=>?_);cases hin:dh A x with
  | false=>simpa using eQ (hM.ah hW).cells x hin
  | true=>
   obtain ⟨y,rfl⟩:=iD hin;simpa using dQ (hM.ah hW).cells y hin
theorem um (p:Nat) (w:World):Calls Tryz.prog 65 #[.pointer (some ⟨p,0,none⟩),.int .i64 0] w λe w'=>e=.returned (.tuple #[.iface 138 (.pointer (some ⟨p,0,none⟩)),.int .i64 0])/\w'=w:=by
 go_enter Tryz.func65,Tryz.ntmps65
 go_wp2;go_ret2;exact ⟨rfl,rfl⟩
theorem tu (n:Nat) (hn:n<=65536):fP mo 6 0 n:=by
 intro w;have kn:=λW=>Aj n W hn;have km:=um;have hty:mo.ty=138:=rfl;have hat:∀w' B F gt,iQ w' B F gt 1 (NS.new n) 0 (λ_=>.nil)->mo.at_ w' B.n0 (B.blk F gt) (NS.new n)/\lX w' B.n0 n:=λw' B F gt h=>⟨⟨B,F,gt,_,_,_,rfl,rfl,h⟩,by obtain ⟨S,rk,ae,hM, -⟩:=h;exact ⟨_,_,hM.h0,hM.cells⟩⟩
 generalize mo=K at *;rw [hty]
 go_enter Tryz.func35,Tryz.ntmps35
 go_wp2_with (first
  | ((go_at_call 66;(with_reducible refine (kn _).mono ?_));rintro e w1 ⟨B,F,gt,rfl,hS,hu1,hf⟩)
  | ((go_at_call 65;(with_reducible refine (km _ _).mono ?_));rintro e w2 ⟨rfl,rfl⟩)
  | fail)
 go_ret2;exact ⟨B.n0,B.blk F gt,rfl,(hat _ _ _ _ hS).1,(hat _ _ _ _ hS).2,aa.trans β hu1,λx hx=>by have:=hf x hx;simp at this;omega⟩
def iY (tr:Nat->BT) (h:Nat) (t:BT):Nat->BT:=λq=>if q=h then t else tr q
end Go.Proofs.YtnpdakpagnpanaaGreat
