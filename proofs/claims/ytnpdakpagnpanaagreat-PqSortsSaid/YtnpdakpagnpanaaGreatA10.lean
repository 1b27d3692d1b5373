/-
  Lemmas for PqSorts: Spine, Spine2, Bt, Bt2, Bt3, Bt4, Lf, Lf2, Lf3, Lf4, Lf5, Lf6, Lf7, Lf8, Lf9, Bt5, Lf13, Lf14, Lf16, LfQ, TOps. Conditions: those of each lemma.
-/
import Derived.Test.YtnpdakpagnpanaaGreatA06
set_option linter.all false
set_option maxHeartbeats 8000000
set_option maxRecDepth 10000
namespace Go.Proofs.YtnpdakpagnpanaaGreat
open Go Go.RowKit
structure TS where
 l:Nat->Int
 r:Nat->Int
 u:Nat->Int
def TS.none:TS:=⟨λ_=>-1,λ_=>-1,λ_=>-1⟩
def TS.kid (S:TS) (s:Bool) (x:Nat):Int:=if s then S.r x else S.l x
def dm (S:TS) (j:Nat):Value:=.int .i64 (if j % 3=0 then S.l (j / 3) else if j % 3=1 then S.r (j / 3) else S.u (j / 3))
theorem nI (S:TS) (x:Nat):dm S (x*3)=.int .i64 (S.l x):=by unfold dm;rw [Δ ω,show x*3 / 3=x by omega]
theorem nY (S:TS) (x:Nat):dm S (x*3+1)=.int .i64 (S.r x):=by unfold dm;rw [Γ ω,Δ ω,show (x*3+1) / 3=x by omega]
theorem rE (S:TS) (x:Nat):dm S (x*3+2)=.int .i64 (S.u x):=by unfold dm;rw [Γ ω,Γ ω,show (x*3+2) / 3=x by omega]
structure aY (w:World) (bt ba n:Nat) (S:TS):Prop where
 head:aJ w bt 238 1 (λ_=>.slice (some ⟨ba,0,none⟩) n n)
 row:aJ w ba 241 (n*3) (dm S)
 ne:bt≠ba
 le:n<=65536
theorem aY.upd {w w':World} {F:List Nat} {bt ba n:Nat} {S:TS} (h:aY w bt ba n S) (hu:aa F w w') (h1:bt∉F) (h2:ba∉F):aY w' bt ba n S:=
 ⟨h.head.upd hu h1,h.row.upd hu h2,h.ne,h.le⟩
theorem aY.drewN {w:World} {bt ba n:Nat} {S:TS} (h:aY w bt ba n S) (k:Nat):aY (w.drewN k) bt ba n S:=⟨h.head,h.row,h.ne,h.le⟩
theorem aY.drew {w:World} {bt ba n:Nat} {S:TS} (h:aY w bt ba n S):aY w.drew bt ba n S:=⟨h.head,h.row,h.ne,h.le⟩
theorem Lg:(Tryz.prog.info? 241).map (λi=>(i.zero,i.size,i.bytes))=some (some (.agg #[.int .i64 0,.int .i64 0,.int .i64 0]),3,24):=by kernel_rfl
theorem tK (n:Nat) (w:World) (h:n<=65536) :
  Calls Tryz.prog 89 #[.int .i64 (n:Int)] w λe w'=>∃bt ba,e=.returned (.tuple #[.pointer (some ⟨bt,0,none⟩),.int .i64 0])/\aY w' bt ba n TS.none/\aa [] w w'/\w.heap.size<=bt/\w.heap.size<=ba:=by
 go_enter Tryz.func89,Tryz.ntmps89
 go_wp2_with (at_make;refine wpList_make_row rfl _ 236 rfl 241 (.agg #[.int .i64 0,.int .i64 0,.int .i64 0]) 3 24 Tryz.underlying236 Lg n rfl ω μ ?_;intro w1 hr1 hu1)
 have hlt:=hr1.lt
 go_loopw [21] (λi wr=>∃ (k:Nat) (f:Nat->Value),k<=n/\i=.int .i64 k/\aJ wr w1.heap.size 238 1 (λ_=>.slice (some ⟨w.heap.size,0,none⟩) n n)/\aJ wr w.heap.size 241 (n*3) f/\(∀j,j<k*3->f j=.int .i64 (-1))/\aa [] w wr) (λi _=>n-(intOf i).toNat)
 case atStart=>exact ⟨0,_,ω,rfl,dL _ _ _ |>.ext (λj hj=>by simp at hj;subst hj;rfl),hr1.alloc _,ω,hu1.alloc _⟩
 case round=>
  obtain ⟨k,f,hk,rfl,hH,hR,hf,hu⟩:=hrel
  by_cases hkn:k<n
  ·have c0:=hH.cell 0 ω;have d0:=hR.cell (k*3) ω;have d1:=hR.cell (k*3+1) ω;have d2:=hR.cell (k*3+2) ω;have e0:=hR.free (k*3);have e1:=hR.free (k*3+1);have e2:=hR.free (k*3+2);have HF:=χ hf;clear hf;go_wp2
   go_roundw
   case rel=>
    refine ⟨k+1,_,ω,by go_num,((hH.far _ _ ζ).far _ _ ζ).far _ _ ζ,((hR.set _ _).set _ _).set _ _,λj hj=>?_,((hu.setCell (Β σ) _).setCell (Β σ) _).setCell (Β σ) _⟩
    show (if j=k*3+2 then _ else if j=k*3+1 then _ else if j=k*3 then _ else f j)=_
    split
    ·rfl
    ·split
     ·rfl
     ·split
      ·rfl
      ·exact HF.out j ω
   case measure=>simp [intOf];omega
  ·obtain rfl:k=n:=ω;go_wp2;go_ret2;exact ⟨_,_,rfl,⟨hH,hR.ext (λj hj=>by rw [hf j hj];unfold dm TS.none;simp),ω,h⟩,hu,hu1.size,Θ _⟩
theorem oP (bt ba n:Nat) (S:TS) (x:Int) (w:World) (h:aY w bt ba n S) (b:Bool) (hb:b=decide (0<=x/\x<n)) :
  Calls Tryz.prog 247 #[.pointer (some ⟨bt,0,none⟩),.int .i64 x] w λe w'=>e=.returned (.bool b)/\w'=w:=by
 have hle:=h.le;have c0:=h.head.cell 0 ω;clear h;subst hb
 by_cases h0:0<=x
 ·by_cases h1:x<n
  ·go_enter Tryz.func247,Tryz.ntmps247
   go_wp2;go_ret;exact ⟨bM (by simp [h0,h1]),rfl⟩
  ·go_enter Tryz.func247,Tryz.ntmps247
   go_wp2;go_ret;exact ⟨bM (by simp [h0,h1]),rfl⟩
 ·go_enter Tryz.func247,Tryz.ntmps247
  go_wp2;go_ret;exact ⟨bM ζ,rfl⟩
theorem qD (b:Bool) (w:World):Calls Tryz.prog 243 #[.bool b] w λe w'=>e=.returned (.int .i64 (if b then 1 else 0))/\w'=w:=by
 cases b
 all_goals
  go_enter Tryz.func243,Tryz.ntmps243
  go_wp2;go_ret;exact ⟨rfl,rfl⟩
theorem told_none (w:World):Calls Tryz.prog 246 #[.int .i64 (-1)] w λe w'=>e=.returned (.tuple #[.int .i64 0,.bool false])/\w'=w:=by
 go_enter Tryz.func246,Tryz.ntmps246
 go_wp2;go_ret2;exact ⟨rfl,rfl⟩
theorem K6 (x:Int) (w:World) (h:x≠-1):Calls Tryz.prog 246 #[.int .i64 x] w λe w'=>e=.returned (.tuple #[.int .i64 x,.bool true])/\w'=w:=by
 have h':(x == -1)=false:=by simpa using h
 go_enter Tryz.func246,Tryz.ntmps246
 go_wp2;go_ret2;exact ⟨rfl,rfl⟩
def fP (n:Nat) (S:TS) (x:Int) (r:Bool):Int:=if 0<=x/\x<n then S.kid r x.toNat else -1
def oD (n:Nat) (S:TS) (x:Int):Int:=if 0<=x/\x<n then S.u x.toNat else -1
theorem xh (bt ba n:Nat) (S:TS) (x:Int) (r:Bool) (w:World) (h:aY w bt ba n S) :
  Calls Tryz.prog 244 #[.pointer (some ⟨bt,0,none⟩),.int .i64 x,.bool r] w λe w'=>e=.returned (.int .i64 (fP n S x r))/\∃k,w'=w.drewN k:=by
 by_cases hx:0<=x/\x<n
 ·obtain ⟨k,rfl⟩:∃k:Nat,x=k:=⟨x.toNat,ω⟩;have hk:k<n:=ω;have e:fP n S k r=S.kid r k:=by unfold fP;rw [Δ hx];simp
  have hle:=h.le;have c0:=h.head.cell 0 ω;have d0:=h.row.cellAt (k*3) ω (nI S k);have d1:=h.row.cellAt (k*3+1) ω (nY S k);rw [e];clear e;cases r
  all_goals
   unfold TS.kid;simp only [if_true,if_false,ϟ]
   go_enter Tryz.func244,Tryz.ntmps244
   go_wp2_with (go_at_call 247;refine (oP bt ba n S k _ h true (by simp [hk])).mono ?_;rintro e w' ⟨rfl,rfl⟩)
   go_quiet ((go_at_call 243;exact Calls.quiet_of_same (qD _ _)))
   go_wp2;go_ret;exact ⟨rfl,_,rfl⟩
 ·have e:fP n S x r=-1:=by unfold fP;rw [Γ hx]
  rw [e];clear e
  go_enter Tryz.func244,Tryz.ntmps244
  go_wp2_with (go_at_call 247;refine (oP bt ba n S x _ h false (by simp [hx])).mono ?_;rintro e w' ⟨rfl,rfl⟩)
  go_ret;exact ⟨rfl,0,rfl⟩
theorem qU (bt ba n:Nat) (S:TS) (x:Int) (w:World) (h:aY w bt ba n S) :
  Calls Tryz.prog 242 #[.pointer (some ⟨bt,0,none⟩),.int .i64 x] w λe w'=>e=.returned (.int .i64 (oD n S x))/\w'=w:=by
 by_cases hx:0<=x/\x<n
 ·obtain ⟨k,rfl⟩:∃k:Nat,x=k:=⟨x.toNat,ω⟩;have hk:k<n:=ω;have e:oD n S k=S.u k:=by unfold oD;rw [Δ hx];simp
  have hle:=h.le;have c0:=h.head.cell 0 ω;have d0:=h.row.cellAt (k*3+2) ω (rE S k);rw [e];clear e
  go_enter Tryz.func242,Tryz.ntmps242
  go_wp2_with (go_at_call 247;refine (oP bt ba n S k _ h true (by simp [hk])).mono ?_;rintro e w' ⟨rfl,rfl⟩)
  go_ret;exact ⟨rfl,rfl⟩
 ·have e:oD n S x=-1:=by unfold oD;rw [Γ hx]
  rw [e];clear e
  go_enter Tryz.func242,Tryz.ntmps242
  go_wp2_with (go_at_call 247;refine (oP bt ba n S x _ h false (by simp [hx])).mono ?_;rintro e w' ⟨rfl,rfl⟩)
  go_ret;exact ⟨rfl,rfl⟩
def tv (x:Int):Int:=if x=-1 then 0 else x
def tb (x:Int):Bool:=decide (x≠-1)
theorem yo (x:Int) (w:World):Calls Tryz.prog 246 #[.int .i64 x] w λe w'=>e=.returned (.tuple #[.int .i64 (tv x),.bool (tb x)])/\w'=w:=by
 by_cases h:x=-1
 ·subst h;exact told_none w
 ·have e1:tv x=x:=by unfold tv;rw [Γ h]
  have e2:tb x=true:=by unfold tb;simp [h]
  rw [e1,e2];exact K6 x w h
theorem yF (bt ba n:Nat) (S:TS) (x:Int) (w:World) (h:aY w bt ba n S) :
  Calls Tryz.prog 238 #[.pointer (some ⟨bt,0,none⟩),.int .i64 x] w λe w'=>e=.returned (.tuple #[.int .i64 (tv (fP n S x false)),.bool (tb (fP n S x false))])/\∃k,w'=w.drewN k:=by
 generalize hy:fP n S x false=y;have c1:=xh bt ba n S x false w h;rw [hy] at c1;have c2:=λW=>yo y W
 go_enter Tryz.func238,Tryz.ntmps238
 go_wp2_with (first|(go_at_call 244;refine c1.mono ?_;rintro e w' ⟨rfl,k,rfl⟩)|(go_at_call 246;refine (c2 _).mono ?_;rintro e w' ⟨rfl,rfl⟩))
 go_ret2;exact ⟨rfl,_,rfl⟩
theorem nZ (bt ba n:Nat) (S:TS) (x:Int) (w:World) (h:aY w bt ba n S) :
  Calls Tryz.prog 239 #[.pointer (some ⟨bt,0,none⟩),.int .i64 x] w λe w'=>e=.returned (.tuple #[.int .i64 (tv (fP n S x true)),.bool (tb (fP n S x true))])/\∃k,w'=w.drewN k:=by
 generalize hy:fP n S x true=y;have c1:=xh bt ba n S x true w h;rw [hy] at c1;have c2:=λW=>yo y W
 go_enter Tryz.func239,Tryz.ntmps239
 go_wp2_with (first|(go_at_call 244;refine c1.mono ?_;rintro e w' ⟨rfl,k,rfl⟩)|(go_at_call 246;refine (c2 _).mono ?_;rintro e w' ⟨rfl,rfl⟩))
 go_ret2;exact ⟨rfl,_,rfl⟩
theorem NH (bt ba n:Nat) (S:TS) (x:Int) (w:World) (h:aY w bt ba n S) :
  Calls Tryz.prog 240 #[.pointer (some ⟨bt,0,none⟩),.int .i64 x] w λe w'=>e=.returned (.tuple #[.int .i64 (tv (oD n S x)),.bool (tb (oD n S x))])/\∃k,w'=w.drewN k:=by
 generalize hy:oD n S x=y;have c1:=qU bt ba n S x w h;rw [hy] at c1;have c2:=λW=>yo y W
 go_enter Tryz.func240,Tryz.ntmps240
 go_wp2_with (first|(go_at_call 242;refine c1.mono ?_;rintro e w' ⟨rfl,rfl⟩)|(go_at_call 246;refine (c2 _).mono ?_;rintro e w' ⟨rfl,rfl⟩))
 go_ret2;exact ⟨rfl,0,rfl⟩
def TS.aD (S:TS) (p:Nat) (s:Bool) (v:Int):TS:=if s then ⟨S.l,λi=>if i=p then v else S.r i,S.u⟩ else ⟨λi=>if i=p then v else S.l i,S.r,S.u⟩
def TS.bN (S:TS) (p:Nat) (v:Int):TS:=⟨S.l,S.r,λi=>if i=p then v else S.u i⟩
theorem aY.aD {w:World} {bt ba n:Nat} {S:TS} (h:aY w bt ba n S) (p:Nat) (s:Bool) (v:Int) :
  aY (w.setCell ⟨ba,p*3+(if s then 1 else 0),none⟩ (.int .i64 v)) bt ba n (S.aD p s v):=by
 refine ⟨h.head.far _ _ h.ne,(h.row.set _ _).ext (λj hj=>?_),h.ne,h.le⟩;cases s
 ·unfold dm TS.aD
  by_cases hj2:j=p*3
  ·subst hj2;simp
  ·have:¬ (j % 3=0/\j / 3=p):=ω
   by_cases h0:j % 3=0
   ·simp [hj2,h0];intro hh;exfalso;omega
   ·simp [hj2,h0]
 ·unfold dm TS.aD
  by_cases hj2:j=p*3+1
  ·subst hj2;simp;intro hh;exfalso;omega
  ·by_cases h0:j % 3=1
   ·simp [hj2,h0];intro hh;exfalso;omega
   ·simp [hj2,h0]
theorem aY.bN {w:World} {bt ba n:Nat} {S:TS} (h:aY w bt ba n S) (p:Nat) (v:Int) :
  aY (w.setCell ⟨ba,p*3+2,none⟩ (.int .i64 v)) bt ba n (S.bN p v):=by
 refine ⟨h.head.far _ _ h.ne,(h.row.set _ _).ext (λj hj=>?_),h.ne,h.le⟩;unfold dm TS.bN
 by_cases hj2:j=p*3+2
 ·subst hj2;simp;intro hh;exfalso;omega
 ·by_cases h0:j % 3=0
  ·simp [hj2,h0]
  ·by_cases h1:j % 3=1
   ·simp [hj2,h1]
   ·simp [hj2,h0,h1];intro hh;exfalso;omega
def jC (S:TS) (p x:Int) (r:Bool):TS:=(S.aD p.toNat r x).bN x.toNat p
theorem yl (bt ba n:Nat) (S:TS) (i j:Nat) (r:Bool) (w:World) (h:aY w bt ba n S) (hi:i<n) (hj:j<n) (hne:i≠j) (hu:S.u j=-1) (hk:S.kid r i=-1) :
  Calls Tryz.prog 241 #[.pointer (some ⟨bt,0,none⟩),.int .i64 (i:Int),.int .i64 (j:Int),.bool r] w λe w'=>e=.returned (.bool true)/\aY w' bt ba n (jC S i j r)/\aa [ba] w w':=by
 have hle:=h.le;have hbne:=h.ne;have hbne':ba≠bt:=λe=>h.ne e.symm;have c0:=h.head.cell 0 ω;have d0:=h.row.cellAt (i*3) ω (nI S i);have d1:=h.row.cellAt (i*3+1) ω (nY S i);have d2:=h.row.cellAt (j*3+2) ω (rE S j);have e0:=h.row.free (i*3);have e1:=h.row.free (i*3+1);have e2:=h.row.free (j*3+2);have k1:=oP bt ba n S i w h true (by simp [hi]);have k2:=oP bt ba n S j w h true (by simp [hj]);have k3:=qU bt ba n S j w h;rw [show oD n S j=-1 by unfold oD;rw [Δ ω];simpa using hu] at k3;have k4:=xh bt ba n S i r w h;rw [show fP n S i r=-1 by unfold fP;rw [Δ ω];simpa using hk] at k4
 have hij:((i:Int) == (j:Int))=false:=ζ;have H:=χ h;clear h hu hk;cases r
 ·go_enter Tryz.func241,Tryz.ntmps241
  go_wp2_with (first
   | (go_at_call 247;(with_reducible refine (k1).mono ?_);rintro e w' ⟨rfl,rfl⟩)
   | (go_at_call 247;(with_reducible refine (k2).mono ?_);rintro e w' ⟨rfl,rfl⟩)
   | (go_at_call 242;(with_reducible refine (k3).mono ?_);rintro e w' ⟨rfl,rfl⟩)
   | (go_at_call 244;(with_reducible refine (k4).mono ?_);rintro e w' ⟨rfl,kd,rfl⟩))
  go_region_held3 (λW=>W.cell? ⟨bt,0,none⟩=some (.slice (some ⟨ba,0,none⟩) n n)) (go_keep) ((go_at_call 243;refine (qD _ _).mono ?_;rintro e w' ⟨rfl,rfl⟩))
  go_wp2;go_ret;exact ⟨rfl,((H.out.drewN _).aD i false j).bN j i,(((aa.refl _ _).drewN _).setCell (Α σ) _).setCell (Α σ) _⟩
 ·go_enter Tryz.func241,Tryz.ntmps241
  go_wp2_with (first
   | (go_at_call 247;(with_reducible refine (k1).mono ?_);rintro e w' ⟨rfl,rfl⟩)
   | (go_at_call 247;(with_reducible refine (k2).mono ?_);rintro e w' ⟨rfl,rfl⟩)
   | (go_at_call 242;(with_reducible refine (k3).mono ?_);rintro e w' ⟨rfl,rfl⟩)
   | (go_at_call 244;(with_reducible refine (k4).mono ?_);rintro e w' ⟨rfl,kd,rfl⟩))
  go_region_held3 (λW=>W.cell? ⟨bt,0,none⟩=some (.slice (some ⟨ba,0,none⟩) n n)) (go_keep) ((go_at_call 243;refine (qD _ _).mono ?_;rintro e w' ⟨rfl,rfl⟩))
  go_wp2;go_ret;exact ⟨rfl,((H.out.drewN _).aD i true j).bN j i,(((aa.refl _ _).drewN _).setCell (Α σ) _).setCell (Α σ) _⟩
theorem Nh (bt ba n:Nat) (S:TS) (x:Int) (w:World) (h:aY w bt ba n S) (hu:oD n S x=-1) :
  Calls Tryz.prog 234 #[.pointer (some ⟨bt,0,none⟩),.int .i64 x] w λe w'=>e=.returned (.tuple #[.int .i64 0,.bool false])/\w'=w:=by
 have k3:=qU bt ba n S x w h;rw [hu] at k3;clear h hu
 go_enter Tryz.func234,Tryz.ntmps234
 go_wp2_with ((go_at_call 242;(with_reducible refine (k3).mono ?_);rintro e w' ⟨rfl,rfl⟩))
 go_ret2;exact ⟨rfl,rfl⟩
def kW (S:TS) (i j:Nat):TS:=(S.aD i (decide (S.r i=j)) (-1)).bN j (-1)
theorem Bc (bt ba n:Nat) (S:TS) (i j:Nat) (w:World) (h:aY w bt ba n S) (hi:i<n) (hj:j<n) (hu:S.u j=i) :
  Calls Tryz.prog 234 #[.pointer (some ⟨bt,0,none⟩),.int .i64 (j:Int)] w λe w'=>e=.returned (.tuple #[.int .i64 (i:Int),.bool true])/\aY w' bt ba n (kW S i j)/\aa [ba] w w':=by
 have hle:=h.le;have hbne:ba≠bt:=λe=>h.ne e.symm;have c0:=h.head.cell 0 ω;have d0:=h.row.cellAt (i*3) ω (nI S i);have d1:=h.row.cellAt (i*3+1) ω (nY S i);have d2:=h.row.cellAt (j*3+2) ω (rE S j);have e0:=h.row.free (i*3);have e1:=h.row.free (i*3+1);have e2:=h.row.free (j*3+2);have k3:=qU bt ba n S j w h;rw [show oD n S j=i by unfold oD;rw [Δ ω];simpa using hu] at k3;have k4:=λW (hW:aY W bt ba n S)=>xh bt ba n S i true W hW;rw [show fP n S i true=S.r i by unfold fP TS.kid;rw [Δ ω];simp] at k4;have H:=χ h;have hi1:((i:Int) == -1)=false:=σ;clear h
 by_cases hr:S.r i=j
 ·have hb:(S.r i == (j:Int))=true:=by simpa using hr
  have ec:kW S i j=(S.aD i true (-1)).bN j (-1):=by unfold kW;rw [Ν hr]
  have EC:=χ ec;clear hr ec hu
  go_enter Tryz.func234,Tryz.ntmps234
  go_wp2_with ((go_at_call 242;(with_reducible refine (k3).mono ?_);rintro e w' ⟨rfl,rfl⟩))
  go_region_held3 (λW=>W.cell? ⟨bt,0,none⟩=some (.slice (some ⟨ba,0,none⟩) n n)) (go_keep)
   (first|((go_at_call 243;refine (qD _ _).mono ?_;rintro e w' ⟨rfl,rfl⟩))|((go_at_call 244;refine (k4 _ (H.out.drew)).mono ?_;rintro e w' ⟨rfl,kd,rfl⟩)))
  go_wp2;go_ret2;exact ⟨rfl,by rw [EC.out];exact ((H.out.drewN _).aD i true (-1)).bN j (-1),(((aa.refl _ _).drewN _).setCell (Α σ) _).setCell (Α σ) _⟩
 ·have hb:(S.r i == (j:Int))=false:=by simpa using hr
  have ec:kW S i j=(S.aD i false (-1)).bN j (-1):=by unfold kW;rw [Ξ hr]
  have EC:=χ ec;clear hr ec hu
  go_enter Tryz.func234,Tryz.ntmps234
  go_wp2_with ((go_at_call 242;(with_reducible refine (k3).mono ?_);rintro e w' ⟨rfl,rfl⟩))
  go_region_held3 (λW=>W.cell? ⟨bt,0,none⟩=some (.slice (some ⟨ba,0,none⟩) n n)) (go_keep)
   (first|((go_at_call 243;refine (qD _ _).mono ?_;rintro e w' ⟨rfl,rfl⟩))|((go_at_call 244;refine (k4 _ (H.out.drew)).mono ?_;rintro e w' ⟨rfl,kd,rfl⟩)))
  go_wp2;go_ret2;exact ⟨rfl,by rw [EC.out];exact ((H.out.drewN _).aD i false (-1)).bN j (-1),(((aa.refl _ _).drewN _).setCell (Α σ) _).setCell (Α σ) _⟩
def iG (S:TS) (i:Nat):TS:=(S.aD i false (S.r i)).aD i true (S.l i)
theorem xB (bt ba n:Nat) (S:TS) (i:Nat) (w:World) (h:aY w bt ba n S) (hi:i<n) :
  Calls Tryz.prog 249 #[.pointer (some ⟨bt,0,none⟩),.int .i64 (i:Int)] w λe w'=>e=.returned (.bool true)/\aY w' bt ba n (iG S i)/\aa [ba] w w':=by
 have hle:=h.le;have c0:=h.head.cell 0 ω;have d0:=h.row.cellAt (i*3) ω (nI S i);have d1:=h.row.cellAt (i*3+1) ω (nY S i);have e0:=h.row.free (i*3);have e1:=h.row.free (i*3+1);have k1:=oP bt ba n S i w h true (by simp [hi]);have H:=χ h;clear h
 go_enter Tryz.func249,Tryz.ntmps249
 go_wp2_with ((go_at_call 247;(with_reducible refine (k1).mono ?_);rintro e w' ⟨rfl,rfl⟩))
 go_region
 go_wp2;go_ret;exact ⟨rfl,((H.out.aD i false (S.r i)).aD i true (S.l i)).drew,(((aa.refl _ _).setCell (Α σ) _).setCell (Α σ) _).drew⟩
end Go.Proofs.YtnpdakpagnpanaaGreat
namespace Go.Proofs.YtnpdakpagnpanaaGreat
inductive BT where
 | nil:BT
 | node:Nat->BT->BT->BT
def BT.root:BT->Int | .nil=>-1 | .node x _ _=>x
def BT.nodes:BT->List Nat | .nil=>[] | .node x l r=>x::(l.nodes++r.nodes)
def BT.size:BT->Nat | .nil=>0 | .node _ l r=>l.size+r.size+1
theorem BT.jR:∀t:BT,t.nodes.length=t.size
 | .nil=>rfl
 | .node x l r=>by simp [BT.nodes,BT.size,BT.jR l,BT.jR r]
def bY (S:TS):Int->Int->BT->Prop
 | _,z,.nil=>z=-1
 | p,z,.node x l r=>z=x/\S.u x=p/\bY S x (S.l x) l/\bY S x (S.r x) r
theorem bY.root {S:TS}:∀ {t:BT} {p z:Int},bY S p z t->z=t.root
 | .nil,_,_,h=>h
 | .node _ _ _,_,_,h=>h.1
def TS.at (S S':TS) (x:Nat):Prop:=S'.l x=S.l x/\S'.r x=S.r x/\S'.u x=S.u x
theorem bY.frame {S S':TS}:∀ {t:BT} {p z:Int},bY S p z t->(∀x,x∈t.nodes->S.at S' x)->bY S' p z t
 | .nil,_,_,h,_=>h
 | .node x l r,p,z,h,hs=>by
  have hx:=hs x (by simp [BT.nodes]);refine ⟨h.1,by rw [hx.2.2];exact h.2.1,?_,?_⟩
  ·rw [hx.1];exact bY.frame h.2.2.1 (λy hy=>hs y (by simp [BT.nodes,hy]))
  ·rw [hx.2.1];exact bY.frame h.2.2.2 (λy hy=>hs y (by simp [BT.nodes,hy]))
theorem bY.J2 {S S':TS} {t:BT} {p p' z:Int} (h:bY S p z t) (hn:t.nodes.Nodup) (hs:∀x,x∈t.nodes->S'.l x=S.l x/\S'.r x=S.r x/\(x≠t.root.toNat->S'.u x=S.u x)) (hr:t≠.nil->S'.u t.root.toNat=p'):bY S' p' z t:=by
 cases t with
 | nil=>exact h
 | node x l r=>
  have hx:=hs x (by simp [BT.nodes]);simp only [BT.nodes,Ζ,τ,not_or] at hn;refine ⟨h.1,?_,?_,?_⟩
  ·have:=hr σ;simpa [BT.root] using this
  ·rw [hx.1];refine h.2.2.1.frame (λy hy=>?_);have hy':=hs y (by simp [BT.nodes,hy]);exact ⟨hy'.1,hy'.2.1,hy'.2.2 (λe=>by simp [BT.root] at e;rw [e] at hy;exact hn.1.1 hy)⟩
  ·rw [hx.2.1];refine h.2.2.2.frame (λy hy=>?_);have hy':=hs y (by simp [BT.nodes,hy]);exact ⟨hy'.1,hy'.2.1,hy'.2.2 (λe=>by simp [BT.root] at e;rw [e] at hy;exact hn.1.2 hy)⟩
theorem bL {t:BT} (h:t≠.nil):t.root.toNat∈t.nodes/\t.root=(t.root.toNat:Int):=by
 cases t with
 | nil=>exact absurd rfl h
 | node x l r=>simp [BT.root,BT.nodes]
/-! ### ranks; what a merge gives -/
def BT.rank:BT->Nat | .nil=>0 | .node _ _ r=>r.rank+1
def aj (x:Nat) (l r:BT):BT:=if l.rank<r.rank then .node x r l else .node x l r
def fE (rk:Nat->Nat):BT->Prop
 | .nil=>True
 | .node x l r=>rk x=r.rank+1/\fE rk l/\fE rk r
theorem fE.frame {rk nz:Nat->Nat}:∀ {t:BT},fE rk t->(∀x,x∈t.nodes->nz x=rk x)->fE nz t
 | .nil,_,_=>trivial
 | .node x l r,h,hs=>⟨by rw [hs x (by simp [BT.nodes])];exact h.1,h.2.1.frame (λy hy=>hs y (by simp [BT.nodes,hy])),h.2.2.frame (λy hy=>hs y (by simp [BT.nodes,hy]))⟩
theorem fE.root {rk:Nat->Nat} {t:BT} (h:fE rk t) (ht:t≠.nil):rk t.root.toNat=t.rank:=by
 cases t with
 | nil=>exact absurd rfl ht
 | node x l r=>simpa [BT.root,BT.rank] using h.1
def Lean:BT->Prop
 | .nil=>True
 | .node _ l r=>r.rank<=l.rank/\Lean l/\Lean r
theorem jk {x:Nat} {l r:BT} (hl:Lean l) (hr:Lean r):Lean (aj x l r):=by
 unfold aj;split
 ·exact ⟨ω,hr,hl⟩
 ·exact ⟨ω,hl,hr⟩
def Heap (A:NS):BT->Prop
 | .nil=>True
 | .node x l r=>(∀y,y∈l.nodes->dO A x y)/\(∀y,y∈r.nodes->dO A x y)/\Heap A l/\Heap A r
theorem jE (x:Nat) (l r:BT):(aj x l r).nodes.Perm (x::(l.nodes++r.nodes)):=by
 unfold aj;split
 ·simp only [BT.nodes];exact List.Perm.cons x Φ
 ·exact ό _
theorem pY {A:NS} {x:Nat} {l r:BT} (h1:∀y,y∈l.nodes->dO A x y) (h2:∀y,y∈r.nodes->dO A x y) (hl:Heap A l) (hr:Heap A r):Heap A (aj x l r):=by
 unfold aj;split
 ·exact ⟨h2,h1,hr,hl⟩
 ·exact ⟨h1,h2,hl,hr⟩
theorem iK (x:Nat) (l r:BT):(aj x l r).root=x:=by unfold aj;split<;>rfl
def aC (up:Nat->BT->BT->BT) (A:NS):BT->BT->BT×Nat
 | .nil,t=>(t,0)
 | .node x l r,.nil=>(.node x l r,0)
 | .node x l r,.node y l' r'=>
  if dO A y x then (up y l' (aC up A r' (.node x l r)).1,(aC up A r' (.node x l r)).2+1)
  else (up x l (aC up A r (.node y l' r')).1,(aC up A r (.node y l' r')).2+1)
termination_by a b=>a.size+b.size
decreasing_by
 all_goals simp only [BT.size]
 all_goals omega
theorem jU (up:Nat->BT->BT->BT) (A:NS) (t:BT):aC up A .nil t=(t,0):=by rw [aC]
theorem mO (up:Nat->BT->BT->BT) (A:NS) (t:BT):aC up A t .nil=(t,0):=by cases t<;>rw [aC]
theorem mM (up:Nat->BT->BT->BT) (A:NS) (x y:Nat) (l r l' r':BT):aC up A (.node x l r) (.node y l' r')=
  if dO A y x then (up y l' (aC up A r' (.node x l r)).1,(aC up A r' (.node x l r)).2+1)
  else (up x l (aC up A r (.node y l' r')).1,(aC up A r (.node y l' r')).2+1):=by rw [aC]
structure OI (up:Nat->BT->BT->BT):Prop where
 nodes:∀x l r,(up x l r).nodes.Perm (x::(l.nodes++r.nodes))
 heap:∀A x l r,(∀y,y∈l.nodes->dO A x y)->(∀y,y∈r.nodes->dO A x y)->Heap A l->Heap A r->Heap A (up x l r)
 root:∀x l r,(up x l r).root=x
theorem lL:OI aj:=⟨jE,λ_ _ _ _=>pY,iK⟩
theorem mF {up:Nat->BT->BT->BT} (U:OI up) (A:NS) (k:Nat):∀ (a b:BT),a.size+b.size<=k->
  (aC up A a b).1.nodes.Perm (a.nodes++b.nodes)/\(Heap A a->Heap A b->(a.nodes++b.nodes).Nodup->Heap A (aC up A a b).1):=by
 induction k with
 | zero=>
  intro a b hk;cases a with
  | nil=>rw [jU];exact ⟨by simp [BT.nodes],λ_ h _=>h⟩
  | node x l r=>simp only [BT.size] at hk;omega
 | succ k ih=>
  intro a b hk;cases a with
  | nil=>rw [jU];exact ⟨by simp [BT.nodes],λ_ h _=>h⟩
  | node x l r=>
   cases b with
   | nil=>rw [mO];exact ⟨by simp [BT.nodes],λh _ _=>h⟩
   | node y l' r'=>
    rw [mM];simp only [BT.size] at hk
    by_cases h:dO A y x
    ·rw [Δ h];obtain ⟨i1,i2⟩:=ih r' (.node x l r) (by simp only [BT.size];omega);have i3:=U.nodes y l' (aC up A r' (.node x l r)).1;have i4:(y::(l'.nodes++(aC up A r' (.node x l r)).1.nodes)).Perm ((BT.node x l r).nodes++(BT.node y l' r').nodes):=by
      refine ϝ (List.Perm.cons y (List.Perm.append_left _ i1)) ?_;rw [←ϋ]
      show (y::(l'.nodes++r'.nodes++(BT.node x l r).nodes)).Perm ((BT.node x l r).nodes++(y::(l'.nodes++r'.nodes)))
      exact (Φ (l₁:=y::(l'.nodes++r'.nodes)))
     refine ⟨i3.trans i4,λha hb hn=>?_⟩;have hn2:(r'.nodes++(BT.node x l r).nodes).Nodup:=by
      rw [θ] at hn ⊢;simp only [BT.nodes,Ζ,θ] at hn;refine ⟨hn.2.1.2.2.1,by simp only [BT.nodes,Ζ,θ];exact hn.1,λp hp q hq e=>hn.2.2 q hq p (by simp [hp]) e.symm⟩
     refine U.heap A y l' _ hb.1 (λz hz=>?_) hb.2.2.1 (i2 hb.2.2.2 ha hn2);rcases τ.1 (i1.mem_iff.1 hz) with hz|hz
     ·exact hb.2.1 z hz
     ·simp only [BT.nodes,ρ,τ] at hz;rcases hz with rfl|hz|hz
      ·exact h
      ·exact dw h (ha.1 z hz)
      ·exact dw h (ha.2.1 z hz)
    ·rw [Γ h];obtain ⟨i1,i2⟩:=ih r (.node y l' r') (by simp only [BT.size];omega);have i3:=U.nodes x l (aC up A r (.node y l' r')).1;have i4:(x::(l.nodes++(aC up A r (.node y l' r')).1.nodes)).Perm ((BT.node x l r).nodes++(BT.node y l' r').nodes):=by
      refine ϝ (List.Perm.cons x (List.Perm.append_left _ i1)) ?_;rw [←ϋ];exact ό _
     refine ⟨i3.trans i4,λha hb hn=>?_⟩;have hn1:=hn;rw [θ] at hn;have hxy:x≠y:=hn.2.2 x (by simp [BT.nodes]) y (by simp [BT.nodes]);have hlt:dO A x y:=by
      rcases jS (A:=A) hxy with h'|h'
      ·exact h'
      ·exact absurd h' h
     have hn2:(r.nodes++(BT.node y l' r').nodes).Nodup:=by
      rw [θ];simp only [BT.nodes,Ζ,θ] at hn;refine ⟨hn.1.2.2.1,by simp only [BT.nodes,Ζ,θ];exact hn.2.1,λp hp q hq e=>hn.2.2 p (by simp [hp]) q hq e⟩
     refine U.heap A x l _ ha.1 (λz hz=>?_) ha.2.2.1 (i2 ha.2.2.2 hb hn2);rcases τ.1 (i1.mem_iff.1 hz) with hz|hz
     ·exact ha.2.1 z hz
     ·simp only [BT.nodes,ρ,τ] at hz;rcases hz with rfl|hz|hz
      ·exact hlt
      ·exact dw hlt (hb.1 z hz)
      ·exact dw hlt (hb.2.1 z hz)
theorem sM (A:NS) (k:Nat):∀ (a b:BT),a.size+b.size<=k->Lean a->Lean b->Lean (aC aj A a b).1:=by
 induction k with
 | zero=>
  intro a b hk ha hb;cases a with
  | nil=>rw [jU];exact hb
  | node x l r=>simp only [BT.size] at hk;omega
 | succ k ih=>
  intro a b hk ha hb;cases a with
  | nil=>rw [jU];exact hb
  | node x l r=>
   cases b with
   | nil=>rw [mO];exact ha
   | node y l' r'=>
    rw [mM];simp only [BT.size] at hk
    split
    ·exact jk hb.2.1 (ih r' (.node x l r) (by simp only [BT.size];omega) hb.2.2 ha)
    ·exact jk ha.2.1 (ih r (.node y l' r') (by simp only [BT.size];omega) ha.2.2 hb)
def rX (up:Nat->BT->BT->BT):List (Nat×BT)->BT->BT
 | [],m=>m
 | (x,l)::t,m=>up x l (rX up t m)
theorem yh (up:Nat->BT->BT->BT) (W:List (Nat×BT)) (x:Nat) (l m:BT):rX up (W++[(x,l)]) m=rX up W (up x l m):=by
 induction W with
 | nil=>rfl
 | cons p t ih=>obtain ⟨y,k⟩:=p;simp only [List.cons_append,rX,ih]
def rO (W:List (Nat×BT)):List Nat:=W.flatMap λp=>p.1::p.2.nodes
abbrev Fr:=Nat×Bool×BT
def bu (f:Fr) (t:BT):BT:=if f.2.1 then .node f.1 f.2.2 t else .node f.1 t f.2.2
def ak:List Fr->BT->BT
 | [],t=>t
 | f::P,t=>ak P (bu f t)
def zK:List Fr->Int|[]=>-1|f::_=>f.1
def dC:List Fr->List Nat|[]=>[]|f::P=>f.1::(f.2.2.nodes++dC P)
def Ph (S:TS):List Fr->Int->Prop
 | [],_=>True
 | f::P,z=>S.kid f.2.1 f.1=z/\bY S f.1 (S.kid (!f.2.1) f.1) f.2.2/\S.u f.1=zK P/\Ph S P f.1
theorem mE (f:Fr) (t:BT):(bu f t).root=f.1:=by unfold bu;split<;>rfl
theorem Nl (f:Fr) (t:BT):bu f t≠.nil:=by unfold bu;split<;>simp
theorem iL (f:Fr) (t:BT):(bu f t).nodes.Perm (f.1::(t.nodes++f.2.2.nodes)):=by
 unfold bu;split
 ·simp only [BT.nodes];exact List.Perm.cons _ Φ
 ·exact ό _
theorem aX:∀ (P:List Fr) (t:BT),(ak P t).nodes.Perm (t.nodes++dC P)
 | [],t=>by simp [ak,dC]
 | f::P,t=>by
  refine (aX P (bu f t)).trans ?_;refine ((iL f t).append_right (dC P)).trans ?_;simp only [dC,List.cons_append,ϋ];exact (Ϟ (a:=f.1) (l₁:=t.nodes) (l₂:=f.2.2.nodes++dC P)).symm
theorem xY:∀ (P:List Fr) (t t':BT),t.root=t'.root->(ak P t).root=(ak P t').root
 | [],t,t',h=>h
 | f::P,t,t',h=>xY P _ _ (by rw [mE,mE])
theorem oU (f:Fr) (P:List Fr) (t t':BT):(ak (f::P) t).root=(ak (f::P) t').root:=xY P _ _ (by rw [mE,mE])
theorem qd:∀ (P Q:List Fr) (t:BT),ak (P++Q) t=ak Q (ak P t)
 | [],_,_=>rfl
 | f::P,Q,t=>qd P Q (bu f t)
theorem vY:∀ {t:BT} {x:Nat},x∈t.nodes->∃P l r,t=ak P (.node x l r)
 | .nil,_,h=>by cases h
 | .node y a b,x,h=>by
  simp only [BT.nodes,ρ,τ] at h;rcases h with rfl|h|h
  ·exact ⟨[],a,b,rfl⟩
  ·obtain ⟨P,l,r,e⟩:=vY h;exact ⟨P++[(y,false,b)],l,r,by rw [qd,←e];rfl⟩
  ·obtain ⟨P,l,r,e⟩:=vY h;exact ⟨P++[(y,true,a)],l,r,by rw [qd,←e];rfl⟩
theorem JR {S:TS} {p:Int} (f:Fr) (t:BT):bY S p f.1 (bu f t)↔bY S f.1 t.root t/\S.kid f.2.1 f.1=t.root/\bY S f.1 (S.kid (!f.2.1) f.1) f.2.2/\S.u f.1=p:=by
 obtain ⟨x,s,o⟩:=f;cases s
 ·simp only [bu,ϟ,if_false,bY,TS.kid,Bool.not_false,if_true];constructor
  ·rintro ⟨_,h2,h3,h4⟩;have e:=h3.root;exact ⟨by rw [←e];exact h3,e,h4,h2⟩
  ·rintro ⟨h1,h2,h3,h4⟩;exact ⟨trivial,h4,by rw [h2];exact h1,h3⟩
 ·simp only [bu,if_true,bY,TS.kid,Bool.not_true,ϟ,if_false];constructor
  ·rintro ⟨_,h2,h3,h4⟩;have e:=h4.root;exact ⟨by rw [←e];exact h4,e,h3,h2⟩
  ·rintro ⟨h1,h2,h3,h4⟩;exact ⟨trivial,h4,h3,by rw [h2];exact h1⟩
theorem dE {S:TS}:∀ (P:List Fr) (t:BT),bY S (-1) (ak P t).root (ak P t)↔bY S (zK P) t.root t/\Ph S P t.root
 | [],t=>by simp [ak,zK,Ph]
 | f::P,t=>by
  have h:=dE (S:=S) P (bu f t);rw [mE] at h
  show bY S (-1) (ak P (bu f t)).root (ak P (bu f t))↔_
  rw [h,JR];simp only [zK,Ph];constructor
  ·rintro ⟨⟨h1,h2,h3,h4⟩,h5⟩;exact ⟨h1,h2,h3,h4,h5⟩
  ·rintro ⟨h1,h2,h3,h4,h5⟩;exact ⟨⟨h1,h2,h3,h4⟩,h5⟩
theorem Ph.frame {S S':TS}:∀ {P:List Fr} {z:Int},Ph S P z->(∀y,y∈dC P->S.at S' y)->Ph S' P z
 | [],_,_,_=>trivial
 | f::P,z,h,hs=>by
  obtain ⟨h1,h2,h3,h4⟩:=h;have hf:=hs f.1 (by simp [dC]);have hk:∀s,S'.kid s f.1=S.kid s f.1:=λs=>by unfold TS.kid;rw [hf.1,hf.2.1]
  exact ⟨by rw [hk];exact h1,by rw [hk];exact h2.frame (λy hy=>hs y (by simp [dC,hy])),by rw [hf.2.2];exact h3,h4.frame (λy hy=>hs y (by simp [dC,hy]))⟩
theorem Ph.other {S S':TS} {f:Fr} {P:List Fr} {z z':Int} (h:Ph S (f::P) z) (hn:(dC (f::P)).Nodup) (h1:S'.kid f.2.1 f.1=z') (h2:S'.kid (!f.2.1) f.1=S.kid (!f.2.1) f.1) (h3:S'.u f.1=S.u f.1)
  (hs:∀y,y≠f.1->y∈dC (f::P)->S.at S' y):Ph S' (f::P) z':=by
 obtain ⟨_,g2,g3,g4⟩:=h;simp only [dC,Ζ,τ,not_or] at hn;exact ⟨h1,by rw [h2];exact g2.frame (λy hy=>hs y (λe=>hn.1.1 (by rw [←e];exact hy)) (by simp [dC,hy])),by rw [h3];exact g3,g4.frame (λy hy=>hs y (λe=>hn.1.2 (by rw [←e];exact hy)) (by simp [dC,hy]))⟩
theorem Qx {S:TS} {i j:Nat} {y:Nat} (h1:y≠i) (h2:y≠j):S.at (kW S i j) y:=by
 unfold kW TS.aD TS.bN TS.at;refine ⟨?_,?_,?_⟩
 ·cases decide (S.r i=(j:Int))<;>simp [h1]
 ·cases decide (S.r i=(j:Int))<;>simp [h1]
 ·cases decide (S.r i=(j:Int))<;>simp [h2]
theorem zX {S:TS} {i:Nat} {s:Bool} {v:Int}:∀y,(S.aD i s v).u y=S.u y:=λy=>by unfold TS.aD;cases s<;>rfl
theorem Pw {S:TS} {f:Fr} {P:List Fr} {t:BT} (h:bY S (-1) (ak (f::P) t).root (ak (f::P) t)) (ht:t≠.nil) (hn:(ak (f::P) t).nodes.Nodup) :
  bY (kW S f.1 t.root.toNat) (-1) t.root t/\bY (kW S f.1 t.root.toNat) (-1) (ak (f::P) .nil).root (ak (f::P) .nil)/\∀y,y≠f.1->y≠t.root.toNat->S.at (kW S f.1 t.root.toNat) y:=by
 obtain ⟨h1,h2⟩:=(dE _ _).1 h;have V4:=(aX (f::P) t).nodup_iff.1 hn;rw [θ] at V4;obtain ⟨n1,n2,n3⟩:=V4;obtain ⟨rm,rc⟩:=bL ht;generalize hx:t.root.toNat=x at *;have hfx:f.1≠x:=λe=>n3 x rm f.1 (by simp [dC]) e.symm;have hat:∀y,y≠f.1->y≠x->S.at (kW S f.1 x) y:=λy h1 h2=>Qx h1 h2;have hk:S.kid f.2.1 f.1=x:=by rw [h2.1,rc]
 have hside:decide (S.r f.1=(x:Int))=f.2.1:=by
  cases hs:f.2.1 with
  | true=>rw [hs] at hk;exact Ν (by simpa [TS.kid] using hk)
  | false=>
   refine Ξ (λe=>?_);have h3:=h2.2.1;rw [hs] at h3;have h4:=h3.root;have h5:f.2.2.root=(x:Int):=by rw [←h4];simpa [TS.kid] using e
   have h6:f.2.2≠.nil:=λe=>by rw [e] at h5;simp [BT.root] at h5
   have h7:=(bL h6).1;rw [h5,π] at h7;exact n3 x rm x (by simp [dC,h7]) rfl
 have O0:∀s,(kW S f.1 x).kid s f.1=if s=f.2.1 then -1 else S.kid s f.1:=λs=>by
  unfold kW;rw [hside];unfold TS.aD TS.bN TS.kid;cases s<;>cases f.2.1<;>simp
 have hu:∀y,(kW S f.1 x).u y=if y=x then -1 else S.u y:=λy=>by
  unfold kW TS.bN;simp only [zX]
 refine ⟨h1.J2 n1 (λy hy=>?_) (λ_=>?_),(dE _ _).2 ⟨rfl,h2.other n2 ?_ ?_ ?_ (λy g1 g2=>hat y g1 (λe=>n3 x rm y g2 e.symm))⟩,hat⟩
 ·have YP:y≠f.1:=λe=>n3 y hy f.1 (by simp [dC]) e;refine ⟨?_,?_,λhr=>?_⟩
  ·unfold kW TS.aD TS.bN;cases decide (S.r f.1=(x:Int))<;>simp [YP]
  ·unfold kW TS.aD TS.bN;cases decide (S.r f.1=(x:Int))<;>simp [YP]
  ·rw [hu,Γ (by rw [hx] at hr;exact hr)]
 ·rw [hu,hx,Δ rfl]
 ·rw [O0,Δ rfl];rfl
 ·rw [O0,Γ (by cases f.2.1<;>simp)]
 ·rw [hu,Γ hfx]
theorem Kq {S:TS} {f:Fr} {P:List Fr} {m:BT} (h:bY S (-1) (ak (f::P) .nil).root (ak (f::P) .nil)) (hM:bY S (-1) m.root m) (hm:m≠.nil) (hn:(m.nodes++dC (f::P)).Nodup) :
  bY (jC S f.1 m.root f.2.1) (-1) (ak (f::P) m).root (ak (f::P) m)/\∀y,y≠f.1->y≠m.root.toNat->S.at (jC S f.1 m.root f.2.1) y:=by
 obtain ⟨_,h2⟩:=(dE _ _).1 h;rw [θ] at hn;obtain ⟨n1,n2,n3⟩:=hn;obtain ⟨rm,rc⟩:=bL hm;have hfx:f.1≠m.root.toNat:=λe=>n3 _ rm f.1 (by simp [dC]) e.symm;have O0:∀s,(jC S f.1 m.root f.2.1).kid s f.1=if s=f.2.1 then m.root else S.kid s f.1:=λs=>by
  unfold jC TS.aD TS.bN TS.kid;cases s<;>cases f.2.1<;>simp
 have hu:∀y,(jC S f.1 m.root f.2.1).u y=if y=m.root.toNat then (f.1:Int) else S.u y:=λy=>by
  unfold jC TS.bN;simp only [zX]
 have hl:∀y,y≠f.1->(jC S f.1 m.root f.2.1).l y=S.l y/\(jC S f.1 m.root f.2.1).r y=S.r y:=λy hy=>by
  unfold jC TS.aD TS.bN;cases f.2.1<;>simp [hy]
 have hat:∀y,y≠f.1->y≠m.root.toNat->S.at (jC S f.1 m.root f.2.1) y:=λy g1 g2=>⟨(hl y g1).1,(hl y g1).2,by rw [hu,Γ g2]⟩
 refine ⟨(dE _ _).2 ⟨hM.J2 n1 (λy hy=>?_) (λ_=>by rw [hu,Δ rfl];rfl),h2.other n2 ?_ ?_ ?_ (λy g1 g2=>hat y g1 (λe=>n3 _ rm y g2 e.symm))⟩,hat⟩
 ·have YP:y≠f.1:=λe=>n3 y hy f.1 (by simp [dC]) e;exact ⟨(hl y YP).1,(hl y YP).2,λhr=>by rw [hu,Γ hr]⟩
 ·rw [O0,Δ rfl]
 ·rw [O0,Γ (by cases f.2.1<;>simp)]
 ·rw [hu,Γ hfx]
/-! ### heaps, ranks -/
theorem sW {A:NS} {f:Fr} {t:BT}:Heap A (bu f t)↔(∀y,y∈t.nodes->dO A f.1 y)/\(∀y,y∈f.2.2.nodes->dO A f.1 y)/\Heap A t/\Heap A f.2.2:=by
 unfold bu
 split
 ·simp only [Heap];constructor
  ·rintro ⟨a,b,c,d⟩;exact ⟨b,a,d,c⟩
  ·rintro ⟨a,b,c,d⟩;exact ⟨b,a,d,c⟩
 ·simp only [Heap]
theorem tH {A:NS}:∀ {P:List Fr} {t:BT},Heap A (ak P t)->Heap A t
 | [],_,h=>h
 | f::P,t,h=>(sW.1 (tH (P:=P) h)).2.2.1
theorem vD {A:NS}:∀ {P:List Fr} {t t':BT},Heap A (ak P t)->Heap A t'->(∀y,y∈t'.nodes->y∈t.nodes)->Heap A (ak P t')
 | [],_,_,_,h,_=>h
 | f::P,t,t',h,h',hs=>by
  have h1:=sW.1 (tH (P:=P) h);refine vD (P:=P) h (sW.2 ⟨λy hy=>h1.1 y (hs y hy),h1.2.1,h',h1.2.2.2⟩) (λy hy=>?_);have hy':=(iL f t').mem_iff.1 hy;refine (iL f t).mem_iff.2 ?_;simp only [ρ,τ] at hy' ⊢;rcases hy' with h|h|h
  ·exact Α h
  ·exact Β (Α (hs y h))
  ·exact Β (Β h)
def jD (f:Fr) (n:Nat):Nat:=(if f.2.1 then n else f.2.2.rank)+1
theorem yB (f:Fr) (t:BT):(bu f t).rank=jD f t.rank:=by unfold bu jD;split<;>rfl
def OJ (rk:Nat->Nat):List Fr->Nat->Prop
 | [],_=>True
 | f::P,n=>fE rk f.2.2/\rk f.1=jD f n/\OJ rk P (jD f n)
theorem Oe {rk:Nat->Nat} {f:Fr} {t:BT}:fE rk (bu f t)↔fE rk t/\fE rk f.2.2/\rk f.1=jD f t.rank:=by
 unfold bu jD
 split
 ·simp only [fE];constructor
  ·rintro ⟨a,b,c⟩;exact ⟨c,b,a⟩
  ·rintro ⟨a,b,c⟩;exact ⟨c,b,a⟩
 ·simp only [fE];constructor
  ·rintro ⟨a,b,c⟩;exact ⟨b,c,a⟩
  ·rintro ⟨a,b,c⟩;exact ⟨c,a,b⟩
theorem Ce {rk:Nat->Nat}:∀ (P:List Fr) (t:BT),fE rk (ak P t)↔fE rk t/\OJ rk P t.rank
 | [],t=>by simp [ak,OJ]
 | f::P,t=>by
  show fE rk (ak P (bu f t))↔_
  rw [Ce P,Oe,yB];simp only [OJ];constructor
  ·rintro ⟨⟨a,b,c⟩,d⟩;exact ⟨a,b,c,d⟩
  ·rintro ⟨a,b,c,d⟩;exact ⟨⟨a,b,c⟩,d⟩
theorem OJ.frame {rk nz:Nat->Nat}:∀ {P:List Fr} {n:Nat},OJ rk P n->(∀y,y∈dC P->nz y=rk y)->OJ nz P n
 | [],_,_,_=>trivial
 | f::P,n,h,hs=>⟨h.1.frame (λy hy=>hs y (by simp [dC,hy])),by rw [hs f.1 (by simp [dC])];exact h.2.1,h.2.2.frame (λy hy=>hs y (by simp [dC,hy]))⟩
def AB:List Fr->Nat->Prop
 | [],_=>True
 | f::P,n=>Lean f.2.2/\(if f.2.1 then n<=f.2.2.rank else f.2.2.rank<=n)/\AB P (jD f n)
theorem GK {f:Fr} {t:BT}:Lean (bu f t)↔Lean t/\Lean f.2.2/\(if f.2.1 then t.rank<=f.2.2.rank else f.2.2.rank<=t.rank):=by
 unfold bu
 split
 ·simp only [Lean];constructor
  ·rintro ⟨a,b,c⟩;exact ⟨c,b,a⟩
  ·rintro ⟨a,b,c⟩;exact ⟨c,b,a⟩
 ·simp only [Lean];constructor
  ·rintro ⟨a,b,c⟩;exact ⟨b,c,a⟩
  ·rintro ⟨a,b,c⟩;exact ⟨c,a,b⟩
theorem wB:∀ (P:List Fr) (t:BT),Lean (ak P t)↔Lean t/\AB P t.rank
 | [],t=>by simp [ak,AB]
 | f::P,t=>by
  show Lean (ak P (bu f t))↔_
  rw [wB P,GK,yB];simp only [AB];constructor
  ·rintro ⟨⟨a,b,c⟩,d⟩;exact ⟨a,b,c,d⟩
  ·rintro ⟨a,b,c,d⟩;exact ⟨⟨a,b,c⟩,d⟩
def jh:List Fr->Nat->Nat->BT->BT->BT
 | [],_,x,l,r=>aj x l r
 | f::P,was,x,l,r=>
  if (aj x l r).rank=was then ak (f::P) (aj x l r)
  else if f.2.1 then jh P (jD f was) f.1 f.2.2 (aj x l r) else jh P (jD f was) f.1 (aj x l r) f.2.2
theorem o9:∀ (P:List Fr) (was x:Nat) (l r:BT),(jh P was x l r).nodes.Perm (ak P (.node x l r)).nodes
 | [],was,x,l,r=>jE x l r
 | f::P,was,x,l,r=>by
  have h0:(bu f (aj x l r)).nodes.Perm (bu f (.node x l r)).nodes:=
   (iL f _).trans ((List.Perm.cons _ ((jE x l r).append_right _)).trans (iL f (.node x l r)).symm)
  have h1:(ak P (bu f (aj x l r))).nodes.Perm (ak P (bu f (.node x l r))).nodes:=
   (aX P _).trans ((h0.append_right _).trans (aX P _).symm)
  unfold jh
  split
  ·exact h1
  ·split
   ·rename_i hs
    have e:bu f (aj x l r)=.node f.1 f.2.2 (aj x l r):=by unfold bu;rw [Δ hs]
    rw [e] at h1;exact (o9 P _ _ _ _).trans h1
   ·rename_i hs
    have e:bu f (aj x l r)=.node f.1 (aj x l r) f.2.2:=by unfold bu;rw [Γ hs]
    rw [e] at h1;exact (o9 P _ _ _ _).trans h1
theorem ru:∀ (P:List Fr) (was x:Nat) (l r:BT),(jh P was x l r).root=(ak P (.node x l r)).root
 | [],was,x,l,r=>iK x l r
 | f::P,was,x,l,r=>by
  have h1:=oU f P (aj x l r) (.node x l r);unfold jh
  split
  ·exact h1
  ·split
   ·rename_i hs
    have e:bu f (aj x l r)=.node f.1 f.2.2 (aj x l r):=by unfold bu;rw [Δ hs]
    unfold ak at h1;rw [e] at h1;exact (ru P _ _ _ _).trans h1
   ·rename_i hs
    have e:bu f (aj x l r)=.node f.1 (aj x l r) f.2.2:=by unfold bu;rw [Γ hs]
    unfold ak at h1;rw [e] at h1;exact (ru P _ _ _ _).trans h1
theorem qY {A:NS}:∀ (P:List Fr) (was x:Nat) (l r:BT),Heap A (ak P (.node x l r))->Heap A (jh P was x l r)
 | [],was,x,l,r,h=>pY h.1 h.2.1 h.2.2.1 h.2.2.2
 | f::P,was,x,l,r,h=>by
  have h0:=tH h;have h1:Heap A (ak (f::P) (aj x l r)):=vD h (pY h0.1 h0.2.1 h0.2.2.1 h0.2.2.2) (λy hy=>(jE x l r).mem_iff.1 hy);unfold jh
  split
  ·exact h1
  ·split
   ·rename_i hs
    have e:bu f (aj x l r)=.node f.1 f.2.2 (aj x l r):=by unfold bu;rw [Δ hs]
    unfold ak at h1;rw [e] at h1;exact qY P _ _ _ _ h1
   ·rename_i hs
    have e:bu f (aj x l r)=.node f.1 (aj x l r) f.2.2:=by unfold bu;rw [Γ hs]
    unfold ak at h1;rw [e] at h1;exact qY P _ _ _ _ h1
theorem qV:∀ (P:List Fr) (was x:Nat) (l r:BT),Lean l->Lean r->AB P was->Lean (jh P was x l r)
 | [],was,x,l,r,hl,hr,_=>jk hl hr
 | f::P,was,x,l,r,hl,hr,h=>by
  unfold jh
  split
  ·rename_i e
   exact (wB _ _).2 ⟨jk hl hr,by rw [e];exact h⟩
  ·split
   ·exact qV P _ _ _ _ h.1 (jk hl hr) h.2.2
   ·exact qV P _ _ _ _ (jk hl hr) h.1 h.2.2
theorem Heap.frame {A A':NS}:∀ {t:BT},Heap A t->(∀x,x∈t.nodes->A'.c x=A.c x)->Heap A' t
 | .nil,_,_=>trivial
 | .node x l r,h,hs=>by
  have hx:=hs x (by simp [BT.nodes]);refine ⟨λy hy=>(fT hx (hs y (by simp [BT.nodes,hy]))).2 (h.1 y hy),λy hy=>(fT hx (hs y (by simp [BT.nodes,hy]))).2 (h.2.1 y hy),h.2.2.1.frame (λy hy=>hs y (by simp [BT.nodes,hy])),h.2.2.2.frame (λy hy=>hs y (by simp [BT.nodes,hy]))⟩
structure Pj where
 H:NS->BT->Prop
 frame:∀ {A A':NS} {t:BT},H A t->(∀x,x∈t.nodes->A'.c x=A.c x)->H A' t
 nil:∀A,H A .nil
abbrev heapK:Pj:=⟨Heap,Heap.frame,λ_=>trivial⟩
structure vg (K:Pj) (A:NS) (S:TS) (ag:List Int) (tr:Nat->BT):Prop where
 top:∀h,h<A.hs.length->ag.getD h 0=(tr h).root
 zP:∀h,bY S (-1) (tr h).root (tr h)
 mem:∀h x,x∈(tr h).nodes↔0<h/\x<A.cs.length/\(A.c x).i=h
 nd:∀h,(tr h).nodes.Nodup
 heap:∀h,K.H A (tr h)
 free:∀x,x<A.cs.length->(A.c x).i=0->S.l x=-1/\S.r x=-1/\S.u x=-1
abbrev Z8:=vg heapK
theorem vg.next {K:Pj} {A A':NS} {S S':TS} {ag kE:List Int} {tr KS:Nat->BT} (h:vg K A S ag tr) (hc:A'.cs.length=A.cs.length) (keep:Nat->Prop)
  (k1:∀g,keep g->KS g=tr g/\∀x,x∈(tr g).nodes->S.at S' x/\A'.c x=A.c x)
  (k2:∀g,keep g->∀x,x<A.cs.length->0<g->((A'.c x).i=g↔(A.c x).i=g))
  (n1:∀g,¬keep g->bY S' (-1) (KS g).root (KS g)/\(KS g).nodes.Nodup/\K.H A' (KS g)/\∀x,x∈(KS g).nodes↔0<g/\x<A.cs.length/\(A'.c x).i=g)
  (tp:∀g,g<A'.hs.length->kE.getD g 0=(KS g).root)
  (fr:∀x,x<A.cs.length->(A'.c x).i=0->S'.l x=-1/\S'.r x=-1/\S'.u x=-1):vg K A' S' kE KS:=by
 refine ⟨tp,λg=>?_,λg x=>?_,λg=>?_,λg=>?_,λx hx=>fr x ω⟩
 ·by_cases hk:keep g
  ·obtain ⟨e,hs⟩:=k1 g hk;rw [e];exact (h.zP g).frame (λy hy=>(hs y hy).1)
  ·exact (n1 g hk).1
 ·rw [hc]
  by_cases hk:keep g
  ·rw [(k1 g hk).1,h.mem g x];constructor
   ·rintro ⟨a,b,c⟩;exact ⟨a,b,(k2 g hk x b a).2 c⟩
   ·rintro ⟨a,b,c⟩;exact ⟨a,b,(k2 g hk x b a).1 c⟩
  ·exact (n1 g hk).2.2.2 x
 ·by_cases hk:keep g
  ·rw [(k1 g hk).1];exact h.nd g
  ·exact (n1 g hk).2.1
 ·by_cases hk:keep g
  ·obtain ⟨e,hs⟩:=k1 g hk;rw [e];exact K.frame (h.heap g) (λy hy=>(hs y hy).2)
  ·exact (n1 g hk).2.2.1
def single (x:Nat):BT:=.node x .nil .nil
theorem si {S:TS} {x:Nat} (h:S.l x=-1/\S.r x=-1/\S.u x=-1):bY S (-1) (single x).root (single x):=⟨rfl,h.2.2,h.1,h.2.1⟩
theorem vg.out {K:Pj} {A:NS} {S:TS} {ag:List Int} {tr:Nat->BT} (h:vg K A S ag tr) {x g:Nat} (hx:(A.c x).i=0):x∉(tr g).nodes:=λhm=>by
 have:=(h.mem g x).1 hm;omega
theorem vg.put {K:Pj} {A:NS} {S S':TS} {ag:List Int} {tr:Nat->BT} (h:vg K A S ag tr) (ok:A.Ok) (hn:ag.length=A.hs.length) {g x:Nat} {k s:Int} (hB:nX A g x=true) {t':BT}
  (hT:bY S' (-1) t'.root t') (hp:t'.nodes.Perm ((tr g).nodes++[x])) (hH:K.H (aG A g x k s) t') (hs:∀y,y∉(tr g).nodes++[x]->S.at S' y) :
  vg K (aG A g x k s) S' (ag.set g t'.root) (λq=>if q=g then t' else tr q):=by
 obtain ⟨b1,b2,b3⟩:=(dP _ _ _).1 hB;have b4:=(aA _ _).1 b1;have hx:x<A.cs.length:=by have:=(fJ _ _).1 b2;omega
 have h0:(A.c x).i=0:=by
  have:=(ok.nat x hx).1;have h3:¬ (0<(A.c x).i):=λh'=>by rw [(ay A x).2 ⟨hx,h'⟩] at b3;cases b3
  omega
 have hc:∀y,(aG A g x k s).c y=if y=x then ⟨g,k,s⟩ else A.c y:=λy=>by
  unfold aG;rw [Δ hB,π,jA]
  by_cases e:y=x
  ·rw [Δ ⟨e,hx⟩,Δ e]
  ·rw [Γ (λh=>e h.1),Γ e]
 have hl:(aG A g x k s).cs.length=A.cs.length:=by unfold aG;rw [Δ hB,fD]
 have hh:(aG A g x k s).hs=A.hs:=by unfold aG;rw [Δ hB];rfl
 have hgn:g<A.hs.length:=ω;refine h.next hl (λq=>q≠g) (λq hq=>⟨Γ hq,λy hy=>?_⟩) (λq hq y hy hq0=>?_) (λq hq=>?_) (λq hq=>?_) (λy hy hy0=>?_)
 ·have hyx:y≠x:=λe=>h.out (g:=q) h0 (by rw [←e];exact hy);have hyg:y∉(tr g).nodes:=λhm=>by
   have a1:=(h.mem g y).1 hm;have a2:=(h.mem q y).1 hy;omega
  exact ⟨hs y (by simp [hyx,hyg]),by rw [hc,Γ hyx]⟩
 ·rw [hc]
  by_cases e:y=x
  ·rw [Δ e,e];simp only;omega
  ·rw [Γ e]
 ·have hq':q=g:=Classical.not_not.1 hq;subst hq';rw [Δ rfl];refine ⟨hT,hp.nodup_iff.2 ?_,hH,λy=>?_⟩
  ·rw [θ];refine ⟨h.nd q,σ,λa ha b hb e=>?_⟩;simp only [ϒ] at hb;exact h.out (g:=q) h0 (by rw [←hb,←e];exact ha)
  ·rw [hp.mem_iff,τ,ϒ,h.mem q y,hc]
   by_cases e:y=x
   ·rw [Δ e];simp only [e,or_true,true_iff];exact ⟨ω,hx,trivial⟩
   ·rw [Γ e];simp only [e,or_false]
 ·rw [hh] at hq
  by_cases e:q=g
  ·rw [Δ e,e,φ,ύ,Δ rfl,Δ ω];rfl
  ·rw [Γ e,φ,ύ,Γ (λh=>e h.symm),←φ];exact h.top q hq
 ·rw [hc] at hy0
  by_cases e:y=x
  ·rw [Δ e] at hy0;simp only at hy0;omega
  ·rw [Γ e] at hy0;have hyn:y∉(tr g).nodes++[x]:=by
    simp only [τ,ϒ,e,or_false];exact h.out hy0
   have a1:=h.free y hy hy0;have a2:=hs y hyn;exact ⟨a2.1.trans a1.1,a2.2.1.trans a1.2.1,a2.2.2.trans a1.2.2⟩
theorem BS {K:Pj} (n:Nat):vg K (NS.new n) TS.none [-1] (λ_=>BT.nil):=by
 refine ⟨λh hh=>?_,λh=>rfl,λh x=>?_,λh=>ϡ,λh=>K.nil _,λx hx _=>⟨rfl,rfl,rfl⟩⟩
 ·have:h=0:=by simp [NS.new] at hh;exact hh
  subst this;rfl
 ·rw [NS.wL];simp only [BT.nodes,ς,false_iff,Cl.z];omega
theorem vg.make {K:Pj} {A:NS} {S:TS} {ag:List Int} {tr:Nat->BT} (h:vg K A S ag tr) (ok:A.Ok) (hn:ag.length=A.hs.length) (hl:¬65536<A.hs.length)  :vg K (aI A) S (ag++[-1]) tr:=by
 have hc:(aI A).cs=A.cs:=by unfold aI;rw [Γ hl]
 have hh:(aI A).hs=A.hs++[true]:=by unfold aI;rw [Γ hl]
 have hcc:∀x,(aI A).c x=A.c x:=λx=>by unfold NS.c;rw [hc]
 refine h.next (by rw [hc]) (λ_=>True) (λg _=>⟨rfl,λx _=>⟨⟨rfl,rfl,rfl⟩,hcc x⟩⟩) (λg _ x _ _=>by rw [hcc]) (λg hg=>absurd trivial hg) (λg hg=>?_) (λx hx h0=>h.free x hx (by rw [hcc] at h0;exact h0));rw [hh,υ,List.length_singleton] at hg
 by_cases e:g<A.hs.length
 ·rw [φ,Ρ ω,←φ];exact h.top g e
 ·have e2:g=ag.length:=ω;have hnil:tr g=.nil:=by
   cases ht:tr g with
   | nil=>rfl
   | node x l r=>
    have hm:=(h.mem g x).1 (by rw [ht];simp [BT.nodes]);have:=(ok.nat x hm.2.1).2;omega
  rw [φ,e2,ϊ (Θ _)];rw [←e2,hnil];simp [BT.root]
end Go.Proofs.YtnpdakpagnpanaaGreat
namespace Go.Proofs.YtnpdakpagnpanaaGreat
open Go Go.RowKit
theorem vg.del {K:Pj} {A:NS} {S S':TS} {ag kE:List Int} {tr:Nat->BT} (h:vg K A S ag tr) {g x:Nat} (hx:x∈(tr g).nodes) {t':BT}
  (hT:bY S' (-1) t'.root t') (hp:(x::t'.nodes).Perm (tr g).nodes) (hH:K.H A t') (hs:∀y,y∉(tr g).nodes->S.at S' y) (hf:S'.l x=-1/\S'.r x=-1/\S'.u x=-1)
  (htp:∀q,q<A.hs.length->kE.getD q 0=if q=g then t'.root else ag.getD q 0) :
  vg K (aU A x) S' kE (λq=>if q=g then t' else tr q):=by
 have hm:=(h.mem g x).1 hx;have hin:bR A (x:Int)=true:=(ay A x).2 ⟨hm.2.1,ω⟩;have hc:=sS hin;have hnd:(x::t'.nodes).Nodup:=hp.nodup_iff.2 (h.nd g);have hxt:x∉t'.nodes:=(Ζ.1 hnd).1;refine h.next (dK _ _) (λq=>q≠g) (λq hq=>⟨Γ hq,λy hy=>?_⟩) (λq hq y hy hq0=>?_) (λq hq=>?_) (λq hq=>?_) (λy hy hy0=>?_)
 ·have hyg:y∉(tr g).nodes:=λhm=>by
   have a1:=(h.mem g y).1 hm;have a2:=(h.mem q y).1 hy;omega
  exact ⟨hs y hyg,by rw [hc,Γ (λe=>hyg (by rw [e];exact hx))]⟩
 ·rw [hc]
  by_cases e:y=x
  ·rw [Δ e,e]
   show (0:Int)=(q:Int)↔_
   omega
  ·rw [Γ e]
 ·have hq':q=g:=Classical.not_not.1 hq;subst hq';rw [Δ rfl];refine ⟨hT,(Ζ.1 hnd).2,K.frame hH (λy hy=>by rw [hc,Γ (λe=>hxt (by rw [←e];exact hy))]),λy=>?_⟩;have e1:=hp.mem_iff (a:=y);rw [ρ,h.mem q y] at e1;rw [hc]
  by_cases e:y=x
  ·rw [Δ e,e];refine ⟨λhh=>absurd hh hxt,λhh=>?_⟩;have:(0:Int)=(q:Int):=hh.2.2;omega
  ·rw [Γ e,←e1];simp [e]
 ·rw [gM] at hq;rw [htp q hq]
  by_cases e:q=g
  ·rw [Δ e,Δ e]
  ·rw [Γ e,Γ e];exact h.top q hq
 ·rw [hc] at hy0
  by_cases e:y=x
  ·rw [e];exact hf
  ·rw [Γ e] at hy0;have a1:=h.free y hy hy0;have a2:=hs y (h.out hy0);exact ⟨a2.1.trans a1.1,a2.2.1.trans a1.2.1,a2.2.2.trans a1.2.2⟩
theorem lN {A:NS} {a b:Int} (hj:fQ A a b=true):∀ {t:BT},Heap A t->Heap (ah A a b) t
 | .nil,_=>trivial
 | .node x l r,h=>⟨λy hy=>(lY hj x y).2 (h.1 y hy),λy hy=>(lY hj x y).2 (h.2.1 y hy),lN hj h.2.2.1,lN hj h.2.2.2⟩
theorem vg.join {K:Pj} {A:NS} {S S':TS} {ag kE:List Int} {tr:Nat->BT} (h:vg K A S ag tr) {a b:Nat} (hj:fQ A a b=true) {t':BT}
  (hT:bY S' (-1) t'.root t') (hp:t'.nodes.Perm ((tr a).nodes++(tr b).nodes)) (hH:K.H (ah A a b) t') (hs:∀y,y∉(tr a).nodes++(tr b).nodes->S.at S' y)
  (htp:∀q,q<A.hs.length->kE.getD q 0=if q=a then t'.root else if q=b then -1 else ag.getD q 0) :
  vg K (ah A a b) S' kE (λq=>if q=a then t' else if q=b then .nil else tr q):=by
 obtain ⟨j1,j2,j3⟩:=(cO _ _ _).1 hj;have a1:=(aA _ _).1 j1;have a2:=(aA _ _).1 j2;have hc:∀y,((ah A a b).c y).i=if (A.c y).i=b/\y<A.cs.length then (a:Int) else (A.c y).i:=λy=>by rw [kY hj]
 have hne:a≠b:=λe=>j3 (by rw [e]);have hlen:(ah A a b).hs.length=A.hs.length:=by unfold ah;rw [Δ hj];simp
 refine h.next (dA _ _ _) (λq=>q≠a/\q≠b) (λq hq=>⟨by rw [Γ hq.1,Γ hq.2],λy hy=>?_⟩) (λq hq y hy hq0=>?_) (λq hq=>?_) (λq hq=>?_) (λy hy hy0=>?_)
 ·have c0:=(h.mem q y).1 hy;have hya:y∉(tr a).nodes:=λhm=>by
   have a1:=(h.mem a y).1 hm;omega
  have hyb:y∉(tr b).nodes:=λhm=>by
   have a1:=(h.mem b y).1 hm;omega
  refine ⟨hs y (by simp [hya,hyb]),?_⟩;rw [kY hj,Γ ω]
 ·rw [hc];split<;>omega
 ·by_cases e:q=a
  ·rw [Δ e];refine ⟨hT,hp.nodup_iff.2 ?_,hH,λy=>?_⟩
   ·rw [θ];refine ⟨h.nd a,h.nd b,λx hx y hy e2=>?_⟩;have b1:=(h.mem a x).1 hx;have b2:=(h.mem b y).1 hy;rw [e2] at b1;omega
   ·rw [hp.mem_iff,τ,h.mem a y,h.mem b y,hc];subst e;split<;>omega
  ·have e2:q=b:=ω;rw [Γ e,Δ e2];refine ⟨rfl,by simp [BT.nodes],K.nil _,λy=>?_⟩;rw [hc];simp only [BT.nodes,ς,false_iff]
   split<;>omega
 ·rw [hlen] at hq;rw [htp q hq]
  by_cases e:q=a
  ·rw [Δ e,Δ e]
  ·rw [Γ e,Γ e]
   by_cases e2:q=b
   ·rw [Δ e2,Δ e2];rfl
   ·rw [Γ e2,Γ e2];exact h.top q hq
 ·have hy1:(A.c y).i=0:=by rw [hc] at hy0;split at hy0<;>omega
  have a1:=h.free y hy hy1;have a2:=hs y (by simp [h.out (g:=a) hy1,h.out (g:=b) hy1]);exact ⟨a2.1.trans a1.1,a2.2.1.trans a1.2.1,a2.2.2.trans a1.2.2⟩
instance:Nonempty (List Fr×BT×BT):=⟨([],.nil,.nil)⟩
noncomputable def pathOf (t:BT) (x:Nat):List Fr×BT×BT:=Classical.epsilon λq:List Fr×BT×BT=>t=ak q.1 (.node x q.2.1 q.2.2)
theorem wy {t:BT} {x:Nat} (h:x∈t.nodes):t=ak (pathOf t x).1 (.node x (pathOf t x).2.1 (pathOf t x).2.2):=by
 obtain ⟨P,l,r,e⟩:=vY h;unfold pathOf;exact Classical.epsilon_spec (p:=λq:List Fr×BT×BT=>t=ak q.1 (.node x q.2.1 q.2.2)) ⟨(P,l,r),e⟩
structure LB where
 n0:Nat
 c:Nat
 bt:Nat
 ba:Nat
 br:Nat
structure jI (w:World) (B:LB) (F:List Nat) (gt ct:Nat) (A:NS) (st:Nat) (S:TS) (rk:Nat->Nat) (ag:List Int):Prop where
 head:aJ w B.n0 204 4 (λj=>[Value.pointer (some ⟨B.c,0,none⟩),.pointer (some ⟨B.bt,0,none⟩),.slice (some ⟨B.br,0,none⟩) A.cs.length A.cs.length,.slice (some ⟨gt,0,none⟩) ag.length ct].getD j undef)
 cells:aB w B.c F A st
 trees:aY w B.bt B.ba A.cs.length S
 ranks:aJ w B.br 3 A.cs.length (λj=>.int .i64 (rk j:Int))
 il:IZ w gt ct ag
 iB:ag.length=A.hs.length
 bI:B.n0∉F/\B.bt∉F/\B.ba∉F/\B.br∉F/\gt∉F
 sep:(B.n0≠B.bt/\B.n0≠B.ba/\B.n0≠B.br/\B.n0≠gt)/\(B.bt≠B.br/\B.bt≠gt/\B.ba≠B.br/\B.ba≠gt/\B.br≠gt)
section
variable {w:World} {B:LB} {F:List Nat} {gt ct:Nat} {A:NS} {st:Nat} {S:TS} {rk:Nat->Nat} {ag:List Int}
def LB.blk (B:LB) (F:List Nat) (gt:Nat):List Nat:=B.n0::B.bt::B.ba::B.br::gt::F
theorem jI.upd {w':World} {G:List Nat} (h:jI w B F gt ct A st S rk ag) (hu:aa G w w') (hG:∀x,x∈G->x∉B.blk F gt):jI w' B F gt ct A st S rk ag:=by
 have h1:∀x,x∈B.blk F gt->x∉G:=λx hx hg=>hG x hg hx;exact ⟨h.head.upd hu (h1 _ (by simp [LB.blk])),h.cells.upd hu (λx hx=>λhm=>hG x hx (by simp [LB.blk,hm])),h.trees.upd hu (h1 _ (by simp [LB.blk])) (h1 _ (by simp [LB.blk])),h.ranks.upd hu (h1 _ (by simp [LB.blk])),h.il.upd hu (h1 _ (by simp [LB.blk])),h.iB,h.bI,h.sep⟩
theorem jI.ai {w':World} (h:jI w B F gt ct A st S rk ag) (hu:aa [] w w'):jI w' B F gt ct A st S rk ag:=h.upd hu σ
theorem jI.lt (h:jI w B F gt ct A st S rk ag):∀x,x∈B.blk F gt->x<w.heap.size:=by
 intro x hx;have:=h.head.lt;have:=h.trees.head.lt;have:=h.trees.row.lt;have:=h.ranks.lt;have:=h.il.lt;simp only [LB.blk,ρ] at hx;rcases hx with rfl|rfl|rfl|rfl|rfl|hx
 ·assumption
 ·assumption
 ·assumption
 ·assumption
 ·assumption
 ·exact h.cells.lt x hx
theorem jI.cF (h:jI w B F gt ct A st S rk ag):B.c∈F:=h.cells.mem
theorem jI.h0 (h:jI w B F gt ct A st S rk ag):w.cell? ⟨B.n0,0,none⟩=some (.pointer (some ⟨B.c,0,none⟩)):=h.head.cellAt 0 ω rfl
theorem jI.h1 (h:jI w B F gt ct A st S rk ag):w.cell? ⟨B.n0,1,none⟩=some (.pointer (some ⟨B.bt,0,none⟩)):=h.head.cellAt 1 ω rfl
theorem jI.h2 (h:jI w B F gt ct A st S rk ag):w.cell? ⟨B.n0,2,none⟩=some (.slice (some ⟨B.br,0,none⟩) A.cs.length A.cs.length):=h.head.cellAt 2 ω rfl
theorem jI.h3 (h:jI w B F gt ct A st S rk ag):w.cell? ⟨B.n0,3,none⟩=some (.slice (some ⟨gt,0,none⟩) ag.length ct):=h.head.cellAt 3 ω rfl
theorem jI.gY {w':World} {S':TS} (h:jI w B F gt ct A st S rk ag) (hu:aa [B.ba] w w') (hT:aY w' B.bt B.ba A.cs.length S'):jI w' B F gt ct A st S' rk ag:=by
 have s:=h.sep;have f:=h.bI;have hne:=h.trees.ne;exact ⟨h.head.upd hu ζ,h.cells.upd hu (λx hx=>by simp at hx;rw [hx];exact f.2.2.1),hT,h.ranks.upd hu ζ,h.il.upd hu ζ,h.iB,f,s⟩
theorem jI.bH (h:jI w B F gt ct A st S rk ag) (x:Nat) (k:Nat):jI (w.setCell ⟨B.br,x,none⟩ (.int .i64 (k:Int))) B F gt ct A st S (λy=>if y=x then k else rk y) ag:=by
 have s:=h.sep;have f:=h.bI;have hu:aa [B.br] w (w.setCell ⟨B.br,x,none⟩ (.int .i64 (k:Int))):=β;refine ⟨h.head.upd hu ζ,h.cells.upd hu (λx hx=>by simp at hx;rw [hx];exact f.2.2.2.1),h.trees.upd hu ζ ζ,(h.ranks.set x _).ext (λj hj=>?_),h.il.upd hu ζ,h.iB,f,s⟩
 by_cases e:j=x
 ·simp only [e,if_true]
 ·simp only [e,if_false]
theorem jI.mD (h:jI w B F gt ct A st S rk ag) (x:Nat) (k:Int):jI (w.setCell ⟨gt,x,none⟩ (.int .i64 k)) B F gt ct A st S rk (ag.set x k):=by
 have s:=h.sep;have f:=h.bI;have hu:aa [gt] w (w.setCell ⟨gt,x,none⟩ (.int .i64 k)):=β;refine ⟨by rw [Ι];exact h.head.upd hu ζ,h.cells.upd hu (λx hx=>by simp at hx;rw [hx];exact f.2.2.2.2),h.trees.upd hu ζ ζ,h.ranks.upd hu ζ,h.il.set x k,by rw [Ι];exact h.iB,f,s⟩
theorem jI.dV {w':World} {F':List Nat} {A':NS} {st':Nat} (h:jI w B F gt ct A st S rk ag) (hu:aa F w w') (hC:aB w' B.c F' A' st') (hF:∀x,x∈F'->x∈F\/w.heap.size<=x) (h1:A'.cs.length=A.cs.length) (h2:A'.hs.length=A.hs.length):jI w' B F' gt ct A' st' S rk ag:=by
 have f:=h.bI;have g:=h.lt;have hf:∀x,x<w.heap.size->x∉F->x∉F':=λx hx hn hm=>by rcases hF x hm with h'|h';exact hn h';omega
 have l0:=g B.n0 (by simp [LB.blk]);have l1:=g B.bt (by simp [LB.blk]);have l2:=g B.ba (by simp [LB.blk]);have l3:=g B.br (by simp [LB.blk]);have l4:=g gt (by simp [LB.blk]);exact ⟨by rw [h1];exact h.head.upd hu f.1,hC,by rw [h1];exact h.trees.upd hu f.2.1 f.2.2.1,by rw [h1];exact h.ranks.upd hu f.2.2.2.1,h.il.upd hu f.2.2.2.2,by rw [h2];exact h.iB,⟨hf _ l0 f.1,hf _ l1 f.2.1,hf _ l2 f.2.2.1,hf _ l3 f.2.2.2.1,hf _ l4 f.2.2.2.2⟩,h.sep⟩
end
theorem lQ (z:Int) (w:World):Calls Tryz.prog 237 #[.int .i64 (tv z),.bool (tb z)] w λe w'=>e=.returned (.int .i64 z)/\w'=w:=by
 unfold tv tb
 by_cases h:z=-1
 ·subst h;simp only [if_true,ne_eq,not_true,decide_false]
  go_enter Tryz.func237,Tryz.ntmps237
  go_wp2;go_ret;exact ⟨rfl,rfl⟩
 ·rw [Γ h,Ν h]
  go_enter Tryz.func237,Tryz.ntmps237
  go_wp2;go_ret;exact ⟨rfl,rfl⟩
def fV (rk:Nat->Nat) (z:Int):Int:=if z=-1 then 0 else (rk z.toNat:Int)
section
variable {w:World} {B:LB} {F:List Nat} {gt ct:Nat} {A:NS} {st:Nat} {S:TS} {rk:Nat->Nat} {ag:List Int}
theorem jr (h:jI w B F gt ct A st S rk ag) (z:Int) (hz:z=-1\/(0<=z/\z<A.cs.length)) :
  Calls Tryz.prog 248 #[.pointer (some ⟨B.n0,0,none⟩),.int .i64 z] w λe w'=>e=.returned (.int .i64 (fV rk z))/\w'=w:=by
 unfold fV;have h2:=h.h2;have hA:=h.cells.ok.c1
 by_cases e:z=-1
 ·subst e;clear h
  go_enter Tryz.func248,Tryz.ntmps248
  go_wp2;go_ret;exact ⟨rfl,rfl⟩
 ·obtain ⟨i,rfl⟩:∃i:Nat,z=i:=⟨z.toNat,ω⟩;have hi:i<A.cs.length:=ω;have d:=h.ranks.cell i hi;have hb:((i:Int) == -1)=false:=σ;rw [Γ e];simp only [π];clear h e hz
  go_enter Tryz.func248,Tryz.ntmps248
  go_wp2;go_ret;exact ⟨rfl,rfl⟩
theorem rA (rk:Nat->Nat) (z:Int):0<=fV rk z:=by unfold fV;split<;>omega
theorem BC (h:jI w B F gt ct A st S rk ag) (x:Nat) (hx:x<A.cs.length) (hl:S.l x=-1\/(0<=S.l x/\S.l x<A.cs.length)) (hr:S.r x=-1\/(0<=S.r x/\S.r x<A.cs.length)) (Js:fV rk (S.l x)<=65536) (hbb:fV rk (S.r x)<=65536) (hab:fV rk (S.l x)<fV rk (S.r x)) :
  Calls Tryz.prog 245 #[.pointer (some ⟨B.n0,0,none⟩),.int .i64 (x:Int)] w λe w'=>e=.returned (.tuple #[])/\aa [B.ba,B.br] w w'/\jI w' B F gt ct A st (iG S x) (λy=>if y=x then (fV rk (S.l x)).toNat + 1 else rk y) ag:=by
 have kl:=λd=>yF B.bt B.ba A.cs.length S (x:Int) (w.drewN d) (h.trees.drewN d);have kr:=λd=>nZ B.bt B.ba A.cs.length S (x:Int) (w.drewN d) (h.trees.drewN d);rw [show fP A.cs.length S (x:Int) false=S.l x by unfold fP TS.kid;rw [Δ ω];simp] at kl;rw [show fP A.cs.length S (x:Int) true=S.r x by unfold fP TS.kid;rw [Δ ω];simp] at kr;have q1:∀d,(w.drewN d).cell? ⟨B.n0,1,none⟩=some (.pointer (some ⟨B.bt,0,none⟩)):=λd=>h.h1;have H:=χ h;have rl:=λd=>jr (h.ai ((aa.refl [] w).drewN d)) (S.l x) hl;have rr:=λd=>jr (h.ai ((aa.refl [] w).drewN d)) (S.r x) hr
 have ba1:0<=fV rk (S.l x)/\fV rk (S.l x)<=65536:=⟨rA _ _,Js⟩;have bb1:0<=fV rk (S.r x)/\fV rk (S.r x)<=65536:=⟨rA _ _,hbb⟩;clear Js hbb;have HL:=χ (ψ hl hr);generalize hzl:S.l x=zl at *;generalize IY:S.r x=zr at *;generalize hra:fV rk zl=a at *;generalize hrb:fV rk zr=b at *;have HZ:=χ (ψ hzl (ψ IY (ψ hra hrb)));have hn0:=h.lt B.n0 (by simp [LB.blk]);have hbr:=h.lt B.br (by simp [LB.blk]);have hs:=h.sep;have hA:=h.cells.ok.c1;clear h hzl IY hra hrb hl hr
 go_enter Tryz.func245,Tryz.ntmps245
 go_wp2
 go_quiet ((first
  | (go_at_call 238;exact Calls.quiet_of (kl _))
  | (go_at_call 239;exact Calls.quiet_of (kr _))
  | (go_at_call 237;exact Calls.quiet_of_same (lQ _ _))))
 have H2:=χ (H.out.ai ((aa.refl [] w).drewN nq));have ZN:=rl nq;have ZM:=rr nq;have h1:=q1 nq;clear kl kr q1 rl rr;have kt:=xB B.bt B.ba A.cs.length S x (w.drewN nq) H2.out.trees hx
 go_wp2_with (first
  | (go_at_call 248;(with_reducible refine (ZN).mono ?_);rintro e w9 ⟨rfl,aH⟩;rw [aH];clear aH w9)
  | (go_at_call 248;(with_reducible refine (ZM).mono ?_);rintro e w9 ⟨rfl,aH⟩;rw [aH];clear aH w9)
  | (go_at_call 249;(with_reducible refine (kt).mono ?_);rintro e w2 ⟨rfl,hT,hu2⟩))
 have h3:=χ (H2.out.gY hu2 hT);have hw2:aa [B.ba,B.br] w w2:=((aa.refl _ w).drewN nq).trans (hu2.mono σ);have kq:=λW (hW:aa [] w2 W)=>jr (h3.out.ai hW) zl HL.out.1;rw [HZ.out.2.2.1] at kq;have r0:∀W,aa [B.br] w2 W->W.cell? ⟨B.n0,2,none⟩=some (.slice (some ⟨B.br,0,none⟩) A.cs.length A.cs.length):=λW hW=>hW.kept h3.out.h2 ζ;have d0:=h3.out.ranks.cell x hx;have d1:=h3.out.ranks.free x;have hwr:IntKind.i64.wrap (a+1)=a+1:=Μ _ ω
 go_region_held3 (aa [B.br] w2) (exact ν) ((go_at_call 248;(with_reducible refine ((kq _ β)).mono ?_);rintro e w9 ⟨rfl,aH⟩;rw [aH];clear aH w9))
 go_wp2;go_end0;clear hwr;obtain ⟨an,rfl⟩:∃an:Nat,a=an:=⟨a.toNat,ω⟩;have hR:=h3.out.bH x (an+1);rw [show ((an+1:Nat):Int)=(an:Int)+1 by omega] at hR;exact ⟨rfl,((hw2.setCell (Α σ) _)).drew,hR.ai ((aa.refl _ _).drew)⟩
theorem Cc (h:jI w B F gt ct A st S rk ag) (x:Nat) (hx:x<A.cs.length) (hl:S.l x=-1\/(0<=S.l x/\S.l x<A.cs.length)) (hr:S.r x=-1\/(0<=S.r x/\S.r x<A.cs.length)) (Js:fV rk (S.l x)<=65536) (hbb:fV rk (S.r x)<=65536) (hab:¬fV rk (S.l x)<fV rk (S.r x)) :
  Calls Tryz.prog 245 #[.pointer (some ⟨B.n0,0,none⟩),.int .i64 (x:Int)] w λe w'=>e=.returned (.tuple #[])/\aa [B.ba,B.br] w w'/\jI w' B F gt ct A st S (λy=>if y=x then (fV rk (S.r x)).toNat + 1 else rk y) ag:=by
 have kl:=λd=>yF B.bt B.ba A.cs.length S (x:Int) (w.drewN d) (h.trees.drewN d);have kr:=λd=>nZ B.bt B.ba A.cs.length S (x:Int) (w.drewN d) (h.trees.drewN d);rw [show fP A.cs.length S (x:Int) false=S.l x by unfold fP TS.kid;rw [Δ ω];simp] at kl;rw [show fP A.cs.length S (x:Int) true=S.r x by unfold fP TS.kid;rw [Δ ω];simp] at kr;have q1:∀d,(w.drewN d).cell? ⟨B.n0,1,none⟩=some (.pointer (some ⟨B.bt,0,none⟩)):=λd=>h.h1;have H:=χ h;have rl:=λd=>jr (h.ai ((aa.refl [] w).drewN d)) (S.l x) hl;have rr:=λd=>jr (h.ai ((aa.refl [] w).drewN d)) (S.r x) hr
 have ba1:0<=fV rk (S.l x)/\fV rk (S.l x)<=65536:=⟨rA _ _,Js⟩;have bb1:0<=fV rk (S.r x)/\fV rk (S.r x)<=65536:=⟨rA _ _,hbb⟩;clear Js hbb;have HL:=χ (ψ hl hr);generalize hzl:S.l x=zl at *;generalize IY:S.r x=zr at *;generalize hra:fV rk zl=a at *;generalize hrb:fV rk zr=b at *;have HZ:=χ (ψ hzl (ψ IY (ψ hra hrb)));have hn0:=h.lt B.n0 (by simp [LB.blk]);have hbr:=h.lt B.br (by simp [LB.blk]);have hs:=h.sep;have hA:=h.cells.ok.c1;clear h hzl IY hra hrb hl hr
 go_enter Tryz.func245,Tryz.ntmps245
 go_wp2
 go_quiet ((first
  | (go_at_call 238;exact Calls.quiet_of (kl _))
  | (go_at_call 239;exact Calls.quiet_of (kr _))
  | (go_at_call 237;exact Calls.quiet_of_same (lQ _ _))))
 have H2:=χ (H.out.ai ((aa.refl [] w).drewN nq));have ZN:=rl nq;have ZM:=rr nq;have h1:=q1 nq;clear kl kr q1 rl rr
 go_wp2_with (first
  | (go_at_call 248;(with_reducible refine (ZN).mono ?_);rintro e w9 ⟨rfl,aH⟩;rw [aH];clear aH w9)
  | (go_at_call 248;(with_reducible refine (ZM).mono ?_);rintro e w9 ⟨rfl,aH⟩;rw [aH];clear aH w9))
 obtain ⟨w2,hw2⟩:∃w2,w2=w.drewN nq:=⟨_,rfl⟩;have hu2:aa [B.ba,B.br] w w2:=by rw [hw2];exact (aa.refl _ w).drewN nq
 rw [←hw2] at H2 ⊢;clear hw2 h1 ZN ZM;have kq:=λW (hW:aa [] w2 W)=>jr (H2.out.ai hW) zr HL.out.2;rw [HZ.out.2.2.2] at kq;have r0:∀W,aa [B.br] w2 W->W.cell? ⟨B.n0,2,none⟩=some (.slice (some ⟨B.br,0,none⟩) A.cs.length A.cs.length):=λW hW=>hW.kept H2.out.h2 ζ;have d0:=H2.out.ranks.cell x hx;have d1:=H2.out.ranks.free x;have hwr:IntKind.i64.wrap (b+1)=b+1:=Μ _ ω
 go_region_held3 (aa [B.br] w2) (exact ν) ((go_at_call 248;(with_reducible refine ((kq _ β)).mono ?_);rintro e w9 ⟨rfl,aH⟩;rw [aH];clear aH w9))
 go_wp2;go_end0;clear hwr;obtain ⟨bn,rfl⟩:∃bn:Nat,b=bn:=⟨b.toNat,ω⟩;have hR:=H2.out.bH x (bn+1);rw [show ((bn+1:Nat):Int)=(bn:Int)+1 by omega] at hR;exact ⟨rfl,((hu2.setCell (Α σ) _)).drew,hR.ai ((aa.refl _ _).drew)⟩
end
theorem Cs:∀t:BT,t.rank<=t.size
 | .nil=>Θ _
 | .node x l r=>by have:=Cs r;simp only [BT.rank,BT.size];omega
theorem lu {n:Nat} {l:List Nat} (hn:l.Nodup) (hl:∀x,x∈l->x<n):l.length<=n:=by
 have:=nodup_range n (l.map λ(x:Nat)=>(x:Int)) (by
  unfold List.Nodup;rw [List.pairwise_map];exact hn.imp (λ{a b} h e=>h ω)) (λy hy=>by
  obtain ⟨x,hx,rfl⟩:=List.mem_map.1 hy;have:=hl x hx
  exact ⟨ω,ω⟩)
 simpa using this
theorem xD {rk:Nat->Nat} {t:BT} (h:fE rk t):fV rk t.root=t.rank:=by
 unfold fV
 by_cases e:t=.nil
 ·subst e;simp [BT.root,BT.rank]
 ·have:=bL e;rw [Γ ω];rw [h.root e]
theorem tN {n:Nat} {t:BT} (h:∀x,x∈t.nodes->x<n):t.root=-1\/(0<=t.root/\t.root<n):=by
 by_cases e:t=.nil
 ·subst e;exact Α rfl
 ·have h1:=bL e;have:=h _ h1.1;exact Β ⟨ω,ω⟩
theorem OW {S:TS} {p:Int} {x:Nat} {l r:BT} (hu:S.u x=p) (hl:bY S x (S.l x) l) (hr:bY S x (S.r x) r):bY S p x (.node x l r):=⟨rfl,hu,hl,hr⟩
section
variable {w:World} {B:LB} {F:List Nat} {gt ct:Nat} {A:NS} {st:Nat} {S:TS} {rk:Nat->Nat} {ag:List Int}
theorem pE (h:jI w B F gt ct A st S rk ag) {p:Int} {x:Nat} {l r:BT} (hT:bY S p x (.node x l r)) (hl:fE rk l) (hr:fE rk r) (hn:(BT.node x l r).nodes.Nodup) (hlt:∀y,y∈(BT.node x l r).nodes->y<A.cs.length) :
  Calls Tryz.prog 245 #[.pointer (some ⟨B.n0,0,none⟩),.int .i64 (x:Int)] w λe w'=>e=.returned (.tuple #[])/\aa [B.ba,B.br] w w'/\
   ∃S' nz,jI w' B F gt ct A st S' nz ag/\bY S' p x (aj x l r)/\fE nz (aj x l r)/\(∀y,y≠x->S.at S' y)/\S'.u x=S.u x/\(∀y,y≠x->nz y=rk y):=by
 obtain ⟨_,hu,Li,hTr⟩:=hT;have hx:=hlt x (by simp [BT.nodes]);have hll:∀y,y∈l.nodes->y<A.cs.length:=λy hy=>hlt y (by simp [BT.nodes,hy]);have hlr:∀y,y∈r.nodes->y<A.cs.length:=λy hy=>hlt y (by simp [BT.nodes,hy]);have hA:=h.cells.ok.c1;have hn2:=hn;simp only [BT.nodes,Ζ,τ,not_or,θ] at hn2;have sl:=lu hn2.2.1 hll;have sr:=lu hn2.2.2.1 hlr;rw [BT.jR] at sl sr;have rl:=Cs l;have rr:=Cs r;have el:=Li.root;have er:=hTr.root;have fr:∀ {S':TS},(∀y,y≠x->S.at S' y)->(∀z,bY S x z l->bY S' x z l)/\(∀z,bY S x z r->bY S' x z r):=λhS=>
  ⟨λz hz=>hz.frame (λy hy=>hS y (λe=>hn2.1.1 (by rw [←e];exact hy))),λz hz=>hz.frame (λy hy=>hS y (λe=>hn2.1.2 (by rw [←e];exact hy)))⟩
 have zl:fV rk (S.l x)=l.rank:=by rw [el];exact xD hl
 have zr:fV rk (S.r x)=r.rank:=by rw [er];exact xD hr
 by_cases hab:l.rank<r.rank
 ·refine (BC h x hx (by rw [el];exact tN hll) (by rw [er];exact tN hlr) (by rw [zl];omega) (by rw [zr];omega) (by rw [zl,zr];omega)).mono ?_;rintro e w' ⟨rfl,hU,hM⟩;have hat:∀y,y≠x->S.at (iG S x) y:=λy hy=>⟨by unfold iG TS.aD;simp [hy],by unfold iG TS.aD;simp [hy],by unfold iG TS.aD;simp⟩
  have e1:(iG S x).l x=S.r x:=by unfold iG TS.aD;simp
  have e2:(iG S x).r x=S.l x:=by unfold iG TS.aD;simp
  have e3:(iG S x).u x=S.u x:=by unfold iG TS.aD;simp
  refine ⟨rfl,hU,_,_,hM,?_,?_,hat,e3,λy hy=>by rw [Γ hy]⟩
  ·unfold aj;rw [Δ hab];exact ⟨rfl,by rw [e3];exact hu,by rw [e1];exact (fr hat).2 _ hTr,by rw [e2];exact (fr hat).1 _ Li⟩
  ·unfold aj;rw [Δ hab];refine ⟨by simp [zl],hr.frame (λy hy=>by rw [Γ (λe=>hn2.1.2 (by rw [←e];exact hy))]),hl.frame (λy hy=>by rw [Γ (λe=>hn2.1.1 (by rw [←e];exact hy))])⟩
 ·refine (Cc h x hx (by rw [el];exact tN hll) (by rw [er];exact tN hlr) (by rw [zl];omega) (by rw [zr];omega) (by rw [zl,zr];omega)).mono ?_;rintro e w' ⟨rfl,hU,hM⟩;refine ⟨rfl,hU,_,_,hM,?_,?_,λy _=>⟨rfl,rfl,rfl⟩,rfl,λy hy=>by rw [Γ hy]⟩
  ·unfold aj;rw [Γ hab];exact ⟨rfl,hu,Li,hTr⟩
  ·unfold aj;rw [Γ hab];refine ⟨by simp [zr],hl.frame (λy hy=>by rw [Γ (λe=>hn2.1.1 (by rw [←e];exact hy))]),hr.frame (λy hy=>by rw [Γ (λe=>hn2.1.2 (by rw [←e];exact hy))])⟩
end
theorem BT.vK {t:BT} (h:t≠.nil):t.root=(t.root.toNat:Int):=(bL h).2
def yR (S:TS) (x:Nat) (r:BT):TS:=match r with | .nil=>S | .node y _ _=>kW S x y
theorem Jt {S:TS} {p:Int} {x:Nat} {l r:BT} (h:bY S p x (.node x l r)) (hn:(BT.node x l r).nodes.Nodup) :
  bY (yR S x r) p x (.node x l .nil)/\bY (yR S x r) (-1) r.root r/\∀y,y≠x->y∉r.nodes->S.at (yR S x r) y:=by
 obtain ⟨_,hu,hl,hr⟩:=h;simp only [BT.nodes,Ζ,τ,not_or,θ] at hn;cases r with
 | nil=>exact ⟨⟨rfl,hu,hl,hr⟩,rfl,λy _ _=>⟨rfl,rfl,rfl⟩⟩
 | node y a b=>
  have hxy:x≠y:=λe=>hn.1.2 (by rw [e];simp [BT.nodes]);have Xa:S.r x=y:=hr.1;have e:yR S x (.node y a b)=kW S x y:=rfl;rw [e];have hl':∀z,(kW S x y).l z=S.l z:=λz=>by unfold kW TS.aD TS.bN;rw [Ν Xa];rfl
  have hr':∀z,(kW S x y).r z=if z=x then -1 else S.r z:=λz=>by unfold kW TS.aD TS.bN;rw [Ν Xa];rfl
  have hu':∀z,(kW S x y).u z=if z=y then -1 else S.u z:=λz=>by unfold kW TS.aD TS.bN;rw [Ν Xa];rfl
  refine ⟨⟨rfl,by rw [hu',Γ hxy];exact hu,?_,by rw [hr',Δ rfl];rfl⟩,?_,λz h1 h2=>⟨hl' z,by rw [hr',Γ h1],by rw [hu',Γ (λe=>h2 (by rw [e];simp [BT.nodes]))]⟩⟩
  ·rw [hl'];refine hl.frame (λz hz=>⟨hl' z,by rw [hr',Γ (λe=>hn.1.1 (by rw [←e];exact hz))],by rw [hu',Γ (λe=>hn.2.2.2 z hz y (by simp [BT.nodes]) e)]⟩)
  ·have h0:bY S x ((BT.node y a b).root) (.node y a b):=by rw [←hr.root];exact hr
   refine h0.J2 (p':=-1) hn.2.2.1 (λz hz=>⟨hl' z,by rw [hr',Γ (λe=>hn.1.2 (by rw [←e];exact hz))],λIY=>by rw [hu',Γ (λe=>IY (by rw [e];simp [BT.root]))]⟩) (λ_=>by rw [hu'];simp [BT.root])
theorem zW {S:TS} {p:Int} {x:Nat} {l m:BT} (h:bY S p x (.node x l .nil)) (hm:bY S (-1) m.root m) (hne:m≠.nil) (hn:(BT.node x l m).nodes.Nodup) :
  bY (jC S x m.root true) p x (.node x l m)/\∀y,y≠x->y∉m.nodes->S.at (jC S x m.root true) y:=by
 obtain ⟨_,hu,hl,_⟩:=h;simp only [BT.nodes,Ζ,τ,not_or,θ] at hn;obtain ⟨r1,r2⟩:=bL hne;have hl':∀z,(jC S x m.root true).l z=S.l z:=λz=>by unfold jC TS.aD TS.bN;rfl
 have hr':∀z,(jC S x m.root true).r z=if z=x then m.root else S.r z:=λz=>by unfold jC TS.aD TS.bN;simp
 have hu':∀z,(jC S x m.root true).u z=if z=m.root.toNat then (x:Int) else S.u z:=λz=>by unfold jC TS.aD TS.bN;simp
 have hxm:x≠m.root.toNat:=λe=>hn.1.2 (by rw [e];exact r1);refine ⟨⟨rfl,by rw [hu',Γ hxm];exact hu,?_,?_⟩,λz h1 h2=>⟨hl' z,by rw [hr',Γ h1],by rw [hu',Γ (λe=>h2 (by rw [e];exact r1))]⟩⟩
 ·rw [hl'];exact hl.frame (λz hz=>⟨hl' z,by rw [hr',Γ (λe=>hn.1.1 (by rw [←e];exact hz))],by rw [hu',Γ (λe=>hn.2.2.2 z hz _ r1 e)]⟩)
 ·rw [hr',Δ rfl];exact hm.J2 (p':=(x:Int)) hn.2.2.1 (λz hz=>⟨hl' z,by rw [hr',Γ (λe=>hn.1.2 (by rw [←e];exact hz))],λIY=>by rw [hu',Γ IY]⟩) (λ_=>by rw [hu',Δ rfl])
structure Down (up:Nat->BT->BT->BT) (A:NS) (S0:TS) (ta tb:BT) (S:TS) (W:List (Nat×BT)) (a b:BT):Prop where
 Yc:bY S (-1) a.root a
 YV:bY S (-1) b.root b
 way:∀p,p∈W->bY S (-1) (p.1:Int) (.node p.1 p.2 .nil)
 far:∀y,y∉ta.nodes++tb.nodes->S0.at S y
 perm:(rO W++(a.nodes++b.nodes)).Perm (ta.nodes++tb.nodes)
 res:aC up A ta tb=(rX up W (aC up A a b).1,W.length+(aC up A a b).2)
theorem Down.start (up:Nat->BT->BT->BT) (A:NS) {S0:TS} {ta tb:BT} (ha:bY S0 (-1) ta.root ta) (hb:bY S0 (-1) tb.root tb):Down up A S0 ta tb S0 [] ta tb:=
 ⟨ha,hb,λp hp=>(by cases hp),λy _=>⟨rfl,rfl,rfl⟩,by simp [rO],by simp [rX]⟩
theorem nE (W:List (Nat×BT)) (x:Nat) (l:BT):rO (W++[(x,l)])=rO W++(x::l.nodes):=by unfold rO;simp
theorem Bz {W:List (Nat×BT)} {p:Nat×BT} (hp:p∈W):p.1∈rO W/\∀y,y∈p.2.nodes->y∈rO W:=by
 unfold rO;exact ⟨List.mem_flatMap.2 ⟨p,hp,σ⟩,λy hy=>List.mem_flatMap.2 ⟨p,hp,by simp [hy]⟩⟩
theorem Down.take {up:Nat->BT->BT->BT} {A:NS} {S0 S:TS} {ta tb b l r:BT} {x:Nat} {W:List (Nat×BT)} (hX:(ta.nodes++tb.nodes).Nodup)
  (h1:bY S (-1) (x:Int) (.node x l r)) (h2:bY S (-1) b.root b) (h3:∀p,p∈W->bY S (-1) (p.1:Int) (.node p.1 p.2 .nil)) (h4:∀y,y∉ta.nodes++tb.nodes->S0.at S y)
  (h5:(rO W++((BT.node x l r).nodes++b.nodes)).Perm (ta.nodes++tb.nodes)) (h6:aC up A ta tb=(rX up W (up x l (aC up A r b).1),W.length+((aC up A r b).2+1))) :
  Down up A S0 ta tb (yR S x r) (W++[(x,l)]) r b:=by
 have hnd:=h5.nodup_iff.2 hX;rw [θ] at hnd;obtain ⟨n1,n2,n3⟩:=hnd;rw [θ] at n2;obtain ⟨n4,n5,n6⟩:=n2;obtain ⟨c1,c2,c3⟩:=Jt h1 n4;have hout:∀y,y∉ta.nodes++tb.nodes->y≠x/\y∉r.nodes:=λy hy=>
  ⟨λe=>hy (h5.mem_iff.1 (by rw [e];simp [BT.nodes])),λhm=>hy (h5.mem_iff.1 (by simp [BT.nodes,hm]))⟩
 refine ⟨c2,h2.frame (λy hy=>c3 y (λe=>n6 x (by simp [BT.nodes]) y hy e.symm) (λhm=>n6 y (by simp [BT.nodes,hm]) y hy rfl)),λp hp=>?_,λy hy=>?_,?_,?_⟩
 ·rcases τ.1 hp with hp|hp
  ·have hw:=Bz hp;refine (h3 p hp).frame (λy hy=>?_);have Ww:y∈rO W:=by
    simp only [BT.nodes,Υ,ρ] at hy;rcases hy with rfl|hy
    ·exact hw.1
    ·exact hw.2 y hy
   exact c3 y (λe=>n3 y Ww x (by simp [BT.nodes]) e) (λhm=>n3 y Ww y (by simp [BT.nodes,hm]) rfl)
  ·simp only [ϒ] at hp;subst hp;exact c1
 ·obtain ⟨k1,k2⟩:=hout y hy;have a1:=h4 y hy;have a2:=c3 y k1 k2;exact ⟨a2.1.trans a1.1,a2.2.1.trans a1.2.1,a2.2.2.trans a1.2.2⟩
 ·rw [nE];refine ϝ ?_ h5;simp only [BT.nodes,ϋ,List.cons_append];exact ό _
 ·rw [h6,yh];simp only [υ,Ω,List.length_nil];exact Prod.ext rfl (by simp only;omega)
theorem Down.takeA {up:Nat->BT->BT->BT} {A:NS} {S0 S:TS} {ta tb l r l' r':BT} {x y:Nat} {W:List (Nat×BT)} (h:Down up A S0 ta tb S W (.node x l r) (.node y l' r')) (hX:(ta.nodes++tb.nodes).Nodup) (hlt:¬dO A y x) :
  Down up A S0 ta tb (yR S x r) (W++[(x,l)]) r (.node y l' r'):=by
 refine Down.take hX h.Yc h.YV h.way h.far h.perm ?_;rw [h.res,mM,Γ hlt]
theorem Down.takeB {up:Nat->BT->BT->BT} {A:NS} {S0 S:TS} {ta tb l r l' r':BT} {x y:Nat} {W:List (Nat×BT)} (h:Down up A S0 ta tb S W (.node x l r) (.node y l' r')) (hX:(ta.nodes++tb.nodes).Nodup) (hlt:dO A y x) :
  Down up A S0 ta tb (yR S y r') (W++[(y,l')]) r' (.node x l r):=by
 refine Down.take hX h.YV h.Yc h.way h.far ?_ ?_
 ·refine ϝ ?_ h.perm;exact List.Perm.append_left _ Φ
 ·rw [h.res,mM,Δ hlt]
structure Rv (up:Nat->BT->BT->BT) (S0:TS) (X:List Nat) (t:BT) (S:TS) (W:List (Nat×BT)) (m:BT):Prop where
 ZE:bY S (-1) m.root m
 way:∀p,p∈W->bY S (-1) (p.1:Int) (.node p.1 p.2 .nil)
 far:∀y,y∉X->S0.at S y
 perm:(rO W++m.nodes).Perm X
 res:t=rX up W m
theorem Down.turn {up:Nat->BT->BT->BT} {A:NS} {S0 S:TS} {ta tb a b:BT} {W:List (Nat×BT)} (h:Down up A S0 ta tb S W a b) (he:a=.nil\/b=.nil) :
  ∃m,m.root=(if a.root=-1 then b.root else a.root)/\Rv up S0 (ta.nodes++tb.nodes) (aC up A ta tb).1 S W m/\(aC up A ta tb).2=W.length/\(m=a\/m=b):=by
 rcases he with rfl|rfl
 ·refine ⟨b,by simp [BT.root],⟨h.YV,h.way,h.far,by simpa [BT.nodes] using h.perm,by rw [h.res,jU]⟩,by rw [h.res,jU];simp,Β rfl⟩
 ·refine ⟨a,?_,⟨h.Yc,h.way,h.far,by simpa [BT.nodes] using h.perm,by rw [h.res,mO]⟩,by rw [h.res,mO];simp,Α rfl⟩
  split
  ·rename_i e;rw [e];rfl
  ·rfl
theorem Rv.turn {up:Nat->BT->BT->BT} {S0 S2 S3:TS} {X:List Nat} {t m l:BT} {x:Nat} {W:List (Nat×BT)} (U:Rv up S0 X t S2 (W++[(x,l)]) m) (K:OI up) (hX:X.Nodup)
  (hT:bY S3 (-1) x (up x l m)) (Bo:∀y,y≠x->y∉l.nodes->y∉m.nodes->S2.at S3 y):Rv up S0 X t S3 W (up x l m):=by
 have hp:=U.perm;rw [nE,ϋ] at hp;have hnd:=hp.nodup_iff.2 hX;rw [θ] at hnd;obtain ⟨n1,n2,n3⟩:=hnd;refine ⟨by rw [K.root];exact hT,λp hpW=>?_,λy hy=>?_,?_,by rw [U.res,yh]⟩
 ·have hw:=Bz hpW;refine (U.way p (List.mem_append_left _ hpW)).frame (λy hy=>?_);have Ww:y∈rO W:=by
   simp only [BT.nodes,Υ,ρ] at hy;rcases hy with rfl|hy
   ·exact hw.1
   ·exact hw.2 y hy
  exact Bo y (λe=>n3 y Ww x σ e) (λhm=>n3 y Ww y (by simp [hm]) rfl) (λhm=>n3 y Ww y (by simp [hm]) rfl)
 ·have h1:=U.far y hy;have h2:=Bo y (λe=>hy (hp.mem_iff.1 (by rw [e];simp))) (λhm=>hy (hp.mem_iff.1 (by simp [hm]))) (λhm=>hy (hp.mem_iff.1 (by simp [hm])));exact ⟨h2.1.trans h1.1,h2.2.1.trans h1.2.1,h2.2.2.trans h1.2.2⟩
 ·refine ϝ (List.Perm.append_left _ (K.nodes x l m)) ?_;simpa using hp
theorem Rv.len {up:Nat->BT->BT->BT} {S0 S:TS} {X:List Nat} {t m:BT} {W:List (Nat×BT)} (U:Rv up S0 X t S W m):W.length<=X.length:=by
 have:=U.perm.length_eq;rw [υ] at this;have h2:W.length<=(rO W).length:=by
  clear this U
  induction W with
  | nil=>simp
  | cons p t ih=>unfold rO at *;simp only [List.flatMap_cons,υ,Ω];omega
 omega
theorem Down.len {up:Nat->BT->BT->BT} {A:NS} {S0 S:TS} {ta tb a b:BT} {W:List (Nat×BT)} (U:Down up A S0 ta tb S W a b):W.length+a.nodes.length+b.nodes.length<=(ta.nodes++tb.nodes).length:=by
 have:=U.perm.length_eq;rw [υ,υ] at this;have h2:W.length<=(rO W).length:=by
  clear this U
  induction W with
  | nil=>simp
  | cons p t ih=>unfold rO at *;simp only [List.flatMap_cons,υ,Ω];omega
 omega
theorem Al {S0 S2:TS} {X:List Nat} {t m l:BT} {x:Nat} {W:List (Nat×BT)} {yV MP:Nat->Nat} {up:Nat->BT->BT->BT} (U:Rv up S0 X t S2 (W++[(x,l)]) m) (hX:X.Nodup)
  (hk:∀y,y≠x->MP y=yV y) (hr:∀p,p∈W->fE yV p.2):∀p,p∈W->fE MP p.2:=λp hp=>by
 have hpx:=U.perm;rw [nE,ϋ] at hpx;have hnd:=hpx.nodup_iff.2 hX;rw [θ] at hnd;exact (hr p hp).frame (λy hy=>hk y (λe=>hnd.2.2 y ((Bz hp).2 y hy) x σ e))
section
variable {w:World} {B:LB} {F:List Nat} {gt ct:Nat} {A:NS} {st:Nat} {S:TS} {rk:Nat->Nat} {ag:List Int}
theorem KV (h:jI w B F gt ct A st S rk ag) {p:Int} {x:Nat} {l r:BT} (hT:bY S p x (.node x l r)) (hx:x<A.cs.length) (hr:∀y,y∈r.nodes->y<A.cs.length) :
  Calls Tryz.prog 234 #[.pointer (some ⟨B.bt,0,none⟩),.int .i64 r.root] w λe w'=>(∃v,e=.returned v)/\jI w' B F gt ct A st (yR S x r) rk ag/\aa [B.ba] w w':=by
 cases r with
 | nil=>
  refine (Nh B.bt B.ba A.cs.length S (-1) w h.trees (by unfold oD;simp)).mono ?_;rintro e w' ⟨rfl,rfl⟩;exact ⟨⟨_,rfl⟩,h,aa.refl _ _⟩
 | node y a b=>
  obtain ⟨_,_,_,hr'⟩:=hT;have e1:S.r x=y:=hr'.1;have e2:S.u y=x:=hr'.2.1;refine (Bc B.bt B.ba A.cs.length S x y w h.trees hx (hr y (by simp [BT.nodes])) e2).mono ?_;rintro e w' ⟨rfl,hT,hu⟩;exact ⟨⟨_,rfl⟩,h.gY hu hT,hu⟩
theorem G7 (h:jI w B F gt ct A st S rk ag) {p:Int} {x:Nat} {l r:BT} (hT:bY S p x (.node x l r)) (hx:x<A.cs.length) :
  Calls Tryz.prog 239 #[.pointer (some ⟨B.bt,0,none⟩),.int .i64 (x:Int)] w λe w'=>e=.returned (.tuple #[.int .i64 (tv r.root),.bool (tb r.root)])/\aa [] w w':=by
 have e:fP A.cs.length S (x:Int) true=r.root:=by
  unfold fP TS.kid;rw [Δ ω];simp only [if_true,π];exact hT.2.2.2.root
 refine (nZ B.bt B.ba A.cs.length S (x:Int) w h.trees).mono ?_;rw [e];rintro e w' ⟨rfl,k,rfl⟩;exact ⟨rfl,(aa.refl _ _).drewN k⟩
def Hl (W:List (Nat×BT)):List Value:=aT (W.map λp=>(p.1:Int))
theorem zZ (W:List (Nat×BT)) (x:Nat) (l:BT):Hl (W++[(x,l)])=Hl W++[.int .i64 (x:Int)]:=by unfold Hl aT;simp
theorem sF (h:jI w B F gt ct A st S rk ag) {ta tb:BT} (ha:bY S (-1) ta.root ta) (hb:bY S (-1) tb.root tb) (hX:(ta.nodes++tb.nodes).Nodup) (hin:∀y,y∈ta.nodes++tb.nodes->bR A (y:Int)=true) (ra:fE rk ta) (rb:fE rk tb) :
  Calls Tryz.prog 236 #[.pointer (some ⟨B.n0,0,none⟩),.int .i64 ta.root,.int .i64 tb.root] w λe w'=>e=.returned (.int .i64 (aC aj A ta tb).1.root)/\aa [B.c,B.ba,B.br] w w'/\
   ∃S' nz,jI w' B F gt ct A (bS st (aC aj A ta tb).2) S' nz ag/\bY S' (-1) (aC aj A ta tb).1.root (aC aj A ta tb).1/\fE nz (aC aj A ta tb).1/\∀y,y∉ta.nodes++tb.nodes->S.at S' y/\nz y=rk y:=by
 have hblk:=h.lt;have om:=h.cF;have hbl0:=hblk B.n0 (by simp [LB.blk]);have hbl1:=hblk B.bt (by simp [LB.blk]);have hbl2:=hblk B.ba (by simp [LB.blk]);have hbl3:=hblk B.br (by simp [LB.blk]);have hbl4:=hblk B.c (by simp [LB.blk,om]);have hs:=χ h.sep;have hA:=h.cells.ok.c1;have hlt:Hid (∀y,y∈ta.nodes++tb.nodes->y<A.cs.length):=λy hy=>((ay A y).1 (hin y hy)).1;have hXl:(ta.nodes++tb.nodes).length<=A.cs.length:=lu hX hlt.out;have Ux:=χ h;have HBL:=χ hblk;have D0:=χ (Down.start aj A ha hb);have KU:=χ hin;have HX:=χ hX;have RA:=χ (ψ ra rb);have hst:=h.cells.mH;clear h ha hb hblk om hin hX ra rb
 go_enter Tryz.func236,Tryz.ntmps236
 go_wp2
 go_loopw [1,2,7] (λa b way wr=>∃ (S1:TS) (W:List (Nat×BT)) (a1 b1:BT),a=.int .i64 a1.root/\b=.int .i64 b1.root/\wr.ownsRow w.heap.size 3 1 way W.length (Hl W)/\jI wr B F gt ct A (bS st W.length) S1 rk ag/\Down aj A S ta tb S1 W a1 b1/\fE rk a1/\fE rk b1/\(∀p,p∈W->fE rk p.2)/\aa [B.c,B.ba] w wr) (λ_ _ way _=>(ta.nodes++tb.nodes).length-lenOf way)
 case atStart=>
  exact ⟨S,[],ta,tb,rfl,rfl,⟨by simp [Hl,aT],Α ⟨rfl,rfl⟩⟩,by rw [List.length_nil,fB hst];exact Ux.out.ai β,D0.out,RA.out.1,RA.out.2,(λp hp=>by cases hp),β⟩
 case round=>
  obtain ⟨S1,W,a1,b1,rfl,rfl,ho,hM,hD,r1,r2,r3,hu⟩:=hrel;have HM:=χ hM;have HD:=χ hD;have HR:=χ (ψ r1 (ψ r2 r3));have HO:=χ ho;have hlen:=hD.len;have h0:=hM.h0;have h1:=hM.h1;clear hM hD r1 r2 r3;obtain ⟨a5,c5,rfl,Zw⟩:=bz ho;have CO:∀g,(Value.slice a5 W.length c5).ownBlock=some g->w.heap.size<=g:=λg hg=>(ho.lt g hg).1;have Rw:=χ CO;clear ho CO
  by_cases hne:a1=.nil\/b1=.nil
  ·obtain ⟨m0,e0,U0,hcnt,hor⟩:=HD.out.turn hne;have hm0:fE rk m0:=by rcases hor with rfl|rfl;exact HR.out.1;exact HR.out.2.1
   have hz:a1.root=-1\/(a1.root≠-1/\b1.root=-1):=by
    rcases hne with rfl|rfl
    ·exact Α rfl
    ·by_cases e:a1.root=-1
     ·exact Α e
     ·exact Β ⟨e,rfl⟩
   have HU:=χ (ψ U0 (ψ hm0 (ψ hcnt HR.out.2.2)));have hWl:=U0.len;have HUP:=χ hu;rw [←hcnt] at HM;clear hne hor U0 hm0 HR HD hcnt hu hlen h0;generalize a1.root=za at *;generalize b1.root=zb at *;have HEX:Hid (∃W2 U2:List (Nat×BT),W=W2++U2):=⟨W,[],σ⟩;have e9:∃z9,m0.root=z9:=⟨_,rfl⟩;obtain ⟨z9,e9⟩:=e9;rw [e9] at e0;generalize hn0:W.length=n0 at *;have Ra:=χ hn0;clear hn0;rcases hz with rfl|⟨hz1,rfl⟩
   all_goals
    first|rw [Δ rfl] at e0|rw [Γ hz1] at e0
    subst e0
    try (have hz2:(z9 != -1)=true:=by simpa using hz1)
    try (have hz3:(z9 == -1)=false:=by simpa using hz1)
    go_wp2
    go_loopw [9,10] (λtop i w5=>∃ (S2:TS) (W2 U2:List (Nat×BT)) (m:BT) (yV:Nat->Nat),W=W2++U2/\top=.int .i64 m.root/\i=.int .i64 ((W2.length:Int)-1)/\jI w5 B F gt ct A (bS st (aC aj A ta tb).2) S2 yV ag/\Rv aj S (ta.nodes++tb.nodes) (aC aj A ta tb).1 S2 W2 m/\fE yV m/\(∀p,p∈W2->fE yV p.2)/\(∀y,y∉ta.nodes++tb.nodes->yV y=rk y)/\aa [B.ba,B.br] wr w5) (λ_ i _=>(intOf i+1).toNat)
    case atStart=>exact ⟨S1,W,[],m0,rk,σ,by rw [e9],by rw [Ra.out],HM.out,HU.out.1,HU.out.2.1,HU.out.2.2.2,λ_ _=>rfl,aa.refl _ _⟩
    case round=>
     obtain ⟨S2,W2,U2,m,yV,rfl,rfl,rfl,hM,hU,r1,r2,r3,hu⟩:=hrel;rename World=>w5;rcases List.eq_nil_or_concat W2 with rfl|⟨W3,⟨x,l⟩,rfl⟩
     ·have e0:=hU.res;simp only [rX] at e0;simp only [List.length_nil];go_wp2;go_ret;rw [e0];exact ⟨rfl,(HUP.out.mono σ).trans (hu.mono σ),S2,yV,hM,hU.ZE,r1,λy hy=>⟨hU.far y hy,r3 y hy⟩⟩
     ·have hpx:=hU.perm;simp only [List.concat_eq_append] at *;rw [nE,ϋ] at hpx;have yY:∀q,q∈(x::l.nodes)++m.nodes->q<A.cs.length:=λq hq=>hlt.out q (hpx.mem_iff.1 (List.mem_append_right _ hq));have hnd:((x::l.nodes)++m.nodes).Nodup:=(θ.1 (hpx.nodup_iff.2 HX.out)).2.1;have XK:=yY x σ;obtain ⟨g,cap,ee,hI,hg⟩:=IZ.iO (l:=(W3++[(x,l)]++U2).map λp=>(p.1:Int)) (by rw [List.length_map,Ra.out];exact au HO.out hu (λk hk=>by have:=Rw.out k hk;simp;omega)) ζ;rw [List.length_map,Ra.out] at ee
      injection ee with ee1 ee2 ee3
      subst ee1 ee3;have dz:=hI.cell W3.length σ;rw [show (((W3++[(x,l)]++U2).map λp=>(p.1:Int)).getD W3.length 0)=(x:Int) by simp [φ]] at dz;have h0:=hM.h0;have h1:=hM.h1;have tC:=χ hM;have Lj:=χ hU;have Tp:=χ (ψ r1 (ψ r2 r3));have Fh:=χ (ψ yY hnd);have hTx:=hU.way (x,l) σ;have UC:=χ hTx;have HPX:=χ hpx;have hil:((W3++[(x,l)]).length:Int)-1=W3.length:=σ;rw [hil];have hi0:((W3.length:Int)≥0):=ω;have hWn:W3.length+1+U2.length=n0:=by have:=Ra.out;simp at this;omega
      have hW3:W3.length<=65536:=ω;clear hM hU r1 r2 r3 yY hnd hTx hpx hil hI ee2
      by_cases hm:m=.nil
      ·subst hm;simp only [BT.root]
       go_wp2_with fail
       have rM:bY S2 (-1) x (.node x l .nil):=UC.out;refine (pE tC.out rM (Tp.out.2.1 (x,l) σ) Tp.out.1 (by simpa [BT.nodes] using Fh.out.2) (λq hq=>Fh.out.1 q (by simpa [BT.nodes] using hq))).mono ?_;rintro e w7 ⟨rfl,ny,S3,MP,E9,PQ,Qk,hs7,_,SA⟩;have Vu:=χ E9;have wY:=χ (ψ PQ (ψ Qk (ψ hs7 SA)));have TP:=χ (hu.trans ny);clear E9 PQ Qk hs7 SA hu ny UC h0 h1 dz;go_wp2
       go_roundw
       case rel=>
        refine ⟨S3,W3,(x,l)::U2,aj x l .nil,MP,σ,congrArg (Value.int .i64) (iK x l .nil).symm,by go_num,Vu.out,Lj.out.turn lL HX.out wY.out.1 (λy h1 _ _=>wY.out.2.2.1 y h1),wY.out.2.1,?_,?_,TP.out⟩
        ·exact Al Lj.out HX.out wY.out.2.2.2 (λp hp=>Tp.out.2.1 p (List.mem_append_left _ hp))
        ·exact λy hy=>(wY.out.2.2.2 y (λe=>hy (by rw [e];exact HPX.out.mem_iff.1 σ))).trans (Tp.out.2.2 y hy)
       case measure=>simp [intOf]
      ·obtain ⟨mr,hmr⟩:∃mr:Nat,m.root=mr:=⟨_,BT.vK hm⟩;have hmm:=(bL hm).1;rw [hmr,π] at hmm;have rM:bY S2 (-1) x (.node x l .nil):=UC.out;have Va:=Lj.out.ZE;have hur:S2.u mr=-1:=by
        cases m with
        | nil=>exact absurd rfl hm
        | node q a b=>
         have e:q=mr:=by have e':(q:Int)=mr:=hmr;omega
         subst e;exact Va.2.1
       have hnd:=Fh.out.2;have hxm:x≠mr:=λe=>by
        rw [θ] at hnd;exact hnd.2.2 x σ mr hmm e
       obtain ⟨D8,PU⟩:=zW (m:=m) rM Va hm (by simpa [BT.nodes] using hnd);rw [hmr] at D8 PU;have HT3:=χ (ψ D8 (ψ hm PU));have kh:=λW (hW:aa [] w5 W)=>yl B.bt B.ba A.cs.length S2 x mr true W ((tC.out.ai hW).trees) XK (Fh.out.1 mr (List.mem_append_right _ hmm)) hxm hur rM.2.2.2;have HMR:=χ hmr;rw [hmr];have hz4:((mr:Int) != -1)=true:=σ;have rr1:∀W,aa [B.ba] w5 W->W.cell? ⟨B.n0,1,none⟩=some (.pointer (some ⟨B.bt,0,none⟩)):=λW hW=>hW.kept h1 (by have:=hs.out;simp;omega);have rr2:∀W,aa [B.ba] w5 W->W.cell? ⟨g,W3.length,none⟩=some (.int .i64 (x:Int)):=λW hW=>hW.kept dz ζ
       clear rM Va hur hnd D8 PU hm hmr h0 h1 dz hmm
       go_wp2_with fail
       have zi:(0:Int)<=(W3.length:Int):=ω;have Bd:(W3.length:Int)<(n0:Int):=ω
       go_region_held3 (aa [B.ba] w5) (exact ν)
        ((go_at_call 241;(with_reducible refine (kh _ β).mono ?_);rintro e w6 ⟨rfl,Lc,jy⟩;(have R9:aa [B.ba] w5 w6:=ν)))
       have dz6:=rr2 w6 R9;have uG:=χ (tC.out.gY R9 Lc);clear rr1 rr2 kh jy Lc
       go_wp2_with fail
       refine (pE uG.out HT3.out.1 (Tp.out.2.1 (x,l) σ) Tp.out.1 (by simpa [BT.nodes] using Fh.out.2) (λq hq=>Fh.out.1 q (by simpa [BT.nodes] using hq))).mono ?_;rintro e w7 ⟨rfl,ny,S3,MP,E9,PQ,Qk,hs7,_,SA⟩;have Vu:=χ E9;have wY:=χ (ψ PQ (ψ Qk (ψ hs7 SA)));have TP:=χ (hu.trans ((R9.mono σ).trans ny));clear E9 PQ Qk hs7 SA hu ny UC dz6 R9;go_wp2
       go_roundw
       case rel=>
        refine ⟨S3,W3,(x,l)::U2,aj x l m,MP,σ,by rw [iK],by go_num,Vu.out,Lj.out.turn lL HX.out wY.out.1 (λy h1 _ h3=>?_),wY.out.2.1,?_,?_,TP.out⟩
        ·have a1:=HT3.out.2.2 y h1 h3;have a2:=wY.out.2.2.1 y h1;exact ⟨a2.1.trans a1.1,a2.2.1.trans a1.2.1,a2.2.2.trans a1.2.2⟩
        ·exact Al Lj.out HX.out wY.out.2.2.2 (λp hp=>Tp.out.2.1 p (List.mem_append_left _ hp))
        ·exact λy hy=>(wY.out.2.2.2 y (λe=>hy (by rw [e];exact HPX.out.mem_iff.1 σ))).trans (Tp.out.2.2 y hy)
       case measure=>simp [intOf]
  ·obtain ⟨x,l,r,rfl⟩:∃x l r,a1=.node x l r:=by
    cases a1 with
    | nil=>exact absurd (Α rfl) hne
    | node x l r=>exact ⟨x,l,r,rfl⟩
   obtain ⟨y,l',r',rfl⟩:∃x l r,b1=.node x l r:=by
    cases b1 with
    | nil=>exact absurd (Β rfl) hne
    | node x l r=>exact ⟨x,l,r,rfl⟩
   clear hne;have hmx:∀z,z∈(BT.node x l r).nodes++(BT.node y l' r').nodes->z∈ta.nodes++tb.nodes:=λz hz=>HD.out.perm.mem_iff.1 (List.mem_append_right _ hz);have hxm:=hmx x (by simp [BT.nodes]);have hym:=hmx y (by simp [BT.nodes]);have hWl:W.length+2<=(ta.nodes++tb.nodes).length:=by simp only [BT.nodes,Ω,υ] at hlen ⊢;omega
   have WR:=χ hmx;have hxb:((x:Int) != -1)=true:=σ;have hyb:((y:Int) != -1)=true:=σ;clear hmx hlen;have kA:=gW HM.out.cells y x (KU.out y hym) (KU.out x hxm);obtain ⟨sw,hsw⟩:∃sw,decide (dO A y x)=sw:=⟨_,rfl⟩;rw [hsw] at kA;have KEY:∃ (z:Nat) (lz rz o:BT),z=(if sw then y else x)/\Down aj A S ta tb (yR S1 z rz) (W++[(z,lz)]) rz o/\bY S1 (-1) z (.node z lz rz)/\fE rk lz/\fE rk rz/\fE rk o/\z<A.cs.length/\(∀q,q∈rz.nodes->q<A.cs.length)/\o.root=(if sw then (x:Int) else (y:Int)):=by
    cases sw with
    | true=>
     exact ⟨y,l',r',.node x l r,rfl,HD.out.takeB HX.out (Ϡ hsw),HD.out.YV,HR.out.2.1.2.1,HR.out.2.1.2.2,HR.out.1,hlt.out y hym,λq hq=>hlt.out q (WR.out q (by simp [BT.nodes,hq])),rfl⟩
    | false=>
     exact ⟨x,l,r,.node y l' r',rfl,HD.out.takeA HX.out (of_decide_eq_false hsw),HD.out.Yc,HR.out.1.2.1,HR.out.1.2.2,HR.out.2.1,hlt.out x hxm,λq hq=>hlt.out q (WR.out q (by simp [BT.nodes,hq])),rfl⟩
   obtain ⟨z,lz,rz,o,ez,hD2,Yl,q1,q2,q3,hz,hrz,eo⟩:=KEY;have HD2:=χ hD2;have HT:=χ Yl;have HQ:=χ (ψ q1 (ψ q2 (ψ q3 hrz)));clear hD2 Yl q1 q2 q3 hrz hsw;simp only [BT.root];cases sw
   all_goals
    simp only [if_true,if_false,ϟ] at ez eo;subst ez
    go_wp2_with fail
    refine kA.mono ?_;rintro e w1 ⟨rfl,gK,hu1⟩;have hM1:=χ (HM.out.dV (hu1.mono (by simp [HM.out.cF])) gK (λx hx=>Α hx) rfl rfl);have hss:bS (bS st W.length) 1=bS st (W.length+1):=iV _ _ _;rw [hss] at hM1;have ho1:=au HO.out hu1 (λk hk=>by have:=Rw.out k hk;simp;omega);have h01:=hM1.out.h0;have h11:=hM1.out.h1;clear h0 h1 kA hss;have QM:=χ (ψ hu hu1);clear hu hu1 gK;have HGB:Hid (∀g,g∈(Value.slice a5 W.length c5).ownBlock.toList->g∉B.blk F gt):=λg hg hb=>by
     have h1:=Rw.out g (Option.mem_toList.1 hg);have h2:=HBL.out g hb;omega
    have hsz1:w.heap.size<=w1.heap.size:=(QM.out.1.trans (QM.out.2.mono σ)).size
    go_wp2_with (first
     | ((at_builtin;refine aW rfl _ _ 77 rfl w.heap.size 3 (.int .i64 0) 1 8 Tryz.underlying77 fF rfl δ _ _ _ rfl (ho1) [.int .i64 (z:Int)] rfl (by simp [Value.oneCell']) (by first|rfl|(rw [Κ];rfl)) μ ω (ω) ?_;intro v2 w2 ho2 hu2 kZ);(have hM2:=χ (hM1.out.upd hu2 HGB.out));(have k12:=hM2.out.h1);(have kr:=G7 hM2.out HT.out hz))
     | (go_at_call 239;(with_reducible refine (kr).mono ?_);rintro e w3 ⟨rfl,hu3⟩;(have k13:=hu3.was k12);(have lq:=χ (hM2.out.ai hu3));(have kc:=KV lq.out HT.out hz HQ.out.2.2.2))
     | (go_at_call 237;(with_reducible refine (lQ _ _).mono ?_);rintro e w9 ⟨rfl,aH⟩;rw [aH];clear aH w9)
     | (go_at_call 234;(with_reducible refine (kc).mono ?_);rintro e w4 ⟨⟨v4,rfl⟩,xg,jJ⟩)
     | fail)
    obtain ⟨a6,c6,rfl,hc6⟩:=bz ho2;have Vr:∀k,(Value.slice a6 (W.length+1) c6).ownBlock=some k->w.heap.size<=k:=λk hk=>(ho2.lt k hk).1;refine ⟨⟨_,W++[(z,lz)],rz,o,rfl,congrArg (Value.int .i64) eo.symm,?_,?_,HD2.out,HQ.out.2.1,HQ.out.2.2.1,?_,?_⟩,?_⟩
    ·rw [zZ,υ,List.length_singleton];exact au (au ho2 hu3 σ) jJ (λk hk=>by have:=Vr k hk;simp;omega)
    ·rw [υ,List.length_singleton];exact xg
    ·intro p hp;rcases τ.1 hp with hp|hp
     ·exact HR.out.2.2 p hp
     ·simp only [ϒ] at hp;subst hp;exact HQ.out.1
    ·have v1:aa [B.c,B.ba] w w1:=QM.out.1.trans (QM.out.2.mono σ);have v2:aa [B.c,B.ba] w w2:=v1.joined hu2 (λg hg=>Β (Rw.out g (Option.mem_toList.1 hg)));exact (v2.trans (hu3.mono σ)).trans (jJ.mono σ)
    ·show (ta.nodes++tb.nodes).length-(W.length+1)<(ta.nodes++tb.nodes).length-W.length
     omega
end
structure wo (S0:TS) (JC:Nat->Nat) (T:BT) (X:List Nat) (S:TS) (rk:Nat->Nat) (P:List Fr) (was x:Nat) (l r:BT):Prop where
 zP:bY S (-1) (ak P (.node x l r)).root (ak P (.node x l r))
 perm:(ak P (.node x l r)).nodes.Perm X
 rl:fE rk l
 rr:fE rk r
 rx:rk x=was
 rP:OJ rk P was
 far:∀y,y∉X->S0.at S y/\rk y=JC y
 res:jh P was x l r=T
structure qJ (S0:TS) (JC:Nat->Nat) (T:BT) (X:List Nat) (S:TS) (rk:Nat->Nat):Prop where
 zP:bY S (-1) T.root T
 isR:fE rk T
 far:∀y,y∉X->S0.at S y/\rk y=JC y
section
variable {S0 S S2:TS} {JC rk yV:Nat->Nat} {T:BT} {X:List Nat} {P:List Fr} {was x:Nat} {l r:BT}
theorem wo.parts (h:wo S0 JC T X S rk P was x l r) (hX:X.Nodup):x∈X/\(BT.node x l r).nodes.Nodup/\(∀y,y∈(BT.node x l r).nodes->y∈X)/\(∀y,y∈dC P->y≠x/\y∈X)/\(dC P).Nodup:=by
 have hp:=(aX P (.node x l r)).symm.trans h.perm;have hn:=hp.nodup_iff.2 hX;rw [θ] at hn;refine ⟨hp.mem_iff.1 (by simp [BT.nodes]),hn.1,λy hy=>hp.mem_iff.1 (List.mem_append_left _ hy),λy hy=>⟨λe=>hn.2.2 x (by simp [BT.nodes]) y hy e.symm,hp.mem_iff.1 (List.mem_append_right _ hy)⟩,hn.2.1⟩
theorem wo.settled (h:wo S0 JC T X S rk P was x l r) (hX:X.Nodup) (rM:bY S2 (zK P) x (aj x l r)) (hs:∀y,y≠x->S.at S2 y) (hk:∀y,y≠x->yV y=rk y) :
  bY S2 (-1) (ak P (aj x l r)).root (ak P (aj x l r))/\OJ yV P was/\(∀y,y∉X->S0.at S2 y/\yV y=JC y)/\(ak P (aj x l r)).nodes.Perm X:=by
 obtain ⟨p1,p2,p3,p4,p5⟩:=h.parts hX;refine ⟨(dE _ _).2 ⟨by rw [iK];exact rM,?_⟩,h.rP.frame (λy hy=>hk y (p4 y hy).1),λy hy=>?_,?_⟩
 ·have:=((dE _ _).1 h.zP).2;rw [iK];exact this.frame (λy hy=>hs y (p4 y hy).1)
 ·have hne:y≠x:=λe=>hy (by rw [e];exact p1);have a1:=h.far y hy;have a2:=hs y hne;exact ⟨⟨a2.1.trans a1.1.1,a2.2.1.trans a1.1.2.1,a2.2.2.trans a1.1.2.2⟩,(hk y hne).trans a1.2⟩
 ·exact (aX P _).trans (((jE x l r).append_right _).trans ((aX P (.node x l r)).symm.trans h.perm))
theorem wo.stay (h:wo S0 JC T X S rk P was x l r) (hX:X.Nodup) (rM:bY S2 (zK P) x (aj x l r)) (hr2:fE yV (aj x l r)) (hs:∀y,y≠x->S.at S2 y) (hk:∀y,y≠x->yV y=rk y)
  (e:(aj x l r).rank=was):qJ S0 JC T X S2 yV:=by
 obtain ⟨a1,a2,a3,a4⟩:=h.settled hX rM hs hk;have hT:T=ak P (aj x l r):=by
  rw [←h.res];cases P with
  | nil=>rfl
  | cons f P=>unfold jh;rw [Δ e]
 rw [hT];exact ⟨a1,(Ce _ _).2 ⟨hr2,by rw [e];exact a2⟩,a3⟩
theorem wo.top (h:wo S0 JC T X S rk [] was x l r) (hX:X.Nodup) (rM:bY S2 (zK []) x (aj x l r)) (hr2:fE yV (aj x l r)) (hs:∀y,y≠x->S.at S2 y) (hk:∀y,y≠x->yV y=rk y) :
  qJ S0 JC T X S2 yV:=by
 obtain ⟨a1,a2,a3,a4⟩:=h.settled hX rM hs hk;have hT:T=ak [] (aj x l r):=by rw [←h.res];rfl
 rw [hT];exact ⟨a1,hr2,a3⟩
theorem wo.up {f:Fr} (h:wo S0 JC T X S rk (f::P) was x l r) (hX:X.Nodup) (rM:bY S2 (zK (f::P)) x (aj x l r)) (hr2:fE yV (aj x l r)) (hs:∀y,y≠x->S.at S2 y) (hk:∀y,y≠x->yV y=rk y)
  (e:(aj x l r).rank≠was):∃l' r',wo S0 JC T X S2 yV P (jD f was) f.1 l' r':=by
 obtain ⟨a1,a2,a3,a4⟩:=h.settled hX rM hs hk;have hres:=h.res;unfold jh at hres;rw [Γ e] at hres;unfold ak at a1 a4
 by_cases hsd:f.2.1=true
 ·rw [Δ hsd] at hres;have e1:bu f (aj x l r)=.node f.1 f.2.2 (aj x l r):=by unfold bu;rw [Δ hsd]
  rw [e1] at a1 a4;exact ⟨_,_,a1,a4,a2.1,hr2,a2.2.1,a2.2.2,a3,hres⟩
 ·rw [Γ hsd] at hres;have e1:bu f (aj x l r)=.node f.1 (aj x l r) f.2.2:=by unfold bu;rw [Γ hsd]
  rw [e1] at a1 a4;exact ⟨_,_,a1,a4,hr2,a2.1,a2.2.1,a2.2.2,a3,hres⟩
end
theorem IP:∀ {P:List Fr},(dC P).Nodup->(P.map (·.1)).Nodup/\∀y,y∈P.map (·.1)->y∈dC P
 | [],_=>⟨ϡ,λy hy=>by cases hy⟩
 | f::P,h=>by
  simp only [dC,Ζ,τ,not_or,θ] at h;obtain ⟨h1,h2⟩:=IP (P:=P) h.2.2.1;refine ⟨Ζ.2 ⟨λhm=>h.1.2 (h2 _ hm),h1⟩,λy hy=>?_⟩;simp only [List.map_cons,ρ] at hy;rcases hy with rfl|hy
  ·simp [dC]
  ·simp [dC,h2 y hy]
theorem FQ {L done rest:List Nat} {x:Nat} (hL:L.Nodup) (e:L=done++x::rest):L.idxOf x=done.length/\done.length<L.length:=by
 subst e;have hx:x∉done:=λhm=>by
  rw [θ] at hL;exact hL.2.2 x hm x σ rfl
 refine ⟨by rw [List.idxOf_append,Γ hx];simp,σ⟩
section
variable {w:World} {B:LB} {F:List Nat} {gt ct:Nat} {A:NS} {st:Nat} {S:TS} {rk:Nat->Nat} {ag:List Int}
theorem AX (h:jI w B F gt ct A st S rk ag) {P:List Fr} {was x:Nat} {l r:BT} (hM:wo S rk (jh P was x l r) (ak P (.node x l r)).nodes S rk P was x l r) (hX:(ak P (.node x l r)).nodes.Nodup)
  (hlt:∀y,y∈(ak P (.node x l r)).nodes->y<A.cs.length) :
  Calls Tryz.prog 235 #[.pointer (some ⟨B.n0,0,none⟩),.int .i64 (x:Int)] w λe w'=>e=.returned (.tuple #[])/\aa [B.ba,B.br] w w'/\
   ∃S' nz,jI w' B F gt ct A st S' nz ag/\qJ S rk (jh P was x l r) (ak P (.node x l r)).nodes S' nz:=by
 generalize hT:jh P was x l r=T at *;generalize hXX:(ak P (.node x l r)).nodes=X at *;have hL:(x::P.map (·.1)).Nodup:=by
  obtain ⟨p1,p2,p3,p4,p5⟩:=hM.parts hX;obtain ⟨q1,q2⟩:=IP p5;exact Ζ.2 ⟨λhm=>(p4 x (q2 x hm)).1 rfl,q1⟩
 generalize hLL:x::P.map (·.1)=L at *;have hblk:=h.lt;have om:=h.cF;have hs:=χ h.sep;have hA:=h.cells.ok.c1;have Ux:=χ h;have MM:=χ hM;have HX:=χ hX;have HL:=χ hL;have HLL:=χ hLL;have Tg:=χ hlt;clear h hM hX hL hlt hT hXX hblk hLL
 go_enter Tryz.func235,Tryz.ntmps235
 go_wp2
 go_loopw [1] (λa wr=>∃ (S1:TS) (YZ:Nat->Nat),jI wr B F gt ct A st S1 YZ ag/\aa [B.ba,B.br] w wr/\((∃ (P1:List Fr) (La x1:Nat) (l1 r1:BT) (dn:List Nat),a=.int .i64 (x1:Int)/\L=dn++x1::P1.map (·.1)/\wo S rk T X S1 YZ P1 La x1 l1 r1)\/(a=.int .i64 (-1)/\qJ S rk T X S1 YZ))) (λa _=>if intOf a=-1 then 0 else L.length-L.idxOf (intOf a).toNat)
 case atStart=>exact ⟨S,rk,Ux.out,aa.refl _ _,Α ⟨P,was,x,l,r,[],rfl,HLL.out.symm,MM.out⟩⟩
 case round=>
  obtain ⟨S1,YZ,hM,hu,hor⟩:=hrel;rename World=>w5;rcases hor with ⟨P1,La,x1,l1,r1,dn,rfl,hLe,hMe⟩|⟨rfl,hE⟩
  ·have hxb:((x1:Int) != -1)=true:=σ;obtain ⟨p1,p2,p3,p4,p5⟩:=hMe.parts HX.out;have hx1:=Tg.out x1 p1;have h0:=hM.h0;have h2:=hM.h2;have d0:=hM.ranks.cell x1 hx1;have ex:=hMe.rx;rw [ex] at d0;have hT1:=((dE _ _).1 hMe.zP).1;have ks:=pE hM (p:=zK P1) hT1 hMe.rl hMe.rr p2 (λy hy=>Tg.out y (p3 y hy));have ME:=χ hMe;have ZA:=χ hLe;have hu1:S1.u x1=zK P1:=hT1.2.1;have HPU:=χ hu1;clear hMe p1 p2 p3 p4 p5 hT1 hM ex hLe hu1
   go_wp2_with fail
   refine ks.mono ?_;rintro e w7 ⟨rfl,ny,S3,MP,E9,PQ,Qk,hs7,hsu,SA⟩;have e7:MP x1=(aj x1 l1 r1).rank:=by
    have:=Qk.root (by unfold aj;split<;>simp);rw [iK] at this;simpa using this
   have g2:=E9.h2;have g1:=E9.h1;have d7:=E9.ranks.cell x1 hx1;rw [e7] at d7;have Ym:S3.u x1=zK P1:=hsu.trans HPU.out;have ku:=NH B.bt B.ba A.cs.length S3 (x1:Int) w7 E9.trees;rw [show oD A.cs.length S3 (x1:Int)=zK P1 by unfold oD;rw [Δ ω];simpa using Ym] at ku;have Vu:=χ E9;have wY:=χ (ψ PQ (ψ Qk (ψ hs7 SA)));have TP:=χ (hu.trans ny);have Iq:∃k3,(aj x1 l1 r1).rank=k3:=⟨_,rfl⟩;obtain ⟨k3,Iq⟩:=Iq;rw [Iq] at d7;have HRK:=χ Iq;clear E9 PQ Qk hs7 SA hu ny hsu Ym e7 ks h0 h2 d0 Iq HPU
   by_cases he:k3=La
   ·have hb:((k3:Int) == (La:Int))=true:=by rw [he];simp
    go_wp2;exact bodyPost_ret (v:=.tuple #[]) (by simp [results,Tryz.results235,go_sem]) rfl ⟨rfl,TP.out,S3,MP,Vu.out,ME.out.stay HX.out wY.out.1 wY.out.2.1 wY.out.2.2.1 wY.out.2.2.2 (HRK.out.trans he)⟩
   ·have hb:((k3:Int) == (La:Int))=false:=ζ;have HNE:=χ (show (aj x1 l1 r1).rank≠La from λe=>he (HRK.out.symm.trans e));generalize hz:zK P1=z at *;clear he
    go_wp2_with (first
     | (go_at_call 240;(with_reducible refine (ku).mono ?_);rintro e w8 ⟨rfl,kk,rfl⟩)
     | (go_at_call 237;(with_reducible refine (lQ _ _).mono ?_);rintro e w9 ⟨rfl,aH⟩;rw [aH];clear aH w9)
     | fail)
    cases P1 with
    | nil=>
     subst hz;refine ⟨⟨S3,MP,Vu.out.ai ((aa.refl _ _).drewN kk),TP.out.drewN kk,Β ⟨rfl,ME.out.top HX.out wY.out.1 wY.out.2.1 wY.out.2.2.1 wY.out.2.2.2⟩⟩,?_⟩;have hi:=FQ HL.out ZA.out
     show (if ((-1:Int))=-1 then 0 else _)<(if ((x1:Int))=-1 then 0 else L.length-L.idxOf ((x1:Int)).toNat)
     rw [Δ rfl,Γ ω,π,hi.1];omega
    | cons f P2=>
     subst hz;obtain ⟨l2,r2,hM2⟩:=ME.out.up HX.out wY.out.1 wY.out.2.1 wY.out.2.2.1 wY.out.2.2.2 HNE.out;refine ⟨⟨S3,MP,Vu.out.ai ((aa.refl _ _).drewN kk),TP.out.drewN kk,Α ⟨P2,_,f.1,l2,r2,dn++[x1],rfl,by rw [ZA.out];simp,hM2⟩⟩,?_⟩;have hi:=FQ HL.out ZA.out;have hi2:=FQ (done:=dn++[x1]) (x:=f.1) (rest:=P2.map (·.1)) HL.out (by rw [ZA.out];simp)
     show (if ((f.1:Int))=-1 then 0 else L.length-L.idxOf ((f.1:Int)).toNat)<(if ((x1:Int))=-1 then 0 else L.length-L.idxOf ((x1:Int)).toNat)
     rw [Γ ω,Γ ω,π,π,hi.1,hi2.1];rw [υ,List.length_singleton] at hi2 ⊢;omega
  ·go_wp2
   (first|go_end0|go_ret)
   exact ⟨rfl,hu,S1,YZ,hM,hE⟩
end
def kQ (w:World) (B:LB) (F:List Nat) (gt ct:Nat) (A:NS) (st:Nat) (tr:Nat->BT):Prop:=
 ∃S rk ag,jI w B F gt ct A st S rk ag/\Z8 A S ag tr/\(∀h,Lean (tr h))/\(∀h,fE rk (tr h))
theorem kQ.upd {w w':World} {B:LB} {F:List Nat} {gt ct:Nat} {A:NS} {st:Nat} {tr:Nat->BT} {G:List Nat} (h:kQ w B F gt ct A st tr) (hu:aa G w w') (hG:∀x,x∈G->x∉B.blk F gt):kQ w' B F gt ct A st tr:=by
 obtain ⟨S,rk,ag,hM,h1,h2,h3⟩:=h;exact ⟨S,rk,ag,hM.upd hu hG,h1,h2,h3⟩
theorem kQ.ai {w w':World} {B:LB} {F:List Nat} {gt ct:Nat} {A:NS} {st:Nat} {tr:Nat->BT} (h:kQ w B F gt ct A st tr) (hu:aa [] w w'):kQ w' B F gt ct A st tr:=h.upd hu σ
section
variable {w:World} {B:LB} {F:List Nat} {gt ct:Nat} {A:NS} {st:Nat} {tr:Nat->BT}
theorem DR (h:kQ w B F gt ct A st tr) (hh x:Nat) (k s:Int) (hk:-9223372036854775808<=k/\k<=9223372036854775807/\0<=s/\s<=18446744073709551615) (hB:nX A hh x=true) :
  Calls Tryz.prog 230 #[.pointer (some ⟨B.n0,0,none⟩),.int .i64 (hh:Int),.int .i64 (x:Int),.agg #[.int .i64 k,.int .u64 s]] w λe w'=>e=.returned (.bool true)/\aa (B.blk F gt) w w'/\
   kQ w' B F gt ct (aG A hh x k s) (bS st (aC aj (aG A hh x k s) (tr hh) (single x)).2) (λq=>if q=hh then (aC aj (aG A hh x k s) (tr hh) (single x)).1 else tr q):=by
 obtain ⟨S,rk,ag,hM,hI,hL,hR⟩:=h;have hlt:=hM.lt;have ok:=hM.cells.ok;have ok':=xn ok hh x k s hk;obtain ⟨b1,b2,b3⟩:=(dP _ _ _).1 hB;have b4:=(aA _ _).1 b1;have hx:x<A.cs.length:=by have:=(fJ _ _).1 b2;omega
 have LQ:(A.c x).i=0:=by
  have:=(ok.nat x hx).1;have h3:¬ (0<(A.c x).i):=λh'=>by rw [(ay A x).2 ⟨hx,h'⟩] at b3;cases b3
  omega
 have hcs:(aG A hh x k s).cs.length=A.cs.length:=by unfold aG;rw [Δ hB,fD]
 have iN:(aG A hh x k s).hs.length=A.hs.length:=by unfold aG;rw [Δ hB];rfl
 have hcx:∀y,(aG A hh x k s).c y=if y=x then ⟨hh,k,s⟩ else A.c y:=λy=>by
  unfold aG;rw [Δ hB,π,jA]
  by_cases e:y=x
  ·rw [Δ ⟨e,hx⟩,Δ e]
  ·rw [Γ (λh=>e h.1),Γ e]
 have sD:x∉(tr hh).nodes:=hI.out LQ;have hX:((tr hh).nodes++(single x).nodes).Nodup:=by
  rw [θ];refine ⟨hI.nd hh,by simp [single,BT.nodes],λa ha b hb e=>?_⟩;simp only [single,BT.nodes,Υ,ϒ] at hb;exact sD (by rw [←hb,←e];exact ha)
 have hin:∀y,y∈(tr hh).nodes++(single x).nodes->bR (aG A hh x k s) (y:Int)=true:=λy hy=>by
  rw [ay,hcs,hcx];simp only [single,BT.nodes,Υ,τ,ϒ] at hy
  by_cases e:y=x
  ·rw [Δ e,e];exact ⟨hx,by show (0:Int)<(hh:Int);omega⟩
  ·rw [Γ e];have:=(hI.mem hh y).1 (hy.resolve_right e);exact ⟨this.2.1,ω⟩
 have Sy:Heap (aG A hh x k s) (tr hh):=(hI.heap hh).frame (λy hy=>by rw [hcx,Γ (λe=>sD (by rw [←e];exact hy))]);obtain ⟨mp,mh⟩:=mF lL (aG A hh x k s) _ (tr hh) (single x) (Θ _);have Ka:=mh Sy ⟨by simp [BT.nodes],by simp [BT.nodes],trivial,trivial⟩ hX;have ml:=sM (aG A hh x k s) _ (tr hh) (single x) (Θ _) (hL hh) ⟨Θ _,trivial,trivial⟩;have hfr:=hI.free x hx LQ
 have FI:Hid (∀ (W:World) (S':TS) (nz:Nat->Nat) (st':Nat),jI W B F gt ct (aG A hh x k s) st' S' nz (ag.set hh (aC aj (aG A hh x k s) (tr hh) (single x)).1.root)->bY S' (-1) (aC aj (aG A hh x k s) (tr hh) (single x)).1.root (aC aj (aG A hh x k s) (tr hh) (single x)).1->fE nz (aC aj (aG A hh x k s) (tr hh) (single x)).1->
   (∀y,y∉(tr hh).nodes++(single x).nodes->S.at S' y/\nz y=rk y)->kQ W B F gt ct (aG A hh x k s) st' (λq=>if q=hh then (aC aj (aG A hh x k s) (tr hh) (single x)).1 else tr q)):=λW S' nz st' a1 a2 a3 a4=>by
  refine ⟨S',nz,_,a1,hI.put ok hM.iB hB a2 mp Ka (λy hy=>(a4 y hy).1),λq=>?_,λq=>?_⟩
  ·show Lean (if q=hh then _ else _)
   split
   ·exact ml
   ·exact hL q
  ·show fE nz (if q=hh then _ else _)
   split
   ·exact a3
   ·rename_i hq
    refine (hR q).frame (λy hy=>(a4 y (λhm=>?_)).2);simp only [single,BT.nodes,Υ,τ,ϒ] at hm;rcases hm with hm|hm
    ·have c1:=(hI.mem hh y).1 hm;have c2:=(hI.mem q y).1 hy;omega
    ·exact hI.out (g:=q) LQ (by rw [←hm];exact hy)
 have Tw:=hI.zP hh;have hRh:=hR hh;have htop:=hI.top hh ω;have hgn:hh<ag.length:=by rw [hM.iB];omega
 have u1:aa [] w (w.alloc (.cells #[.int .i64 k,.int .u64 s] 97)):=(aa.refl _ _).alloc _;have kp:=λW (hW:aa [] (w.alloc (.cells #[.int .i64 k,.int .u64 s] 97)) W)=>lS (hM.cells.ai (u1.trans hW)) hh x k s hk hB;have h0:=hM.h0;have Nj:B.n0∉F:=hM.bI.1;have hsz:w.heap.size∉F:=λhm=>by have:=hlt w.heap.size (by simp [LB.blk,hm]);omega
 have r0:∀W,aa F (w.alloc (.cells #[.int .i64 k,.int .u64 s] 97)) W->W.cell? ⟨B.n0,0,none⟩=some (.pointer (some ⟨B.c,0,none⟩)):=λW hW=>hW.kept (u1.was h0) Nj;have r1:∀W,aa F (w.alloc (.cells #[.int .i64 k,.int .u64 s] 97)) W->W.cell? ⟨w.heap.size,0,none⟩=some (.int .i64 k):=λW h=>h.kept σ hsz;have r2:∀W,aa F (w.alloc (.cells #[.int .i64 k,.int .u64 s] 97)) W->W.cell? ⟨w.heap.size,1,none⟩=some (.int .u64 s):=λW h=>h.kept σ hsz;have HM:=χ hM;have HH:=χ (ψ hX (ψ hin (ψ Tw (ψ hRh hfr))));have Tg:=χ hlt;have Wy:=χ (ψ hM.sep hM.bI);have hA:=ok.c1;have UX:=ok.h1;have HXN:=χ sD
 clear hM hI hL hR ok ok' b1 b2 b3 LQ hcx sD hX hin Sy mp mh Ka ml hfr h0 hlt Tw hRh;generalize hA':aG A hh x k s=A' at *;generalize htr:tr hh=th at *
 go_enter Tryz.func230,Tryz.ntmps230
 go_wp2
 go_region_held3 (aa F (w.alloc (.cells #[.int .i64 k,.int .u64 s] 97))) (exact ν)
  ((go_at_call 138;(with_reducible refine (kp _ β).mono ?_);rintro e w1 ⟨rfl,gK,hu1⟩;(have hu2:aa F (w.alloc (.cells #[.int .i64 k,.int .u64 s] 97)) w1:=ν)))
 have uF:aa F w (w.alloc (.cells #[.int .i64 k,.int .u64 s] 97)):=u1.mono σ;have hM1:=HM.out.dV (uF.trans hu2) gK (λy hy=>Α hy) hcs iN;have h2:=hM1.h2;have dR:=hM1.ranks.cell x (by rw [hcs];exact hx);have fR:=hM1.ranks.free x;have hw1:aa F w w1:=uF.trans hu2;have nC:=χ hM1;clear r0 r1 r2 kp hu1 hu2 gK hM1 uF;rw [hcs] at h2;go_wp2;obtain ⟨w2,hw2⟩:∃w2,w2=w1.setCell ⟨B.br,x,none⟩ (.int .i64 1):=⟨_,rfl⟩;have u2:aa [B.br] w1 w2:=by rw [hw2];exact β
 have hM2:jI w2 B F gt ct A' st S (λy=>if y=x then 1 else rk y) ag:=by rw [hw2];exact nC.out.bH x 1
 rw [←hw2];clear hw2 nC h2 dR fR;have km:=λW (hW:aa [] w2 W)=>sF (hM2.ai hW) HH.out.2.2.1 (si HH.out.2.2.2.2) HH.out.1 HH.out.2.1 (HH.out.2.2.2.1.frame (λy hy=>Γ (λe=>HXN.out (by rw [←e];exact hy)))) ⟨by simp [BT.rank],trivial,trivial⟩;rw [show (single x).root=(x:Int) from rfl] at km;have d4:=hM2.il.cell hh hgn;rw [htop] at d4;have f4:=hM2.il.free hh;have h3:=hM2.h3;have hg:=hM2.lt gt (by simp [LB.blk]);have pI:=χ hM2;have uN:B.n0∉[B.c,B.ba,B.br,gt]:=by
  have a1:=Wy.out;have a2:B.n0≠B.c:=λe=>a1.2.1 (by rw [e];exact HM.out.cF);simp;omega
 have hgc:gt∉[B.c,B.ba,B.br]:=by
  have a1:=Wy.out;have a2:gt≠B.c:=λe=>a1.2.2.2.2.2 (by rw [e];exact HM.out.cF);simp;omega
 have r3:∀W,aa [B.c,B.ba,B.br,gt] w2 W->W.cell? ⟨B.n0,3,none⟩=some (.slice (some ⟨gt,0,none⟩) ag.length ct):=λW hW=>hW.kept h3 uN;have r4:∀W,aa [B.c,B.ba,B.br] w2 W->W.cell? ⟨gt,hh,none⟩=some (.int .i64 th.root)/\W.frozen? ⟨gt,hh,none⟩=false:=λW hW=>⟨hW.kept d4 hgc,hW.aM d4 hgc f4⟩
 have zi:(0:Int)<=(hh:Int):=ω;have Bd:(hh:Int)<(ag.length:Int):=ω;have MG:Hid (aC aj A' th (single x)=aC aj A' th (single x)):=rfl;generalize hmt:(aC aj A' th (single x)).1=mt at *;generalize hmk:(aC aj A' th (single x)).2=mk at *;clear hM2 f4 h3 MG;have q3:=r3 _ (aa.refl _ _);have q4:=(r4 _ (aa.refl _ _)).1
 go_region_law
  (first
   | (go_simp;go_at_call 236;(with_reducible refine (km _ β).mono ?_);rintro e w5 ⟨rfl,vS,S5,TE,xQ,Ff,Fe,hs5⟩;(have cB:aa [B.c,B.ba,B.br] w2 w5:=aa.trans β vS);(have jy:aa [B.c,B.ba,B.br,gt] w2 w5:=cB.mono σ);obtain ⟨d5,f5⟩:=r4 _ cB;(have q5:=r3 _ jy)))
 all_goals
  go_wp2;go_ret;have om:=HM.out.cF;have v1:aa (B.blk F gt) w w1:=hw1.mono (λy hy=>by simp only [LB.blk,ρ];simp [hy]);have v2:aa (B.blk F gt) w w2:=v1.trans (u2.mono (λy hy=>by simp at hy;simp [LB.blk,hy]))
  have v3:aa (B.blk F gt) w w5:=v2.trans (cB.mono (λy hy=>by
   simp only [ρ,ς,or_false] at hy;simp only [LB.blk,ρ];rcases hy with rfl|rfl|rfl
   ·simp [om]
   ·simp
   ·simp))
  subst hmt hmk;refine ⟨rfl,v3.setCell (Α (by simp [LB.blk])) _,FI.out _ S5 TE _ (xQ.mD hh _) Ff Fe (λy hy=>⟨(hs5 y hy).1,?_⟩)⟩;rw [(hs5 y hy).2,Γ (λe=>hy (by rw [e];simp [single,BT.nodes]))]
end
theorem OL (n j:Nat) (hj:j<n):(madeCells #[Value.int .i64 0] (n*1)).toList.getD j undef=.int .i64 0:=by
 rw [φ,ε (by simp [madeCells];omega)];simp [madeCells,Nat.mod_one]
theorem MF (n:Nat) (w:World) (h:n<=65536) :
  Calls Tryz.prog 66 #[.int .i64 (n:Int)] w λe w'=>∃B F gt,e=.returned (.tuple #[.pointer (some ⟨B.n0,0,none⟩),.int .i64 0])/\kQ w' B F gt 1 (NS.new n) 0 (λ_=>.nil)/\aa [] w w'/\∀x,x∈B.blk F gt->w.heap.size<=x:=by
 go_enter Tryz.func66,Tryz.ntmps66
 go_wp2_with (first
  | ((go_at_call 84;(with_reducible refine (lX n _ h).mono ?_));rintro e w1 ⟨c,F,rfl,hC,hu1,hF⟩)
  | ((go_at_call 89;(with_reducible refine (tK n _ h).mono ?_));rintro e w2 ⟨bt,ba,rfl,hT,hu2,hb1,hb2⟩)
  | (at_make;refine wpList_make_row rfl _ 77 rfl 3 (.int .i64 0) 1 8 Tryz.underlying77 fF n rfl ω μ ?_;intro w3 hr3 hu3))
 go_ret2;have hcs:(NS.new n).cs.length=n:=by simp [NS.new]
 have l1:=hu1.size;have l2:=hu2.size;have l3:=hu3.size;have l4:=hr3.lt;have l5:=hT.head.lt;have l6:=hT.row.lt;have l7:=hC.lt;have lc:=l7 c hC.mem;have e3:((w3.alloc (.cells #[.int .i64 (-1)] 3)).heap.size)=w3.heap.size+1:=by rw [Κ]
 have hv:aa [] w3 (w3.alloc (.cells #[.int .i64 (-1)] 3)):=(aa.refl _ _).alloc _;have hw:aa [] w3 ((w3.alloc (.cells #[.int .i64 (-1)] 3)).alloc (.cells #[.pointer (some ⟨c,0,none⟩),.pointer (some ⟨bt,0,none⟩),.slice (some ⟨w2.heap.size,0,none⟩) n n,.slice (some ⟨w3.heap.size,0,none⟩) 1 1] 204)):=hv.alloc _;have hh:=dL (w3.alloc (.cells #[.int .i64 (-1)] 3)) [.pointer (some ⟨c,0,none⟩),.pointer (some ⟨bt,0,none⟩),.slice (some ⟨w2.heap.size,0,none⟩) n n,.slice (some ⟨w3.heap.size,0,none⟩) 1 1] 204;rw [e3] at hh
 have hi:IZ (w3.alloc (.cells #[.int .i64 (-1)] 3)) w3.heap.size 1 [-1]:=IZ.lit w3 [-1] σ;have hF':∀x,x∈F->x<w1.heap.size:=l7;have hnF:∀x,w1.heap.size<=x->x∉F:=λx hx hm=>by have:=hF' x hm;omega
 refine ⟨⟨w3.heap.size+1,c,bt,ba,w2.heap.size⟩,F,w3.heap.size,rfl,⟨TS.none,λ_=>0,[-1],⟨by rw [hcs];exact hh,((hC.ai hu2).ai hu3).ai hw,by rw [hcs];exact (hT.upd hu3 σ σ).upd hw σ σ,?_,hi.upd ((aa.refl [] _).alloc _) σ,rfl,⟨hnF _ (by first|omega|(simp only;omega)),hnF _ (by first|omega|(simp only;omega)),hnF _ (by first|omega|(simp only;omega)),hnF _ (by first|omega|(simp only;omega)),hnF _ (by first|omega|(simp only;omega))⟩,⟨⟨by simp only;omega,by simp only;omega,by simp only;omega,by simp only;omega⟩,by simp only;omega,by simp only;omega,by simp only;omega,by simp only;omega,by simp only;omega⟩⟩,BS n,λ_=>trivial,λ_=>trivial⟩,((hu1.trans hu2).trans hu3).trans hw,λx hx=>?_⟩
 ·rw [hcs];have:=hr3.upd hw σ;rw [Nat.mul_one] at this;refine this.ext (λj hj=>?_);have hz:(Value.int .i64 0).cells=#[.int .i64 0]:=rfl;have e:=OL n j hj;rw [Nat.mul_one] at e;rw [hz,e];rfl
 ·simp only [LB.blk,ρ] at hx;rcases hx with rfl|rfl|rfl|rfl|rfl|hx
  ·omega
  ·omega
  ·omega
  ·omega
  ·omega
  ·exact hF x hx
section
variable {w:World} {B:LB} {F:List Nat} {gt ct:Nat} {A:NS} {st:Nat} {tr:Nat->BT}
theorem Ox (h:kQ w B F gt ct A st tr) (hl:65536<A.hs.length) :
  Calls Tryz.prog 231 #[.pointer (some ⟨B.n0,0,none⟩)] w λe w'=>e=.returned (.int .i64 0)/\Goes (B.blk F gt) w w' (λF'=>∃F1,F'=B.blk F1 gt/\kQ w' B F1 gt ct A st tr):=by
 obtain ⟨S,rk,ag,hM,hI⟩:=h;have k:=gQ hM.cells;have e1:bW A=0:=by unfold bW;rw [Δ hl]
 have e2:aI A=A:=by unfold aI;rw [Δ hl]
 rw [e1,e2] at k;have h0:=hM.h0;have HM:=χ hM;have HI:=χ hI;clear hM hI e1 e2
 go_enter Tryz.func231,Tryz.ntmps231
 go_wp2_with (first|((go_at_call 140;(with_reducible refine (k).mono ?_));rintro e w1 ⟨rfl,F1,hC,hu,hF⟩))
 go_ret
 exact ⟨rfl,B.blk F1 gt,⟨F1,rfl,S,rk,ag,HM.out.dV hu hC hF rfl rfl,HI.out⟩,hu.mono (λy hy=>by simp [LB.blk,hy]),λx hx=>by
  simp only [LB.blk,ρ] at hx ⊢;rcases hx with rfl|rfl|rfl|rfl|rfl|hx
  ·simp
  ·simp
  ·simp
  ·simp
  ·simp
  ·rcases hF x hx with h|h
   ·simp [h]
   ·exact Β h⟩
theorem KG (h:kQ w B F gt ct A st tr) (hl:¬65536<A.hs.length) :
  Calls Tryz.prog 231 #[.pointer (some ⟨B.n0,0,none⟩)] w λe w'=>e=.returned (.int .i64 (A.hs.length:Int))/\Goes (B.blk F gt) w w' (λF'=>∃F1 nA Eo,F'=B.blk F1 nA/\kQ w' B F1 nA Eo (aI A) st tr):=by
 obtain ⟨S,rk,ag,hM,hI,hL,hR⟩:=h;have k:=gQ hM.cells;have e1:bW A=A.hs.length:=by unfold bW;rw [Γ hl]
 rw [e1] at k;have hcs:(aI A).cs.length=A.cs.length:=by unfold aI;rw [Γ hl]
 have iN:(aI A).hs.length=A.hs.length+1:=by unfold aI;rw [Γ hl];simp
 have hI2:=hI.make hM.cells.ok hM.iB hl;have h0:=hM.h0;have hh0:=hM.cells.ok.h0;have HTN:=χ hM.iB;have htb:ag.length<=65536:=by rw [hM.iB];omega
 have HM:=χ hM;have HI:=χ (ψ hI2 (ψ hL hR));clear hM hI hL hR e1 hI2
 go_enter Tryz.func231,Tryz.ntmps231
 go_wp2_with (first
  | ((go_at_call 140;(with_reducible refine (k).mono ?_));rintro e w1 ⟨rfl,F1,hC,hu,hF⟩;(have d3:=hu.kept HM.out.h3 HM.out.bI.1);(have f3:=hu.aM HM.out.h3 HM.out.bI.1 (HM.out.head.free 3));(have ho1:=(HM.out.il.upd hu HM.out.bI.2.2.2.2).own);(have g0:B.n0≠gt:=HM.out.sep.1.2.2.2);(have gl:=(HM.out.il.upd hu HM.out.bI.2.2.2.2).lt))
  | ((at_builtin;refine aW rfl _ _ 77 rfl 0 3 (.int .i64 0) 1 8 Tryz.underlying77 fF rfl δ _ _ _ rfl (ho1) [.int .i64 (-1)] rfl (by simp [Value.oneCell']) (by first|rfl|(rw [Κ];rfl)) μ ω (ω) ?_;intro v2 w2 ho2 hu2 kZ);(have hu2:aa [gt] w1 w2:=hu2);obtain ⟨nA,Eo,ev,hI2, -⟩:=IZ.iO (l:=ag++[-1]) (by rw [bZ,υ];exact ho2) σ;rw [υ,List.length_singleton] at ev;subst ev;(have d4:=hu2.kept d3 ζ);(have f4:=hu2.aM d3 ζ f3)))
 go_ret;have hM:=HM.out;have hlt:=hM.lt;have f:=hM.bI;have q:=hM.sep;have hw3:aa [B.n0] w2 (w2.setCell ⟨B.n0,3,none⟩ (.slice (some ⟨nA,0,none⟩) (ag.length+1) Eo)):=β;have hg1:nA=gt\/w1.heap.size<nA:=by
  rcases kZ with h|h
  ·exact Α (Option.some.inj h)
  ·exact Β (h nA rfl)
 have hws:=hu.size;have gK:=hC.lt;have l0:=hlt B.n0 (by simp [LB.blk]);have l1:=hlt B.bt (by simp [LB.blk]);have l2:=hlt B.ba (by simp [LB.blk]);have l3:=hlt B.br (by simp [LB.blk]);have l4:=hlt gt (by simp [LB.blk]);have hnF:∀y,y<w.heap.size->y∉F->y∉F1:=λy hy hn hm=>by rcases hF y hm with h'|h';exact hn h';omega
 have sZ:nA∉F1:=by
  rcases hg1 with e|e
  ·rw [e];exact hnF gt l4 f.2.2.2.2
  ·exact λhm=>by have:=gK nA hm;omega
 have hb:w.heap.size<=nA\/nA=gt:=ω;have hhd:=((hM.head.upd hu f.1).upd hu2 ζ).set 3 (.slice (some ⟨nA,0,none⟩) (ag.length+1) Eo);refine ⟨rfl,B.blk F1 nA,⟨F1,nA,Eo,rfl,S,rk,ag++[-1],⟨?_,?_,?_,?_,hI2.upd hw3 ζ,?_,⟨hnF _ l0 f.1,hnF _ l1 f.2.1,hnF _ l2 f.2.2.1,hnF _ l3 f.2.2.2.1,sZ⟩,⟨⟨q.1.1,q.1.2.1,q.1.2.2.1,ω⟩,q.2.1,ω,q.2.2.2.1,ω,ω⟩⟩,HI.out⟩,?_,λy hy=>?_⟩
 ·rw [hcs,υ,List.length_singleton];refine hhd.ext (λj hj=>?_);rcases (ω:j=0\/j=1\/j=2\/j=3) with rfl|rfl|rfl|rfl<;>rfl
 ·exact (hC.upd hu2 (λy hy=>by simp at hy;rw [hy];exact hnF gt l4 f.2.2.2.2)).upd hw3 (λy hy=>by simp at hy;rw [hy];exact hnF _ l0 f.1)
 ·rw [hcs];exact ((hM.trees.upd hu f.2.1 f.2.2.1).upd hu2 ζ ζ).upd hw3 ζ ζ
 ·rw [hcs];exact ((hM.ranks.upd hu f.2.2.2.1).upd hu2 ζ).upd hw3 ζ
 ·rw [υ,List.length_singleton,iN,HTN.out]
 ·have u1:aa (B.blk F gt) w w1:=hu.mono (λy hy=>by simp [LB.blk,hy]);exact (u1.trans (hu2.mono (λy hy=>by simp at hy;simp [LB.blk,hy]))).trans (hw3.mono (λy hy=>by simp at hy;simp [LB.blk,hy]))
 ·simp only [LB.blk,ρ] at hy ⊢;rcases hy with rfl|rfl|rfl|rfl|rfl|hy
  ·simp
  ·simp
  ·simp
  ·simp
  ·rcases hb with h|h
   ·exact Β h
   ·exact Α (by simp [h])
  ·rcases hF y hy with h|h
   ·simp [h]
   ·exact Β h
end
theorem vg.first {A:NS} {S:TS} {ag:List Int} {tr:Nat->BT} (h:Z8 A S ag tr) {g:Nat} (hg:0<bU A g):∃m:Nat,(tr g).root=m/\dM A g=some m:=by
 obtain ⟨x,hx,hi,h0⟩:=fw.1 hg;have hxm:x∈(tr g).nodes:=(h.mem g x).2 ⟨ω,hx,hi⟩;cases ht:tr g with
 | nil=>rw [ht] at hxm;cases hxm
 | node m l r=>
  have hm:=(h.mem g m).1 (by rw [ht];simp [BT.nodes]);have hH:=h.heap g;rw [ht] at hH;refine ⟨m,rfl,(gP h0).2 ⟨hm.2.1,hm.2.2,λy hy hyi=>?_⟩⟩;have hym:=(h.mem g y).2 ⟨ω,hy,hyi⟩;rw [ht] at hym;simp only [BT.nodes,ρ,τ] at hym;rcases hym with e|e|e
  ·exact Α e
  ·exact Β (hH.1 y e)
  ·exact Β (hH.2.1 y e)
section
variable {w:World} {B:LB} {F:List Nat} {gt ct:Nat} {A:NS} {st:Nat} {tr:Nat->BT}
theorem Jl (h:kQ w B F gt ct A st tr) (x:Int) (hx:-9223372036854775808<=x/\x<=9223372036854775807) (hn:bU A x=0) :
  Calls Tryz.prog 233 #[.pointer (some ⟨B.n0,0,none⟩),.int .i64 x] w λe w'=>e=.returned (.tuple #[.int .i64 0,.bool false])/\w'=w:=by
 obtain ⟨S,rk,ag,hM, -, -, -⟩:=h;have k:=nJ hM.cells x hx;rw [hn] at k;have h0:=hM.h0;clear hM hn
 go_enter Tryz.func233,Tryz.ntmps233
 go_wp2_with (first|(go_at_call 126;(with_reducible refine (k).mono ?_);rintro e w9 ⟨rfl,aH⟩;rw [aH];clear aH w9))
 go_ret2;exact ⟨rfl,rfl⟩
theorem A8 (h:kQ w B F gt ct A st tr) (g:Nat) (hn:0<bU A g) :
  Calls Tryz.prog 233 #[.pointer (some ⟨B.n0,0,none⟩),.int .i64 (g:Int)] w λe w'=>∃m:Nat,dM A g=some m/\(tr g).root=m/\e=.returned (.tuple #[.int .i64 (m:Int),.bool true])/\w'=w:=by
 obtain ⟨S,rk,ag,hM,hI, -, -⟩:=h;obtain ⟨m,hm,hf⟩:=hI.first hn;obtain ⟨x,hx,hi,h0⟩:=fw.1 hn;have ok:=hM.cells.ok;have hgl:g<A.hs.length:=by have:=(ok.nat x hx).2;omega
 have UX:=ok.h1;have k:=nJ hM.cells (g:Int) ω;have hh0:=hM.h0;have h3:=hM.h3;have d:=hM.il.cell g (by rw [hM.iB];exact hgl);rw [hI.top g hgl,hm] at d;have htl:g<ag.length:=by rw [hM.iB];exact hgl
 generalize hl:bU A (g:Int)=n at *;have hb:((n:Int) == 0)=false:=ζ;have HF:=χ (ψ hf hm);clear hM hI hm hf hx hi h0 ok hl
 go_enter Tryz.func233,Tryz.ntmps233
 go_wp2_with (first|(go_at_call 126;(with_reducible refine (k).mono ?_);rintro e w9 ⟨rfl,aH⟩;rw [aH];clear aH w9))
 go_ret2;exact ⟨m,HF.out.1,HF.out.2,rfl,rfl⟩
end
theorem aK {P:List Fr} {t:BT} {y:Nat}:y∈(ak P t).nodes↔y∈t.nodes\/y∈dC P:=by
 rw [(aX P t).mem_iff,τ]
def cutV (f:Fr) (t:BT):Int:=if t.root=-1 then 0 else (f.1:Int)
section
variable {w:World} {bt ba n:Nat} {S:TS}
theorem qA (h:aY w bt ba n S) {f:Fr} {P:List Fr} {t:BT} (hT:bY S (-1) (ak (f::P) t).root (ak (f::P) t)) (hn:(ak (f::P) t).nodes.Nodup) (hlt:∀y,y∈(ak (f::P) t).nodes->y<n) :
  Calls Tryz.prog 234 #[.pointer (some ⟨bt,0,none⟩),.int .i64 t.root] w λe w'=>e=.returned (.tuple #[.int .i64 (cutV f t),.bool (tb t.root)])/\aa [ba] w w'/\
   ∃S',aY w' bt ba n S'/\bY S' (-1) t.root t/\bY S' (-1) (ak (f::P) .nil).root (ak (f::P) .nil)/\∀y,y∉(ak (f::P) t).nodes->S.at S' y:=by
 by_cases ht:t=.nil
 ·subst ht;refine (Nh bt ba n S (-1) w h (by unfold oD;simp)).mono ?_;rintro e w' ⟨rfl,rfl⟩;exact ⟨by simp [cutV,BT.root,tb],aa.refl _ _,S,h,rfl,hT,λy _=>⟨rfl,rfl,rfl⟩⟩
 ·obtain ⟨c1,c2,c3⟩:=Pw hT ht hn;obtain ⟨m1,m2⟩:=bL ht;have hp:=(dE _ _).1 hT;have hu:S.u t.root.toNat=(f.1:Int):=by
   cases t with
   | nil=>exact absurd rfl ht
   | node y a b=>exact hp.1.2.1
  have hf:f.1<n:=hlt _ (aK.2 (Β (by simp [dC])));have hr:t.root.toNat<n:=hlt _ (aK.2 (Α m1));have hne:t.root≠-1:=ω;have k:=Bc bt ba n S f.1 t.root.toNat w h hf hr hu;rw [←m2] at k;refine k.mono ?_;rintro e w' ⟨rfl,h',hu'⟩;refine ⟨by unfold cutV tb;rw [Γ hne];simp [hne],hu',_,h',c1,c2,λy hy=>c3 y (λe=>hy ?_) (λe=>hy ?_)⟩
  ·rw [e];exact aK.2 (Β (by simp [dC]))
  ·rw [e];exact aK.2 (Α m1)
theorem Aj (h:aY w bt ba n S) {f:Fr} {P:List Fr} {m:BT} (hT:bY S (-1) (ak (f::P) .nil).root (ak (f::P) .nil)) (hM:bY S (-1) m.root m) (hm:m≠.nil) (hn:(m.nodes++dC (f::P)).Nodup) (hlt:∀y,y∈m.nodes++dC (f::P)->y<n) :
  Calls Tryz.prog 241 #[.pointer (some ⟨bt,0,none⟩),.int .i64 (f.1:Int),.int .i64 m.root,.bool f.2.1] w λe w'=>e=.returned (.bool true)/\aa [ba] w w'/\
   ∃S',aY w' bt ba n S'/\bY S' (-1) (ak (f::P) m).root (ak (f::P) m)/\∀y,y∉m.nodes++dC (f::P)->S.at S' y:=by
 obtain ⟨c1,c2⟩:=Kq hT hM hm hn;obtain ⟨m1,m2⟩:=bL hm;have hp:=(dE _ _).1 hT;have hk:S.kid f.2.1 f.1=-1:=hp.2.1;have hu:S.u m.root.toNat=-1:=by
  cases m with
  | nil=>exact absurd rfl hm
  | node y a b=>exact hM.2.1
 have hf:f.1<n:=hlt _ (by simp [dC]);have hr:m.root.toNat<n:=hlt _ (by simp [m1]);have hne:f.1≠m.root.toNat:=λe=>by
  rw [θ] at hn;exact hn.2.2 _ m1 f.1 (by simp [dC]) e.symm
 have k:=yl bt ba n S f.1 m.root.toNat f.2.1 w h hf hr hne hu hk;rw [←m2] at k;refine k.mono ?_;rintro e w' ⟨rfl,h',hu'⟩;refine ⟨rfl,hu',_,h',c1,λy hy=>c2 y (λe=>hy ?_) (λe=>hy ?_)⟩
 ·rw [e];simp [dC]
 ·rw [e];simp [m1]
theorem I7 (h:aY w bt ba n S) {P:List Fr} {x:Nat} {l r:BT} (hT:bY S (-1) (ak P (.node x l r)).root (ak P (.node x l r))) (hx:x<n) :
  Calls Tryz.prog 240 #[.pointer (some ⟨bt,0,none⟩),.int .i64 (x:Int)] w λe w'=>e=.returned (.tuple #[.int .i64 (tv (zK P)),.bool (tb (zK P))])/\∃k,w'=w.drewN k:=by
 have k:=NH bt ba n S (x:Int) w h;have e:oD n S (x:Int)=zK P:=by
  unfold oD;rw [Δ ω,π];exact ((dE _ _).1 hT).1.2.1
 rw [e] at k;exact k
theorem Ad (h:aY w bt ba n S) {p:Int} {x:Nat} {l r:BT} (hT:bY S p x (.node x l r)) (hx:x<n) :
  Calls Tryz.prog 238 #[.pointer (some ⟨bt,0,none⟩),.int .i64 (x:Int)] w λe w'=>e=.returned (.tuple #[.int .i64 (tv l.root),.bool (tb l.root)])/\∃k,w'=w.drewN k:=by
 have e:fP n S (x:Int) false=l.root:=by
  unfold fP TS.kid;rw [Δ ω];simp only [π];exact hT.2.2.1.root
 have k:=yF bt ba n S (x:Int) w h;rw [e] at k;exact k
theorem sU (h:aY w bt ba n S) {p:Int} {x:Nat} {l r:BT} (hT:bY S p x (.node x l r)) (hx:x<n) :
  Calls Tryz.prog 239 #[.pointer (some ⟨bt,0,none⟩),.int .i64 (x:Int)] w λe w'=>e=.returned (.tuple #[.int .i64 (tv r.root),.bool (tb r.root)])/\∃k,w'=w.drewN k:=by
 have e:fP n S (x:Int) true=r.root:=by
  unfold fP TS.kid;rw [Δ ω];simp only [if_true,π];exact hT.2.2.2.root
 have k:=nZ bt ba n S (x:Int) w h;rw [e] at k;exact k
theorem zY (h:aY w bt ba n S) {f:Fr} {P:List Fr} {x:Nat} {l r:BT} (hT:bY S (-1) (ak (f::P) (.node x l r)).root (ak (f::P) (.node x l r))) (hn:(ak (f::P) (.node x l r)).nodes.Nodup) (hf:f.1<n) :
  ∃z:Int,(z == (x:Int))=f.2.1/\Calls Tryz.prog 239 #[.pointer (some ⟨bt,0,none⟩),.int .i64 (f.1:Int)] w λe w'=>e=.returned (.tuple #[.int .i64 (tv z),.bool (tb z)])/\∃k,w'=w.drewN k:=by
 refine ⟨S.r f.1,?_,?_⟩
 ·have hp:=(dE _ _).1 hT;obtain ⟨q1,q2,_,_⟩:=hp.2;unfold TS.kid at q1 q2;cases hs:f.2.1
  ·rw [hs] at q1 q2;simp only [Bool.not_false,if_true] at q2;have e2:=q2.root;have hx:x∉f.2.2.nodes:=λhm=>by
    have h1:=(aX (f::P) (.node x l r)).nodup_iff.1 hn;rw [θ] at h1;exact h1.2.2 x (by simp [BT.nodes]) x (by simp [dC,hm]) rfl
   have:S.r f.1≠(x:Int):=λe=>by
    rw [e2] at e
    by_cases hnil:f.2.2=.nil
    ·rw [hnil] at e;have e:(-1:Int)=x:=e;omega
    ·have:=(bL hnil).1;rw [e] at this;exact hx this
   simpa using this
  ·rw [hs] at q1;simp only [if_true] at q1;rw [q1];simp [BT.root]
 ·have k:=nZ bt ba n S (f.1:Int) w h;have e:fP n S (f.1:Int) true=S.r f.1:=by unfold fP TS.kid;rw [Δ ω];simp
  rw [e] at k;exact k
end
def CK:List Fr->BT->BT->BT
 | [],_,m=>m
 | f::P,old,m=>if f.2.1 then jh P (jD f old.rank) f.1 f.2.2 m else jh P (jD f old.rank) f.1 m f.2.2
theorem nV (f:Fr) (P:List Fr) (old m:BT):CK (f::P) old m=if f.2.1 then jh P (jD f old.rank) f.1 f.2.2 m else jh P (jD f old.rank) f.1 m f.2.2:=rfl
theorem KO:∀ (P:List Fr) (old m:BT),(CK P old m).nodes.Perm (ak P m).nodes
 | [],_,_=>ό _
 | f::P,old,m=>by
  rw [nV]
  show List.Perm _ (ak P (bu f m)).nodes
  unfold bu
  split
  ·exact o9 _ _ _ _ _
  ·exact o9 _ _ _ _ _
theorem Ml (f:Fr) (P:List Fr) (old m:BT):(CK (f::P) old m).root=(ak (f::P) m).root:=by
 rw [nV]
 show _=(ak P (bu f m)).root
 unfold bu
 split
 ·exact ru _ _ _ _ _
 ·exact ru _ _ _ _ _
theorem Ov {A:NS}:∀ (P:List Fr) (old m:BT),Heap A (ak P m)->Heap A (CK P old m)
 | [],_,_,h=>h
 | f::P,old,m,h=>by
  have h1:Heap A (ak P (bu f m)):=h;rw [nV];unfold bu at h1
  split at h1
  ·rename_i e;rw [Δ e];exact qY _ _ _ _ _ h1
  ·rename_i e;rw [Γ e];exact qY _ _ _ _ _ h1
theorem Mj:∀ (P:List Fr) (old m:BT),Lean m->AB P old.rank->Lean (CK P old m)
 | [],_,_,h,_=>h
 | f::P,old,m,h,hp=>by
  rw [nV]
  split
  ·exact qV _ _ _ _ _ hp.1 h hp.2.2
  ·exact qV _ _ _ _ _ h hp.1 hp.2.2
noncomputable def Dl (A:NS) (t:BT) (x:Nat):BT×Nat:=
 (CK (pathOf t x).1 (.node x (pathOf t x).2.1 (pathOf t x).2.2) (aC aj A (pathOf t x).2.1 (pathOf t x).2.2).1,(aC aj A (pathOf t x).2.1 (pathOf t x).2.2).2)
theorem sK {P:List Fr} {x:Nat} {l r:BT} (hn:(ak P (.node x l r)).nodes.Nodup) :
  (x∉l.nodes/\x∉r.nodes/\x∉dC P)/\(l.nodes++r.nodes).Nodup/\(∀y,y∈l.nodes->y∉dC P)/\(∀y,y∈r.nodes->y∉dC P)/\(dC P).Nodup:=by
 have h:=(aX P (.node x l r)).nodup_iff.1 hn;rw [θ] at h;obtain ⟨h1,h2,h3⟩:=h;simp only [BT.nodes,Ζ,τ,not_or] at h1;exact ⟨⟨h1.1.1,h1.1.2,λhm=>h3 x (by simp [BT.nodes]) x hm rfl⟩,h1.2,λy hy hm=>h3 y (by simp [BT.nodes,hy]) y hm rfl,λy hy hm=>h3 y (by simp [BT.nodes,hy]) y hm rfl,h2⟩
theorem Du {up:Nat->BT->BT->BT} (U:OI up) {A:NS} {P:List Fr} {x:Nat} {l r:BT} (hn:(ak P (.node x l r)).nodes.Nodup) (hH:Heap A (ak P (.node x l r))) :
  (x::(ak P (aC up A l r).1).nodes).Perm (ak P (.node x l r)).nodes/\Heap A (ak P (aC up A l r).1)/\(aC up A l r).1.nodes.Perm (l.nodes++r.nodes):=by
 obtain ⟨mp,mh⟩:=mF U A _ l r (Θ _);have h1:=sK hn;have hs:=tH hH;have Ka:=mh hs.2.2.1 hs.2.2.2 h1.2.1;refine ⟨?_,vD hH Ka (λy hy=>?_),mp⟩
 ·refine ((((aX P _).trans (mp.append_right _)).cons x)).trans ?_;exact (aX P (.node x l r)).symm
 ·have:=mp.mem_iff.1 hy;simp only [BT.nodes,ρ];exact Β this
section
variable {w:World} {B:LB} {F:List Nat} {gt ct:Nat} {A:NS} {st:Nat} {S:TS} {rk:Nat->Nat} {ag:List Int}
theorem Em (h:jI w B F gt ct A st S rk ag) {f:Fr} {P:List Fr} {old m:BT} (hT:bY S (-1) (ak (f::P) m).root (ak (f::P) m)) (hm:fE rk m) (hP:OJ rk (f::P) old.rank) (hX:(ak (f::P) m).nodes.Nodup)
  (hlt:∀y,y∈(ak (f::P) m).nodes->y<A.cs.length) :
  Calls Tryz.prog 235 #[.pointer (some ⟨B.n0,0,none⟩),.int .i64 (f.1:Int)] w λe w'=>e=.returned (.tuple #[])/\aa [B.ba,B.br] w w'/\
   ∃S' nz,jI w' B F gt ct A st S' nz ag/\qJ S rk (CK (f::P) old m) (ak (f::P) m).nodes S' nz:=by
 rw [nV];have hT1:bY S (-1) (ak P (bu f m)).root (ak P (bu f m)):=hT;have hX1:(ak P (bu f m)).nodes.Nodup:=hX;have hlt1:∀y,y∈(ak P (bu f m)).nodes->y<A.cs.length:=hlt
 show Calls _ _ _ _ λe w'=>e=_/\_/\∃S' nz,_/\qJ S rk _ (ak P (bu f m)).nodes S' nz
 by_cases hs:f.2.1=true
 ·have e1:bu f m=.node f.1 f.2.2 m:=by unfold bu;rw [Δ hs]
  rw [e1] at hT1 hX1 hlt1 ⊢;rw [Δ hs];exact AX h ⟨hT1,ό _,hP.1,hm,hP.2.1,hP.2.2,λy _=>⟨⟨rfl,rfl,rfl⟩,rfl⟩,rfl⟩ hX1 hlt1
 ·have e1:bu f m=.node f.1 m f.2.2:=by unfold bu;rw [Γ hs]
  rw [e1] at hT1 hX1 hlt1 ⊢;rw [Γ hs];exact AX h ⟨hT1,ό _,hm,hP.1,hP.2.1,hP.2.2,λy _=>⟨⟨rfl,rfl,rfl⟩,rfl⟩,rfl⟩ hX1 hlt1
end
theorem NA (n:Nat):tv (n:Int)=n:=by unfold tv;rw [Γ ω]
theorem Mk (n:Nat):tb (n:Int)=true:=by unfold tb;simp
section
variable {w:World} {B:LB} {F:List Nat} {gt ct:Nat} {A:NS} {st:Nat} {tr:Nat->BT} {S:TS} {rk:Nat->Nat} {ag:List Int}
def TW (w':World) (B:LB) (F:List Nat) (gt ct:Nat) (A:NS) (st:Nat) (S:TS) (rk:Nat->Nat) (ag:List Int) (g x:Nat) (P:List Fr) (X:List Nat) (T:BT):Prop:=
 ∃S' nz kE,jI w' B F gt ct (aU A x) st S' nz kE/\bY S' (-1) T.root T/\fE nz T/\(∀y,y∉X->S.at S' y/\nz y=rk y)/\(S'.l x=-1/\S'.r x=-1/\S'.u x=-1)/\
  ∀q,q<A.hs.length->kE.getD q 0=if P=[]/\q=g then T.root else ag.getD q 0
theorem gT {S S' YG:TS} {x:Nat} (h:S.at S' x) (h':S'.at YG x):S.at YG x:=⟨h'.1.trans h.1,h'.2.1.trans h.2.1,h'.2.2.trans h.2.2⟩
theorem BI (hM:jI w B F gt ct A st S rk ag) {g x:Nat} {P:List Fr} {l r:BT} (hin:bR A (x:Int)=true) (hg:(A.c x).i=g) (hgt:g<ag.length)
  (hT:bY S (-1) (ak P (.node x l r)).root (ak P (.node x l r))) (hn:(ak P (.node x l r)).nodes.Nodup) (hR:fE rk (ak P (.node x l r))) (hall:∀y,y∈(ak P (.node x l r)).nodes->bR A (y:Int)=true) :
  Calls Tryz.prog 228 #[.pointer (some ⟨B.n0,0,none⟩),.int .i64 (x:Int)] w λe w'=>e=.returned (.bool true)/\aa (B.blk F gt) w w'/\
   TW w' B F gt ct A (bS st (aC aj A l r).2) S rk ag g x P (ak P (.node x l r)).nodes (CK P (.node x l r) (aC aj A l r).1):=by
 have hxl:=((ay A x).1 hin).1;have hlt:∀y,y∈(ak P (.node x l r)).nodes->y<A.cs.length:=λy hy=>((ay A y).1 (hall y hy)).1;have kh:=ic hM.cells x hin;rw [hg] at kh;have h0:=hM.h0;have HM:=χ hM;have OB:=sK hn;have hrr:=(Ce P (.node x l r)).1 hR;have mp:=(mF lL A _ l r (Θ _)).1;have hblk:=χ hM.lt;have om:=χ hM.cF;have hsep:=χ (ψ hM.sep hM.bI);have HT:=χ (ψ hT (ψ hn (ψ hrr (ψ hall hlt))));have HP:=χ OB;have hA:=hM.cells.ok.c1;obtain ⟨m,k,hmk⟩:∃m k,aC aj A l r=(m,k):=⟨_,_,rfl⟩;rw [hmk] at mp;rw [hmk];have Ua:=χ mp;have HMK:=χ hmk;have KU:=χ hin;clear hM hT hn hR hall hlt OB hrr mp hmk hin hg
 go_enter Tryz.func228,Tryz.ntmps228
 go_wp2_with (first|((go_at_call 124;(with_reducible refine (kh).mono ?_));rintro e w1 ⟨rfl,gK,hu1⟩;(have g1:=(HM.out.dV hu1 gK (λy hy=>Α hy) rfl rfl).h1)))
 have hM1:=HM.out.dV hu1 gK (λy hy=>Α hy) rfl rfl;have q1:∀d,(w1.drewN d).cell? ⟨B.n0,1,none⟩=some (.pointer (some ⟨B.bt,0,none⟩)):=λd=>hM1.h1;have kl:=λd=>Ad (hM1.trees.drewN d) ((dE _ _).1 HT.out.1).1 hxl;have kr:=λd=>sU (hM1.trees.drewN d) ((dE _ _).1 HT.out.1).1 hxl;have nC:=χ hM1;clear hM1 gK kh h0 g1
 go_quiet ((first
  | (go_at_call 238;exact Calls.quiet_of (kl _))
  | (go_at_call 239;exact Calls.quiet_of (kr _))
  | (go_at_call 237;exact Calls.quiet_of_same (lQ _ _))))
 obtain ⟨w2,hw2⟩:∃w2,w2=w1.drewN nq:=⟨_,rfl⟩;have u2:aa F w w2:=by rw [hw2];exact hu1.drewN nq
 have hM2:jI w2 B F gt ct A st S rk ag:=by rw [hw2];exact nC.out.ai ((aa.refl [] w1).drewN nq)
 rw [←hw2];clear hw2 kl kr q1 nC hu1;have SC:=qA hM2.trees (f:=(x,false,r)) (P:=P) (t:=l) HT.out.1 HT.out.2.1 HT.out.2.2.2.2;have g2:=hM2.h1;have pI:=χ hM2;clear hM2
 go_wp2_with (first
  | ((go_at_call 234;(with_reducible refine (SC).mono ?_));rintro e w3 ⟨rfl,hu3,S3,D8,hl3,hp3,hs3⟩;(have g3:=(pI.out.gY hu3 D8).h1);clear g2)
  | fail)
 have lq:=pI.out.gY hu3 D8;have JK:bY S3 (-1) (ak ((x,true,.nil)::P) r).root (ak ((x,true,.nil)::P) r):=hp3;have Ir:(ak ((x,true,.nil)::P) r).nodes.Nodup:=by
  have e:=(aX P (.node x .nil r));refine e.nodup_iff.2 ?_;obtain ⟨⟨a1,a2,a3⟩,a4,a5,a6,a7⟩:=HP.out;simp only [BT.nodes,Ϛ,θ] at a4 ⊢;refine ⟨Ζ.2 ⟨a2,a4.2.1⟩,a7,λy hy z hz e=>?_⟩;subst e;rcases ρ.1 hy with e|hy
  ·exact a3 (by rw [←e];exact hz)
  ·exact a6 y hy hz
 have AU:∀y,y∈(ak ((x,true,.nil)::P) r).nodes->y∈(ak P (.node x l r)).nodes:=λy hy=>by
  have h':y∈(ak P (.node x .nil r)).nodes:=hy;rw [aK] at h' ⊢;simp only [BT.nodes,Ϛ,ρ,τ] at h' ⊢;rcases h' with (h'|h')|h'
  ·exact Α (Α h')
  ·exact Α (Β (Β h'))
  ·exact Β h'
 have Uc:=qA lq.trees (f:=(x,true,.nil)) (P:=P) (t:=r) JK Ir (λy hy=>HT.out.2.2.2.2 y (AU y hy));have PI:l.nodes.Nodup/\∀y,y∈l.nodes->y∉(ak ((x,true,.nil)::P) r).nodes:=by
  obtain ⟨⟨a1,a2,a3⟩,a4,a5,a6,a7⟩:=HP.out;rw [θ] at a4;refine ⟨a4.1,λy hy hm=>?_⟩;have h':y∈(ak P (.node x .nil r)).nodes:=hm;rw [aK] at h';simp only [BT.nodes,Ϛ,ρ] at h';rcases h' with (h'|h')|h'
  ·exact a1 (by rw [←h'];exact hy)
  ·exact a4.2.2 y hy y h' rfl
  ·exact a5 y hy h'
 have JI:=χ lq;have H3:=χ (ψ hl3 (ψ hs3 (ψ AU PI)));have u3:aa (B.ba::F) w w3:=(u2.mono (by simp;intro x hx;exact Β hx)).trans (hu3.mono σ);clear lq D8 hl3 hp3 JK hs3 Ir AU PI SC hu3 u2
 go_wp2_with (first
  | ((go_at_call 234;(with_reducible refine (Uc).mono ?_));rintro e w4 ⟨rfl,jJ,S4,PT,hr4,hp4,hs4⟩)
  | fail)
 have xg:=JI.out.gY jJ PT;have hl4:bY S4 (-1) l.root l:=H3.out.1.frame (λy hy=>hs4 y (H3.out.2.2.2.2 y hy));have km:=sF xg hl4 hr4 HP.out.2.1 (λy hy=>HT.out.2.2.2.1 y (aK.2 (Α (by simp only [BT.nodes];exact Λ _ hy)))) HT.out.2.2.1.1.2.1 HT.out.2.2.1.1.2.2;rw [HMK.out] at km;have YQ:bY S4 (-1) (ak P (.node x .nil .nil)).root (ak P (.node x .nil .nil)):=hp4;have u4:aa (B.ba::F) w w4:=u3.trans (jJ.mono σ);have f4:∀y,y∉(ak P (.node x l r)).nodes->S.at S4 y:=λy hy=>gT (H3.out.2.1 y hy) (hs4 y (λhm=>hy (H3.out.2.2.1 y hm)));have H4:=χ (ψ YQ f4)
 clear xg PT hr4 hp4 YQ hs4 hl4 Uc jJ u3 f4 H3 JI pI g3
 go_wp2_with (first
  | ((go_at_call 236;(with_reducible refine (km).mono ?_));rintro e w5 ⟨rfl,cB,S5,TE,xQ,Ff,Fe,hs5⟩;(have g5:=xQ.h1))
  | fail)
 have P5:bY S5 (-1) (ak P (.node x .nil .nil)).root (ak P (.node x .nil .nil)):=H4.out.1.frame (λy hy=>(hs5 y (λhm=>by
  obtain ⟨⟨a1,a2,a3⟩,a4,a5,a6,a7⟩:=HP.out;rw [aK] at hy;simp only [BT.nodes,Ϛ,ρ,ς,or_false] at hy;rw [τ] at hm;rcases hy with e|hy
  ·subst e;rcases hm with hm|hm;exact a1 hm;exact a2 hm
  ·rcases hm with hm|hm;exact a5 y hm hy;exact a6 y hm hy)).1)
 have f5:∀y,y∉(ak P (.node x l r)).nodes->S.at S5 y/\TE y=rk y:=λy hy=>by
  have h1:y∉l.nodes++r.nodes:=λhm=>hy (aK.2 (Α (by simp only [BT.nodes];exact Λ _ hm)));exact ⟨gT (H4.out.2 y hy) (hs5 y h1).1,(hs5 y h1).2⟩
 have LV:OJ TE P (BT.node x l r).rank:=HT.out.2.2.1.2.frame (λy hy=>(hs5 y (λhm=>by
  rw [τ] at hm;rcases hm with hm|hm
  ·exact HP.out.2.2.1 y hm hy
  ·exact HP.out.2.2.2.1 y hm hy)).2)
 have u5:aa (B.blk F gt) w w5:=(u4.mono (λy hy=>by simp only [LB.blk,ρ] at hy ⊢;rcases hy with h|h<;>simp [h])).trans (cB.mono (λy hy=>by
   have:=om.out;simp only [ρ,ς,or_false] at hy;simp only [LB.blk,ρ];rcases hy with rfl|rfl|rfl
   ·simp [this]
   ·simp
   ·simp))
 have ku:=I7 xQ.trees P5 hxl;have tC:=χ xQ;have H5:=χ (ψ P5 (ψ f5 (ψ LV (ψ Ff Fe))));clear xQ Ff Fe hs5 km u4 H4 P5 f5 LV cB;have hmm:∀y,y∈m.nodes->y∉dC P/\y≠x:=λy hy=>by
  obtain ⟨⟨a1,a2,a3⟩,a4,a5,a6,a7⟩:=HP.out;have h1:=Ua.out.mem_iff.1 hy;rw [τ] at h1;rcases h1 with h1|h1
  ·exact ⟨a5 y h1,λe=>a1 (by rw [←e];exact h1)⟩
  ·exact ⟨a6 y h1,λe=>a2 (by rw [←e];exact h1)⟩
 have hmx:∀y,y∈m.nodes->y∈(ak P (.node x l r)).nodes:=λy hy=>aK.2 (Α (by
  have h1:=Ua.out.mem_iff.1 hy
  simp only [BT.nodes,ρ];exact Β h1))
 have JA:m.nodes.Nodup:=Ua.out.nodup_iff.2 HP.out.2.1;have XY:=χ (ψ hmm (ψ hmx JA));clear hmm hmx JA;have sp:=hsep.out;have s1:B.n0≠gt:=sp.1.1.2.2.2;clear sp;cases P with
 | nil=>
  rw [show zK ([]:List Fr)=-1 from rfl,show tv (-1)=0 from rfl,show tb (-1)=false from rfl] at ku
  go_wp2_with (first
   | ((go_at_call 240;(with_reducible refine (ku).mono ?_));rintro e w6 ⟨rfl,kk,PV⟩;(have u6:aa [] w5 w6:=by (rw [PV];exact (aa.refl _ _).drewN kk));clear PV;(have g60:=(tC.out.ai u6).h0);(have g63:=(tC.out.ai u6).h3);(have d6:=(tC.out.ai u6).il.cell g hgt);(have f6:=(tC.out.ai u6).il.free g);(have kd:=fO ((tC.out.ai u6).mD g m.root).cells x KU.out))
   | ((go_at_call 134;(with_reducible refine (kd).mono ?_));rintro e w7 ⟨rfl,YH,ny⟩)
   | fail)
  go_ret;obtain ⟨b1,b2,b3,b4,b5⟩:=H5.out;have bx:=((dE _ _).1 b1).1;refine ⟨rfl,((u5.trans (u6.mono σ)).setCell (Α (by simp [LB.blk])) _).trans (ny.mono (λy hy=>by simp only [LB.blk,ρ];simp [hy])),S5,TE,ag.set g m.root,((tC.out.ai u6).mD g m.root).dV ny YH (λy hy=>Α hy) (dK _ _) (by rw [gM]),b4,b5,b2,⟨bx.2.2.1.root,bx.2.2.2.root,bx.2.1⟩,λq hq=>?_⟩
  by_cases e:q=g
  ·rw [Δ ⟨rfl,e⟩,e,φ,ύ,Δ rfl,Δ hgt];rfl
  ·rw [Γ (λh=>e h.2),φ,ύ,Γ (λh=>e h.symm),←φ]
 | cons f P2=>
  rw [show zK (f::P2)=(f.1:Int) from rfl,NA,Mk] at ku;have hfl:f.1<A.cs.length:=HT.out.2.2.2.2 f.1 (aK.2 (Β (by simp [dC])));have JX:(ak (f::P2) (.node x .nil .nil)).nodes.Nodup:=by
   refine (aX (f::P2) (.node x .nil .nil)).nodup_iff.2 ?_;obtain ⟨⟨a1,a2,a3⟩,a4,a5,a6,a7⟩:=HP.out;simp only [BT.nodes,Ϛ,List.singleton_append,Ζ];exact ⟨a3,a7⟩
  have GZ:∀y,y∈(ak (f::P2) (.node x .nil .nil)).nodes->y∈(ak (f::P2) (.node x l r)).nodes:=λy hy=>by
   rw [aK] at hy ⊢;simp only [BT.nodes,Ϛ,ρ,ς,or_false] at hy;rcases hy with hy|hy
   ·exact Α (by simp [BT.nodes,hy])
   ·exact Β hy
  have XL:∀W,aa [] w5 W->∃z:Int,(z == (x:Int))=f.2.1/\Calls Tryz.prog 239 #[.pointer (some ⟨B.bt,0,none⟩),.int .i64 (f.1:Int)] W λe w'=>e=.returned (.tuple #[.int .i64 (tv z),.bool (tb z)])/\∃k,w'=W.drewN k:=λW hW=>zY (tC.out.ai hW).trees H5.out.1 JX hfl;have Pz:=λW (hW:aa [] w5 W)=>qA (tC.out.ai hW).trees (f:=f) (P:=P2) (t:=.node x .nil .nil) H5.out.1 JX (λy hy=>HT.out.2.2.2.2 y (GZ y hy));rw [show BT.root (.node x .nil .nil)=(x:Int) from rfl] at Pz;generalize hcv:cutV f (.node x .nil .nil)=cv at Pz;generalize hcb:tb (x:Int)=cb at Pz;have Fh:=χ (ψ JX GZ);clear JX GZ hcv hcb
  by_cases hmz:m=.nil
  ·have hmb:(m.root != -1)=false:=by rw [hmz];rfl
   have UF:=χ hmz;clear hmz
   go_wp2_with (first
    | ((go_at_call 240;(with_reducible refine (ku).mono ?_));rintro e w6 ⟨rfl,kk,PV⟩;(have u6:aa [] w5 w6:=by (rw [PV];exact (aa.refl _ _).drewN kk));clear PV;(have g61:=(tC.out.ai u6).h1);obtain ⟨z,hz,kr⟩:=XL w6 u6)
    | ((go_at_call 239;(with_reducible refine (kr).mono ?_));rintro e w7 ⟨rfl,kk7,hw7⟩;(have u7:aa [] w5 w7:=by (rw [hw7];exact u6.drewN kk7));clear hw7;(have g71:=(tC.out.ai u7).h1);(have kc:=Pz w7 u7))
    | (go_at_call 237;(with_reducible refine (lQ _ _).mono ?_);rintro e w9 ⟨rfl,aH⟩;rw [aH];clear aH w9)
    | ((go_at_call 234;(with_reducible refine (kc).mono ?_));rintro e w8 ⟨rfl,AV,S8,Yt,hx8,Zh,ZL⟩;(have kmd:=Em ((tC.out.ai u7).gY AV Yt) (old:=.node x l r) Zh (by trivial) H5.out.2.2.1 (by first|(refine (aX (f::P2) .nil).nodup_iff.2 ?_;simpa [BT.nodes] using HP.out.2.2.2.2)) (by intro y hy;rw [aK] at hy;exact HT.out.2.2.2.2 y (aK.2 (Β (by simpa [BT.nodes] using hy))))))
    | ((go_at_call 235;(with_reducible refine (kmd).mono ?_));rintro e w9 ⟨rfl,xO,S9,rk9,Vi,QN⟩;(have g90:=Vi.h0);(have kd:=fO Vi.cells x KU.out))
    | ((go_at_call 134;(with_reducible refine (kd).mono ?_));rintro e w10 ⟨rfl,Gf,xI⟩)
    | fail)
   go_ret;have hz:=UF.out;subst hz;refine ⟨rfl,((((u5.trans (u7.mono σ)).trans (AV.mono (by simp [LB.blk]))).trans (xO.mono (by simp [LB.blk]))).trans (xI.mono (λy hy=>by simp only [LB.blk,ρ];simp [hy]))),S9,rk9,ag,Vi.dV xI Gf (λy hy=>Α hy) (dK _ _) (by rw [gM]),QN.zP,QN.isR,λy hy=>?_,?_,λq hq=>by rw [Γ σ]⟩
   ·have a1:=H5.out.2.1 y hy;have a2:=ZL y (λhm=>hy (Fh.out.2 y hm));have a3:=QN.far y (λhm=>hy (aK.2 (Β (by rw [aK] at hm;simpa [BT.nodes] using hm))));exact ⟨gT (gT a1.1 a2) a3.1,a3.2.trans a1.2⟩
   ·have a3:=(QN.far x (λhm=>HP.out.1.2.2 (by rw [aK] at hm;simpa [BT.nodes] using hm))).1;have a4:=hx8;exact ⟨a3.1.trans a4.2.2.1.root,a3.2.1.trans a4.2.2.2.root,a3.2.2.trans a4.2.1⟩
  ·have hmb:(m.root != -1)=true:=by
    have:=(bL hmz).2;simp;omega
   have UF:=χ hmz;have hxm:∀y,y∈m.nodes->y∉(ak (f::P2) (.node x .nil .nil)).nodes:=λy hy hm=>by
    have b1:=XY.out.1 y hy;rw [aK] at hm;simp only [BT.nodes,Ϛ,ρ,ς,or_false] at hm;rcases hm with hm|hm
    ·exact b1.2 hm
    ·exact b1.1 hm
   have hnd:(m.nodes++dC (f::P2)).Nodup:=by
    rw [θ];exact ⟨XY.out.2.2,HP.out.2.2.2.2,λa ha b hb e=>(XY.out.1 a ha).1 (by rw [e];exact hb)⟩
   have hsm:∀y,y∈m.nodes++dC (f::P2)->y∈(ak (f::P2) (.node x l r)).nodes:=λy hy=>by
    rw [τ] at hy;rcases hy with hy|hy
    ·exact XY.out.2.1 y hy
    ·exact aK.2 (Β hy)
   have LJ:=χ (ψ hxm (ψ hnd hsm));clear hmz hxm hnd hsm
   go_wp2_with (first
    | ((go_at_call 240;(with_reducible refine (ku).mono ?_));rintro e w6 ⟨rfl,kk,PV⟩;(have u6:aa [] w5 w6:=by (rw [PV];exact (aa.refl _ _).drewN kk));clear PV;(have g61:=(tC.out.ai u6).h1);obtain ⟨z,hz,kr⟩:=XL w6 u6)
    | ((go_at_call 239;(with_reducible refine (kr).mono ?_));rintro e w7 ⟨rfl,kk7,hw7⟩;(have u7:aa [] w5 w7:=by (rw [hw7];exact u6.drewN kk7));clear hw7;(have g71:=(tC.out.ai u7).h1);(have kc:=Pz w7 u7))
    | (go_at_call 237;(with_reducible refine (lQ _ _).mono ?_);rintro e w9 ⟨rfl,aH⟩;rw [aH];clear aH w9)
    | ((go_at_call 234;(with_reducible refine (kc).mono ?_));rintro e w8 ⟨rfl,AV,S8,Yt,hx8,Zh,ZL⟩;(have g81:=((tC.out.ai u7).gY AV Yt).h1);(have Z5:=Aj Yt Zh (H5.out.2.2.2.1.frame (λy hy=>ZL y (LJ.out.1 y hy))) UF.out LJ.out.2.1 (λy hy=>HT.out.2.2.2.2 y (LJ.out.2.2 y hy))))
    | ((go_at_call 241;(with_reducible refine (Z5).mono ?_));rintro e w8b ⟨rfl,Zd,S8b,hT8b,hp8b,Y6⟩;(have kmd:=Em (((tC.out.ai u7).gY AV Yt).gY Zd hT8b) (old:=.node x l r) hp8b H5.out.2.2.2.2 H5.out.2.2.1 ((aX (f::P2) m).nodup_iff.2 LJ.out.2.1) (λy hy=>HT.out.2.2.2.2 y (LJ.out.2.2 y ((aX (f::P2) m).mem_iff.1 hy)))))
    | ((go_at_call 235;(with_reducible refine (kmd).mono ?_));rintro e w9 ⟨rfl,xO,S9,rk9,Vi,QN⟩;(have g90:=Vi.h0);(have kd:=fO Vi.cells x KU.out))
    | ((go_at_call 134;(with_reducible refine (kd).mono ?_));rintro e w10 ⟨rfl,Gf,xI⟩)
    | fail)
   go_ret;refine ⟨rfl,(((((u5.trans (u7.mono σ)).trans (AV.mono (by simp [LB.blk]))).trans (Zd.mono (by simp [LB.blk]))).trans (xO.mono (by simp [LB.blk]))).trans (xI.mono (λy hy=>by simp only [LB.blk,ρ];simp [hy]))),S9,rk9,ag,Vi.dV xI Gf (λy hy=>Α hy) (dK _ _) (by rw [gM]),QN.zP,QN.isR,λy hy=>?_,?_,λq hq=>by rw [Γ σ]⟩
   ·have a1:=H5.out.2.1 y hy;have a2:=ZL y (λhm=>hy (Fh.out.2 y hm));have a2b:=Y6 y (λhm=>hy (LJ.out.2.2 y hm));have a3:=QN.far y (λhm=>hy (LJ.out.2.2 y ((aX (f::P2) m).mem_iff.1 hm)));exact ⟨gT (gT (gT a1.1 a2) a2b) a3.1,a3.2.trans a1.2⟩
   ·have sD:x∉m.nodes++dC (f::P2):=λhm=>by
     rw [τ] at hm;rcases hm with hm|hm
     ·exact (XY.out.1 x hm).2 rfl
     ·exact HP.out.1.2.2 hm
    have a3:=gT (Y6 x sD) (QN.far x (λhm=>sD ((aX (f::P2) m).mem_iff.1 hm))).1;have a4:=hx8;exact ⟨a3.1.trans a4.2.2.1.root,a3.2.1.trans a4.2.2.2.root,a3.2.2.trans a4.2.1⟩
theorem E5 (h:kQ w B F gt ct A st tr) (g x:Nat) (hx:x∈(tr g).nodes) :
  Calls Tryz.prog 228 #[.pointer (some ⟨B.n0,0,none⟩),.int .i64 (x:Int)] w λe w'=>e=.returned (.bool true)/\aa (B.blk F gt) w w'/\
   kQ w' B F gt ct (aU A x) (bS st (Dl A (tr g) x).2) (λq=>if q=g then (Dl A (tr g) x).1 else tr q):=by
 obtain ⟨S,rk,ag,hM,hI,hL,hR⟩:=h;have hm:=(hI.mem g x).1 hx;have hin:bR A (x:Int)=true:=(ay A x).2 ⟨hm.2.1,ω⟩;have e:=wy hx;unfold Dl;generalize (pathOf (tr g) x).1=P at *;generalize (pathOf (tr g) x).2.1=l at *;generalize (pathOf (tr g) x).2.2=r at *;have hgt:g<ag.length:=by rw [hM.iB];have:=(hM.cells.ok.nat x hm.2.1);omega
 have hgh:g<A.hs.length:=by rw [←hM.iB];exact hgt
 have hT:=hI.zP g;have hn:=hI.nd g;have hH:=hI.heap g;have hRg:=hR g;have Ue:=hL g;rw [e] at hT hn hH hRg Ue;obtain ⟨d1,d2,d3⟩:=Du lL hn hH;obtain ⟨l1,l2⟩:=(wB _ _).1 Ue;have ml:=sM A _ l r (Θ _) l1.2.1 l1.2.2;refine (BI hM hin hm.2.2 hgt hT hn hRg (λy hy=>?_)).mono ?_
 ·rw [←e] at hy;have:=(hI.mem g y).1 hy;exact (ay A y).2 ⟨this.2.1,ω⟩
 ·rintro e' w' ⟨rfl,hu,S',nz,kE,q1,q2,q3,q4,q5,q6⟩;refine ⟨rfl,hu,S',nz,kE,q1,hI.del hx q2 ?_ (Ov _ _ _ d2) (λy hy=>(q4 y (by rw [←e];exact hy)).1) q5 (λq hq=>?_),λq=>?_,λq=>?_⟩
  ·rw [e];exact ((KO _ _ _).cons x).trans d1
  ·rw [q6 q hq]
   by_cases hq':q=g
   ·rw [Δ hq']
    by_cases hp:P=[]
    ·rw [Δ ⟨hp,hq'⟩]
    ·rw [Γ (λh=>hp h.1),hq',hI.top g hgh,e];cases P with
     | nil=>exact absurd rfl hp
     | cons f P2=>rw [Ml];exact oU _ _ _ _
   ·rw [Γ hq',Γ (λh=>hq' h.2)]
  ·show Lean (if q=g then _ else _)
   split
   ·exact Mj _ _ _ ml l2
   ·exact hL q
  ·show fE nz (if q=g then _ else _)
   split
   ·exact q3
   ·rename_i hq
    refine (hR q).frame (λy hy=>(q4 y (λhm'=>?_)).2);rw [←e] at hm';have c1:=(hI.mem g y).1 hm';have c2:=(hI.mem q y).1 hy;omega
end
section
variable {w:World} {B:LB} {F:List Nat} {gt ct:Nat} {A:NS} {st:Nat} {tr:Nat->BT} {S:TS} {rk:Nat->Nat} {ag:List Int}
def Az (up:Nat->BT->BT->BT) (A:NS) (tr:Nat->BT) (a b:Nat):BT×Nat:=aC up (ah A a b) (tr a) (tr b)
theorem JN (h:kQ w B F gt ct A st tr) (a b:Nat) (hj:fQ A a b=true) :
  Calls Tryz.prog 232 #[.pointer (some ⟨B.n0,0,none⟩),.int .i64 (a:Int),.int .i64 (b:Int)] w λe w'=>e=.returned (.bool true)/\aa (B.blk F gt) w w'/\
   kQ w' B F gt ct (ah A a b) (bS st (Az aj A tr a b).2) (λq=>if q=a then (Az aj A tr a b).1 else if q=b then .nil else tr q):=by
 obtain ⟨S,rk,ag,hM,hI,hL,hR⟩:=h;obtain ⟨j1,j2,j3⟩:=(cO _ _ _).1 hj;have a1:=(aA _ _).1 j1;have a2:=(aA _ _).1 j2;have hne:a≠b:=λe=>j3 (by rw [e]);have hcs:=dA A a b;have iN:(ah A a b).hs.length=A.hs.length:=by unfold ah;rw [Δ hj];simp
 have yX:=hI.top a ω;have htb:=hI.top b ω;have hX:((tr a).nodes++(tr b).nodes).Nodup:=by
  rw [θ];refine ⟨hI.nd a,hI.nd b,λx hx y hy e2=>?_⟩;have b1:=(hI.mem a x).1 hx;have b2:=(hI.mem b y).1 hy;rw [e2] at b1;omega
 have hin:∀y,y∈(tr a).nodes++(tr b).nodes->bR (ah A a b) (y:Int)=true:=λy hy=>by
  rw [ay,hcs,kY hj];rw [τ] at hy;rcases hy with hy|hy
  ·have:=(hI.mem a y).1 hy;refine ⟨this.2.1,?_⟩
   show 0<(if _ then _ else _:Int)
   split<;>omega
  ·have:=(hI.mem b y).1 hy;refine ⟨this.2.1,?_⟩
   show 0<(if _ then _ else _:Int)
   split<;>omega
 obtain ⟨mp,mh⟩:=mF lL (ah A a b) _ (tr a) (tr b) (Θ _);have Ka:=mh (lN hj (hI.heap a)) (lN hj (hI.heap b)) hX;have ml:=sM (ah A a b) _ (tr a) (tr b) (Θ _) (hL a) (hL b);have CY:=hI.zP a;have CJ:=hI.zP b;have hra:=hR a;have hrb:=hR b;unfold Az
 have FI:Hid (∀ (W:World) (S':TS) (nz:Nat->Nat) (st':Nat),jI W B F gt ct (ah A a b) st' S' nz ((ag.set a (aC aj (ah A a b) (tr a) (tr b)).1.root).set b (-1))->bY S' (-1) (aC aj (ah A a b) (tr a) (tr b)).1.root (aC aj (ah A a b) (tr a) (tr b)).1->fE nz (aC aj (ah A a b) (tr a) (tr b)).1->
   (∀y,y∉(tr a).nodes++(tr b).nodes->S.at S' y/\nz y=rk y)->kQ W B F gt ct (ah A a b) st' (λq=>if q=a then (aC aj (ah A a b) (tr a) (tr b)).1 else if q=b then .nil else tr q)):=λW S' nz st' b1 b2 b3 b4=>by
  refine ⟨S',nz,_,b1,hI.join hj b2 mp Ka (λy hy=>(b4 y hy).1) (λq hq=>?_),λq=>?_,λq=>?_⟩
  ·have hl:ag.length=A.hs.length:=hM.iB;rw [φ,ύ,Ι]
   by_cases e:q=a
   ·rw [Γ ω,ύ,Δ e.symm,Δ ω,Δ e];rfl
   ·by_cases e2:q=b
    ·rw [Δ e2.symm,Δ ω,Γ e,Δ e2];rfl
    ·rw [Γ ω,ύ,Γ ω,Γ e,Γ e2,←φ]
  ·show Lean (if q=a then _ else if q=b then _ else _)
   split
   ·exact ml
   ·split
    ·exact trivial
    ·exact hL q
  ·show fE nz (if q=a then _ else if q=b then _ else _)
   split
   ·exact b3
   ·split
    ·exact trivial
    ·rename_i hq1 hq2
     refine (hR q).frame (λy hy=>(b4 y (λhm=>?_)).2);have c2:=(hI.mem q y).1 hy;rw [τ] at hm;rcases hm with hm|hm
     ·have c1:=(hI.mem a y).1 hm;omega
     ·have c1:=(hI.mem b y).1 hm;omega
 have hga:a<ag.length:=by rw [hM.iB];omega
 have hgb:b<ag.length:=by rw [hM.iB];omega
 have kj:=jQ hM.cells a b hj;have h0:=hM.h0;have UX:=hM.cells.ok.h1;have HM:=χ hM;have Wy:=χ (ψ hM.sep hM.bI);have om:=hM.cF;have HH:=χ (ψ hX (ψ hin (ψ (ψ CY CJ) (ψ hra hrb))));clear hM hI hL hR hX hin mp mh Ka ml CY CJ hra hrb j1 j2 j3 a1 a2;generalize hA':ah A a b=A' at *;generalize Xo:tr a=ta at *;generalize XI:tr b=tb at *
 go_enter Tryz.func232,Tryz.ntmps232
 go_wp2_with (first
  | ((go_at_call 141;(with_reducible refine (kj).mono ?_));rintro e w1 ⟨rfl,gK,hu1⟩)
  | fail)
 have hM1:=HM.out.dV hu1 gK (λy hy=>Α hy) hcs iN;have km:=λW (hW:aa [] w1 W)=>sF (hM1.ai hW) HH.out.2.2.1.1 HH.out.2.2.1.2 HH.out.1 HH.out.2.1 HH.out.2.2.2.1 HH.out.2.2.2.2;have d4:=hM1.il.cell a hga;rw [yX] at d4;have TQ:=hM1.il.cell b hgb;rw [htb] at TQ;have f4:=hM1.il.free a;have YY:=hM1.il.free b;have h3:=hM1.h3;have hgl:=hM1.lt gt (by simp [LB.blk]);have nC:=χ hM1;have uN:B.n0∉[B.c,B.ba,B.br,gt]:=by
  have a1:=Wy.out;have a2:B.n0≠B.c:=λe=>a1.2.1 (by rw [e];exact om);simp;omega
 have hgc:gt∉[B.c,B.ba,B.br]:=by
  have a1:=Wy.out;have a2:gt≠B.c:=λe=>a1.2.2.2.2.2 (by rw [e];exact om);simp;omega
 have r3:∀W,aa [B.c,B.ba,B.br,gt] w1 W->W.cell? ⟨B.n0,3,none⟩=some (.slice (some ⟨gt,0,none⟩) ag.length ct):=λW hW=>hW.kept h3 uN;have r4:∀W,aa [B.c,B.ba,B.br] w1 W->W.cell? ⟨gt,a,none⟩=some (.int .i64 ta.root)/\W.frozen? ⟨gt,a,none⟩=false:=λW hW=>⟨hW.kept d4 hgc,hW.aM d4 hgc f4⟩
 have r5:∀W,aa [B.c,B.ba,B.br] w1 W->W.cell? ⟨gt,b,none⟩=some (.int .i64 tb.root)/\W.frozen? ⟨gt,b,none⟩=false:=λW hW=>⟨hW.kept TQ hgc,hW.aM TQ hgc YY⟩
 have zi:(0:Int)<=(a:Int):=ω;have Bd:(a:Int)<(ag.length:Int):=ω;have XE:(0:Int)<=(b:Int):=ω;have hib4:(b:Int)<(ag.length:Int):=ω;generalize hmt:(aC aj A' ta tb).1=mt at *;generalize hmk:(aC aj A' ta tb).2=mk at *;have s1:B.n0≠gt:=Wy.out.1.1.2.2.2;clear hM1 f4 YY h3;have q3:=r3 _ (aa.refl _ _);have q4:=(r4 _ (aa.refl _ _)).1;have q4b:=(r5 _ (aa.refl _ _)).1
 go_region_law
  (first
   | (go_simp;go_at_call 236;(with_reducible refine (km _ β).mono ?_);rintro e w5 ⟨rfl,vS,S5,TE,xQ,Ff,Fe,hs5⟩;(have cB:aa [B.c,B.ba,B.br] w1 w5:=aa.trans β vS);(have jy:aa [B.c,B.ba,B.br,gt] w1 w5:=cB.mono σ);obtain ⟨d5,f5⟩:=r4 _ cB;obtain ⟨d5b,f5b⟩:=r5 _ cB;(have q5:=r3 _ jy)))
 all_goals
  go_wp2;go_ret;have v1:aa (B.blk F gt) w w1:=hu1.mono (λy hy=>by simp only [LB.blk,ρ];simp [hy])
  have v3:aa (B.blk F gt) w w5:=v1.trans (cB.mono (λy hy=>by
   simp only [ρ,ς,or_false] at hy;simp only [LB.blk,ρ];rcases hy with rfl|rfl|rfl
   ·simp [om]
   ·simp
   ·simp))
  subst hmt hmk;exact ⟨rfl,(v3.setCell (Α (by simp [LB.blk])) _).setCell (Α (by simp [LB.blk])) _,FI.out _ S5 TE _ ((xQ.mD a _).mD b (-1)) Ff Fe hs5⟩
theorem zn (h:kQ w B F gt ct A st tr) (g:Nat) (hn:0<bU A g) :
  Calls Tryz.prog 229 #[.pointer (some ⟨B.n0,0,none⟩),.int .i64 (g:Int)] w λe w'=>∃m:Nat,dM A g=some m/\e=.returned (.tuple #[.int .i64 (m:Int),.bool true])/\aa (B.blk F gt) w w'/\
   kQ w' B F gt ct (aU A m) (bS st (Dl A (tr g) m).2) (λq=>if q=g then (Dl A (tr g) m).1 else tr q):=by
 have k:=A8 h g hn;have h':=h;obtain ⟨S,rk,ag,hM,hI,hL,hR⟩:=h';have kd:=λm hm=>E5 h g m hm;have hroot:∀m:Nat,(tr g).root=m->m∈(tr g).nodes:=λm hm=>by
  have hne:tr g≠.nil:=λe=>by rw [e] at hm;have:(-1:Int)=m:=hm;omega
  have:=(bL hne).1;rw [hm] at this;simpa using this
 clear hM hI hL hR h
 go_enter Tryz.func229,Tryz.ntmps229
 go_wp2_with (first
  | ((go_at_call 233;(with_reducible refine (k).mono ?_));rintro e w1 ⟨m,hm1,hm2,rfl,rfl⟩;(have Yg:=kd m (hroot m hm2)))
  | ((go_at_call 228;(with_reducible refine (Yg).mono ?_));rintro e w2 ⟨rfl,hu2,hL2⟩)
  | fail)
 go_ret2;exact ⟨m,hm1,rfl,hu2,hL2⟩
end
theorem Hd (p c:Nat):∀W:World,W.cell? ⟨p,0,none⟩=some (.pointer (some ⟨c,0,none⟩))->(method 409 138 (.pointer (some ⟨p,0,none⟩)) "Has").run Tryz.prog W=.ok (123,.pointer (some ⟨c,0,none⟩)) W:=(by intro W h;unfold method;have hm:∃m,(Array.find? (λx=>x.name == "Has") Tryz.t138.methods)=some m/\m.path.toList=[⟨204,0,true⟩]/\m.func=some (123,true)/\m.path.isEmpty=false:=⟨(Array.find? (λx=>x.name == "Has") Tryz.t138.methods).get!,by kernel_rfl,by kernel_rfl,by kernel_rfl,by kernel_rfl⟩;obtain ⟨m,h1,h2,h3,h4⟩:=hm;go_simp;simp only [follow,Place.get];go_simp;(try unfold receiverAt);(try simp only [Place.get]);(try go_simp))
theorem Bh (p c:Nat):∀W:World,W.cell? ⟨p,0,none⟩=some (.pointer (some ⟨c,0,none⟩))->(method 409 138 (.pointer (some ⟨p,0,none⟩)) "Entry").run Tryz.prog W=.ok (121,.pointer (some ⟨c,0,none⟩)) W:=(by intro W h;unfold method;have hm:∃m,(Array.find? (λx=>x.name == "Entry") Tryz.t138.methods)=some m/\m.path.toList=[⟨204,0,true⟩]/\m.func=some (121,true)/\m.path.isEmpty=false:=⟨(Array.find? (λx=>x.name == "Entry") Tryz.t138.methods).get!,by kernel_rfl,by kernel_rfl,by kernel_rfl,by kernel_rfl⟩;obtain ⟨m,h1,h2,h3,h4⟩:=hm;go_simp;simp only [follow,Place.get];go_simp;(try unfold receiverAt);(try simp only [Place.get]);(try go_simp))
theorem Sj (p:Nat):∀W:World,(method 409 138 (.pointer (some ⟨p,0,none⟩)) "Make").run Tryz.prog W=.ok (231,.pointer (some ⟨p,0,none⟩)) W:=λ_=>by kernel_rfl
theorem JD (p:Nat):∀W:World,(method 409 138 (.pointer (some ⟨p,0,none⟩)) "Insert").run Tryz.prog W=.ok (230,.pointer (some ⟨p,0,none⟩)) W:=λ_=>by kernel_rfl
theorem TC (p:Nat):∀W:World,(method 409 138 (.pointer (some ⟨p,0,none⟩)) "Min").run Tryz.prog W=.ok (233,.pointer (some ⟨p,0,none⟩)) W:=λ_=>by kernel_rfl
theorem Gv (p:Nat):∀W:World,(method 409 138 (.pointer (some ⟨p,0,none⟩)) "Extract").run Tryz.prog W=.ok (229,.pointer (some ⟨p,0,none⟩)) W:=λ_=>by kernel_rfl
def LfQ (w:World) (p:Nat) (F:List Nat) (A:NS):Prop:=∃B F1 gt ct st tr,p=B.n0/\F=B.blk F1 gt/\kQ w B F1 gt ct A st tr
def uJ:NestQ where
 ty:=138
 at_:=LfQ
 upd:=λh hu hS=>by
  obtain ⟨B,F1,gt,ct,st,tr,rfl,rfl,hL⟩:=h;exact ⟨B,F1,gt,ct,st,tr,rfl,rfl,hL.upd hu hS⟩
 lt:=λh=>by
  obtain ⟨B,F1,gt,ct,st,tr,rfl,rfl,S,rk,ag,hM, -⟩:=h;exact hM.lt
 ok:=λh=>by
  obtain ⟨B,F1,gt,ct,st,tr,rfl,rfl,S,rk,ag,hM, -⟩:=h;exact hM.cells.ok
 make:=λ{w p F A} h=>by
  obtain ⟨B,F1,gt,ct,st,tr,rfl,rfl,hL⟩:=h;refine aP 231 (λ_ _=>by kernel_rfl) (Sj _) (λW hW=>?_);have mg:=hL.ai hW
  by_cases hl:65536<A.hs.length
  ·have e1:bW A=0:=by unfold bW;rw [Δ hl]
   have e2:aI A=A:=by unfold aI;rw [Δ hl]
   rw [e1,e2];refine (Ox mg hl).mono ?_;rintro e w' ⟨rfl,F',⟨F2,rfl,hA⟩,hu,hf⟩;exact ⟨rfl,_,⟨B,F2,gt,ct,st,tr,rfl,rfl,hA⟩,hu,hf⟩
  ·have e1:bW A=A.hs.length:=by unfold bW;rw [Γ hl]
   rw [e1];refine (KG mg hl).mono ?_;rintro e w' ⟨rfl,F',⟨F2,gt2,ct2,rfl,hA⟩,hu,hf⟩;exact ⟨rfl,_,⟨B,F2,gt2,ct2,st,tr,rfl,rfl,hA⟩,hu,hf⟩
 insert:=λ{w p F A} g y k s hk hB h=>by
  obtain ⟨B,F1,gt,ct,st,tr,rfl,rfl,hL⟩:=h;refine aP 230 (λ_ _=>by kernel_rfl) (JD _) (λW hW=>?_);refine (DR (hL.ai hW) g y k s hk hB).mono ?_;rintro e w' ⟨rfl,hu,hL2⟩;exact ⟨rfl,Goes.stay ⟨B,F1,gt,ct,_,_,rfl,rfl,hL2⟩ hu⟩
 min:=λ{w p F A} y hB h=>by
  obtain ⟨B,F1,gt,ct,st,tr,rfl,rfl,hL⟩:=h;refine aP 233 (λ_ _=>by kernel_rfl) (TC _) (λW hW=>?_);have mg:=hL.ai hW;have hok:A.Ok:=by obtain ⟨S,rk,ag,hM, -⟩:=hL;exact hM.cells.ok
  by_cases hl:bU A (y:Int)=0
  ·rw [gI.2 hl];have h4:=(aA _ _).1 hB;have h5:=hok.h1;refine (Jl mg y ω hl).mono ?_;rintro e w' ⟨rfl,rfl⟩;exact ⟨rfl,Goes.stay ⟨B,F1,gt,ct,st,tr,rfl,rfl,mg⟩ (aa.refl _ _)⟩
  ·refine (A8 mg y ω).mono ?_;rintro e w' ⟨m,hm, -,rfl,rfl⟩;rw [hm];exact ⟨rfl,Goes.stay ⟨B,F1,gt,ct,st,tr,rfl,rfl,mg⟩ (aa.refl _ _)⟩
 extract:=λ{w p F A} y m hm h=>by
  obtain ⟨B,F1,gt,ct,st,tr,rfl,rfl,hL⟩:=h;refine aP 229 (λ_ _=>by kernel_rfl) (Gv _) (λW hW=>?_);have hl:¬bU A (y:Int)=0:=λe=>by rw [gI.2 e] at hm;cases hm
  refine (zn (hL.ai hW) y ω).mono ?_;rintro e w' ⟨m',hm',rfl,hu,hL2⟩;rw [hm] at hm';cases hm';exact ⟨rfl,Goes.stay ⟨B,F1,gt,ct,_,_,rfl,rfl,hL2⟩ hu⟩
 has:=λx h=>by
  obtain ⟨B,F1,gt,ct,st,tr,rfl,rfl,S,rk,ag,hM, -⟩:=h;exact gN 123 (λ_ _=>by kernel_rfl) hM.h0 (Hd _ _) (λW hW=>iM (hM.ai hW).cells x)
 entry:=λ{w p F A} x h=>by
  obtain ⟨B,F1,gt,ct,st,tr,rfl,rfl,S,rk,ag,hM, -⟩:=h;refine gN 121 (λ_ _=>by kernel_rfl) hM.h0 (Bh _ _) (λW hW=>?_);cases hin:bR A x with
  | false=>simpa using jP (hM.ai hW).cells x hin
  | true=>
   obtain ⟨y,rfl⟩:=oW hin;simpa using iZ (hM.ai hW).cells y hin
theorem F8 (p:Nat) (w:World):Calls Tryz.prog 65 #[.pointer (some ⟨p,0,none⟩),.int .i64 0] w λe w'=>e=.returned (.tuple #[.iface 138 (.pointer (some ⟨p,0,none⟩)),.int .i64 0])/\w'=w:=by
 go_enter Tryz.func65,Tryz.ntmps65
 go_wp2;go_ret2;exact ⟨rfl,rfl⟩
theorem DI (n:Nat) (hn:n<=65536):nW uJ 6 0 n:=by
 intro w;have kn:=λW=>MF n W hn;have km:=F8;have hty:uJ.ty=138:=rfl;have hat:∀w' B F gt,kQ w' B F gt 1 (NS.new n) 0 (λ_=>.nil)->uJ.at_ w' B.n0 (B.blk F gt) (NS.new n)/\Ef w' B.n0 n:=λw' B F gt h=>⟨⟨B,F,gt,_,_,_,rfl,rfl,h⟩,by obtain ⟨S,rk,ag,hM, -⟩:=h;exact ⟨_,_,hM.h0,hM.cells⟩⟩
 generalize uJ=K at *;rw [hty]
 go_enter Tryz.func35,Tryz.ntmps35
 go_wp2_with (first
  | ((go_at_call 66;(with_reducible refine (kn _).mono ?_));rintro e w1 ⟨B,F,gt,rfl,hS,hu1,hf⟩)
  | ((go_at_call 65;(with_reducible refine (km _ _).mono ?_));rintro e w2 ⟨rfl,rfl⟩)
  | fail)
 go_ret2;exact ⟨B.n0,B.blk F gt,rfl,(hat _ _ _ _ hS).1,(hat _ _ _ _ hS).2,aa.trans β hu1,λx hx=>by have:=hf x hx;simp at this;omega⟩
def gY (tr:Nat->BT) (h:Nat) (t:BT):Nat->BT:=λq=>if q=h then t else tr q
end Go.Proofs.YtnpdakpagnpanaaGreat
