/-
  Lemmas for RankSorts: Spine, Spine2, Bt. Conditions: those of each lemma.
-/
import Derived.Test.YtklibcncmbofpaaGreatP02
set_option maxHeartbeats 8000000
set_option maxRecDepth 10000
set_option linter.unusedVariables false
set_option linter.unusedSimpArgs false
namespace Go.Proofs.YtklibcncmbofpaaGreat
open Go Go.RowKit
structure TS where
 l:Nat→Int
 r:Nat→Int
 u:Nat→Int
def TS.none:TS:=⟨fun _=>-1,fun _=>-1,fun _=>-1⟩
def TS.kid (S:TS) (s:Bool) (x:Nat):Int:=if s then S.r x else S.l x
def bU (S:TS) (j:Nat):Value:=.int .i64 (if j % 3=0 then S.l (j / 3) else if j % 3=1 then S.r (j / 3) else S.u (j / 3))
theorem mV (S:TS) (x:Nat):bU S (x*3)=.int .i64 (S.l x):=by unfold bU;rw [if_pos ω,show x*3 / 3=x by omega]
theorem mP (S:TS) (x:Nat):bU S (x*3+1)=.int .i64 (S.r x):=by unfold bU;rw [if_neg ω,if_pos ω,show (x*3+1) / 3=x by omega]
theorem qG (S:TS) (x:Nat):bU S (x*3+2)=.int .i64 (S.u x):=by unfold bU;rw [if_neg ω,if_neg ω,show (x*3+2) / 3=x by omega]
structure aT (w:World) (bt ba n:Nat) (S:TS):Prop where
 head:aI w bt 257 1 (fun _=>.slice (some ⟨ba,0,none⟩) n n)
 row:aI w ba 260 (n*3) (bU S)
 ne:bt≠ba
 le:n≤65536
theorem aT.upd {w w':World} {F:List Nat} {bt ba n:Nat} {S:TS} (h:aT w bt ba n S) (hu:aa F w w') (h1:bt∉F) (h2:ba∉F):aT w' bt ba n S:=
 ⟨h.head.upd hu h1,h.row.upd hu h2,h.ne,h.le⟩
theorem aT.drewN {w:World} {bt ba n:Nat} {S:TS} (h:aT w bt ba n S) (k:Nat):aT (w.drewN k) bt ba n S:=⟨h.head,h.row,h.ne,h.le⟩
theorem aT.drew {w:World} {bt ba n:Nat} {S:TS} (h:aT w bt ba n S):aT w.drew bt ba n S:=⟨h.head,h.row,h.ne,h.le⟩
theorem GH:(Tryz.prog.info? 260).map (fun i=>(i.zero,i.size,i.bytes))=some (some (.agg #[.int .i64 0,.int .i64 0,.int .i64 0]),3,24):=by kernel_rfl
theorem rU (n:Nat) (w:World) (h:n≤65536) :
  Calls Tryz.prog 112 #[.int .i64 (n:Int)] w fun e w'=>∃bt ba,e=.returned (.tuple #[.pointer (some ⟨bt,0,none⟩),.int .i64 0])∧aT w' bt ba n TS.none∧aa [] w w'∧w.heap.size≤bt∧w.heap.size≤ba:=by
 go_enter Tryz.func112,Tryz.ntmps112
 go_wp2_with (at_make;refine wpList_make_row rfl _ 255 rfl 260 (.agg #[.int .i64 0,.int .i64 0,.int .i64 0]) 3 24 Tryz.underlying255 GH n rfl ω μ ?_;intro w1 hr1 hu1)
 have hlt:=hr1.lt
 go_loopw [21] (fun i wr=>∃ (k:Nat) (f:Nat→Value),k≤n∧i=.int .i64 k∧aI wr w1.heap.size 257 1 (fun _=>.slice (some ⟨w.heap.size,0,none⟩) n n)∧aI wr w.heap.size 260 (n*3) f∧(∀j,j<k*3→f j=.int .i64 (-1))∧aa [] w wr) (fun i _=>n-(intOf i).toNat)
 case atStart=>exact ⟨0,_,ω,rfl,dm _ _ _ |>.ext (fun j hj=>by simp at hj;subst hj;rfl),hr1.alloc _,ω,hu1.alloc _⟩
 case round=>
  obtain ⟨k,f,hk,rfl,hH,hR,hf,hu⟩:=hrel
  by_cases hkn:k<n
  ·have c0:=hH.cell 0 ω;have d0:=hR.cell (k*3) ω;have d1:=hR.cell (k*3+1) ω;have d2:=hR.cell (k*3+2) ω;have e0:=hR.free (k*3);have e1:=hR.free (k*3+1);have e2:=hR.free (k*3+2);have HF:=χ hf;clear hf;go_wp2
   go_roundw
   case rel=>
    refine ⟨k+1,_,ω,by go_num,((hH.far _ _ ζ).far _ _ ζ).far _ _ ζ,((hR.set _ _).set _ _).set _ _,fun j hj=>?_,((hu.setCell (Or.inr σ) _).setCell (Or.inr σ) _).setCell (Or.inr σ) _⟩
    show (if j=k*3+2 then _ else if j=k*3+1 then _ else if j=k*3 then _ else f j)=_
    split
    ·rfl
    ·split
     ·rfl
     ·split
      ·rfl
      ·exact HF.out j ω
   case measure=>simp [intOf];omega
  ·obtain rfl:k=n:=ω;go_wp2;go_ret2;exact ⟨_,_,rfl,⟨hH,hR.ext (fun j hj=>by rw [hf j hj];unfold bU TS.none;simp),ω,h⟩,hu,hu1.size,Nat.le_refl _⟩
theorem nP (bt ba n:Nat) (S:TS) (x:Int) (w:World) (h:aT w bt ba n S) (b:Bool) (hb:b=decide (0≤x∧x<n)) :
  Calls Tryz.prog 257 #[.pointer (some ⟨bt,0,none⟩),.int .i64 x] w fun e w'=>e=.returned (.bool b)∧w'=w:=by
 have hle:=h.le;have c0:=h.head.cell 0 ω;clear h;subst hb
 by_cases h0:0≤x
 ·by_cases h1:x<n
  ·go_enter Tryz.func257,Tryz.ntmps257
   go_wp2;go_ret;exact ⟨aV (by simp [h0,h1]),rfl⟩
  ·go_enter Tryz.func257,Tryz.ntmps257
   go_wp2;go_ret;exact ⟨aV (by simp [h0,h1]),rfl⟩
 ·go_enter Tryz.func257,Tryz.ntmps257
  go_wp2;go_ret;exact ⟨aV ζ,rfl⟩
theorem pz (b:Bool) (w:World):Calls Tryz.prog 253 #[.bool b] w fun e w'=>e=.returned (.int .i64 (if b then 1 else 0))∧w'=w:=by
 cases b
 all_goals
  go_enter Tryz.func253,Tryz.ntmps253
  go_wp2;go_ret;exact ⟨rfl,rfl⟩
theorem told_none (w:World):Calls Tryz.prog 256 #[.int .i64 (-1)] w fun e w'=>e=.returned (.tuple #[.int .i64 0,.bool false])∧w'=w:=by
 go_enter Tryz.func256,Tryz.ntmps256
 go_wp2;go_ret2;exact ⟨rfl,rfl⟩
theorem IU (x:Int) (w:World) (h:x≠-1):Calls Tryz.prog 256 #[.int .i64 x] w fun e w'=>e=.returned (.tuple #[.int .i64 x,.bool true])∧w'=w:=by
 have h':(x == -1)=false:=by simpa using h
 go_enter Tryz.func256,Tryz.ntmps256
 go_wp2;go_ret2;exact ⟨rfl,rfl⟩
def eY (n:Nat) (S:TS) (x:Int) (r:Bool):Int:=if 0≤x∧x<n then S.kid r x.toNat else -1
def mF (n:Nat) (S:TS) (x:Int):Int:=if 0≤x∧x<n then S.u x.toNat else -1
theorem vW (bt ba n:Nat) (S:TS) (x:Int) (r:Bool) (w:World) (h:aT w bt ba n S) :
  Calls Tryz.prog 254 #[.pointer (some ⟨bt,0,none⟩),.int .i64 x,.bool r] w fun e w'=>e=.returned (.int .i64 (eY n S x r))∧∃k,w'=w.drewN k:=by
 by_cases hx:0≤x∧x<n
 ·obtain ⟨k,rfl⟩:∃k:Nat,x=k:=⟨x.toNat,ω⟩
  have hk:k<n:=ω;have e:eY n S k r=S.kid r k:=by unfold eY;rw [if_pos hx];simp
  have hle:=h.le;have c0:=h.head.cell 0 ω;have d0:=h.row.cellAt (k*3) ω (mV S k);have d1:=h.row.cellAt (k*3+1) ω (mP S k);rw [e];clear e;cases r
  all_goals
   unfold TS.kid;simp only [if_true,if_false,Bool.false_eq_true]
   go_enter Tryz.func254,Tryz.ntmps254
   go_wp2_with (go_at_call 257;refine (nP bt ba n S k _ h true (by simp [hk])).mono ?_;rintro e w' ⟨rfl,rfl⟩)
   go_quiet ((go_at_call 253;exact Calls.quiet_of_same (pz _ _)))
   go_wp2;go_ret;exact ⟨rfl,_,rfl⟩
 ·have e:eY n S x r=-1:=by unfold eY;rw [if_neg hx]
  rw [e];clear e
  go_enter Tryz.func254,Tryz.ntmps254
  go_wp2_with (go_at_call 257;refine (nP bt ba n S x _ h false (by simp [hx])).mono ?_;rintro e w' ⟨rfl,rfl⟩)
  go_ret;exact ⟨rfl,0,rfl⟩
theorem qz (bt ba n:Nat) (S:TS) (x:Int) (w:World) (h:aT w bt ba n S) :
  Calls Tryz.prog 252 #[.pointer (some ⟨bt,0,none⟩),.int .i64 x] w fun e w'=>e=.returned (.int .i64 (mF n S x))∧w'=w:=by
 by_cases hx:0≤x∧x<n
 ·obtain ⟨k,rfl⟩:∃k:Nat,x=k:=⟨x.toNat,ω⟩
  have hk:k<n:=ω;have e:mF n S k=S.u k:=by unfold mF;rw [if_pos hx];simp
  have hle:=h.le;have c0:=h.head.cell 0 ω;have d0:=h.row.cellAt (k*3+2) ω (qG S k);rw [e];clear e
  go_enter Tryz.func252,Tryz.ntmps252
  go_wp2_with (go_at_call 257;refine (nP bt ba n S k _ h true (by simp [hk])).mono ?_;rintro e w' ⟨rfl,rfl⟩)
  go_ret;exact ⟨rfl,rfl⟩
 ·have e:mF n S x=-1:=by unfold mF;rw [if_neg hx]
  rw [e];clear e
  go_enter Tryz.func252,Tryz.ntmps252
  go_wp2_with (go_at_call 257;refine (nP bt ba n S x _ h false (by simp [hx])).mono ?_;rintro e w' ⟨rfl,rfl⟩)
  go_ret;exact ⟨rfl,rfl⟩
def tv (x:Int):Int:=if x=-1 then 0 else x
def tb (x:Int):Bool:=decide (x≠-1)
theorem wP (x:Int) (w:World):Calls Tryz.prog 256 #[.int .i64 x] w fun e w'=>e=.returned (.tuple #[.int .i64 (tv x),.bool (tb x)])∧w'=w:=by
 by_cases h:x=-1
 ·subst h;exact told_none w
 ·have e1:tv x=x:=by unfold tv;rw [if_neg h]
  have e2:tb x=true:=by unfold tb;simp [h]
  rw [e1,e2];exact IU x w h
theorem wh (bt ba n:Nat) (S:TS) (x:Int) (w:World) (h:aT w bt ba n S) :
  Calls Tryz.prog 248 #[.pointer (some ⟨bt,0,none⟩),.int .i64 x] w fun e w'=>e=.returned (.tuple #[.int .i64 (tv (eY n S x false)),.bool (tb (eY n S x false))])∧∃k,w'=w.drewN k:=by
 generalize hy:eY n S x false=y;have c1:=vW bt ba n S x false w h;rw [hy] at c1;have c2:=fun W=>wP y W
 go_enter Tryz.func248,Tryz.ntmps248
 go_wp2_with (first|(go_at_call 254;refine c1.mono ?_;rintro e w' ⟨rfl,k,rfl⟩)|(go_at_call 256;refine (c2 _).mono ?_;rintro e w' ⟨rfl,rfl⟩))
 go_ret2;exact ⟨rfl,_,rfl⟩
theorem mJ (bt ba n:Nat) (S:TS) (x:Int) (w:World) (h:aT w bt ba n S) :
  Calls Tryz.prog 249 #[.pointer (some ⟨bt,0,none⟩),.int .i64 x] w fun e w'=>e=.returned (.tuple #[.int .i64 (tv (eY n S x true)),.bool (tb (eY n S x true))])∧∃k,w'=w.drewN k:=by
 generalize hy:eY n S x true=y;have c1:=vW bt ba n S x true w h;rw [hy] at c1;have c2:=fun W=>wP y W
 go_enter Tryz.func249,Tryz.ntmps249
 go_wp2_with (first|(go_at_call 254;refine c1.mono ?_;rintro e w' ⟨rfl,k,rfl⟩)|(go_at_call 256;refine (c2 _).mono ?_;rintro e w' ⟨rfl,rfl⟩))
 go_ret2;exact ⟨rfl,_,rfl⟩
theorem KF (bt ba n:Nat) (S:TS) (x:Int) (w:World) (h:aT w bt ba n S) :
  Calls Tryz.prog 250 #[.pointer (some ⟨bt,0,none⟩),.int .i64 x] w fun e w'=>e=.returned (.tuple #[.int .i64 (tv (mF n S x)),.bool (tb (mF n S x))])∧∃k,w'=w.drewN k:=by
 generalize hy:mF n S x=y;have c1:=qz bt ba n S x w h;rw [hy] at c1;have c2:=fun W=>wP y W
 go_enter Tryz.func250,Tryz.ntmps250
 go_wp2_with (first|(go_at_call 252;refine c1.mono ?_;rintro e w' ⟨rfl,rfl⟩)|(go_at_call 256;refine (c2 _).mono ?_;rintro e w' ⟨rfl,rfl⟩))
 go_ret2;exact ⟨rfl,0,rfl⟩
def TS.aD (S:TS) (p:Nat) (s:Bool) (v:Int):TS:=if s then ⟨S.l,fun i=>if i=p then v else S.r i,S.u⟩ else ⟨fun i=>if i=p then v else S.l i,S.r,S.u⟩
def TS.bA (S:TS) (p:Nat) (v:Int):TS:=⟨S.l,S.r,fun i=>if i=p then v else S.u i⟩
theorem aT.aD {w:World} {bt ba n:Nat} {S:TS} (h:aT w bt ba n S) (p:Nat) (s:Bool) (v:Int) :
  aT (w.setCell ⟨ba,p*3+(if s then 1 else 0),none⟩ (.int .i64 v)) bt ba n (S.aD p s v):=by
 refine ⟨h.head.far _ _ h.ne,(h.row.set _ _).ext (fun j hj=>?_),h.ne,h.le⟩
 cases s
 ·unfold bU TS.aD
  by_cases hj2:j=p*3
  ·subst hj2;simp
  ·have:¬ (j % 3=0∧j / 3=p):=ω
   by_cases h0:j % 3=0
   ·simp [hj2,h0];intro hh;exfalso;omega
   ·simp [hj2,h0]
 ·unfold bU TS.aD
  by_cases hj2:j=p*3+1
  ·subst hj2;simp;intro hh;exfalso;omega
  ·by_cases h0:j % 3=1
   ·simp [hj2,h0];intro hh;exfalso;omega
   ·simp [hj2,h0]
theorem aT.bA {w:World} {bt ba n:Nat} {S:TS} (h:aT w bt ba n S) (p:Nat) (v:Int) :
  aT (w.setCell ⟨ba,p*3+2,none⟩ (.int .i64 v)) bt ba n (S.bA p v):=by
 refine ⟨h.head.far _ _ h.ne,(h.row.set _ _).ext (fun j hj=>?_),h.ne,h.le⟩
 unfold bU TS.bA
 by_cases hj2:j=p*3+2
 ·subst hj2;simp;intro hh;exfalso;omega
 ·by_cases h0:j % 3=0
  ·simp [hj2,h0]
  ·by_cases h1:j % 3=1
   ·simp [hj2,h1]
   ·simp [hj2,h0,h1];intro hh;exfalso;omega
def iZ (S:TS) (p x:Int) (r:Bool):TS:=(S.aD p.toNat r x).bA x.toNat p
theorem wz (bt ba n:Nat) (S:TS) (i j:Nat) (r:Bool) (w:World) (h:aT w bt ba n S) (hi:i<n) (hj:j<n) (hne:i≠j) (hu:S.u j=-1) (hk:S.kid r i=-1) :
  Calls Tryz.prog 251 #[.pointer (some ⟨bt,0,none⟩),.int .i64 (i:Int),.int .i64 (j:Int),.bool r] w fun e w'=>e=.returned (.bool true)∧aT w' bt ba n (iZ S i j r)∧aa [ba] w w':=by
 have hle:=h.le;have hbne:=h.ne;have hbne':ba≠bt:=fun e=>h.ne e.symm
 have c0:=h.head.cell 0 ω;have d0:=h.row.cellAt (i*3) ω (mV S i);have d1:=h.row.cellAt (i*3+1) ω (mP S i);have d2:=h.row.cellAt (j*3+2) ω (qG S j);have e0:=h.row.free (i*3);have e1:=h.row.free (i*3+1);have e2:=h.row.free (j*3+2);have k1:=nP bt ba n S i w h true (by simp [hi])
 have k2:=nP bt ba n S j w h true (by simp [hj])
 have k3:=qz bt ba n S j w h;rw [show mF n S j=-1 by unfold mF;rw [if_pos ω];simpa using hu] at k3
 have k4:=vW bt ba n S i r w h;rw [show eY n S i r=-1 by unfold eY;rw [if_pos ω];simpa using hk] at k4
 have hij:((i:Int) == (j:Int))=false:=ζ;have H:=χ h;clear h hu hk;cases r
 ·go_enter Tryz.func251,Tryz.ntmps251
  go_wp2_with (first
   | (go_at_call 257;(with_reducible refine (k1).mono ?_);rintro e w' ⟨rfl,rfl⟩)
   | (go_at_call 257;(with_reducible refine (k2).mono ?_);rintro e w' ⟨rfl,rfl⟩)
   | (go_at_call 252;(with_reducible refine (k3).mono ?_);rintro e w' ⟨rfl,rfl⟩)
   | (go_at_call 254;(with_reducible refine (k4).mono ?_);rintro e w' ⟨rfl,kd,rfl⟩))
  go_region_held3 (fun W=>W.cell? ⟨bt,0,none⟩=some (.slice (some ⟨ba,0,none⟩) n n)) (go_keep) ((go_at_call 253;refine (pz _ _).mono ?_;rintro e w' ⟨rfl,rfl⟩))
  go_wp2;go_ret;exact ⟨rfl,((H.out.drewN _).aD i false j).bA j i,(((aa.refl _ _).drewN _).setCell (Or.inl σ) _).setCell (Or.inl σ) _⟩
 ·go_enter Tryz.func251,Tryz.ntmps251
  go_wp2_with (first
   | (go_at_call 257;(with_reducible refine (k1).mono ?_);rintro e w' ⟨rfl,rfl⟩)
   | (go_at_call 257;(with_reducible refine (k2).mono ?_);rintro e w' ⟨rfl,rfl⟩)
   | (go_at_call 252;(with_reducible refine (k3).mono ?_);rintro e w' ⟨rfl,rfl⟩)
   | (go_at_call 254;(with_reducible refine (k4).mono ?_);rintro e w' ⟨rfl,kd,rfl⟩))
  go_region_held3 (fun W=>W.cell? ⟨bt,0,none⟩=some (.slice (some ⟨ba,0,none⟩) n n)) (go_keep) ((go_at_call 253;refine (pz _ _).mono ?_;rintro e w' ⟨rfl,rfl⟩))
  go_wp2;go_ret;exact ⟨rfl,((H.out.drewN _).aD i true j).bA j i,(((aa.refl _ _).drewN _).setCell (Or.inl σ) _).setCell (Or.inl σ) _⟩
theorem zS (bt ba n:Nat) (S:TS) (x:Int) (w:World) (h:aT w bt ba n S) (hu:mF n S x=-1) :
  Calls Tryz.prog 244 #[.pointer (some ⟨bt,0,none⟩),.int .i64 x] w fun e w'=>e=.returned (.tuple #[.int .i64 0,.bool false])∧w'=w:=by
 have k3:=qz bt ba n S x w h;rw [hu] at k3;clear h hu
 go_enter Tryz.func244,Tryz.ntmps244
 go_wp2_with ((go_at_call 252;(with_reducible refine (k3).mono ?_);rintro e w' ⟨rfl,rfl⟩))
 go_ret2;exact ⟨rfl,rfl⟩
def jQ (S:TS) (i j:Nat):TS:=(S.aD i (decide (S.r i=j)) (-1)).bA j (-1)
theorem zY (bt ba n:Nat) (S:TS) (i j:Nat) (w:World) (h:aT w bt ba n S) (hi:i<n) (hj:j<n) (hu:S.u j=i) :
  Calls Tryz.prog 244 #[.pointer (some ⟨bt,0,none⟩),.int .i64 (j:Int)] w fun e w'=>e=.returned (.tuple #[.int .i64 (i:Int),.bool true])∧aT w' bt ba n (jQ S i j)∧aa [ba] w w':=by
 have hle:=h.le;have hbne:ba≠bt:=fun e=>h.ne e.symm
 have c0:=h.head.cell 0 ω;have d0:=h.row.cellAt (i*3) ω (mV S i);have d1:=h.row.cellAt (i*3+1) ω (mP S i);have d2:=h.row.cellAt (j*3+2) ω (qG S j);have e0:=h.row.free (i*3);have e1:=h.row.free (i*3+1);have e2:=h.row.free (j*3+2);have k3:=qz bt ba n S j w h;rw [show mF n S j=i by unfold mF;rw [if_pos ω];simpa using hu] at k3
 have k4:=fun W (hW:aT W bt ba n S)=>vW bt ba n S i true W hW
 rw [show eY n S i true=S.r i by unfold eY TS.kid;rw [if_pos ω];simp] at k4
 have H:=χ h;have hi1:((i:Int) == -1)=false:=σ;clear h
 by_cases hr:S.r i=j
 ·have hb:(S.r i == (j:Int))=true:=by simpa using hr
  have ec:jQ S i j=(S.aD i true (-1)).bA j (-1):=by unfold jQ;rw [decide_eq_true hr]
  have EC:=χ ec;clear hr ec hu
  go_enter Tryz.func244,Tryz.ntmps244
  go_wp2_with ((go_at_call 252;(with_reducible refine (k3).mono ?_);rintro e w' ⟨rfl,rfl⟩))
  go_region_held3 (fun W=>W.cell? ⟨bt,0,none⟩=some (.slice (some ⟨ba,0,none⟩) n n)) (go_keep)
   (first|((go_at_call 253;refine (pz _ _).mono ?_;rintro e w' ⟨rfl,rfl⟩))|((go_at_call 254;refine (k4 _ (H.out.drew)).mono ?_;rintro e w' ⟨rfl,kd,rfl⟩)))
  go_wp2;go_ret2;exact ⟨rfl,by rw [EC.out];exact ((H.out.drewN _).aD i true (-1)).bA j (-1),(((aa.refl _ _).drewN _).setCell (Or.inl σ) _).setCell (Or.inl σ) _⟩
 ·have hb:(S.r i == (j:Int))=false:=by simpa using hr
  have ec:jQ S i j=(S.aD i false (-1)).bA j (-1):=by unfold jQ;rw [decide_eq_false hr]
  have EC:=χ ec;clear hr ec hu
  go_enter Tryz.func244,Tryz.ntmps244
  go_wp2_with ((go_at_call 252;(with_reducible refine (k3).mono ?_);rintro e w' ⟨rfl,rfl⟩))
  go_region_held3 (fun W=>W.cell? ⟨bt,0,none⟩=some (.slice (some ⟨ba,0,none⟩) n n)) (go_keep)
   (first|((go_at_call 253;refine (pz _ _).mono ?_;rintro e w' ⟨rfl,rfl⟩))|((go_at_call 254;refine (k4 _ (H.out.drew)).mono ?_;rintro e w' ⟨rfl,kd,rfl⟩)))
  go_wp2;go_ret2;exact ⟨rfl,by rw [EC.out];exact ((H.out.drewN _).aD i false (-1)).bA j (-1),(((aa.refl _ _).drewN _).setCell (Or.inl σ) _).setCell (Or.inl σ) _⟩
def gX (S:TS) (i:Nat):TS:=(S.aD i false (S.r i)).aD i true (S.l i)
theorem wu (bt ba n:Nat) (S:TS) (i:Nat) (w:World) (h:aT w bt ba n S) (hi:i<n) :
  Calls Tryz.prog 259 #[.pointer (some ⟨bt,0,none⟩),.int .i64 (i:Int)] w fun e w'=>e=.returned (.bool true)∧aT w' bt ba n (gX S i)∧aa [ba] w w':=by
 have hle:=h.le;have c0:=h.head.cell 0 ω;have d0:=h.row.cellAt (i*3) ω (mV S i);have d1:=h.row.cellAt (i*3+1) ω (mP S i);have e0:=h.row.free (i*3);have e1:=h.row.free (i*3+1);have k1:=nP bt ba n S i w h true (by simp [hi])
 have H:=χ h;clear h
 go_enter Tryz.func259,Tryz.ntmps259
 go_wp2_with ((go_at_call 257;(with_reducible refine (k1).mono ?_);rintro e w' ⟨rfl,rfl⟩))
 go_region
 go_wp2;go_ret;exact ⟨rfl,((H.out.aD i false (S.r i)).aD i true (S.l i)).drew,(((aa.refl _ _).setCell (Or.inl σ) _).setCell (Or.inl σ) _).drew⟩
end Go.Proofs.YtklibcncmbofpaaGreat
namespace Go.Proofs.YtklibcncmbofpaaGreat
inductive BT where
 | nil:BT
 | node:Nat→BT→BT→BT
def BT.root:BT→Int | .nil=>-1 | .node x _ _=>x
def BT.nodes:BT→List Nat | .nil=>[] | .node x l r=>x::(l.nodes++r.nodes)
def BT.size:BT→Nat | .nil=>0 | .node _ l r=>l.size+r.size+1
theorem BT.jA:∀t:BT,t.nodes.length=t.size
 | .nil=>rfl
 | .node x l r=>by simp [BT.nodes,BT.size,BT.jA l,BT.jA r]
def bG (S:TS):Int→Int→BT→Prop
 | _,z,.nil=>z=-1
 | p,z,.node x l r=>z=x∧S.u x=p∧bG S x (S.l x) l∧bG S x (S.r x) r
theorem bG.root {S:TS}:∀ {t:BT} {p z:Int},bG S p z t→z=t.root
 | .nil,_,_,h=>h
 | .node _ _ _,_,_,h=>h.1
def TS.at (S S':TS) (x:Nat):Prop:=S'.l x=S.l x∧S'.r x=S.r x∧S'.u x=S.u x
theorem bG.frame {S S':TS}:∀ {t:BT} {p z:Int},bG S p z t→(∀x,x∈t.nodes→S.at S' x)→bG S' p z t
 | .nil,_,_,h,_=>h
 | .node x l r,p,z,h,hs=>by
  have hx:=hs x (by simp [BT.nodes])
  refine ⟨h.1,by rw [hx.2.2];exact h.2.1,?_,?_⟩
  ·rw [hx.1];exact bG.frame h.2.2.1 (fun y hy=>hs y (by simp [BT.nodes,hy]))
  ·rw [hx.2.1];exact bG.frame h.2.2.2 (fun y hy=>hs y (by simp [BT.nodes,hy]))
theorem bG.GX {S S':TS} {t:BT} {p p' z:Int} (h:bG S p z t) (hn:t.nodes.Nodup) (hs:∀x,x∈t.nodes→S'.l x=S.l x∧S'.r x=S.r x∧(x≠t.root.toNat→S'.u x=S.u x)) (hr:t≠.nil→S'.u t.root.toNat=p'):bG S' p' z t:=by
 cases t with
 | nil=>exact h
 | node x l r=>
  have hx:=hs x (by simp [BT.nodes])
  simp only [BT.nodes,List.nodup_cons,List.mem_append,not_or] at hn;refine ⟨h.1,?_,?_,?_⟩
  ·have:=hr σ;simpa [BT.root] using this
  ·rw [hx.1];refine h.2.2.1.frame (fun y hy=>?_)
   have hy':=hs y (by simp [BT.nodes,hy])
   exact ⟨hy'.1,hy'.2.1,hy'.2.2 (fun e=>by simp [BT.root] at e;rw [e] at hy;exact hn.1.1 hy)⟩
  ·rw [hx.2.1];refine h.2.2.2.frame (fun y hy=>?_)
   have hy':=hs y (by simp [BT.nodes,hy])
   exact ⟨hy'.1,hy'.2.1,hy'.2.2 (fun e=>by simp [BT.root] at e;rw [e] at hy;exact hn.1.2 hy)⟩
theorem bg {t:BT} (h:t≠.nil):t.root.toNat∈t.nodes∧t.root=(t.root.toNat:Int):=by
 cases t with
 | nil=>exact absurd rfl h
 | node x l r=>simp [BT.root,BT.nodes]
/-! ### ranks; what a merge gives -/
def BT.rank:BT→Nat | .nil=>0 | .node _ _ r=>r.rank+1
def au (x:Nat) (l r:BT):BT:=if l.rank<r.rank then .node x r l else .node x l r
def dV (rk:Nat→Nat):BT→Prop
 | .nil=>True
 | .node x l r=>rk x=r.rank+1∧dV rk l∧dV rk r
theorem dV.frame {rk rk':Nat→Nat}:∀ {t:BT},dV rk t→(∀x,x∈t.nodes→rk' x=rk x)→dV rk' t
 | .nil,_,_=>trivial
 | .node x l r,h,hs=>⟨by rw [hs x (by simp [BT.nodes])];exact h.1,h.2.1.frame (fun y hy=>hs y (by simp [BT.nodes,hy])),h.2.2.frame (fun y hy=>hs y (by simp [BT.nodes,hy]))⟩
theorem dV.root {rk:Nat→Nat} {t:BT} (h:dV rk t) (ht:t≠.nil):rk t.root.toNat=t.rank:=by
 cases t with
 | nil=>exact absurd rfl ht
 | node x l r=>simpa [BT.root,BT.rank] using h.1
def Lean:BT→Prop
 | .nil=>True
 | .node _ l r=>r.rank≤l.rank∧Lean l∧Lean r
theorem iV {x:Nat} {l r:BT} (hl:Lean l) (hr:Lean r):Lean (au x l r):=by
 unfold au;split
 ·exact ⟨ω,hr,hl⟩
 ·exact ⟨ω,hl,hr⟩
def Heap (A:NS):BT→Prop
 | .nil=>True
 | .node x l r=>(∀y,y∈l.nodes→bH A x y)∧(∀y,y∈r.nodes→bH A x y)∧Heap A l∧Heap A r
theorem jd (x:Nat) (l r:BT):(au x l r).nodes.Perm (x::(l.nodes++r.nodes)):=by
 unfold au;split
 ·simp only [BT.nodes];exact List.Perm.cons x List.perm_append_comm
 ·exact List.Perm.refl _
theorem pJ {A:NS} {x:Nat} {l r:BT} (h1:∀y,y∈l.nodes→bH A x y) (h2:∀y,y∈r.nodes→bH A x y) (hl:Heap A l) (hr:Heap A r):Heap A (au x l r):=by
 unfold au;split
 ·exact ⟨h2,h1,hr,hl⟩
 ·exact ⟨h1,h2,hl,hr⟩
theorem ik (x:Nat) (l r:BT):(au x l r).root=x:=by unfold au;split<;>rfl
def aF (up:Nat→BT→BT→BT) (A:NS):BT→BT→BT×Nat
 | .nil,t=>(t,0)
 | .node x l r,.nil=>(.node x l r,0)
 | .node x l r,.node y l' r'=>
  if bH A y x then (up y l' (aF up A r' (.node x l r)).1,(aF up A r' (.node x l r)).2+1)
  else (up x l (aF up A r (.node y l' r')).1,(aF up A r (.node y l' r')).2+1)
termination_by a b=>a.size+b.size
decreasing_by
 all_goals simp only [BT.size]
 all_goals omega
theorem jr (up:Nat→BT→BT→BT) (A:NS) (t:BT):aF up A .nil t=(t,0):=by rw [aF]
theorem lZ (up:Nat→BT→BT→BT) (A:NS) (t:BT):aF up A t .nil=(t,0):=by cases t<;>rw [aF]
theorem l9 (up:Nat→BT→BT→BT) (A:NS) (x y:Nat) (l r l' r':BT):aF up A (.node x l r) (.node y l' r')=
  if bH A y x then (up y l' (aF up A r' (.node x l r)).1,(aF up A r' (.node x l r)).2+1)
  else (up x l (aF up A r (.node y l' r')).1,(aF up A r (.node y l' r')).2+1):=by rw [aF]
structure Jj (up:Nat→BT→BT→BT):Prop where
 nodes:∀x l r,(up x l r).nodes.Perm (x::(l.nodes++r.nodes))
 heap:∀A x l r,(∀y,y∈l.nodes→bH A x y)→(∀y,y∈r.nodes→bH A x y)→Heap A l→Heap A r→Heap A (up x l r)
 root:∀x l r,(up x l r).root=x
theorem kP:Jj au:=⟨jd,fun _ _ _ _=>pJ,ik⟩
theorem jJ {up:Nat→BT→BT→BT} (U:Jj up) (A:NS) (k:Nat):∀ (a b:BT),a.size+b.size≤k→
  (aF up A a b).1.nodes.Perm (a.nodes++b.nodes)∧(Heap A a→Heap A b→(a.nodes++b.nodes).Nodup→Heap A (aF up A a b).1):=by
 induction k with
 | zero=>
  intro a b hk;cases a with
  | nil=>rw [jr];exact ⟨by simp [BT.nodes],fun _ h _=>h⟩
  | node x l r=>simp only [BT.size] at hk;omega
 | succ k ih=>
  intro a b hk;cases a with
  | nil=>rw [jr];exact ⟨by simp [BT.nodes],fun _ h _=>h⟩
  | node x l r=>
   cases b with
   | nil=>rw [lZ];exact ⟨by simp [BT.nodes],fun h _ _=>h⟩
   | node y l' r'=>
    rw [l9];simp only [BT.size] at hk
    by_cases h:bH A y x
    ·rw [if_pos h];obtain ⟨i1,i2⟩:=ih r' (.node x l r) (by simp only [BT.size];omega)
     have i3:=U.nodes y l' (aF up A r' (.node x l r)).1;have i4:(y::(l'.nodes++(aF up A r' (.node x l r)).1.nodes)).Perm ((BT.node x l r).nodes++(BT.node y l' r').nodes):=by
      refine List.Perm.trans (List.Perm.cons y (List.Perm.append_left _ i1)) ?_;rw [←List.append_assoc]
      show (y::(l'.nodes++r'.nodes++(BT.node x l r).nodes)).Perm ((BT.node x l r).nodes++(y::(l'.nodes++r'.nodes)))
      exact (List.perm_append_comm (l₁:=y::(l'.nodes++r'.nodes)))
     refine ⟨i3.trans i4,fun ha hb hn=>?_⟩
     have hn2:(r'.nodes++(BT.node x l r).nodes).Nodup:=by
      rw [List.nodup_append] at hn ⊢;simp only [BT.nodes,List.nodup_cons,List.nodup_append] at hn;refine ⟨hn.2.1.2.2.1,by simp only [BT.nodes,List.nodup_cons,List.nodup_append];exact hn.1,fun p hp q hq e=>hn.2.2 q hq p (by simp [hp]) e.symm⟩
     refine U.heap A y l' _ hb.1 (fun z hz=>?_) hb.2.2.1 (i2 hb.2.2.2 ha hn2)
     rcases List.mem_append.1 (i1.mem_iff.1 hz) with hz|hz
     ·exact hb.2.1 z hz
     ·simp only [BT.nodes,List.mem_cons,List.mem_append] at hz;rcases hz with rfl|hz|hz
      ·exact h
      ·exact bE h (ha.1 z hz)
      ·exact bE h (ha.2.1 z hz)
    ·rw [if_neg h];obtain ⟨i1,i2⟩:=ih r (.node y l' r') (by simp only [BT.size];omega)
     have i3:=U.nodes x l (aF up A r (.node y l' r')).1;have i4:(x::(l.nodes++(aF up A r (.node y l' r')).1.nodes)).Perm ((BT.node x l r).nodes++(BT.node y l' r').nodes):=by
      refine List.Perm.trans (List.Perm.cons x (List.Perm.append_left _ i1)) ?_;rw [←List.append_assoc];exact List.Perm.refl _
     refine ⟨i3.trans i4,fun ha hb hn=>?_⟩
     have hn1:=hn;rw [List.nodup_append] at hn;have hxy:x≠y:=hn.2.2 x (by simp [BT.nodes]) y (by simp [BT.nodes])
     have hlt:bH A x y:=by
      rcases gH (A:=A) hxy with h'|h'
      ·exact h'
      ·exact absurd h' h
     have hn2:(r.nodes++(BT.node y l' r').nodes).Nodup:=by
      rw [List.nodup_append];simp only [BT.nodes,List.nodup_cons,List.nodup_append] at hn;refine ⟨hn.1.2.2.1,by simp only [BT.nodes,List.nodup_cons,List.nodup_append];exact hn.2.1,fun p hp q hq e=>hn.2.2 p (by simp [hp]) q hq e⟩
     refine U.heap A x l _ ha.1 (fun z hz=>?_) ha.2.2.1 (i2 ha.2.2.2 hb hn2)
     rcases List.mem_append.1 (i1.mem_iff.1 hz) with hz|hz
     ·exact ha.2.1 z hz
     ·simp only [BT.nodes,List.mem_cons,List.mem_append] at hz;rcases hz with rfl|hz|hz
      ·exact hlt
      ·exact bE hlt (hb.1 z hz)
      ·exact bE hlt (hb.2.1 z hz)
theorem rA (A:NS) (k:Nat):∀ (a b:BT),a.size+b.size≤k→Lean a→Lean b→Lean (aF au A a b).1:=by
 induction k with
 | zero=>
  intro a b hk ha hb;cases a with
  | nil=>rw [jr];exact hb
  | node x l r=>simp only [BT.size] at hk;omega
 | succ k ih=>
  intro a b hk ha hb;cases a with
  | nil=>rw [jr];exact hb
  | node x l r=>
   cases b with
   | nil=>rw [lZ];exact ha
   | node y l' r'=>
    rw [l9];simp only [BT.size] at hk
    split
    ·exact iV hb.2.1 (ih r' (.node x l r) (by simp only [BT.size];omega) hb.2.2 ha)
    ·exact iV ha.2.1 (ih r (.node y l' r') (by simp only [BT.size];omega) ha.2.2 hb)
def qV (up:Nat→BT→BT→BT):List (Nat×BT)→BT→BT
 | [],m=>m
 | (x,l)::t,m=>up x l (qV up t m)
theorem wM (up:Nat→BT→BT→BT) (W:List (Nat×BT)) (x:Nat) (l m:BT):qV up (W++[(x,l)]) m=qV up W (up x l m):=by
 induction W with
 | nil=>rfl
 | cons p t ih=>obtain ⟨y,k⟩:=p;simp only [List.cons_append,qV,ih]
def qN (W:List (Nat×BT)):List Nat:=W.flatMap fun p=>p.1::p.2.nodes
end Go.Proofs.YtklibcncmbofpaaGreat
