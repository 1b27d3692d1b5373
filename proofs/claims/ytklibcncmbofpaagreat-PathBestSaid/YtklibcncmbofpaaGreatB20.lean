/-
  Lemmas for PathBest: Spine, Spine2, Bt, Bt2, Bt3, Bt4. Conditions: those of each lemma.
-/
import Derived.Test.YtklibcncmbofpaaGreatB01
set_option linter.all false
set_option maxHeartbeats 8000000
set_option maxRecDepth 10000
namespace Go.Proofs.YtklibcncmbofpaaGreat
open Go Go.RowKit
structure TS where
 l:Nat->Int
 r:Nat->Int
 u:Nat->Int
def TS.none:TS:=⟨fun _=>-1,fun _=>-1,fun _=>-1⟩
def TS.kid (S:TS) (s:Bool) (x:Nat):Int:=if s then S.r x else S.l x
def dQ (S:TS) (j:Nat):Value:=.int .i64 (if j % 3=0 then S.l (j / 3) else if j % 3=1 then S.r (j / 3) else S.u (j / 3))
theorem p9 (S:TS) (x:Nat):dQ S (x*3)=.int .i64 (S.l x):=by unfold dQ;rw [if_pos ω,show x*3 / 3=x by omega]
theorem pO (S:TS) (x:Nat):dQ S (x*3+1)=.int .i64 (S.r x):=by unfold dQ;rw [if_neg ω,if_pos ω,show (x*3+1) / 3=x by omega]
theorem tN (S:TS) (x:Nat):dQ S (x*3+2)=.int .i64 (S.u x):=by unfold dQ;rw [if_neg ω,if_neg ω,show (x*3+2) / 3=x by omega]
structure bA (w:World) (bt ba n:Nat) (S:TS):Prop where
 head:aO w bt 257 1 (fun _=>.slice (some ⟨ba,0,none⟩) n n)
 row:aO w ba 260 (n*3) (dQ S)
 ne:bt≠ba
 le:n<=65536
theorem bA.upd {w w':World} {F:List Nat} {bt ba n:Nat} {S:TS} (h:bA w bt ba n S) (hu:aa F w w') (h1:bt∉F) (h2:ba∉F):bA w' bt ba n S:=
 ⟨h.head.upd hu h1,h.row.upd hu h2,h.ne,h.le⟩
theorem bA.drewN {w:World} {bt ba n:Nat} {S:TS} (h:bA w bt ba n S) (k:Nat):bA (w.drewN k) bt ba n S:=⟨h.head,h.row,h.ne,h.le⟩
theorem bA.drew {w:World} {bt ba n:Nat} {S:TS} (h:bA w bt ba n S):bA w.drew bt ba n S:=⟨h.head,h.row,h.ne,h.le⟩
theorem MR:(Tryz.prog.info? 260).map (fun i=>(i.zero,i.size,i.bytes))=some (some (.agg #[.int .i64 0,.int .i64 0,.int .i64 0]),3,24):=by kernel_rfl
theorem wC (n:Nat) (w:World) (h:n<=65536) :
  Calls Tryz.prog 112 #[.int .i64 (n:Int)] w fun e w'=>∃bt ba,e=.returned (.tuple #[.pointer (some ⟨bt,0,none⟩),.int .i64 0])/\bA w' bt ba n TS.none/\aa [] w w'/\w.heap.size<=bt/\w.heap.size<=ba:=by
 go_enter Tryz.func112,Tryz.ntmps112
 go_wp2_with (at_make;refine wpList_make_row rfl _ 255 rfl 260 (.agg #[.int .i64 0,.int .i64 0,.int .i64 0]) 3 24 Tryz.underlying255 MR n rfl ω μ ?_;intro w1 hr1 hu1)
 have hlt:=hr1.lt
 go_loopw [21] (fun i wr=>∃ (k:Nat) (f:Nat->Value),k<=n/\i=.int .i64 k/\aO wr w1.heap.size 257 1 (fun _=>.slice (some ⟨w.heap.size,0,none⟩) n n)/\aO wr w.heap.size 260 (n*3) f/\(∀j,j<k*3->f j=.int .i64 (-1))/\aa [] w wr) (fun i _=>n-(intOf i).toNat)
 case atStart=>exact ⟨0,_,ω,rfl,eH _ _ _ |>.ext (fun j hj=>by simp at hj;subst hj;rfl),hr1.alloc _,ω,hu1.alloc _⟩
 case round=>
  obtain ⟨k,f,hk,rfl,hH,hR,hf,hu⟩:=hrel
  by_cases hkn:k<n
  ·have c0:=hH.cell 0 ω;have d0:=hR.cell (k*3) ω;have d1:=hR.cell (k*3+1) ω;have d2:=hR.cell (k*3+2) ω;have e0:=hR.free (k*3);have e1:=hR.free (k*3+1);have e2:=hR.free (k*3+2);have HF:=χ hf;clear hf;go_wp2
   go_roundw
   case rel=>
    refine ⟨k+1,_,ω,by go_num,((hH.far _ _ ζ).far _ _ ζ).far _ _ ζ,((hR.set _ _).set _ _).set _ _,fun j hj=>?_,((hu.setCell (Or.inr σ) _).setCell (Or.inr σ) _).setCell (Or.inr σ) _⟩
    show (if j=k*3+2 then _ else if j=k*3+1 then _ else if j=k*3 then _ else f j)=_
    split
    ·rfl
    ·split
     ·rfl
     ·split
      ·rfl
      ·exact HF.out j ω
   case measure=>simp [intOf];omega
  ·obtain rfl:k=n:=ω;go_wp2;go_ret2;exact ⟨_,_,rfl,⟨hH,hR.ext (fun j hj=>by rw [hf j hj];unfold dQ TS.none;simp),ω,h⟩,hu,hu1.size,Nat.le_refl _⟩
theorem qX (bt ba n:Nat) (S:TS) (x:Int) (w:World) (h:bA w bt ba n S) (b:Bool) (hb:b=decide (0<=x/\x<n)) :
  Calls Tryz.prog 257 #[.pointer (some ⟨bt,0,none⟩),.int .i64 x] w fun e w'=>e=.returned (.bool b)/\w'=w:=by
 have hle:=h.le;have c0:=h.head.cell 0 ω;clear h;subst hb
 by_cases h0:0<=x
 ·by_cases h1:x<n
  ·go_enter Tryz.func257,Tryz.ntmps257
   go_wp2;go_ret;exact ⟨bf (by simp [h0,h1]),rfl⟩
  ·go_enter Tryz.func257,Tryz.ntmps257
   go_wp2;go_ret;exact ⟨bf (by simp [h0,h1]),rfl⟩
 ·go_enter Tryz.func257,Tryz.ntmps257
  go_wp2;go_ret;exact ⟨bf ζ,rfl⟩
theorem sH (b:Bool) (w:World):Calls Tryz.prog 253 #[.bool b] w fun e w'=>e=.returned (.int .i64 (if b then 1 else 0))/\w'=w:=by
 cases b
 all_goals
  go_enter Tryz.func253,Tryz.ntmps253
  go_wp2;go_ret;exact ⟨rfl,rfl⟩
theorem told_none (w:World):Calls Tryz.prog 256 #[.int .i64 (-1)] w fun e w'=>e=.returned (.tuple #[.int .i64 0,.bool false])/\w'=w:=by
 go_enter Tryz.func256,Tryz.ntmps256
 go_wp2;go_ret2;exact ⟨rfl,rfl⟩
theorem Nt (x:Int) (w:World) (h:x≠-1):Calls Tryz.prog 256 #[.int .i64 x] w fun e w'=>e=.returned (.tuple #[.int .i64 x,.bool true])/\w'=w:=by
 have h':(x == -1)=false:=by simpa using h
 go_enter Tryz.func256,Tryz.ntmps256
 go_wp2;go_ret2;exact ⟨rfl,rfl⟩
def il (n:Nat) (S:TS) (x:Int) (r:Bool):Int:=if 0<=x/\x<n then S.kid r x.toNat else -1
def pF (n:Nat) (S:TS) (x:Int):Int:=if 0<=x/\x<n then S.u x.toNat else -1
theorem yV (bt ba n:Nat) (S:TS) (x:Int) (r:Bool) (w:World) (h:bA w bt ba n S) :
  Calls Tryz.prog 254 #[.pointer (some ⟨bt,0,none⟩),.int .i64 x,.bool r] w fun e w'=>e=.returned (.int .i64 (il n S x r))/\∃k,w'=w.drewN k:=by
 by_cases hx:0<=x/\x<n
 ·obtain ⟨k,rfl⟩:∃k:Nat,x=k:=⟨x.toNat,ω⟩;have hk:k<n:=ω;have e:il n S k r=S.kid r k:=by unfold il;rw [if_pos hx];simp
  have hle:=h.le;have c0:=h.head.cell 0 ω;have d0:=h.row.cellAt (k*3) ω (p9 S k);have d1:=h.row.cellAt (k*3+1) ω (pO S k);rw [e];clear e;cases r
  all_goals
   unfold TS.kid;simp only [if_true,if_false,Bool.false_eq_true]
   go_enter Tryz.func254,Tryz.ntmps254
   go_wp2_with (go_at_call 257;refine (qX bt ba n S k _ h true (by simp [hk])).mono ?_;rintro e w' ⟨rfl,rfl⟩)
   go_quiet ((go_at_call 253;exact Calls.quiet_of_same (sH _ _)))
   go_wp2;go_ret;exact ⟨rfl,_,rfl⟩
 ·have e:il n S x r=-1:=by unfold il;rw [if_neg hx]
  rw [e];clear e
  go_enter Tryz.func254,Tryz.ntmps254
  go_wp2_with (go_at_call 257;refine (qX bt ba n S x _ h false (by simp [hx])).mono ?_;rintro e w' ⟨rfl,rfl⟩)
  go_ret;exact ⟨rfl,0,rfl⟩
theorem uu (bt ba n:Nat) (S:TS) (x:Int) (w:World) (h:bA w bt ba n S) :
  Calls Tryz.prog 252 #[.pointer (some ⟨bt,0,none⟩),.int .i64 x] w fun e w'=>e=.returned (.int .i64 (pF n S x))/\w'=w:=by
 by_cases hx:0<=x/\x<n
 ·obtain ⟨k,rfl⟩:∃k:Nat,x=k:=⟨x.toNat,ω⟩;have hk:k<n:=ω;have e:pF n S k=S.u k:=by unfold pF;rw [if_pos hx];simp
  have hle:=h.le;have c0:=h.head.cell 0 ω;have d0:=h.row.cellAt (k*3+2) ω (tN S k);rw [e];clear e
  go_enter Tryz.func252,Tryz.ntmps252
  go_wp2_with (go_at_call 257;refine (qX bt ba n S k _ h true (by simp [hk])).mono ?_;rintro e w' ⟨rfl,rfl⟩)
  go_ret;exact ⟨rfl,rfl⟩
 ·have e:pF n S x=-1:=by unfold pF;rw [if_neg hx]
  rw [e];clear e
  go_enter Tryz.func252,Tryz.ntmps252
  go_wp2_with (go_at_call 257;refine (qX bt ba n S x _ h false (by simp [hx])).mono ?_;rintro e w' ⟨rfl,rfl⟩)
  go_ret;exact ⟨rfl,rfl⟩
def tv (x:Int):Int:=if x=-1 then 0 else x
def tb (x:Int):Bool:=decide (x≠-1)
theorem ze (x:Int) (w:World):Calls Tryz.prog 256 #[.int .i64 x] w fun e w'=>e=.returned (.tuple #[.int .i64 (tv x),.bool (tb x)])/\w'=w:=by
 by_cases h:x=-1
 ·subst h;exact told_none w
 ·have e1:tv x=x:=by unfold tv;rw [if_neg h]
  have e2:tb x=true:=by unfold tb;simp [h]
  rw [e1,e2];exact Nt x w h
theorem zI (bt ba n:Nat) (S:TS) (x:Int) (w:World) (h:bA w bt ba n S) :
  Calls Tryz.prog 248 #[.pointer (some ⟨bt,0,none⟩),.int .i64 x] w fun e w'=>e=.returned (.tuple #[.int .i64 (tv (il n S x false)),.bool (tb (il n S x false))])/\∃k,w'=w.drewN k:=by
 generalize hy:il n S x false=y;have c1:=yV bt ba n S x false w h;rw [hy] at c1;have c2:=fun W=>ze y W
 go_enter Tryz.func248,Tryz.ntmps248
 go_wp2_with (first|(go_at_call 254;refine c1.mono ?_;rintro e w' ⟨rfl,k,rfl⟩)|(go_at_call 256;refine (c2 _).mono ?_;rintro e w' ⟨rfl,rfl⟩))
 go_ret2;exact ⟨rfl,_,rfl⟩
theorem qw (bt ba n:Nat) (S:TS) (x:Int) (w:World) (h:bA w bt ba n S) :
  Calls Tryz.prog 249 #[.pointer (some ⟨bt,0,none⟩),.int .i64 x] w fun e w'=>e=.returned (.tuple #[.int .i64 (tv (il n S x true)),.bool (tb (il n S x true))])/\∃k,w'=w.drewN k:=by
 generalize hy:il n S x true=y;have c1:=yV bt ba n S x true w h;rw [hy] at c1;have c2:=fun W=>ze y W
 go_enter Tryz.func249,Tryz.ntmps249
 go_wp2_with (first|(go_at_call 254;refine c1.mono ?_;rintro e w' ⟨rfl,k,rfl⟩)|(go_at_call 256;refine (c2 _).mono ?_;rintro e w' ⟨rfl,rfl⟩))
 go_ret2;exact ⟨rfl,_,rfl⟩
theorem QP (bt ba n:Nat) (S:TS) (x:Int) (w:World) (h:bA w bt ba n S) :
  Calls Tryz.prog 250 #[.pointer (some ⟨bt,0,none⟩),.int .i64 x] w fun e w'=>e=.returned (.tuple #[.int .i64 (tv (pF n S x)),.bool (tb (pF n S x))])/\∃k,w'=w.drewN k:=by
 generalize hy:pF n S x=y;have c1:=uu bt ba n S x w h;rw [hy] at c1;have c2:=fun W=>ze y W
 go_enter Tryz.func250,Tryz.ntmps250
 go_wp2_with (first|(go_at_call 252;refine c1.mono ?_;rintro e w' ⟨rfl,rfl⟩)|(go_at_call 256;refine (c2 _).mono ?_;rintro e w' ⟨rfl,rfl⟩))
 go_ret2;exact ⟨rfl,0,rfl⟩
def TS.aJ (S:TS) (p:Nat) (s:Bool) (v:Int):TS:=if s then ⟨S.l,fun i=>if i=p then v else S.r i,S.u⟩ else ⟨fun i=>if i=p then v else S.l i,S.r,S.u⟩
def TS.bW (S:TS) (p:Nat) (v:Int):TS:=⟨S.l,S.r,fun i=>if i=p then v else S.u i⟩
theorem bA.aJ {w:World} {bt ba n:Nat} {S:TS} (h:bA w bt ba n S) (p:Nat) (s:Bool) (v:Int) :
  bA (w.setCell ⟨ba,p*3+(if s then 1 else 0),none⟩ (.int .i64 v)) bt ba n (S.aJ p s v):=by
 refine ⟨h.head.far _ _ h.ne,(h.row.set _ _).ext (fun j hj=>?_),h.ne,h.le⟩;cases s
 ·unfold dQ TS.aJ
  by_cases hj2:j=p*3
  ·subst hj2;simp
  ·have:¬ (j % 3=0/\j / 3=p):=ω
   by_cases h0:j % 3=0
   ·simp [hj2,h0];intro hh;exfalso;omega
   ·simp [hj2,h0]
 ·unfold dQ TS.aJ
  by_cases hj2:j=p*3+1
  ·subst hj2;simp;intro hh;exfalso;omega
  ·by_cases h0:j % 3=1
   ·simp [hj2,h0];intro hh;exfalso;omega
   ·simp [hj2,h0]
theorem bA.bW {w:World} {bt ba n:Nat} {S:TS} (h:bA w bt ba n S) (p:Nat) (v:Int) :
  bA (w.setCell ⟨ba,p*3+2,none⟩ (.int .i64 v)) bt ba n (S.bW p v):=by
 refine ⟨h.head.far _ _ h.ne,(h.row.set _ _).ext (fun j hj=>?_),h.ne,h.le⟩;unfold dQ TS.bW
 by_cases hj2:j=p*3+2
 ·subst hj2;simp;intro hh;exfalso;omega
 ·by_cases h0:j % 3=0
  ·simp [hj2,h0]
  ·by_cases h1:j % 3=1
   ·simp [hj2,h1]
   ·simp [hj2,h0,h1];intro hh;exfalso;omega
def lT (S:TS) (p x:Int) (r:Bool):TS:=(S.aJ p.toNat r x).bW x.toNat p
theorem zV (bt ba n:Nat) (S:TS) (i j:Nat) (r:Bool) (w:World) (h:bA w bt ba n S) (hi:i<n) (hj:j<n) (hne:i≠j) (hu:S.u j=-1) (hk:S.kid r i=-1) :
  Calls Tryz.prog 251 #[.pointer (some ⟨bt,0,none⟩),.int .i64 (i:Int),.int .i64 (j:Int),.bool r] w fun e w'=>e=.returned (.bool true)/\bA w' bt ba n (lT S i j r)/\aa [ba] w w':=by
 have hle:=h.le;have hbne:=h.ne;have hbne':ba≠bt:=fun e=>h.ne e.symm;have c0:=h.head.cell 0 ω;have d0:=h.row.cellAt (i*3) ω (p9 S i);have d1:=h.row.cellAt (i*3+1) ω (pO S i);have d2:=h.row.cellAt (j*3+2) ω (tN S j);have e0:=h.row.free (i*3);have e1:=h.row.free (i*3+1);have e2:=h.row.free (j*3+2);have k1:=qX bt ba n S i w h true (by simp [hi]);have k2:=qX bt ba n S j w h true (by simp [hj]);have k3:=uu bt ba n S j w h;rw [show pF n S j=-1 by unfold pF;rw [if_pos ω];simpa using hu] at k3;have k4:=yV bt ba n S i r w h;rw [show il n S i r=-1 by unfold il;rw [if_pos ω];simpa using hk] at k4
 have hij:((i:Int) == (j:Int))=false:=ζ;have H:=χ h;clear h hu hk;cases r
 ·go_enter Tryz.func251,Tryz.ntmps251
  go_wp2_with (first
   | (go_at_call 257;(with_reducible refine (k1).mono ?_);rintro e w' ⟨rfl,rfl⟩)
   | (go_at_call 257;(with_reducible refine (k2).mono ?_);rintro e w' ⟨rfl,rfl⟩)
   | (go_at_call 252;(with_reducible refine (k3).mono ?_);rintro e w' ⟨rfl,rfl⟩)
   | (go_at_call 254;(with_reducible refine (k4).mono ?_);rintro e w' ⟨rfl,kd,rfl⟩))
  go_region_held3 (fun W=>W.cell? ⟨bt,0,none⟩=some (.slice (some ⟨ba,0,none⟩) n n)) (go_keep) ((go_at_call 253;refine (sH _ _).mono ?_;rintro e w' ⟨rfl,rfl⟩))
  go_wp2;go_ret;exact ⟨rfl,((H.out.drewN _).aJ i false j).bW j i,(((aa.refl _ _).drewN _).setCell (Or.inl σ) _).setCell (Or.inl σ) _⟩
 ·go_enter Tryz.func251,Tryz.ntmps251
  go_wp2_with (first
   | (go_at_call 257;(with_reducible refine (k1).mono ?_);rintro e w' ⟨rfl,rfl⟩)
   | (go_at_call 257;(with_reducible refine (k2).mono ?_);rintro e w' ⟨rfl,rfl⟩)
   | (go_at_call 252;(with_reducible refine (k3).mono ?_);rintro e w' ⟨rfl,rfl⟩)
   | (go_at_call 254;(with_reducible refine (k4).mono ?_);rintro e w' ⟨rfl,kd,rfl⟩))
  go_region_held3 (fun W=>W.cell? ⟨bt,0,none⟩=some (.slice (some ⟨ba,0,none⟩) n n)) (go_keep) ((go_at_call 253;refine (sH _ _).mono ?_;rintro e w' ⟨rfl,rfl⟩))
  go_wp2;go_ret;exact ⟨rfl,((H.out.drewN _).aJ i true j).bW j i,(((aa.refl _ _).drewN _).setCell (Or.inl σ) _).setCell (Or.inl σ) _⟩
theorem Ej (bt ba n:Nat) (S:TS) (x:Int) (w:World) (h:bA w bt ba n S) (hu:pF n S x=-1) :
  Calls Tryz.prog 244 #[.pointer (some ⟨bt,0,none⟩),.int .i64 x] w fun e w'=>e=.returned (.tuple #[.int .i64 0,.bool false])/\w'=w:=by
 have k3:=uu bt ba n S x w h;rw [hu] at k3;clear h hu
 go_enter Tryz.func244,Tryz.ntmps244
 go_wp2_with ((go_at_call 252;(with_reducible refine (k3).mono ?_);rintro e w' ⟨rfl,rfl⟩))
 go_ret2;exact ⟨rfl,rfl⟩
def ni (S:TS) (i j:Nat):TS:=(S.aJ i (decide (S.r i=j)) (-1)).bW j (-1)
theorem Dn (bt ba n:Nat) (S:TS) (i j:Nat) (w:World) (h:bA w bt ba n S) (hi:i<n) (hj:j<n) (hu:S.u j=i) :
  Calls Tryz.prog 244 #[.pointer (some ⟨bt,0,none⟩),.int .i64 (j:Int)] w fun e w'=>e=.returned (.tuple #[.int .i64 (i:Int),.bool true])/\bA w' bt ba n (ni S i j)/\aa [ba] w w':=by
 have hle:=h.le;have hbne:ba≠bt:=fun e=>h.ne e.symm;have c0:=h.head.cell 0 ω;have d0:=h.row.cellAt (i*3) ω (p9 S i);have d1:=h.row.cellAt (i*3+1) ω (pO S i);have d2:=h.row.cellAt (j*3+2) ω (tN S j);have e0:=h.row.free (i*3);have e1:=h.row.free (i*3+1);have e2:=h.row.free (j*3+2);have k3:=uu bt ba n S j w h;rw [show pF n S j=i by unfold pF;rw [if_pos ω];simpa using hu] at k3;have k4:=fun W (hW:bA W bt ba n S)=>yV bt ba n S i true W hW;rw [show il n S i true=S.r i by unfold il TS.kid;rw [if_pos ω];simp] at k4;have H:=χ h;have hi1:((i:Int) == -1)=false:=σ;clear h
 by_cases hr:S.r i=j
 ·have hb:(S.r i == (j:Int))=true:=by simpa using hr
  have ec:ni S i j=(S.aJ i true (-1)).bW j (-1):=by unfold ni;rw [decide_eq_true hr]
  have EC:=χ ec;clear hr ec hu
  go_enter Tryz.func244,Tryz.ntmps244
  go_wp2_with ((go_at_call 252;(with_reducible refine (k3).mono ?_);rintro e w' ⟨rfl,rfl⟩))
  go_region_held3 (fun W=>W.cell? ⟨bt,0,none⟩=some (.slice (some ⟨ba,0,none⟩) n n)) (go_keep)
   (first|((go_at_call 253;refine (sH _ _).mono ?_;rintro e w' ⟨rfl,rfl⟩))|((go_at_call 254;refine (k4 _ (H.out.drew)).mono ?_;rintro e w' ⟨rfl,kd,rfl⟩)))
  go_wp2;go_ret2;exact ⟨rfl,by rw [EC.out];exact ((H.out.drewN _).aJ i true (-1)).bW j (-1),(((aa.refl _ _).drewN _).setCell (Or.inl σ) _).setCell (Or.inl σ) _⟩
 ·have hb:(S.r i == (j:Int))=false:=by simpa using hr
  have ec:ni S i j=(S.aJ i false (-1)).bW j (-1):=by unfold ni;rw [decide_eq_false hr]
  have EC:=χ ec;clear hr ec hu
  go_enter Tryz.func244,Tryz.ntmps244
  go_wp2_with ((go_at_call 252;(with_reducible refine (k3).mono ?_);rintro e w' ⟨rfl,rfl⟩))
  go_region_held3 (fun W=>W.cell? ⟨bt,0,none⟩=some (.slice (some ⟨ba,0,none⟩) n n)) (go_keep)
   (first|((go_at_call 253;refine (sH _ _).mono ?_;rintro e w' ⟨rfl,rfl⟩))|((go_at_call 254;refine (k4 _ (H.out.drew)).mono ?_;rintro e w' ⟨rfl,kd,rfl⟩)))
  go_wp2;go_ret2;exact ⟨rfl,by rw [EC.out];exact ((H.out.drewN _).aJ i false (-1)).bW j (-1),(((aa.refl _ _).drewN _).setCell (Or.inl σ) _).setCell (Or.inl σ) _⟩
def jH (S:TS) (i:Nat):TS:=(S.aJ i false (S.r i)).aJ i true (S.l i)
theorem Au (bt ba n:Nat) (S:TS) (i:Nat) (w:World) (h:bA w bt ba n S) (hi:i<n) :
  Calls Tryz.prog 259 #[.pointer (some ⟨bt,0,none⟩),.int .i64 (i:Int)] w fun e w'=>e=.returned (.bool true)/\bA w' bt ba n (jH S i)/\aa [ba] w w':=by
 have hle:=h.le;have c0:=h.head.cell 0 ω;have d0:=h.row.cellAt (i*3) ω (p9 S i);have d1:=h.row.cellAt (i*3+1) ω (pO S i);have e0:=h.row.free (i*3);have e1:=h.row.free (i*3+1);have k1:=qX bt ba n S i w h true (by simp [hi]);have H:=χ h;clear h
 go_enter Tryz.func259,Tryz.ntmps259
 go_wp2_with ((go_at_call 257;(with_reducible refine (k1).mono ?_);rintro e w' ⟨rfl,rfl⟩))
 go_region
 go_wp2;go_ret;exact ⟨rfl,((H.out.aJ i false (S.r i)).aJ i true (S.l i)).drew,(((aa.refl _ _).setCell (Or.inl σ) _).setCell (Or.inl σ) _).drew⟩
end Go.Proofs.YtklibcncmbofpaaGreat
namespace Go.Proofs.YtklibcncmbofpaaGreat
inductive BT where
 | nil:BT
 | node:Nat->BT->BT->BT
def BT.root:BT->Int | .nil=>-1 | .node x _ _=>x
def BT.nodes:BT->List Nat | .nil=>[] | .node x l r=>x::(l.nodes++r.nodes)
def BT.size:BT->Nat | .nil=>0 | .node _ l r=>l.size+r.size+1
theorem BT.mf:∀t:BT,t.nodes.length=t.size
 | .nil=>rfl
 | .node x l r=>by simp [BT.nodes,BT.size,BT.mf l,BT.mf r]
def cO (S:TS):Int->Int->BT->Prop
 | _,z,.nil=>z=-1
 | p,z,.node x l r=>z=x/\S.u x=p/\cO S x (S.l x) l/\cO S x (S.r x) r
theorem cO.root {S:TS}:∀ {t:BT} {p z:Int},cO S p z t->z=t.root
 | .nil,_,_,h=>h
 | .node _ _ _,_,_,h=>h.1
def TS.at (S S':TS) (x:Nat):Prop:=S'.l x=S.l x/\S'.r x=S.r x/\S'.u x=S.u x
theorem cO.frame {S S':TS}:∀ {t:BT} {p z:Int},cO S p z t->(∀x,x∈t.nodes->S.at S' x)->cO S' p z t
 | .nil,_,_,h,_=>h
 | .node x l r,p,z,h,hs=>by
  have hx:=hs x (by simp [BT.nodes]);refine ⟨h.1,by rw [hx.2.2];exact h.2.1,?_,?_⟩
  ·rw [hx.1];exact cO.frame h.2.2.1 (fun y hy=>hs y (by simp [BT.nodes,hy]))
  ·rw [hx.2.1];exact cO.frame h.2.2.2 (fun y hy=>hs y (by simp [BT.nodes,hy]))
theorem cO.NW {S S':TS} {t:BT} {p p' z:Int} (h:cO S p z t) (hn:t.nodes.Nodup) (hs:∀x,x∈t.nodes->S'.l x=S.l x/\S'.r x=S.r x/\(x≠t.root.toNat->S'.u x=S.u x)) (hr:t≠.nil->S'.u t.root.toNat=p'):cO S' p' z t:=by
 cases t with
 | nil=>exact h
 | node x l r=>
  have hx:=hs x (by simp [BT.nodes]);simp only [BT.nodes,List.nodup_cons,τ,not_or] at hn;refine ⟨h.1,?_,?_,?_⟩
  ·have:=hr σ;simpa [BT.root] using this
  ·rw [hx.1];refine h.2.2.1.frame (fun y hy=>?_);have hy':=hs y (by simp [BT.nodes,hy]);exact ⟨hy'.1,hy'.2.1,hy'.2.2 (fun e=>by simp [BT.root] at e;rw [e] at hy;exact hn.1.1 hy)⟩
  ·rw [hx.2.1];refine h.2.2.2.frame (fun y hy=>?_);have hy':=hs y (by simp [BT.nodes,hy]);exact ⟨hy'.1,hy'.2.1,hy'.2.2 (fun e=>by simp [BT.root] at e;rw [e] at hy;exact hn.1.2 hy)⟩
theorem bM {t:BT} (h:t≠.nil):t.root.toNat∈t.nodes/\t.root=(t.root.toNat:Int):=by
 cases t with
 | nil=>exact absurd rfl h
 | node x l r=>simp [BT.root,BT.nodes]
/-! ### ranks; what a merge gives -/
def BT.rank:BT->Nat | .nil=>0 | .node _ _ r=>r.rank+1
def aC (x:Nat) (l r:BT):BT:=if l.rank<r.rank then .node x r l else .node x l r
def gK (rk:Nat->Nat):BT->Prop
 | .nil=>True
 | .node x l r=>rk x=r.rank+1/\gK rk l/\gK rk r
theorem gK.frame {rk oD:Nat->Nat}:∀ {t:BT},gK rk t->(∀x,x∈t.nodes->oD x=rk x)->gK oD t
 | .nil,_,_=>trivial
 | .node x l r,h,hs=>⟨by rw [hs x (by simp [BT.nodes])];exact h.1,h.2.1.frame (fun y hy=>hs y (by simp [BT.nodes,hy])),h.2.2.frame (fun y hy=>hs y (by simp [BT.nodes,hy]))⟩
theorem gK.root {rk:Nat->Nat} {t:BT} (h:gK rk t) (ht:t≠.nil):rk t.root.toNat=t.rank:=by
 cases t with
 | nil=>exact absurd rfl ht
 | node x l r=>simpa [BT.root,BT.rank] using h.1
def Lean:BT->Prop
 | .nil=>True
 | .node _ l r=>r.rank<=l.rank/\Lean l/\Lean r
theorem kY {x:Nat} {l r:BT} (hl:Lean l) (hr:Lean r):Lean (aC x l r):=by
 unfold aC;split
 ·exact ⟨ω,hr,hl⟩
 ·exact ⟨ω,hl,hr⟩
def Heap (A:NS):BT->Prop
 | .nil=>True
 | .node x l r=>(∀y,y∈l.nodes->cZ A x y)/\(∀y,y∈r.nodes->cZ A x y)/\Heap A l/\Heap A r
theorem lI (x:Nat) (l r:BT):(aC x l r).nodes.Perm (x::(l.nodes++r.nodes)):=by
 unfold aC;split
 ·simp only [BT.nodes];exact List.Perm.cons x List.perm_append_comm
 ·exact List.Perm.refl _
theorem su {A:NS} {x:Nat} {l r:BT} (h1:∀y,y∈l.nodes->cZ A x y) (h2:∀y,y∈r.nodes->cZ A x y) (hl:Heap A l) (hr:Heap A r):Heap A (aC x l r):=by
 unfold aC;split
 ·exact ⟨h2,h1,hr,hl⟩
 ·exact ⟨h1,h2,hl,hr⟩
theorem jP (x:Nat) (l r:BT):(aC x l r).root=x:=by unfold aC;split<;>rfl
def aK (up:Nat->BT->BT->BT) (A:NS):BT->BT->BT×Nat
 | .nil,t=>(t,0)
 | .node x l r,.nil=>(.node x l r,0)
 | .node x l r,.node y l' r'=>
  if cZ A y x then (up y l' (aK up A r' (.node x l r)).1,(aK up A r' (.node x l r)).2+1)
  else (up x l (aK up A r (.node y l' r')).1,(aK up A r (.node y l' r')).2+1)
termination_by a b=>a.size+b.size
decreasing_by
 all_goals simp only [BT.size]
 all_goals omega
theorem mq (up:Nat->BT->BT->BT) (A:NS) (t:BT):aK up A .nil t=(t,0):=by rw [aK]
theorem oK (up:Nat->BT->BT->BT) (A:NS) (t:BT):aK up A t .nil=(t,0):=by cases t<;>rw [aK]
theorem oU (up:Nat->BT->BT->BT) (A:NS) (x y:Nat) (l r l' r':BT):aK up A (.node x l r) (.node y l' r')=
  if cZ A y x then (up y l' (aK up A r' (.node x l r)).1,(aK up A r' (.node x l r)).2+1)
  else (up x l (aK up A r (.node y l' r')).1,(aK up A r (.node y l' r')).2+1):=by rw [aK]
structure Rs (up:Nat->BT->BT->BT):Prop where
 nodes:∀x l r,(up x l r).nodes.Perm (x::(l.nodes++r.nodes))
 heap:∀A x l r,(∀y,y∈l.nodes->cZ A x y)->(∀y,y∈r.nodes->cZ A x y)->Heap A l->Heap A r->Heap A (up x l r)
 root:∀x l r,(up x l r).root=x
theorem nM:Rs aC:=⟨lI,fun _ _ _ _=>su,jP⟩
theorem mH {up:Nat->BT->BT->BT} (U:Rs up) (A:NS) (k:Nat):∀ (a b:BT),a.size+b.size<=k->
  (aK up A a b).1.nodes.Perm (a.nodes++b.nodes)/\(Heap A a->Heap A b->(a.nodes++b.nodes).Nodup->Heap A (aK up A a b).1):=by
 induction k with
 | zero=>
  intro a b hk;cases a with
  | nil=>rw [mq];exact ⟨by simp [BT.nodes],fun _ h _=>h⟩
  | node x l r=>simp only [BT.size] at hk;omega
 | succ k ih=>
  intro a b hk;cases a with
  | nil=>rw [mq];exact ⟨by simp [BT.nodes],fun _ h _=>h⟩
  | node x l r=>
   cases b with
   | nil=>rw [oK];exact ⟨by simp [BT.nodes],fun h _ _=>h⟩
   | node y l' r'=>
    rw [oU];simp only [BT.size] at hk
    by_cases h:cZ A y x
    ·rw [if_pos h];obtain ⟨i1,i2⟩:=ih r' (.node x l r) (by simp only [BT.size];omega);have i3:=U.nodes y l' (aK up A r' (.node x l r)).1;have i4:(y::(l'.nodes++(aK up A r' (.node x l r)).1.nodes)).Perm ((BT.node x l r).nodes++(BT.node y l' r').nodes):=by
      refine List.Perm.trans (List.Perm.cons y (List.Perm.append_left _ i1)) ?_;rw [←List.append_assoc]
      show (y::(l'.nodes++r'.nodes++(BT.node x l r).nodes)).Perm ((BT.node x l r).nodes++(y::(l'.nodes++r'.nodes)))
      exact (List.perm_append_comm (l₁:=y::(l'.nodes++r'.nodes)))
     refine ⟨i3.trans i4,fun ha hb hn=>?_⟩;have hn2:(r'.nodes++(BT.node x l r).nodes).Nodup:=by
      rw [θ] at hn ⊢;simp only [BT.nodes,List.nodup_cons,θ] at hn;refine ⟨hn.2.1.2.2.1,by simp only [BT.nodes,List.nodup_cons,θ];exact hn.1,fun p hp q hq e=>hn.2.2 q hq p (by simp [hp]) e.symm⟩
     refine U.heap A y l' _ hb.1 (fun z hz=>?_) hb.2.2.1 (i2 hb.2.2.2 ha hn2);rcases τ.1 (i1.mem_iff.1 hz) with hz|hz
     ·exact hb.2.1 z hz
     ·simp only [BT.nodes,ρ,τ] at hz;rcases hz with rfl|hz|hz
      ·exact h
      ·exact cz h (ha.1 z hz)
      ·exact cz h (ha.2.1 z hz)
    ·rw [if_neg h];obtain ⟨i1,i2⟩:=ih r (.node y l' r') (by simp only [BT.size];omega);have i3:=U.nodes x l (aK up A r (.node y l' r')).1;have i4:(x::(l.nodes++(aK up A r (.node y l' r')).1.nodes)).Perm ((BT.node x l r).nodes++(BT.node y l' r').nodes):=by
      refine List.Perm.trans (List.Perm.cons x (List.Perm.append_left _ i1)) ?_;rw [←List.append_assoc];exact List.Perm.refl _
     refine ⟨i3.trans i4,fun ha hb hn=>?_⟩;have hn1:=hn;rw [θ] at hn;have hxy:x≠y:=hn.2.2 x (by simp [BT.nodes]) y (by simp [BT.nodes]);have hlt:cZ A x y:=by
      rcases jm (A:=A) hxy with h'|h'
      ·exact h'
      ·exact absurd h' h
     have hn2:(r.nodes++(BT.node y l' r').nodes).Nodup:=by
      rw [θ];simp only [BT.nodes,List.nodup_cons,θ] at hn;refine ⟨hn.1.2.2.1,by simp only [BT.nodes,List.nodup_cons,θ];exact hn.2.1,fun p hp q hq e=>hn.2.2 p (by simp [hp]) q hq e⟩
     refine U.heap A x l _ ha.1 (fun z hz=>?_) ha.2.2.1 (i2 ha.2.2.2 hb hn2);rcases τ.1 (i1.mem_iff.1 hz) with hz|hz
     ·exact ha.2.1 z hz
     ·simp only [BT.nodes,ρ,τ] at hz;rcases hz with rfl|hz|hz
      ·exact hlt
      ·exact cz hlt (hb.1 z hz)
      ·exact cz hlt (hb.2.1 z hz)
theorem ve (A:NS) (k:Nat):∀ (a b:BT),a.size+b.size<=k->Lean a->Lean b->Lean (aK aC A a b).1:=by
 induction k with
 | zero=>
  intro a b hk ha hb;cases a with
  | nil=>rw [mq];exact hb
  | node x l r=>simp only [BT.size] at hk;omega
 | succ k ih=>
  intro a b hk ha hb;cases a with
  | nil=>rw [mq];exact hb
  | node x l r=>
   cases b with
   | nil=>rw [oK];exact ha
   | node y l' r'=>
    rw [oU];simp only [BT.size] at hk
    split
    ·exact kY hb.2.1 (ih r' (.node x l r) (by simp only [BT.size];omega) hb.2.2 ha)
    ·exact kY ha.2.1 (ih r (.node y l' r') (by simp only [BT.size];omega) ha.2.2 hb)
def uT (up:Nat->BT->BT->BT):List (Nat×BT)->BT->BT
 | [],m=>m
 | (x,l)::t,m=>up x l (uT up t m)
theorem Ag (up:Nat->BT->BT->BT) (W:List (Nat×BT)) (x:Nat) (l m:BT):uT up (W++[(x,l)]) m=uT up W (up x l m):=by
 induction W with
 | nil=>rfl
 | cons p t ih=>obtain ⟨y,k⟩:=p;simp only [List.cons_append,uT,ih]
def uJ (W:List (Nat×BT)):List Nat:=W.flatMap fun p=>p.1::p.2.nodes
abbrev Fr:=Nat×Bool×BT
def bC (f:Fr) (t:BT):BT:=if f.2.1 then .node f.1 f.2.2 t else .node f.1 t f.2.2
def aj:List Fr->BT->BT
 | [],t=>t
 | f::P,t=>aj P (bC f t)
def Ci:List Fr->Int|[]=>-1|f::_=>f.1
def dU:List Fr->List Nat|[]=>[]|f::P=>f.1::(f.2.2.nodes++dU P)
def Q6 (S:TS):List Fr->Int->Prop
 | [],_=>True
 | f::P,z=>S.kid f.2.1 f.1=z/\cO S f.1 (S.kid (!f.2.1) f.1) f.2.2/\S.u f.1=Ci P/\Q6 S P f.1
theorem nV (f:Fr) (t:BT):(bC f t).root=f.1:=by unfold bC;split<;>rfl
theorem QW (f:Fr) (t:BT):bC f t≠.nil:=by unfold bC;split<;>simp
theorem jL (f:Fr) (t:BT):(bC f t).nodes.Perm (f.1::(t.nodes++f.2.2.nodes)):=by
 unfold bC;split
 ·simp only [BT.nodes];exact List.Perm.cons _ List.perm_append_comm
 ·exact List.Perm.refl _
theorem aP:∀ (P:List Fr) (t:BT),(aj P t).nodes.Perm (t.nodes++dU P)
 | [],t=>by simp [aj,dU]
 | f::P,t=>by
  refine (aP P (bC f t)).trans ?_;refine ((jL f t).append_right (dU P)).trans ?_;simp only [dU,List.cons_append,List.append_assoc];exact (List.perm_middle (a:=f.1) (l₁:=t.nodes) (l₂:=f.2.2.nodes++dU P)).symm
theorem Al:∀ (P:List Fr) (t t':BT),t.root=t'.root->(aj P t).root=(aj P t').root
 | [],t,t',h=>h
 | f::P,t,t',h=>Al P _ _ (by rw [nV,nV])
theorem kH (f:Fr) (P:List Fr) (t t':BT):(aj (f::P) t).root=(aj (f::P) t').root:=Al P _ _ (by rw [nV,nV])
theorem sK:∀ (P Q:List Fr) (t:BT),aj (P++Q) t=aj Q (aj P t)
 | [],_,_=>rfl
 | f::P,Q,t=>sK P Q (bC f t)
theorem xV:∀ {t:BT} {x:Nat},x∈t.nodes->∃P l r,t=aj P (.node x l r)
 | .nil,_,h=>by cases h
 | .node y a b,x,h=>by
  simp only [BT.nodes,ρ,τ] at h;rcases h with rfl|h|h
  ·exact ⟨[],a,b,rfl⟩
  ·obtain ⟨P,l,r,e⟩:=xV h;exact ⟨P++[(y,false,b)],l,r,by rw [sK,←e];rfl⟩
  ·obtain ⟨P,l,r,e⟩:=xV h;exact ⟨P++[(y,true,a)],l,r,by rw [sK,←e];rfl⟩
theorem OB {S:TS} {p:Int} (f:Fr) (t:BT):cO S p f.1 (bC f t)↔cO S f.1 t.root t/\S.kid f.2.1 f.1=t.root/\cO S f.1 (S.kid (!f.2.1) f.1) f.2.2/\S.u f.1=p:=by
 obtain ⟨x,s,o⟩:=f;cases s
 ·simp only [bC,Bool.false_eq_true,if_false,cO,TS.kid,Bool.not_false,if_true];constructor
  ·rintro ⟨_,h2,h3,h4⟩;have e:=h3.root;exact ⟨by rw [←e];exact h3,e,h4,h2⟩
  ·rintro ⟨h1,h2,h3,h4⟩;exact ⟨trivial,h4,by rw [h2];exact h1,h3⟩
 ·simp only [bC,if_true,cO,TS.kid,Bool.not_true,Bool.false_eq_true,if_false];constructor
  ·rintro ⟨_,h2,h3,h4⟩;have e:=h4.root;exact ⟨by rw [←e];exact h4,e,h3,h2⟩
  ·rintro ⟨h1,h2,h3,h4⟩;exact ⟨trivial,h4,h3,by rw [h2];exact h1⟩
theorem eU {S:TS}:∀ (P:List Fr) (t:BT),cO S (-1) (aj P t).root (aj P t)↔cO S (Ci P) t.root t/\Q6 S P t.root
 | [],t=>by simp [aj,Ci,Q6]
 | f::P,t=>by
  have h:=eU (S:=S) P (bC f t);rw [nV] at h
  show cO S (-1) (aj P (bC f t)).root (aj P (bC f t))↔_
  rw [h,OB];simp only [Ci,Q6];constructor
  ·rintro ⟨⟨h1,h2,h3,h4⟩,h5⟩;exact ⟨h1,h2,h3,h4,h5⟩
  ·rintro ⟨h1,h2,h3,h4,h5⟩;exact ⟨⟨h1,h2,h3,h4⟩,h5⟩
theorem Q6.frame {S S':TS}:∀ {P:List Fr} {z:Int},Q6 S P z->(∀y,y∈dU P->S.at S' y)->Q6 S' P z
 | [],_,_,_=>trivial
 | f::P,z,h,hs=>by
  obtain ⟨h1,h2,h3,h4⟩:=h;have hf:=hs f.1 (by simp [dU]);have hk:∀s,S'.kid s f.1=S.kid s f.1:=fun s=>by unfold TS.kid;rw [hf.1,hf.2.1]
  exact ⟨by rw [hk];exact h1,by rw [hk];exact h2.frame (fun y hy=>hs y (by simp [dU,hy])),by rw [hf.2.2];exact h3,h4.frame (fun y hy=>hs y (by simp [dU,hy]))⟩
theorem Q6.other {S S':TS} {f:Fr} {P:List Fr} {z z':Int} (h:Q6 S (f::P) z) (hn:(dU (f::P)).Nodup) (h1:S'.kid f.2.1 f.1=z') (h2:S'.kid (!f.2.1) f.1=S.kid (!f.2.1) f.1) (h3:S'.u f.1=S.u f.1)
  (hs:∀y,y≠f.1->y∈dU (f::P)->S.at S' y):Q6 S' (f::P) z':=by
 obtain ⟨_,g2,g3,g4⟩:=h;simp only [dU,List.nodup_cons,τ,not_or] at hn;exact ⟨h1,by rw [h2];exact g2.frame (fun y hy=>hs y (fun e=>hn.1.1 (by rw [←e];exact hy)) (by simp [dU,hy])),by rw [h3];exact g3,g4.frame (fun y hy=>hs y (fun e=>hn.1.2 (by rw [←e];exact hy)) (by simp [dU,hy]))⟩
theorem VX {S:TS} {i j:Nat} {y:Nat} (h1:y≠i) (h2:y≠j):S.at (ni S i j) y:=by
 unfold ni TS.aJ TS.bW TS.at;refine ⟨?_,?_,?_⟩
 ·cases decide (S.r i=(j:Int))<;>simp [h1]
 ·cases decide (S.r i=(j:Int))<;>simp [h1]
 ·cases decide (S.r i=(j:Int))<;>simp [h2]
theorem Cm {S:TS} {i:Nat} {s:Bool} {v:Int}:∀y,(S.aJ i s v).u y=S.u y:=fun y=>by unfold TS.aJ;cases s<;>rfl
theorem Sl {S:TS} {f:Fr} {P:List Fr} {t:BT} (h:cO S (-1) (aj (f::P) t).root (aj (f::P) t)) (ht:t≠.nil) (hn:(aj (f::P) t).nodes.Nodup) :
  cO (ni S f.1 t.root.toNat) (-1) t.root t/\cO (ni S f.1 t.root.toNat) (-1) (aj (f::P) .nil).root (aj (f::P) .nil)/\∀y,y≠f.1->y≠t.root.toNat->S.at (ni S f.1 t.root.toNat) y:=by
 obtain ⟨h1,h2⟩:=(eU _ _).1 h;have YH:=(aP (f::P) t).nodup_iff.1 hn;rw [θ] at YH;obtain ⟨n1,n2,n3⟩:=YH;obtain ⟨rm,rc⟩:=bM ht;generalize hx:t.root.toNat=x at *;have hfx:f.1≠x:=fun e=>n3 x rm f.1 (by simp [dU]) e.symm;have hat:∀y,y≠f.1->y≠x->S.at (ni S f.1 x) y:=fun y h1 h2=>VX h1 h2;have hk:S.kid f.2.1 f.1=x:=by rw [h2.1,rc]
 have hside:decide (S.r f.1=(x:Int))=f.2.1:=by
  cases hs:f.2.1 with
  | true=>rw [hs] at hk;exact decide_eq_true (by simpa [TS.kid] using hk)
  | false=>
   refine decide_eq_false (fun e=>?_);have h3:=h2.2.1;rw [hs] at h3;have h4:=h3.root;have h5:f.2.2.root=(x:Int):=by rw [←h4];simpa [TS.kid] using e
   have h6:f.2.2≠.nil:=fun e=>by rw [e] at h5;simp [BT.root] at h5
   have h7:=(bM h6).1;rw [h5,π] at h7;exact n3 x rm x (by simp [dU,h7]) rfl
 have Tf:∀s,(ni S f.1 x).kid s f.1=if s=f.2.1 then -1 else S.kid s f.1:=fun s=>by
  unfold ni;rw [hside];unfold TS.aJ TS.bW TS.kid;cases s<;>cases f.2.1<;>simp
 have hu:∀y,(ni S f.1 x).u y=if y=x then -1 else S.u y:=fun y=>by
  unfold ni TS.bW;simp only [Cm]
 refine ⟨h1.NW n1 (fun y hy=>?_) (fun _=>?_),(eU _ _).2 ⟨rfl,h2.other n2 ?_ ?_ ?_ (fun y g1 g2=>hat y g1 (fun e=>n3 x rm y g2 e.symm))⟩,hat⟩
 ·have hyf:y≠f.1:=fun e=>n3 y hy f.1 (by simp [dU]) e;refine ⟨?_,?_,fun hr=>?_⟩
  ·unfold ni TS.aJ TS.bW;cases decide (S.r f.1=(x:Int))<;>simp [hyf]
  ·unfold ni TS.aJ TS.bW;cases decide (S.r f.1=(x:Int))<;>simp [hyf]
  ·rw [hu,if_neg (by rw [hx] at hr;exact hr)]
 ·rw [hu,hx,if_pos rfl]
 ·rw [Tf,if_pos rfl];rfl
 ·rw [Tf,if_neg (by cases f.2.1<;>simp)]
 ·rw [hu,if_neg hfx]
theorem Oh {S:TS} {f:Fr} {P:List Fr} {m:BT} (h:cO S (-1) (aj (f::P) .nil).root (aj (f::P) .nil)) (hM:cO S (-1) m.root m) (hm:m≠.nil) (hn:(m.nodes++dU (f::P)).Nodup) :
  cO (lT S f.1 m.root f.2.1) (-1) (aj (f::P) m).root (aj (f::P) m)/\∀y,y≠f.1->y≠m.root.toNat->S.at (lT S f.1 m.root f.2.1) y:=by
 obtain ⟨_,h2⟩:=(eU _ _).1 h;rw [θ] at hn;obtain ⟨n1,n2,n3⟩:=hn;obtain ⟨rm,rc⟩:=bM hm;have hfx:f.1≠m.root.toNat:=fun e=>n3 _ rm f.1 (by simp [dU]) e.symm;have Tf:∀s,(lT S f.1 m.root f.2.1).kid s f.1=if s=f.2.1 then m.root else S.kid s f.1:=fun s=>by
  unfold lT TS.aJ TS.bW TS.kid;cases s<;>cases f.2.1<;>simp
 have hu:∀y,(lT S f.1 m.root f.2.1).u y=if y=m.root.toNat then (f.1:Int) else S.u y:=fun y=>by
  unfold lT TS.bW;simp only [Cm]
 have hl:∀y,y≠f.1->(lT S f.1 m.root f.2.1).l y=S.l y/\(lT S f.1 m.root f.2.1).r y=S.r y:=fun y hy=>by
  unfold lT TS.aJ TS.bW;cases f.2.1<;>simp [hy]
 have hat:∀y,y≠f.1->y≠m.root.toNat->S.at (lT S f.1 m.root f.2.1) y:=fun y g1 g2=>⟨(hl y g1).1,(hl y g1).2,by rw [hu,if_neg g2]⟩
 refine ⟨(eU _ _).2 ⟨hM.NW n1 (fun y hy=>?_) (fun _=>by rw [hu,if_pos rfl];rfl),h2.other n2 ?_ ?_ ?_ (fun y g1 g2=>hat y g1 (fun e=>n3 _ rm y g2 e.symm))⟩,hat⟩
 ·have hyf:y≠f.1:=fun e=>n3 y hy f.1 (by simp [dU]) e;exact ⟨(hl y hyf).1,(hl y hyf).2,fun hr=>by rw [hu,if_neg hr]⟩
 ·rw [Tf,if_pos rfl]
 ·rw [Tf,if_neg (by cases f.2.1<;>simp)]
 ·rw [hu,if_neg hfx]
/-! ### heaps, ranks -/
theorem vw {A:NS} {f:Fr} {t:BT}:Heap A (bC f t)↔(∀y,y∈t.nodes->cZ A f.1 y)/\(∀y,y∈f.2.2.nodes->cZ A f.1 y)/\Heap A t/\Heap A f.2.2:=by
 unfold bC
 split
 ·simp only [Heap];constructor
  ·rintro ⟨a,b,c,d⟩;exact ⟨b,a,d,c⟩
  ·rintro ⟨a,b,c,d⟩;exact ⟨b,a,d,c⟩
 ·simp only [Heap]
theorem rY {A:NS}:∀ {P:List Fr} {t:BT},Heap A (aj P t)->Heap A t
 | [],_,h=>h
 | f::P,t,h=>(vw.1 (rY (P:=P) h)).2.2.1
theorem uh {A:NS}:∀ {P:List Fr} {t t':BT},Heap A (aj P t)->Heap A t'->(∀y,y∈t'.nodes->y∈t.nodes)->Heap A (aj P t')
 | [],_,_,_,h,_=>h
 | f::P,t,t',h,h',hs=>by
  have h1:=vw.1 (rY (P:=P) h);refine uh (P:=P) h (vw.2 ⟨fun y hy=>h1.1 y (hs y hy),h1.2.1,h',h1.2.2.2⟩) (fun y hy=>?_);have hy':=(jL f t').mem_iff.1 hy;refine (jL f t).mem_iff.2 ?_;simp only [ρ,τ] at hy' ⊢;rcases hy' with h|h|h
  ·exact Or.inl h
  ·exact Or.inr (Or.inl (hs y h))
  ·exact Or.inr (Or.inr h)
def lS (f:Fr) (n:Nat):Nat:=(if f.2.1 then n else f.2.2.rank)+1
theorem zT (f:Fr) (t:BT):(bC f t).rank=lS f t.rank:=by unfold bC lS;split<;>rfl
def Rq (rk:Nat->Nat):List Fr->Nat->Prop
 | [],_=>True
 | f::P,n=>gK rk f.2.2/\rk f.1=lS f n/\Rq rk P (lS f n)
theorem Tp {rk:Nat->Nat} {f:Fr} {t:BT}:gK rk (bC f t)↔gK rk t/\gK rk f.2.2/\rk f.1=lS f t.rank:=by
 unfold bC lS
 split
 ·simp only [gK];constructor
  ·rintro ⟨a,b,c⟩;exact ⟨c,b,a⟩
  ·rintro ⟨a,b,c⟩;exact ⟨c,b,a⟩
 ·simp only [gK];constructor
  ·rintro ⟨a,b,c⟩;exact ⟨b,c,a⟩
  ·rintro ⟨a,b,c⟩;exact ⟨c,a,b⟩
theorem yM {rk:Nat->Nat}:∀ (P:List Fr) (t:BT),gK rk (aj P t)↔gK rk t/\Rq rk P t.rank
 | [],t=>by simp [aj,Rq]
 | f::P,t=>by
  show gK rk (aj P (bC f t))↔_
  rw [yM P,Tp,zT];simp only [Rq];constructor
  ·rintro ⟨⟨a,b,c⟩,d⟩;exact ⟨a,b,c,d⟩
  ·rintro ⟨a,b,c,d⟩;exact ⟨⟨a,b,c⟩,d⟩
theorem Rq.frame {rk oD:Nat->Nat}:∀ {P:List Fr} {n:Nat},Rq rk P n->(∀y,y∈dU P->oD y=rk y)->Rq oD P n
 | [],_,_,_=>trivial
 | f::P,n,h,hs=>⟨h.1.frame (fun y hy=>hs y (by simp [dU,hy])),by rw [hs f.1 (by simp [dU])];exact h.2.1,h.2.2.frame (fun y hy=>hs y (by simp [dU,hy]))⟩
def CB:List Fr->Nat->Prop
 | [],_=>True
 | f::P,n=>Lean f.2.2/\(if f.2.1 then n<=f.2.2.rank else f.2.2.rank<=n)/\CB P (lS f n)
theorem KT {f:Fr} {t:BT}:Lean (bC f t)↔Lean t/\Lean f.2.2/\(if f.2.1 then t.rank<=f.2.2.rank else f.2.2.rank<=t.rank):=by
 unfold bC
 split
 ·simp only [Lean];constructor
  ·rintro ⟨a,b,c⟩;exact ⟨c,b,a⟩
  ·rintro ⟨a,b,c⟩;exact ⟨c,b,a⟩
 ·simp only [Lean];constructor
  ·rintro ⟨a,b,c⟩;exact ⟨b,c,a⟩
  ·rintro ⟨a,b,c⟩;exact ⟨c,a,b⟩
theorem uI:∀ (P:List Fr) (t:BT),Lean (aj P t)↔Lean t/\CB P t.rank
 | [],t=>by simp [aj,CB]
 | f::P,t=>by
  show Lean (aj P (bC f t))↔_
  rw [uI P,KT,zT];simp only [CB];constructor
  ·rintro ⟨⟨a,b,c⟩,d⟩;exact ⟨a,b,c,d⟩
  ·rintro ⟨a,b,c,d⟩;exact ⟨⟨a,b,c⟩,d⟩
def kX:List Fr->Nat->Nat->BT->BT->BT
 | [],_,x,l,r=>aC x l r
 | f::P,was,x,l,r=>
  if (aC x l r).rank=was then aj (f::P) (aC x l r)
  else if f.2.1 then kX P (lS f was) f.1 f.2.2 (aC x l r) else kX P (lS f was) f.1 (aC x l r) f.2.2
theorem qO:∀ (P:List Fr) (was x:Nat) (l r:BT),(kX P was x l r).nodes.Perm (aj P (.node x l r)).nodes
 | [],was,x,l,r=>lI x l r
 | f::P,was,x,l,r=>by
  have h0:(bC f (aC x l r)).nodes.Perm (bC f (.node x l r)).nodes:=
   (jL f _).trans ((List.Perm.cons _ ((lI x l r).append_right _)).trans (jL f (.node x l r)).symm)
  have h1:(aj P (bC f (aC x l r))).nodes.Perm (aj P (bC f (.node x l r))).nodes:=
   (aP P _).trans ((h0.append_right _).trans (aP P _).symm)
  unfold kX
  split
  ·exact h1
  ·split
   ·rename_i hs
    have e:bC f (aC x l r)=.node f.1 f.2.2 (aC x l r):=by unfold bC;rw [if_pos hs]
    rw [e] at h1;exact (qO P _ _ _ _).trans h1
   ·rename_i hs
    have e:bC f (aC x l r)=.node f.1 (aC x l r) f.2.2:=by unfold bC;rw [if_neg hs]
    rw [e] at h1;exact (qO P _ _ _ _).trans h1
theorem tC:∀ (P:List Fr) (was x:Nat) (l r:BT),(kX P was x l r).root=(aj P (.node x l r)).root
 | [],was,x,l,r=>jP x l r
 | f::P,was,x,l,r=>by
  have h1:=kH f P (aC x l r) (.node x l r);unfold kX
  split
  ·exact h1
  ·split
   ·rename_i hs
    have e:bC f (aC x l r)=.node f.1 f.2.2 (aC x l r):=by unfold bC;rw [if_pos hs]
    unfold aj at h1;rw [e] at h1;exact (tC P _ _ _ _).trans h1
   ·rename_i hs
    have e:bC f (aC x l r)=.node f.1 (aC x l r) f.2.2:=by unfold bC;rw [if_neg hs]
    unfold aj at h1;rw [e] at h1;exact (tC P _ _ _ _).trans h1
theorem uC {A:NS}:∀ (P:List Fr) (was x:Nat) (l r:BT),Heap A (aj P (.node x l r))->Heap A (kX P was x l r)
 | [],was,x,l,r,h=>su h.1 h.2.1 h.2.2.1 h.2.2.2
 | f::P,was,x,l,r,h=>by
  have h0:=rY h;have h1:Heap A (aj (f::P) (aC x l r)):=uh h (su h0.1 h0.2.1 h0.2.2.1 h0.2.2.2) (fun y hy=>(lI x l r).mem_iff.1 hy);unfold kX
  split
  ·exact h1
  ·split
   ·rename_i hs
    have e:bC f (aC x l r)=.node f.1 f.2.2 (aC x l r):=by unfold bC;rw [if_pos hs]
    unfold aj at h1;rw [e] at h1;exact uC P _ _ _ _ h1
   ·rename_i hs
    have e:bC f (aC x l r)=.node f.1 (aC x l r) f.2.2:=by unfold bC;rw [if_neg hs]
    unfold aj at h1;rw [e] at h1;exact uC P _ _ _ _ h1
theorem tX:∀ (P:List Fr) (was x:Nat) (l r:BT),Lean l->Lean r->CB P was->Lean (kX P was x l r)
 | [],was,x,l,r,hl,hr,_=>kY hl hr
 | f::P,was,x,l,r,hl,hr,h=>by
  unfold kX
  split
  ·rename_i e
   exact (uI _ _).2 ⟨kY hl hr,by rw [e];exact h⟩
  ·split
   ·exact tX P _ _ _ _ h.1 (kY hl hr) h.2.2
   ·exact tX P _ _ _ _ (kY hl hr) h.1 h.2.2
theorem Heap.frame {A A':NS}:∀ {t:BT},Heap A t->(∀x,x∈t.nodes->A'.c x=A.c x)->Heap A' t
 | .nil,_,_=>trivial
 | .node x l r,h,hs=>by
  have hx:=hs x (by simp [BT.nodes]);refine ⟨fun y hy=>(fP hx (hs y (by simp [BT.nodes,hy]))).2 (h.1 y hy),fun y hy=>(fP hx (hs y (by simp [BT.nodes,hy]))).2 (h.2.1 y hy),h.2.2.1.frame (fun y hy=>hs y (by simp [BT.nodes,hy])),h.2.2.2.frame (fun y hy=>hs y (by simp [BT.nodes,hy]))⟩
structure Qo where
 H:NS->BT->Prop
 frame:∀ {A A':NS} {t:BT},H A t->(∀x,x∈t.nodes->A'.c x=A.c x)->H A' t
 nil:∀A,H A .nil
abbrev heapK:Qo:=⟨Heap,Heap.frame,fun _=>trivial⟩
structure wR (K:Qo) (A:NS) (S:TS) (ak:List Int) (tr:Nat->BT):Prop where
 top:∀h,h<A.hs.length->ak.getD h 0=(tr h).root
 Dx:∀h,cO S (-1) (tr h).root (tr h)
 mem:∀h x,x∈(tr h).nodes↔0<h/\x<A.cs.length/\(A.c x).i=h
 nd:∀h,(tr h).nodes.Nodup
 heap:∀h,K.H A (tr h)
 free:∀x,x<A.cs.length->(A.c x).i=0->S.l x=-1/\S.r x=-1/\S.u x=-1
abbrev TrI:=wR heapK
theorem wR.next {K:Qo} {A A':NS} {S S':TS} {ak jv:List Int} {tr IG:Nat->BT} (h:wR K A S ak tr) (hc:A'.cs.length=A.cs.length) (keep:Nat->Prop)
  (k1:∀g,keep g->IG g=tr g/\∀x,x∈(tr g).nodes->S.at S' x/\A'.c x=A.c x)
  (k2:∀g,keep g->∀x,x<A.cs.length->0<g->((A'.c x).i=g↔(A.c x).i=g))
  (n1:∀g,¬keep g->cO S' (-1) (IG g).root (IG g)/\(IG g).nodes.Nodup/\K.H A' (IG g)/\∀x,x∈(IG g).nodes↔0<g/\x<A.cs.length/\(A'.c x).i=g)
  (tp:∀g,g<A'.hs.length->jv.getD g 0=(IG g).root)
  (fr:∀x,x<A.cs.length->(A'.c x).i=0->S'.l x=-1/\S'.r x=-1/\S'.u x=-1):wR K A' S' jv IG:=by
 refine ⟨tp,fun g=>?_,fun g x=>?_,fun g=>?_,fun g=>?_,fun x hx=>fr x ω⟩
 ·by_cases hk:keep g
  ·obtain ⟨e,hs⟩:=k1 g hk;rw [e];exact (h.Dx g).frame (fun y hy=>(hs y hy).1)
  ·exact (n1 g hk).1
 ·rw [hc]
  by_cases hk:keep g
  ·rw [(k1 g hk).1,h.mem g x];constructor
   ·rintro ⟨a,b,c⟩;exact ⟨a,b,(k2 g hk x b a).2 c⟩
   ·rintro ⟨a,b,c⟩;exact ⟨a,b,(k2 g hk x b a).1 c⟩
  ·exact (n1 g hk).2.2.2 x
 ·by_cases hk:keep g
  ·rw [(k1 g hk).1];exact h.nd g
  ·exact (n1 g hk).2.1
 ·by_cases hk:keep g
  ·obtain ⟨e,hs⟩:=k1 g hk;rw [e];exact K.frame (h.heap g) (fun y hy=>(hs y hy).2)
  ·exact (n1 g hk).2.2.1
def single (x:Nat):BT:=.node x .nil .nil
theorem vB {S:TS} {x:Nat} (h:S.l x=-1/\S.r x=-1/\S.u x=-1):cO S (-1) (single x).root (single x):=⟨rfl,h.2.2,h.1,h.2.1⟩
theorem wR.out {K:Qo} {A:NS} {S:TS} {ak:List Int} {tr:Nat->BT} (h:wR K A S ak tr) {x g:Nat} (hx:(A.c x).i=0):x∉(tr g).nodes:=fun hm=>by
 have:=(h.mem g x).1 hm;omega
theorem wR.put {K:Qo} {A:NS} {S S':TS} {ak:List Int} {tr:Nat->BT} (h:wR K A S ak tr) (ok:A.Ok) (hn:ak.length=A.hs.length) {g x:Nat} {k s:Int} (hB:oF A g x=true) {t':BT}
  (hT:cO S' (-1) t'.root t') (hp:t'.nodes.Perm ((tr g).nodes++[x])) (hH:K.H (aN A g x k s) t') (hs:∀y,y∉(tr g).nodes++[x]->S.at S' y) :
  wR K (aN A g x k s) S' (ak.set g t'.root) (fun q=>if q=g then t' else tr q):=by
 obtain ⟨b1,b2,b3⟩:=(fE _ _ _).1 hB;have b4:=(aT _ _).1 b1;have hx:x<A.cs.length:=by have:=(ic _ _).1 b2;omega
 have h0:(A.c x).i=0:=by
  have:=(ok.nat x hx).1;have h3:¬ (0<(A.c x).i):=fun h'=>by rw [(ai A x).2 ⟨hx,h'⟩] at b3;cases b3
  omega
 have hc:∀y,(aN A g x k s).c y=if y=x then ⟨g,k,s⟩ else A.c y:=fun y=>by
  unfold aN;rw [if_pos hB,π,kV]
  by_cases e:y=x
  ·rw [if_pos ⟨e,hx⟩,if_pos e]
  ·rw [if_neg (fun h=>e h.1),if_neg e]
 have hl:(aN A g x k s).cs.length=A.cs.length:=by unfold aN;rw [if_pos hB,fO]
 have hh:(aN A g x k s).hs=A.hs:=by unfold aN;rw [if_pos hB];rfl
 have hgn:g<A.hs.length:=ω;refine h.next hl (fun q=>q≠g) (fun q hq=>⟨if_neg hq,fun y hy=>?_⟩) (fun q hq y hy hq0=>?_) (fun q hq=>?_) (fun q hq=>?_) (fun y hy hy0=>?_)
 ·have hyx:y≠x:=fun e=>h.out (g:=q) h0 (by rw [←e];exact hy);have hyg:y∉(tr g).nodes:=fun hm=>by
   have a1:=(h.mem g y).1 hm;have a2:=(h.mem q y).1 hy;omega
  exact ⟨hs y (by simp [hyx,hyg]),by rw [hc,if_neg hyx]⟩
 ·rw [hc]
  by_cases e:y=x
  ·rw [if_pos e,e];simp only;omega
  ·rw [if_neg e]
 ·have hq':q=g:=Classical.not_not.1 hq;subst hq';rw [if_pos rfl];refine ⟨hT,hp.nodup_iff.2 ?_,hH,fun y=>?_⟩
  ·rw [θ];refine ⟨h.nd q,σ,fun a ha b hb e=>?_⟩;simp only [List.mem_singleton] at hb;exact h.out (g:=q) h0 (by rw [←hb,←e];exact ha)
  ·rw [hp.mem_iff,τ,List.mem_singleton,h.mem q y,hc]
   by_cases e:y=x
   ·rw [if_pos e];simp only [e,or_true,true_iff];exact ⟨ω,hx,trivial⟩
   ·rw [if_neg e];simp only [e,or_false]
 ·rw [hh] at hq
  by_cases e:q=g
  ·rw [if_pos e,e,φ,List.getElem?_set,if_pos rfl,if_pos ω];rfl
  ·rw [if_neg e,φ,List.getElem?_set,if_neg (fun h=>e h.symm),←φ];exact h.top q hq
 ·rw [hc] at hy0
  by_cases e:y=x
  ·rw [if_pos e] at hy0;simp only at hy0;omega
  ·rw [if_neg e] at hy0;have hyn:y∉(tr g).nodes++[x]:=by
    simp only [τ,List.mem_singleton,e,or_false];exact h.out hy0
   have a1:=h.free y hy hy0;have a2:=hs y hyn;exact ⟨a2.1.trans a1.1,a2.2.1.trans a1.2.1,a2.2.2.trans a1.2.2⟩
theorem Ec {K:Qo} (n:Nat):wR K (NS.new n) TS.none [-1] (fun _=>BT.nil):=by
 refine ⟨fun h hh=>?_,fun h=>rfl,fun h x=>?_,fun h=>List.nodup_nil,fun h=>K.nil _,fun x hx _=>⟨rfl,rfl,rfl⟩⟩
 ·have:h=0:=by simp [NS.new] at hh;exact hh
  subst this;rfl
 ·rw [NS.yc];simp only [BT.nodes,ς,false_iff,Cl.z];omega
theorem wR.make {K:Qo} {A:NS} {S:TS} {ak:List Int} {tr:Nat->BT} (h:wR K A S ak tr) (ok:A.Ok) (hn:ak.length=A.hs.length) (hl:¬65536<A.hs.length)  :wR K (aQ A) S (ak++[-1]) tr:=by
 have hc:(aQ A).cs=A.cs:=by unfold aQ;rw [if_neg hl]
 have hh:(aQ A).hs=A.hs++[true]:=by unfold aQ;rw [if_neg hl]
 have hcc:∀x,(aQ A).c x=A.c x:=fun x=>by unfold NS.c;rw [hc]
 refine h.next (by rw [hc]) (fun _=>True) (fun g _=>⟨rfl,fun x _=>⟨⟨rfl,rfl,rfl⟩,hcc x⟩⟩) (fun g _ x _ _=>by rw [hcc]) (fun g hg=>absurd trivial hg) (fun g hg=>?_) (fun x hx h0=>h.free x hx (by rw [hcc] at h0;exact h0));rw [hh,υ,List.length_singleton] at hg
 by_cases e:g<A.hs.length
 ·rw [φ,List.getElem?_append_left ω,←φ];exact h.top g e
 ·have e2:g=ak.length:=ω;have hnil:tr g=.nil:=by
   cases ht:tr g with
   | nil=>rfl
   | node x l r=>
    have hm:=(h.mem g x).1 (by rw [ht];simp [BT.nodes]);have:=(ok.nat x hm.2.1).2;omega
  rw [φ,e2,List.getElem?_append_right (Nat.le_refl _)];rw [←e2,hnil];simp [BT.root]
end Go.Proofs.YtklibcncmbofpaaGreat
namespace Go.Proofs.YtklibcncmbofpaaGreat
open Go Go.RowKit
theorem Qx {A:NS} {x:Nat} {k s:Int} (hB:jo A x k s=true) (hx:x<A.cs.length) {l r:BT} (h:Heap A (.node x l r)) (hn:(BT.node x l r).nodes.Nodup):Heap (aB A x k s) (.node x l r):=by
 simp only [BT.nodes,List.nodup_cons,τ,not_or] at hn;have hle:=tJ hB;rw [π] at hle;have hc:=rA hB hx;have hy:∀y,y≠x->(aB A x k s).c y=A.c y:=fun y e=>by rw [hc,if_neg e]
 have xU:(aB A x k s).c x=⟨(A.c x).i,k,s⟩:=by rw [hc,if_pos rfl]
 refine ⟨fun y m=>mD (h.1 y m) (hy y (fun e=>hn.1.1 (by rw [←e];exact m))) ?_,fun y m=>mD (h.2.1 y m) (hy y (fun e=>hn.1.2 (by rw [←e];exact m))) ?_,h.2.2.1.frame (fun y m=>hy y (fun e=>hn.1.1 (by rw [←e];exact m))),h.2.2.2.frame (fun y m=>hy y (fun e=>hn.1.2 (by rw [←e];exact m)))⟩
 ·rw [xU];exact hle
 ·rw [xU];exact hle
theorem wR.low {K:Qo} {A:NS} {S S':TS} {ak jv:List Int} {tr:Nat->BT} (h:wR K A S ak tr) {g x:Nat} {k s:Int} (hB:jo A x k s=true) (hx:x∈(tr g).nodes) {t':BT}
  (hT:cO S' (-1) t'.root t') (hp:t'.nodes.Perm (tr g).nodes) (hH:K.H (aB A x k s) t') (hs:∀y,y∉(tr g).nodes->S.at S' y)
  (htp:∀q,q<A.hs.length->jv.getD q 0=if q=g then t'.root else ak.getD q 0) :
  wR K (aB A x k s) S' jv (fun q=>if q=g then t' else tr q):=by
 have hm:=(h.mem g x).1 hx;have hc:=rA hB hm.2.1;have hi:=iR hB hm.2.1;refine h.next (fJ _ _ _ _) (fun q=>q≠g) (fun q hq=>⟨if_neg hq,fun y hy=>?_⟩) (fun q hq y hy hq0=>?_) (fun q hq=>?_) (fun q hq=>?_) (fun y hy hy0=>?_)
 ·have hyg:y∉(tr g).nodes:=fun hm=>by
   have a1:=(h.mem g y).1 hm;have a2:=(h.mem q y).1 hy;omega
  exact ⟨hs y hyg,by rw [hc,if_neg (fun e=>hyg (by rw [e];exact hx))]⟩
 ·rw [hi]
 ·have hq':q=g:=Classical.not_not.1 hq;subst hq';rw [if_pos rfl];refine ⟨hT,hp.nodup_iff.2 (h.nd q),hH,fun y=>?_⟩;rw [hp.mem_iff,h.mem q y,hi]
 ·rw [lN] at hq;rw [htp q hq]
  by_cases e:q=g
  ·rw [if_pos e,if_pos e]
  ·rw [if_neg e,if_neg e];exact h.top q hq
 ·rw [hi] at hy0;have a1:=h.free y hy hy0;have a2:=hs y (h.out hy0);exact ⟨a2.1.trans a1.1,a2.2.1.trans a1.2.1,a2.2.2.trans a1.2.2⟩
theorem wR.del {K:Qo} {A:NS} {S S':TS} {ak jv:List Int} {tr:Nat->BT} (h:wR K A S ak tr) {g x:Nat} (hx:x∈(tr g).nodes) {t':BT}
  (hT:cO S' (-1) t'.root t') (hp:(x::t'.nodes).Perm (tr g).nodes) (hH:K.H A t') (hs:∀y,y∉(tr g).nodes->S.at S' y) (hf:S'.l x=-1/\S'.r x=-1/\S'.u x=-1)
  (htp:∀q,q<A.hs.length->jv.getD q 0=if q=g then t'.root else ak.getD q 0) :
  wR K (bz A x) S' jv (fun q=>if q=g then t' else tr q):=by
 have hm:=(h.mem g x).1 hx;have hin:bX A (x:Int)=true:=(ai A x).2 ⟨hm.2.1,ω⟩;have hc:=xR hin;have hnd:(x::t'.nodes).Nodup:=hp.nodup_iff.2 (h.nd g);have hxt:x∉t'.nodes:=(List.nodup_cons.1 hnd).1;refine h.next (fT _ _) (fun q=>q≠g) (fun q hq=>⟨if_neg hq,fun y hy=>?_⟩) (fun q hq y hy hq0=>?_) (fun q hq=>?_) (fun q hq=>?_) (fun y hy hy0=>?_)
 ·have hyg:y∉(tr g).nodes:=fun hm=>by
   have a1:=(h.mem g y).1 hm;have a2:=(h.mem q y).1 hy;omega
  exact ⟨hs y hyg,by rw [hc,if_neg (fun e=>hyg (by rw [e];exact hx))]⟩
 ·rw [hc]
  by_cases e:y=x
  ·rw [if_pos e,e]
   show (0:Int)=(q:Int)↔_
   omega
  ·rw [if_neg e]
 ·have hq':q=g:=Classical.not_not.1 hq;subst hq';rw [if_pos rfl];refine ⟨hT,(List.nodup_cons.1 hnd).2,K.frame hH (fun y hy=>by rw [hc,if_neg (fun e=>hxt (by rw [←e];exact hy))]),fun y=>?_⟩;have e1:=hp.mem_iff (a:=y);rw [ρ,h.mem q y] at e1;rw [hc]
  by_cases e:y=x
  ·rw [if_pos e,e];refine ⟨fun hh=>absurd hh hxt,fun hh=>?_⟩;have:(0:Int)=(q:Int):=hh.2.2;omega
  ·rw [if_neg e,←e1];simp [e]
 ·rw [je] at hq;rw [htp q hq]
  by_cases e:q=g
  ·rw [if_pos e,if_pos e]
  ·rw [if_neg e,if_neg e];exact h.top q hq
 ·rw [hc] at hy0
  by_cases e:y=x
  ·rw [e];exact hf
  ·rw [if_neg e] at hy0;have a1:=h.free y hy hy0;have a2:=hs y (h.out hy0);exact ⟨a2.1.trans a1.1,a2.2.1.trans a1.2.1,a2.2.2.trans a1.2.2⟩
instance:Nonempty (List Fr×BT×BT):=⟨([],.nil,.nil)⟩
noncomputable def pathOf (t:BT) (x:Nat):List Fr×BT×BT:=Classical.epsilon fun q:List Fr×BT×BT=>t=aj q.1 (.node x q.2.1 q.2.2)
theorem nH {t:BT} {x:Nat} (h:x∈t.nodes):t=aj (pathOf t x).1 (.node x (pathOf t x).2.1 (pathOf t x).2.2):=by
 obtain ⟨P,l,r,e⟩:=xV h;unfold pathOf;exact Classical.epsilon_spec (p:=fun q:List Fr×BT×BT=>t=aj q.1 (.node x q.2.1 q.2.2)) ⟨(P,l,r),e⟩
end Go.Proofs.YtklibcncmbofpaaGreat
