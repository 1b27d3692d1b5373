/-
  Lemmas for RankSplits: Spine, Spine2, Bt, Lf, Lf2, Lf3, Lf4, Bt2, Lf5, Bt3, Lf6, Lf7, Lf8, Lf9, Bt4, Bt5, Lf13, Lf14, Lf16, LfQ, TOps. Conditions: those of each lemma.
-/
import Derived.Test.YtklibcncmbofpaaGreatC03
import Derived.Test.YtklibcncmbofpaaGreatC04
set_option linter.all false
set_option maxHeartbeats 8000000
set_option maxRecDepth 10000
namespace Go.Proofs.YtklibcncmbofpaaGreat
open Go Go.RowKit
structure TS where
 l:Nat->Int
 r:Nat->Int
 u:Nat->Int
def TS.none:TS:=⟨fun _=>-1,fun _=>-1,fun _=>-1⟩
def TS.kid (S:TS) (s:Bool) (x:Nat):Int:=if s then S.r x else S.l x
def bW (S:TS) (j:Nat):Value:=.int .i64 (if j % 3=0 then S.l (j / 3) else if j % 3=1 then S.r (j / 3) else S.u (j / 3))
theorem nU (S:TS) (x:Nat):bW S (x*3)=.int .i64 (S.l x):=by unfold bW;rw [Δ ω,show x*3 / 3=x by omega]
theorem nN (S:TS) (x:Nat):bW S (x*3+1)=.int .i64 (S.r x):=by unfold bW;rw [Γ ω,Δ ω,show (x*3+1) / 3=x by omega]
theorem qK (S:TS) (x:Nat):bW S (x*3+2)=.int .i64 (S.u x):=by unfold bW;rw [Γ ω,Γ ω,show (x*3+2) / 3=x by omega]
structure aY (w:World) (bt ba n:Nat) (S:TS):Prop where
 head:aG w bt 257 1 (fun _=>.slice (some ⟨ba,0,none⟩) n n)
 row:aG w ba 260 (n*3) (bW S)
 ne:bt≠ba
 le:n<=65536
theorem aY.upd {w w':World} {F:List Nat} {bt ba n:Nat} {S:TS} (h:aY w bt ba n S) (hu:aa F w w') (h1:bt∉F) (h2:ba∉F):aY w' bt ba n S:=
 ⟨h.head.upd hu h1,h.row.upd hu h2,h.ne,h.le⟩
theorem aY.drewN {w:World} {bt ba n:Nat} {S:TS} (h:aY w bt ba n S) (k:Nat):aY (w.drewN k) bt ba n S:=⟨h.head,h.row,h.ne,h.le⟩
theorem aY.drew {w:World} {bt ba n:Nat} {S:TS} (h:aY w bt ba n S):aY w.drew bt ba n S:=⟨h.head,h.row,h.ne,h.le⟩
theorem Kz:(Tryz.prog.info? 260).map (fun i=>(i.zero,i.size,i.bytes))=some (some (.agg #[.int .i64 0,.int .i64 0,.int .i64 0]),3,24):=by kernel_rfl
theorem uE (n:Nat) (w:World) (h:n<=65536) :
  Calls Tryz.prog 112 #[.int .i64 (n:Int)] w fun e w'=>∃bt ba,e=.returned (.tuple #[.pointer (some ⟨bt,0,none⟩),.int .i64 0])/\aY w' bt ba n TS.none/\aa [] w w'/\w.heap.size<=bt/\w.heap.size<=ba:=by
 go_enter Tryz.func112,Tryz.ntmps112
 go_wp2_with (at_make;refine wpList_make_row rfl _ 255 rfl 260 (.agg #[.int .i64 0,.int .i64 0,.int .i64 0]) 3 24 Tryz.underlying255 Kz n rfl ω μ ?_;intro w1 hr1 hu1)
 have hlt:=hr1.lt
 go_loopw [21] (fun i wr=>∃ (k:Nat) (f:Nat->Value),k<=n/\i=.int .i64 k/\aG wr w1.heap.size 257 1 (fun _=>.slice (some ⟨w.heap.size,0,none⟩) n n)/\aG wr w.heap.size 260 (n*3) f/\(∀j,j<k*3->f j=.int .i64 (-1))/\aa [] w wr) (fun i _=>n-(intOf i).toNat)
 case atStart=>exact ⟨0,_,ω,rfl,dC _ _ _ |>.ext (fun j hj=>by simp at hj;subst hj;rfl),hr1.alloc _,ω,hu1.alloc _⟩
 case round=>
  obtain ⟨k,f,hk,rfl,hH,hR,hf,hu⟩:=hrel
  by_cases hkn:k<n
  ·have c0:=hH.cell 0 ω;have d0:=hR.cell (k*3) ω;have d1:=hR.cell (k*3+1) ω;have d2:=hR.cell (k*3+2) ω;have e0:=hR.free (k*3);have e1:=hR.free (k*3+1);have e2:=hR.free (k*3+2);have HF:=χ hf;clear hf;go_wp2
   go_roundw
   case rel=>
    refine ⟨k+1,_,ω,by go_num,((hH.far _ _ ζ).far _ _ ζ).far _ _ ζ,((hR.set _ _).set _ _).set _ _,fun j hj=>?_,((hu.setCell (Β σ) _).setCell (Β σ) _).setCell (Β σ) _⟩
    show (if j=k*3+2 then _ else if j=k*3+1 then _ else if j=k*3 then _ else f j)=_
    split
    ·rfl
    ·split
     ·rfl
     ·split
      ·rfl
      ·exact HF.out j ω
   case measure=>simp [intOf];omega
  ·obtain rfl:k=n:=ω;go_wp2;go_ret2;exact ⟨_,_,rfl,⟨hH,hR.ext (fun j hj=>by rw [hf j hj];unfold bW TS.none;simp),ω,h⟩,hu,hu1.size,Θ _⟩
theorem oQ (bt ba n:Nat) (S:TS) (x:Int) (w:World) (h:aY w bt ba n S) (b:Bool) (hb:b=decide (0<=x/\x<n)) :
  Calls Tryz.prog 257 #[.pointer (some ⟨bt,0,none⟩),.int .i64 x] w fun e w'=>e=.returned (.bool b)/\w'=w:=by
 have hle:=h.le;have c0:=h.head.cell 0 ω;clear h;subst hb
 by_cases h0:0<=x
 ·by_cases h1:x<n
  ·go_enter Tryz.func257,Tryz.ntmps257
   go_wp2;go_ret;exact ⟨bA (by simp [h0,h1]),rfl⟩
  ·go_enter Tryz.func257,Tryz.ntmps257
   go_wp2;go_ret;exact ⟨bA (by simp [h0,h1]),rfl⟩
 ·go_enter Tryz.func257,Tryz.ntmps257
  go_wp2;go_ret;exact ⟨bA ζ,rfl⟩
theorem qm (b:Bool) (w:World):Calls Tryz.prog 253 #[.bool b] w fun e w'=>e=.returned (.int .i64 (if b then 1 else 0))/\w'=w:=by
 cases b
 all_goals
  go_enter Tryz.func253,Tryz.ntmps253
  go_wp2;go_ret;exact ⟨rfl,rfl⟩
theorem told_none (w:World):Calls Tryz.prog 256 #[.int .i64 (-1)] w fun e w'=>e=.returned (.tuple #[.int .i64 0,.bool false])/\w'=w:=by
 go_enter Tryz.func256,Tryz.ntmps256
 go_wp2;go_ret2;exact ⟨rfl,rfl⟩
theorem KN (x:Int) (w:World) (h:x≠-1):Calls Tryz.prog 256 #[.int .i64 x] w fun e w'=>e=.returned (.tuple #[.int .i64 x,.bool true])/\w'=w:=by
 have h':(x == -1)=false:=by simpa using h
 go_enter Tryz.func256,Tryz.ntmps256
 go_wp2;go_ret2;exact ⟨rfl,rfl⟩
def fE (n:Nat) (S:TS) (x:Int) (r:Bool):Int:=if 0<=x/\x<n then S.kid r x.toNat else -1
def oK (n:Nat) (S:TS) (x:Int):Int:=if 0<=x/\x<n then S.u x.toNat else -1
theorem xH (bt ba n:Nat) (S:TS) (x:Int) (r:Bool) (w:World) (h:aY w bt ba n S) :
  Calls Tryz.prog 254 #[.pointer (some ⟨bt,0,none⟩),.int .i64 x,.bool r] w fun e w'=>e=.returned (.int .i64 (fE n S x r))/\∃k,w'=w.drewN k:=by
 by_cases hx:0<=x/\x<n
 ·obtain ⟨k,rfl⟩:∃k:Nat,x=k:=⟨x.toNat,ω⟩;have hk:k<n:=ω;have e:fE n S k r=S.kid r k:=by unfold fE;rw [Δ hx];simp
  have hle:=h.le;have c0:=h.head.cell 0 ω;have d0:=h.row.cellAt (k*3) ω (nU S k);have d1:=h.row.cellAt (k*3+1) ω (nN S k);rw [e];clear e;cases r
  all_goals
   unfold TS.kid;simp only [if_true,if_false,ϥ]
   go_enter Tryz.func254,Tryz.ntmps254
   go_wp2_with (go_at_call 257;refine (oQ bt ba n S k _ h true (by simp [hk])).mono ?_;rintro e w' ⟨rfl,rfl⟩)
   go_quiet ((go_at_call 253;exact Calls.quiet_of_same (qm _ _)))
   go_wp2;go_ret;exact ⟨rfl,_,rfl⟩
 ·have e:fE n S x r=-1:=by unfold fE;rw [Γ hx]
  rw [e];clear e
  go_enter Tryz.func254,Tryz.ntmps254
  go_wp2_with (go_at_call 257;refine (oQ bt ba n S x _ h false (by simp [hx])).mono ?_;rintro e w' ⟨rfl,rfl⟩)
  go_ret;exact ⟨rfl,0,rfl⟩
theorem rM (bt ba n:Nat) (S:TS) (x:Int) (w:World) (h:aY w bt ba n S) :
  Calls Tryz.prog 252 #[.pointer (some ⟨bt,0,none⟩),.int .i64 x] w fun e w'=>e=.returned (.int .i64 (oK n S x))/\w'=w:=by
 by_cases hx:0<=x/\x<n
 ·obtain ⟨k,rfl⟩:∃k:Nat,x=k:=⟨x.toNat,ω⟩;have hk:k<n:=ω;have e:oK n S k=S.u k:=by unfold oK;rw [Δ hx];simp
  have hle:=h.le;have c0:=h.head.cell 0 ω;have d0:=h.row.cellAt (k*3+2) ω (qK S k);rw [e];clear e
  go_enter Tryz.func252,Tryz.ntmps252
  go_wp2_with (go_at_call 257;refine (oQ bt ba n S k _ h true (by simp [hk])).mono ?_;rintro e w' ⟨rfl,rfl⟩)
  go_ret;exact ⟨rfl,rfl⟩
 ·have e:oK n S x=-1:=by unfold oK;rw [Γ hx]
  rw [e];clear e
  go_enter Tryz.func252,Tryz.ntmps252
  go_wp2_with (go_at_call 257;refine (oQ bt ba n S x _ h false (by simp [hx])).mono ?_;rintro e w' ⟨rfl,rfl⟩)
  go_ret;exact ⟨rfl,rfl⟩
def tv (x:Int):Int:=if x=-1 then 0 else x
def tb (x:Int):Bool:=decide (x≠-1)
theorem yU (x:Int) (w:World):Calls Tryz.prog 256 #[.int .i64 x] w fun e w'=>e=.returned (.tuple #[.int .i64 (tv x),.bool (tb x)])/\w'=w:=by
 by_cases h:x=-1
 ·subst h;exact told_none w
 ·have e1:tv x=x:=by unfold tv;rw [Γ h]
  have e2:tb x=true:=by unfold tb;simp [h]
  rw [e1,e2];exact KN x w h
theorem xU (bt ba n:Nat) (S:TS) (x:Int) (w:World) (h:aY w bt ba n S) :
  Calls Tryz.prog 248 #[.pointer (some ⟨bt,0,none⟩),.int .i64 x] w fun e w'=>e=.returned (.tuple #[.int .i64 (tv (fE n S x false)),.bool (tb (fE n S x false))])/\∃k,w'=w.drewN k:=by
 generalize hy:fE n S x false=y;have c1:=xH bt ba n S x false w h;rw [hy] at c1;have c2:=fun W=>yU y W
 go_enter Tryz.func248,Tryz.ntmps248
 go_wp2_with (first|(go_at_call 254;refine c1.mono ?_;rintro e w' ⟨rfl,k,rfl⟩)|(go_at_call 256;refine (c2 _).mono ?_;rintro e w' ⟨rfl,rfl⟩))
 go_ret2;exact ⟨rfl,_,rfl⟩
theorem nX (bt ba n:Nat) (S:TS) (x:Int) (w:World) (h:aY w bt ba n S) :
  Calls Tryz.prog 249 #[.pointer (some ⟨bt,0,none⟩),.int .i64 x] w fun e w'=>e=.returned (.tuple #[.int .i64 (tv (fE n S x true)),.bool (tb (fE n S x true))])/\∃k,w'=w.drewN k:=by
 generalize hy:fE n S x true=y;have c1:=xH bt ba n S x true w h;rw [hy] at c1;have c2:=fun W=>yU y W
 go_enter Tryz.func249,Tryz.ntmps249
 go_wp2_with (first|(go_at_call 254;refine c1.mono ?_;rintro e w' ⟨rfl,k,rfl⟩)|(go_at_call 256;refine (c2 _).mono ?_;rintro e w' ⟨rfl,rfl⟩))
 go_ret2;exact ⟨rfl,_,rfl⟩
theorem Nq (bt ba n:Nat) (S:TS) (x:Int) (w:World) (h:aY w bt ba n S) :
  Calls Tryz.prog 250 #[.pointer (some ⟨bt,0,none⟩),.int .i64 x] w fun e w'=>e=.returned (.tuple #[.int .i64 (tv (oK n S x)),.bool (tb (oK n S x))])/\∃k,w'=w.drewN k:=by
 generalize hy:oK n S x=y;have c1:=rM bt ba n S x w h;rw [hy] at c1;have c2:=fun W=>yU y W
 go_enter Tryz.func250,Tryz.ntmps250
 go_wp2_with (first|(go_at_call 252;refine c1.mono ?_;rintro e w' ⟨rfl,rfl⟩)|(go_at_call 256;refine (c2 _).mono ?_;rintro e w' ⟨rfl,rfl⟩))
 go_ret2;exact ⟨rfl,0,rfl⟩
def TS.aB (S:TS) (p:Nat) (s:Bool) (v:Int):TS:=if s then ⟨S.l,fun i=>if i=p then v else S.r i,S.u⟩ else ⟨fun i=>if i=p then v else S.l i,S.r,S.u⟩
def TS.bJ (S:TS) (p:Nat) (v:Int):TS:=⟨S.l,S.r,fun i=>if i=p then v else S.u i⟩
theorem aY.aB {w:World} {bt ba n:Nat} {S:TS} (h:aY w bt ba n S) (p:Nat) (s:Bool) (v:Int) :
  aY (w.setCell ⟨ba,p*3+(if s then 1 else 0),none⟩ (.int .i64 v)) bt ba n (S.aB p s v):=by
 refine ⟨h.head.far _ _ h.ne,(h.row.set _ _).ext (fun j hj=>?_),h.ne,h.le⟩;cases s
 ·unfold bW TS.aB
  by_cases hj2:j=p*3
  ·subst hj2;simp
  ·have:¬ (j % 3=0/\j / 3=p):=ω
   by_cases h0:j % 3=0
   ·simp [hj2,h0];intro hh;exfalso;omega
   ·simp [hj2,h0]
 ·unfold bW TS.aB
  by_cases hj2:j=p*3+1
  ·subst hj2;simp;intro hh;exfalso;omega
  ·by_cases h0:j % 3=1
   ·simp [hj2,h0];intro hh;exfalso;omega
   ·simp [hj2,h0]
theorem aY.bJ {w:World} {bt ba n:Nat} {S:TS} (h:aY w bt ba n S) (p:Nat) (v:Int) :
  aY (w.setCell ⟨ba,p*3+2,none⟩ (.int .i64 v)) bt ba n (S.bJ p v):=by
 refine ⟨h.head.far _ _ h.ne,(h.row.set _ _).ext (fun j hj=>?_),h.ne,h.le⟩;unfold bW TS.bJ
 by_cases hj2:j=p*3+2
 ·subst hj2;simp;intro hh;exfalso;omega
 ·by_cases h0:j % 3=0
  ·simp [hj2,h0]
  ·by_cases h1:j % 3=1
   ·simp [hj2,h1]
   ·simp [hj2,h0,h1];intro hh;exfalso;omega
def jG (S:TS) (p x:Int) (r:Bool):TS:=(S.aB p.toNat r x).bJ x.toNat p
theorem xN (bt ba n:Nat) (S:TS) (i j:Nat) (r:Bool) (w:World) (h:aY w bt ba n S) (hi:i<n) (hj:j<n) (hne:i≠j) (hu:S.u j=-1) (hk:S.kid r i=-1) :
  Calls Tryz.prog 251 #[.pointer (some ⟨bt,0,none⟩),.int .i64 (i:Int),.int .i64 (j:Int),.bool r] w fun e w'=>e=.returned (.bool true)/\aY w' bt ba n (jG S i j r)/\aa [ba] w w':=by
 have hle:=h.le;have hbne:=h.ne;have hbne':ba≠bt:=fun e=>h.ne e.symm;have c0:=h.head.cell 0 ω;have d0:=h.row.cellAt (i*3) ω (nU S i);have d1:=h.row.cellAt (i*3+1) ω (nN S i);have d2:=h.row.cellAt (j*3+2) ω (qK S j);have e0:=h.row.free (i*3);have e1:=h.row.free (i*3+1);have e2:=h.row.free (j*3+2);have k1:=oQ bt ba n S i w h true (by simp [hi]);have k2:=oQ bt ba n S j w h true (by simp [hj]);have k3:=rM bt ba n S j w h;rw [show oK n S j=-1 by unfold oK;rw [Δ ω];simpa using hu] at k3;have k4:=xH bt ba n S i r w h;rw [show fE n S i r=-1 by unfold fE;rw [Δ ω];simpa using hk] at k4
 have hij:((i:Int) == (j:Int))=false:=ζ;have H:=χ h;clear h hu hk;cases r
 ·go_enter Tryz.func251,Tryz.ntmps251
  go_wp2_with (first
   | (go_at_call 257;(with_reducible refine (k1).mono ?_);rintro e w' ⟨rfl,rfl⟩)
   | (go_at_call 257;(with_reducible refine (k2).mono ?_);rintro e w' ⟨rfl,rfl⟩)
   | (go_at_call 252;(with_reducible refine (k3).mono ?_);rintro e w' ⟨rfl,rfl⟩)
   | (go_at_call 254;(with_reducible refine (k4).mono ?_);rintro e w' ⟨rfl,kd,rfl⟩))
  go_region_held3 (fun W=>W.cell? ⟨bt,0,none⟩=some (.slice (some ⟨ba,0,none⟩) n n)) (go_keep) ((go_at_call 253;refine (qm _ _).mono ?_;rintro e w' ⟨rfl,rfl⟩))
  go_wp2;go_ret;exact ⟨rfl,((H.out.drewN _).aB i false j).bJ j i,(((aa.refl _ _).drewN _).setCell (Α σ) _).setCell (Α σ) _⟩
 ·go_enter Tryz.func251,Tryz.ntmps251
  go_wp2_with (first
   | (go_at_call 257;(with_reducible refine (k1).mono ?_);rintro e w' ⟨rfl,rfl⟩)
   | (go_at_call 257;(with_reducible refine (k2).mono ?_);rintro e w' ⟨rfl,rfl⟩)
   | (go_at_call 252;(with_reducible refine (k3).mono ?_);rintro e w' ⟨rfl,rfl⟩)
   | (go_at_call 254;(with_reducible refine (k4).mono ?_);rintro e w' ⟨rfl,kd,rfl⟩))
  go_region_held3 (fun W=>W.cell? ⟨bt,0,none⟩=some (.slice (some ⟨ba,0,none⟩) n n)) (go_keep) ((go_at_call 253;refine (qm _ _).mono ?_;rintro e w' ⟨rfl,rfl⟩))
  go_wp2;go_ret;exact ⟨rfl,((H.out.drewN _).aB i true j).bJ j i,(((aa.refl _ _).drewN _).setCell (Α σ) _).setCell (Α σ) _⟩
theorem Nj (bt ba n:Nat) (S:TS) (x:Int) (w:World) (h:aY w bt ba n S) (hu:oK n S x=-1) :
  Calls Tryz.prog 244 #[.pointer (some ⟨bt,0,none⟩),.int .i64 x] w fun e w'=>e=.returned (.tuple #[.int .i64 0,.bool false])/\w'=w:=by
 have k3:=rM bt ba n S x w h;rw [hu] at k3;clear h hu
 go_enter Tryz.func244,Tryz.ntmps244
 go_wp2_with ((go_at_call 252;(with_reducible refine (k3).mono ?_);rintro e w' ⟨rfl,rfl⟩))
 go_ret2;exact ⟨rfl,rfl⟩
def lg (S:TS) (i j:Nat):TS:=(S.aB i (decide (S.r i=j)) (-1)).bJ j (-1)
theorem BH (bt ba n:Nat) (S:TS) (i j:Nat) (w:World) (h:aY w bt ba n S) (hi:i<n) (hj:j<n) (hu:S.u j=i) :
  Calls Tryz.prog 244 #[.pointer (some ⟨bt,0,none⟩),.int .i64 (j:Int)] w fun e w'=>e=.returned (.tuple #[.int .i64 (i:Int),.bool true])/\aY w' bt ba n (lg S i j)/\aa [ba] w w':=by
 have hle:=h.le;have hbne:ba≠bt:=fun e=>h.ne e.symm;have c0:=h.head.cell 0 ω;have d0:=h.row.cellAt (i*3) ω (nU S i);have d1:=h.row.cellAt (i*3+1) ω (nN S i);have d2:=h.row.cellAt (j*3+2) ω (qK S j);have e0:=h.row.free (i*3);have e1:=h.row.free (i*3+1);have e2:=h.row.free (j*3+2);have k3:=rM bt ba n S j w h;rw [show oK n S j=i by unfold oK;rw [Δ ω];simpa using hu] at k3;have k4:=fun W (hW:aY W bt ba n S)=>xH bt ba n S i true W hW;rw [show fE n S i true=S.r i by unfold fE TS.kid;rw [Δ ω];simp] at k4;have H:=χ h;have hi1:((i:Int) == -1)=false:=σ;clear h
 by_cases hr:S.r i=j
 ·have hb:(S.r i == (j:Int))=true:=by simpa using hr
  have ec:lg S i j=(S.aB i true (-1)).bJ j (-1):=by unfold lg;rw [Ν hr]
  have EC:=χ ec;clear hr ec hu
  go_enter Tryz.func244,Tryz.ntmps244
  go_wp2_with ((go_at_call 252;(with_reducible refine (k3).mono ?_);rintro e w' ⟨rfl,rfl⟩))
  go_region_held3 (fun W=>W.cell? ⟨bt,0,none⟩=some (.slice (some ⟨ba,0,none⟩) n n)) (go_keep)
   (first|((go_at_call 253;refine (qm _ _).mono ?_;rintro e w' ⟨rfl,rfl⟩))|((go_at_call 254;refine (k4 _ (H.out.drew)).mono ?_;rintro e w' ⟨rfl,kd,rfl⟩)))
  go_wp2;go_ret2;exact ⟨rfl,by rw [EC.out];exact ((H.out.drewN _).aB i true (-1)).bJ j (-1),(((aa.refl _ _).drewN _).setCell (Α σ) _).setCell (Α σ) _⟩
 ·have hb:(S.r i == (j:Int))=false:=by simpa using hr
  have ec:lg S i j=(S.aB i false (-1)).bJ j (-1):=by unfold lg;rw [Ξ hr]
  have EC:=χ ec;clear hr ec hu
  go_enter Tryz.func244,Tryz.ntmps244
  go_wp2_with ((go_at_call 252;(with_reducible refine (k3).mono ?_);rintro e w' ⟨rfl,rfl⟩))
  go_region_held3 (fun W=>W.cell? ⟨bt,0,none⟩=some (.slice (some ⟨ba,0,none⟩) n n)) (go_keep)
   (first|((go_at_call 253;refine (qm _ _).mono ?_;rintro e w' ⟨rfl,rfl⟩))|((go_at_call 254;refine (k4 _ (H.out.drew)).mono ?_;rintro e w' ⟨rfl,kd,rfl⟩)))
  go_wp2;go_ret2;exact ⟨rfl,by rw [EC.out];exact ((H.out.drewN _).aB i false (-1)).bJ j (-1),(((aa.refl _ _).drewN _).setCell (Α σ) _).setCell (Α σ) _⟩
def iB (S:TS) (i:Nat):TS:=(S.aB i false (S.r i)).aB i true (S.l i)
theorem yo (bt ba n:Nat) (S:TS) (i:Nat) (w:World) (h:aY w bt ba n S) (hi:i<n) :
  Calls Tryz.prog 259 #[.pointer (some ⟨bt,0,none⟩),.int .i64 (i:Int)] w fun e w'=>e=.returned (.bool true)/\aY w' bt ba n (iB S i)/\aa [ba] w w':=by
 have hle:=h.le;have c0:=h.head.cell 0 ω;have d0:=h.row.cellAt (i*3) ω (nU S i);have d1:=h.row.cellAt (i*3+1) ω (nN S i);have e0:=h.row.free (i*3);have e1:=h.row.free (i*3+1);have k1:=oQ bt ba n S i w h true (by simp [hi]);have H:=χ h;clear h
 go_enter Tryz.func259,Tryz.ntmps259
 go_wp2_with ((go_at_call 257;(with_reducible refine (k1).mono ?_);rintro e w' ⟨rfl,rfl⟩))
 go_region
 go_wp2;go_ret;exact ⟨rfl,((H.out.aB i false (S.r i)).aB i true (S.l i)).drew,(((aa.refl _ _).setCell (Α σ) _).setCell (Α σ) _).drew⟩
end Go.Proofs.YtklibcncmbofpaaGreat
namespace Go.Proofs.YtklibcncmbofpaaGreat
inductive BT where
 | nil:BT
 | node:Nat->BT->BT->BT
def BT.root:BT->Int | .nil=>-1 | .node x _ _=>x
def BT.nodes:BT->List Nat | .nil=>[] | .node x l r=>x::(l.nodes++r.nodes)
def BT.size:BT->Nat | .nil=>0 | .node _ l r=>l.size+r.size+1
theorem BT.jP:∀t:BT,t.nodes.length=t.size
 | .nil=>rfl
 | .node x l r=>by simp [BT.nodes,BT.size,BT.jP l,BT.jP r]
def bT (S:TS):Int->Int->BT->Prop
 | _,z,.nil=>z=-1
 | p,z,.node x l r=>z=x/\S.u x=p/\bT S x (S.l x) l/\bT S x (S.r x) r
theorem bT.root {S:TS}:∀ {t:BT} {p z:Int},bT S p z t->z=t.root
 | .nil,_,_,h=>h
 | .node _ _ _,_,_,h=>h.1
def TS.at (S S':TS) (x:Nat):Prop:=S'.l x=S.l x/\S'.r x=S.r x/\S'.u x=S.u x
theorem bT.frame {S S':TS}:∀ {t:BT} {p z:Int},bT S p z t->(∀x,x∈t.nodes->S.at S' x)->bT S' p z t
 | .nil,_,_,h,_=>h
 | .node x l r,p,z,h,hs=>by
  have hx:=hs x (by simp [BT.nodes]);refine ⟨h.1,by rw [hx.2.2];exact h.2.1,?_,?_⟩
  ·rw [hx.1];exact bT.frame h.2.2.1 (fun y hy=>hs y (by simp [BT.nodes,hy]))
  ·rw [hx.2.1];exact bT.frame h.2.2.2 (fun y hy=>hs y (by simp [BT.nodes,hy]))
theorem bT.Kq {S S':TS} {t:BT} {p p' z:Int} (h:bT S p z t) (hn:t.nodes.Nodup) (hs:∀x,x∈t.nodes->S'.l x=S.l x/\S'.r x=S.r x/\(x≠t.root.toNat->S'.u x=S.u x)) (hr:t≠.nil->S'.u t.root.toNat=p'):bT S' p' z t:=by
 cases t with
 | nil=>exact h
 | node x l r=>
  have hx:=hs x (by simp [BT.nodes]);simp only [BT.nodes,Ζ,τ,not_or] at hn;refine ⟨h.1,?_,?_,?_⟩
  ·have:=hr σ;simpa [BT.root] using this
  ·rw [hx.1];refine h.2.2.1.frame (fun y hy=>?_);have hy':=hs y (by simp [BT.nodes,hy]);exact ⟨hy'.1,hy'.2.1,hy'.2.2 (fun e=>by simp [BT.root] at e;rw [e] at hy;exact hn.1.1 hy)⟩
  ·rw [hx.2.1];refine h.2.2.2.frame (fun y hy=>?_);have hy':=hs y (by simp [BT.nodes,hy]);exact ⟨hy'.1,hy'.2.1,hy'.2.2 (fun e=>by simp [BT.root] at e;rw [e] at hy;exact hn.1.2 hy)⟩
theorem bH {t:BT} (h:t≠.nil):t.root.toNat∈t.nodes/\t.root=(t.root.toNat:Int):=by
 cases t with
 | nil=>exact absurd rfl h
 | node x l r=>simp [BT.root,BT.nodes]
/-! ### ranks; what a merge gives -/
def BT.rank:BT->Nat | .nil=>0 | .node _ _ r=>r.rank+1
def ai (x:Nat) (l r:BT):BT:=if l.rank<r.rank then .node x r l else .node x l r
def fF (rk:Nat->Nat):BT->Prop
 | .nil=>True
 | .node x l r=>rk x=r.rank+1/\fF rk l/\fF rk r
theorem fF.frame {rk pX:Nat->Nat}:∀ {t:BT},fF rk t->(∀x,x∈t.nodes->pX x=rk x)->fF pX t
 | .nil,_,_=>trivial
 | .node x l r,h,hs=>⟨by rw [hs x (by simp [BT.nodes])];exact h.1,h.2.1.frame (fun y hy=>hs y (by simp [BT.nodes,hy])),h.2.2.frame (fun y hy=>hs y (by simp [BT.nodes,hy]))⟩
theorem fF.root {rk:Nat->Nat} {t:BT} (h:fF rk t) (ht:t≠.nil):rk t.root.toNat=t.rank:=by
 cases t with
 | nil=>exact absurd rfl ht
 | node x l r=>simpa [BT.root,BT.rank] using h.1
def Lean:BT->Prop
 | .nil=>True
 | .node _ l r=>r.rank<=l.rank/\Lean l/\Lean r
theorem ji {x:Nat} {l r:BT} (hl:Lean l) (hr:Lean r):Lean (ai x l r):=by
 unfold ai;split
 ·exact ⟨ω,hr,hl⟩
 ·exact ⟨ω,hl,hr⟩
def Heap (A:NS):BT->Prop
 | .nil=>True
 | .node x l r=>(∀y,y∈l.nodes->eU A x y)/\(∀y,y∈r.nodes->eU A x y)/\Heap A l/\Heap A r
theorem jD (x:Nat) (l r:BT):(ai x l r).nodes.Perm (x::(l.nodes++r.nodes)):=by
 unfold ai;split
 ·simp only [BT.nodes];exact List.Perm.cons x Φ
 ·exact ό _
theorem ql {A:NS} {x:Nat} {l r:BT} (h1:∀y,y∈l.nodes->eU A x y) (h2:∀y,y∈r.nodes->eU A x y) (hl:Heap A l) (hr:Heap A r):Heap A (ai x l r):=by
 unfold ai;split
 ·exact ⟨h2,h1,hr,hl⟩
 ·exact ⟨h1,h2,hl,hr⟩
theorem iE (x:Nat) (l r:BT):(ai x l r).root=x:=by unfold ai;split<;>rfl
def aH (up:Nat->BT->BT->BT) (A:NS):BT->BT->BT×Nat
 | .nil,t=>(t,0)
 | .node x l r,.nil=>(.node x l r,0)
 | .node x l r,.node y l' r'=>
  if eU A y x then (up y l' (aH up A r' (.node x l r)).1,(aH up A r' (.node x l r)).2+1)
  else (up x l (aH up A r (.node y l' r')).1,(aH up A r (.node y l' r')).2+1)
termination_by a b=>a.size+b.size
decreasing_by
 all_goals simp only [BT.size]
 all_goals omega
theorem jY (up:Nat->BT->BT->BT) (A:NS) (t:BT):aH up A .nil t=(t,0):=by rw [aH]
theorem mP (up:Nat->BT->BT->BT) (A:NS) (t:BT):aH up A t .nil=(t,0):=by cases t<;>rw [aH]
theorem mX (up:Nat->BT->BT->BT) (A:NS) (x y:Nat) (l r l' r':BT):aH up A (.node x l r) (.node y l' r')=
  if eU A y x then (up y l' (aH up A r' (.node x l r)).1,(aH up A r' (.node x l r)).2+1)
  else (up x l (aH up A r (.node y l' r')).1,(aH up A r (.node y l' r')).2+1):=by rw [aH]
structure OC (up:Nat->BT->BT->BT):Prop where
 nodes:∀x l r,(up x l r).nodes.Perm (x::(l.nodes++r.nodes))
 heap:∀A x l r,(∀y,y∈l.nodes->eU A x y)->(∀y,y∈r.nodes->eU A x y)->Heap A l->Heap A r->Heap A (up x l r)
 root:∀x l r,(up x l r).root=x
theorem nY:OC ai:=⟨jD,fun _ _ _ _=>ql,iE⟩
theorem qg {up:Nat->BT->BT->BT} (U:OC up) (A:NS) (k:Nat):∀ (a b:BT),a.size+b.size<=k->
  (aH up A a b).1.nodes.Perm (a.nodes++b.nodes)/\(Heap A a->Heap A b->(a.nodes++b.nodes).Nodup->Heap A (aH up A a b).1):=by
 induction k with
 | zero=>
  intro a b hk;cases a with
  | nil=>rw [jY];exact ⟨by simp [BT.nodes],fun _ h _=>h⟩
  | node x l r=>simp only [BT.size] at hk;omega
 | succ k ih=>
  intro a b hk;cases a with
  | nil=>rw [jY];exact ⟨by simp [BT.nodes],fun _ h _=>h⟩
  | node x l r=>
   cases b with
   | nil=>rw [mP];exact ⟨by simp [BT.nodes],fun h _ _=>h⟩
   | node y l' r'=>
    rw [mX];simp only [BT.size] at hk
    by_cases h:eU A y x
    ·rw [Δ h];obtain ⟨i1,i2⟩:=ih r' (.node x l r) (by simp only [BT.size];omega);have i3:=U.nodes y l' (aH up A r' (.node x l r)).1;have i4:(y::(l'.nodes++(aH up A r' (.node x l r)).1.nodes)).Perm ((BT.node x l r).nodes++(BT.node y l' r').nodes):=by
      refine ϣ (List.Perm.cons y (List.Perm.append_left _ i1)) ?_;rw [←ϋ]
      show (y::(l'.nodes++r'.nodes++(BT.node x l r).nodes)).Perm ((BT.node x l r).nodes++(y::(l'.nodes++r'.nodes)))
      exact (Φ (l₁:=y::(l'.nodes++r'.nodes)))
     refine ⟨i3.trans i4,fun ha hb hn=>?_⟩;have hn2:(r'.nodes++(BT.node x l r).nodes).Nodup:=by
      rw [θ] at hn ⊢;simp only [BT.nodes,Ζ,θ] at hn;refine ⟨hn.2.1.2.2.1,by simp only [BT.nodes,Ζ,θ];exact hn.1,fun p hp q hq e=>hn.2.2 q hq p (by simp [hp]) e.symm⟩
     refine U.heap A y l' _ hb.1 (fun z hz=>?_) hb.2.2.1 (i2 hb.2.2.2 ha hn2);rcases τ.1 (i1.mem_iff.1 hz) with hz|hz
     ·exact hb.2.1 z hz
     ·simp only [BT.nodes,ρ,τ] at hz;rcases hz with rfl|hz|hz
      ·exact h
      ·exact dB h (ha.1 z hz)
      ·exact dB h (ha.2.1 z hz)
    ·rw [Γ h];obtain ⟨i1,i2⟩:=ih r (.node y l' r') (by simp only [BT.size];omega);have i3:=U.nodes x l (aH up A r (.node y l' r')).1;have i4:(x::(l.nodes++(aH up A r (.node y l' r')).1.nodes)).Perm ((BT.node x l r).nodes++(BT.node y l' r').nodes):=by
      refine ϣ (List.Perm.cons x (List.Perm.append_left _ i1)) ?_;rw [←ϋ];exact ό _
     refine ⟨i3.trans i4,fun ha hb hn=>?_⟩;have hn1:=hn;rw [θ] at hn;have hxy:x≠y:=hn.2.2 x (by simp [BT.nodes]) y (by simp [BT.nodes]);have hlt:eU A x y:=by
      rcases jQ (A:=A) hxy with h'|h'
      ·exact h'
      ·exact absurd h' h
     have hn2:(r.nodes++(BT.node y l' r').nodes).Nodup:=by
      rw [θ];simp only [BT.nodes,Ζ,θ] at hn;refine ⟨hn.1.2.2.1,by simp only [BT.nodes,Ζ,θ];exact hn.2.1,fun p hp q hq e=>hn.2.2 p (by simp [hp]) q hq e⟩
     refine U.heap A x l _ ha.1 (fun z hz=>?_) ha.2.2.1 (i2 ha.2.2.2 hb hn2);rcases τ.1 (i1.mem_iff.1 hz) with hz|hz
     ·exact ha.2.1 z hz
     ·simp only [BT.nodes,ρ,τ] at hz;rcases hz with rfl|hz|hz
      ·exact hlt
      ·exact dB hlt (hb.1 z hz)
      ·exact dB hlt (hb.2.1 z hz)
theorem yC (A:NS) (k:Nat):∀ (a b:BT),a.size+b.size<=k->Lean a->Lean b->Lean (aH ai A a b).1:=by
 induction k with
 | zero=>
  intro a b hk ha hb;cases a with
  | nil=>rw [jY];exact hb
  | node x l r=>simp only [BT.size] at hk;omega
 | succ k ih=>
  intro a b hk ha hb;cases a with
  | nil=>rw [jY];exact hb
  | node x l r=>
   cases b with
   | nil=>rw [mP];exact ha
   | node y l' r'=>
    rw [mX];simp only [BT.size] at hk
    split
    ·exact ji hb.2.1 (ih r' (.node x l r) (by simp only [BT.size];omega) hb.2.2 ha)
    ·exact ji ha.2.1 (ih r (.node y l' r') (by simp only [BT.size];omega) ha.2.2 hb)
def si (up:Nat->BT->BT->BT):List (Nat×BT)->BT->BT
 | [],m=>m
 | (x,l)::t,m=>up x l (si up t m)
theorem yF (up:Nat->BT->BT->BT) (W:List (Nat×BT)) (x:Nat) (l m:BT):si up (W++[(x,l)]) m=si up W (up x l m):=by
 induction W with
 | nil=>rfl
 | cons p t ih=>obtain ⟨y,k⟩:=p;simp only [List.cons_append,si,ih]
def rU (W:List (Nat×BT)):List Nat:=W.flatMap fun p=>p.1::p.2.nodes
end Go.Proofs.YtklibcncmbofpaaGreat
namespace Go.Proofs.YtklibcncmbofpaaGreat
open Go Go.RowKit
structure LB where
 n0:Nat
 c:Nat
 bt:Nat
 ba:Nat
 br:Nat
structure jO (w:World) (B:LB) (F:List Nat) (gt ct:Nat) (A:NS) (st:Nat) (S:TS) (rk:Nat->Nat) (af:List Int):Prop where
 head:aG w B.n0 231 4 (fun j=>[Value.pointer (some ⟨B.c,0,none⟩),.pointer (some ⟨B.bt,0,none⟩),.slice (some ⟨B.br,0,none⟩) A.cs.length A.cs.length,.slice (some ⟨gt,0,none⟩) af.length ct].getD j undef)
 cells:aD w B.c F A st
 trees:aY w B.bt B.ba A.cs.length S
 ranks:aG w B.br 3 A.cs.length (fun j=>.int .i64 (rk j:Int))
 jC:IZ w gt ct af
 jA:af.length=A.hs.length
 bI:B.n0∉F/\B.bt∉F/\B.ba∉F/\B.br∉F/\gt∉F
 sep:(B.n0≠B.bt/\B.n0≠B.ba/\B.n0≠B.br/\B.n0≠gt)/\(B.bt≠B.br/\B.bt≠gt/\B.ba≠B.br/\B.ba≠gt/\B.br≠gt)
section
variable {w:World} {B:LB} {F:List Nat} {gt ct:Nat} {A:NS} {st:Nat} {S:TS} {rk:Nat->Nat} {af:List Int}
def LB.blk (B:LB) (F:List Nat) (gt:Nat):List Nat:=B.n0::B.bt::B.ba::B.br::gt::F
theorem jO.upd {w':World} {G:List Nat} (h:jO w B F gt ct A st S rk af) (hu:aa G w w') (hG:∀x,x∈G->x∉B.blk F gt):jO w' B F gt ct A st S rk af:=by
 have h1:∀x,x∈B.blk F gt->x∉G:=fun x hx hg=>hG x hg hx;exact ⟨h.head.upd hu (h1 _ (by simp [LB.blk])),h.cells.upd hu (fun x hx=>fun hm=>hG x hx (by simp [LB.blk,hm])),h.trees.upd hu (h1 _ (by simp [LB.blk])) (h1 _ (by simp [LB.blk])),h.ranks.upd hu (h1 _ (by simp [LB.blk])),h.jC.upd hu (h1 _ (by simp [LB.blk])),h.jA,h.bI,h.sep⟩
theorem jO.ae {w':World} (h:jO w B F gt ct A st S rk af) (hu:aa [] w w'):jO w' B F gt ct A st S rk af:=h.upd hu σ
theorem jO.lt (h:jO w B F gt ct A st S rk af):∀x,x∈B.blk F gt->x<w.heap.size:=by
 intro x hx;have:=h.head.lt;have:=h.trees.head.lt;have:=h.trees.row.lt;have:=h.ranks.lt;have:=h.jC.lt;simp only [LB.blk,ρ] at hx;rcases hx with rfl|rfl|rfl|rfl|rfl|hx
 ·assumption
 ·assumption
 ·assumption
 ·assumption
 ·assumption
 ·exact h.cells.lt x hx
theorem jO.cF (h:jO w B F gt ct A st S rk af):B.c∈F:=h.cells.mem
theorem jO.h0 (h:jO w B F gt ct A st S rk af):w.cell? ⟨B.n0,0,none⟩=some (.pointer (some ⟨B.c,0,none⟩)):=h.head.cellAt 0 ω rfl
theorem jO.h1 (h:jO w B F gt ct A st S rk af):w.cell? ⟨B.n0,1,none⟩=some (.pointer (some ⟨B.bt,0,none⟩)):=h.head.cellAt 1 ω rfl
theorem jO.h2 (h:jO w B F gt ct A st S rk af):w.cell? ⟨B.n0,2,none⟩=some (.slice (some ⟨B.br,0,none⟩) A.cs.length A.cs.length):=h.head.cellAt 2 ω rfl
theorem jO.h3 (h:jO w B F gt ct A st S rk af):w.cell? ⟨B.n0,3,none⟩=some (.slice (some ⟨gt,0,none⟩) af.length ct):=h.head.cellAt 3 ω rfl
theorem jO.il {w':World} {S':TS} (h:jO w B F gt ct A st S rk af) (hu:aa [B.ba] w w') (hT:aY w' B.bt B.ba A.cs.length S'):jO w' B F gt ct A st S' rk af:=by
 have s:=h.sep;have f:=h.bI;have hne:=h.trees.ne;exact ⟨h.head.upd hu ζ,h.cells.upd hu (fun x hx=>by simp at hx;rw [hx];exact f.2.2.1),hT,h.ranks.upd hu ζ,h.jC.upd hu ζ,h.jA,f,s⟩
theorem jO.dw (h:jO w B F gt ct A st S rk af) (x:Nat) (k:Nat):jO (w.setCell ⟨B.br,x,none⟩ (.int .i64 (k:Int))) B F gt ct A st S (fun y=>if y=x then k else rk y) af:=by
 have s:=h.sep;have f:=h.bI;have hu:aa [B.br] w (w.setCell ⟨B.br,x,none⟩ (.int .i64 (k:Int))):=β;refine ⟨h.head.upd hu ζ,h.cells.upd hu (fun x hx=>by simp at hx;rw [hx];exact f.2.2.2.1),h.trees.upd hu ζ ζ,(h.ranks.set x _).ext (fun j hj=>?_),h.jC.upd hu ζ,h.jA,f,s⟩
 by_cases e:j=x
 ·simp only [e,if_true]
 ·simp only [e,if_false]
theorem jO.tH (h:jO w B F gt ct A st S rk af) (x:Nat) (k:Int):jO (w.setCell ⟨gt,x,none⟩ (.int .i64 k)) B F gt ct A st S rk (af.set x k):=by
 have s:=h.sep;have f:=h.bI;have hu:aa [gt] w (w.setCell ⟨gt,x,none⟩ (.int .i64 k)):=β;refine ⟨by rw [Ι];exact h.head.upd hu ζ,h.cells.upd hu (fun x hx=>by simp at hx;rw [hx];exact f.2.2.2.2),h.trees.upd hu ζ ζ,h.ranks.upd hu ζ,h.jC.set x k,by rw [Ι];exact h.jA,f,s⟩
theorem jO.fH {w':World} {F':List Nat} {A':NS} {st':Nat} (h:jO w B F gt ct A st S rk af) (hu:aa F w w') (hC:aD w' B.c F' A' st') (hF:∀x,x∈F'->x∈F\/w.heap.size<=x) (h1:A'.cs.length=A.cs.length) (h2:A'.hs.length=A.hs.length):jO w' B F' gt ct A' st' S rk af:=by
 have f:=h.bI;have g:=h.lt;have hf:∀x,x<w.heap.size->x∉F->x∉F':=fun x hx hn hm=>by rcases hF x hm with h'|h';exact hn h';omega
 have l0:=g B.n0 (by simp [LB.blk]);have l1:=g B.bt (by simp [LB.blk]);have l2:=g B.ba (by simp [LB.blk]);have l3:=g B.br (by simp [LB.blk]);have l4:=g gt (by simp [LB.blk]);exact ⟨by rw [h1];exact h.head.upd hu f.1,hC,by rw [h1];exact h.trees.upd hu f.2.1 f.2.2.1,by rw [h1];exact h.ranks.upd hu f.2.2.2.1,h.jC.upd hu f.2.2.2.2,by rw [h2];exact h.jA,⟨hf _ l0 f.1,hf _ l1 f.2.1,hf _ l2 f.2.2.1,hf _ l3 f.2.2.2.1,hf _ l4 f.2.2.2.2⟩,h.sep⟩
end
theorem lW (z:Int) (w:World):Calls Tryz.prog 247 #[.int .i64 (tv z),.bool (tb z)] w fun e w'=>e=.returned (.int .i64 z)/\w'=w:=by
 unfold tv tb
 by_cases h:z=-1
 ·subst h;simp only [if_true,ne_eq,not_true,decide_false]
  go_enter Tryz.func247,Tryz.ntmps247
  go_wp2;go_ret;exact ⟨rfl,rfl⟩
 ·rw [Γ h,Ν h]
  go_enter Tryz.func247,Tryz.ntmps247
  go_wp2;go_ret;exact ⟨rfl,rfl⟩
def fM (rk:Nat->Nat) (z:Int):Int:=if z=-1 then 0 else (rk z.toNat:Int)
section
variable {w:World} {B:LB} {F:List Nat} {gt ct:Nat} {A:NS} {st:Nat} {S:TS} {rk:Nat->Nat} {af:List Int}
theorem je (h:jO w B F gt ct A st S rk af) (z:Int) (hz:z=-1\/(0<=z/\z<A.cs.length)) :
  Calls Tryz.prog 258 #[.pointer (some ⟨B.n0,0,none⟩),.int .i64 z] w fun e w'=>e=.returned (.int .i64 (fM rk z))/\w'=w:=by
 unfold fM;have h2:=h.h2;have hA:=h.cells.ok.c1
 by_cases e:z=-1
 ·subst e;clear h
  go_enter Tryz.func258,Tryz.ntmps258
  go_wp2;go_ret;exact ⟨rfl,rfl⟩
 ·obtain ⟨i,rfl⟩:∃i:Nat,z=i:=⟨z.toNat,ω⟩;have hi:i<A.cs.length:=ω;have d:=h.ranks.cell i hi;have hb:((i:Int) == -1)=false:=σ;rw [Γ e];simp only [π];clear h e hz
  go_enter Tryz.func258,Tryz.ntmps258
  go_wp2;go_ret;exact ⟨rfl,rfl⟩
theorem qY (rk:Nat->Nat) (z:Int):0<=fM rk z:=by unfold fM;split<;>omega
theorem Db (h:jO w B F gt ct A st S rk af) (x:Nat) (hx:x<A.cs.length) (hl:S.l x=-1\/(0<=S.l x/\S.l x<A.cs.length)) (hr:S.r x=-1\/(0<=S.r x/\S.r x<A.cs.length)) (xA:fM rk (S.l x)<=65536) (hbb:fM rk (S.r x)<=65536) (hab:fM rk (S.l x)<fM rk (S.r x)) :
  Calls Tryz.prog 255 #[.pointer (some ⟨B.n0,0,none⟩),.int .i64 (x:Int)] w fun e w'=>e=.returned (.tuple #[])/\aa [B.ba,B.br] w w'/\jO w' B F gt ct A st (iB S x) (fun y=>if y=x then (fM rk (S.l x)).toNat + 1 else rk y) af:=by
 have kl:=fun d=>xU B.bt B.ba A.cs.length S (x:Int) (w.drewN d) (h.trees.drewN d);have kr:=fun d=>nX B.bt B.ba A.cs.length S (x:Int) (w.drewN d) (h.trees.drewN d);rw [show fE A.cs.length S (x:Int) false=S.l x by unfold fE TS.kid;rw [Δ ω];simp] at kl;rw [show fE A.cs.length S (x:Int) true=S.r x by unfold fE TS.kid;rw [Δ ω];simp] at kr;have q1:∀d,(w.drewN d).cell? ⟨B.n0,1,none⟩=some (.pointer (some ⟨B.bt,0,none⟩)):=fun d=>h.h1;have H:=χ h;have rl:=fun d=>je (h.ae ((aa.refl [] w).drewN d)) (S.l x) hl;have rr:=fun d=>je (h.ae ((aa.refl [] w).drewN d)) (S.r x) hr
 have ba1:0<=fM rk (S.l x)/\fM rk (S.l x)<=65536:=⟨qY _ _,xA⟩;have bb1:0<=fM rk (S.r x)/\fM rk (S.r x)<=65536:=⟨qY _ _,hbb⟩;clear xA hbb;have HL:=χ (ψ hl hr);generalize hzl:S.l x=zl at *;generalize Ju:S.r x=zr at *;generalize hra:fM rk zl=a at *;generalize hrb:fM rk zr=b at *;have HZ:=χ (ψ hzl (ψ Ju (ψ hra hrb)));have hn0:=h.lt B.n0 (by simp [LB.blk]);have hbr:=h.lt B.br (by simp [LB.blk]);have hs:=h.sep;have hA:=h.cells.ok.c1;clear h hzl Ju hra hrb hl hr
 go_enter Tryz.func255,Tryz.ntmps255
 go_wp2
 go_quiet ((first
  | (go_at_call 248;exact Calls.quiet_of (kl _))
  | (go_at_call 249;exact Calls.quiet_of (kr _))
  | (go_at_call 247;exact Calls.quiet_of_same (lW _ _))))
 have H2:=χ (H.out.ae ((aa.refl [] w).drewN nq));have ZZ:=rl nq;have rrn:=rr nq;have h1:=q1 nq;clear kl kr q1 rl rr;have kt:=yo B.bt B.ba A.cs.length S x (w.drewN nq) H2.out.trees hx
 go_wp2_with (first
  | (go_at_call 258;(with_reducible refine (ZZ).mono ?_);rintro e w9 ⟨rfl,aS⟩;rw [aS];clear aS w9)
  | (go_at_call 258;(with_reducible refine (rrn).mono ?_);rintro e w9 ⟨rfl,aS⟩;rw [aS];clear aS w9)
  | (go_at_call 259;(with_reducible refine (kt).mono ?_);rintro e w2 ⟨rfl,hT,hu2⟩))
 have h3:=χ (H2.out.il hu2 hT);have hw2:aa [B.ba,B.br] w w2:=((aa.refl _ w).drewN nq).trans (hu2.mono σ);have kq:=fun W (hW:aa [] w2 W)=>je (h3.out.ae hW) zl HL.out.1;rw [HZ.out.2.2.1] at kq;have r0:∀W,aa [B.br] w2 W->W.cell? ⟨B.n0,2,none⟩=some (.slice (some ⟨B.br,0,none⟩) A.cs.length A.cs.length):=fun W hW=>hW.kept h3.out.h2 ζ;have d0:=h3.out.ranks.cell x hx;have d1:=h3.out.ranks.free x;have hwr:IntKind.i64.wrap (a+1)=a+1:=Μ _ ω
 go_region_held3 (aa [B.br] w2) (exact ν) ((go_at_call 258;(with_reducible refine ((kq _ β)).mono ?_);rintro e w9 ⟨rfl,aS⟩;rw [aS];clear aS w9))
 go_wp2;go_end0;clear hwr;obtain ⟨an,rfl⟩:∃an:Nat,a=an:=⟨a.toNat,ω⟩;have hR:=h3.out.dw x (an+1);rw [show ((an+1:Nat):Int)=(an:Int)+1 by omega] at hR;exact ⟨rfl,((hw2.setCell (Α σ) _)).drew,hR.ae ((aa.refl _ _).drew)⟩
theorem Cr (h:jO w B F gt ct A st S rk af) (x:Nat) (hx:x<A.cs.length) (hl:S.l x=-1\/(0<=S.l x/\S.l x<A.cs.length)) (hr:S.r x=-1\/(0<=S.r x/\S.r x<A.cs.length)) (xA:fM rk (S.l x)<=65536) (hbb:fM rk (S.r x)<=65536) (hab:¬fM rk (S.l x)<fM rk (S.r x)) :
  Calls Tryz.prog 255 #[.pointer (some ⟨B.n0,0,none⟩),.int .i64 (x:Int)] w fun e w'=>e=.returned (.tuple #[])/\aa [B.ba,B.br] w w'/\jO w' B F gt ct A st S (fun y=>if y=x then (fM rk (S.r x)).toNat + 1 else rk y) af:=by
 have kl:=fun d=>xU B.bt B.ba A.cs.length S (x:Int) (w.drewN d) (h.trees.drewN d);have kr:=fun d=>nX B.bt B.ba A.cs.length S (x:Int) (w.drewN d) (h.trees.drewN d);rw [show fE A.cs.length S (x:Int) false=S.l x by unfold fE TS.kid;rw [Δ ω];simp] at kl;rw [show fE A.cs.length S (x:Int) true=S.r x by unfold fE TS.kid;rw [Δ ω];simp] at kr;have q1:∀d,(w.drewN d).cell? ⟨B.n0,1,none⟩=some (.pointer (some ⟨B.bt,0,none⟩)):=fun d=>h.h1;have H:=χ h;have rl:=fun d=>je (h.ae ((aa.refl [] w).drewN d)) (S.l x) hl;have rr:=fun d=>je (h.ae ((aa.refl [] w).drewN d)) (S.r x) hr
 have ba1:0<=fM rk (S.l x)/\fM rk (S.l x)<=65536:=⟨qY _ _,xA⟩;have bb1:0<=fM rk (S.r x)/\fM rk (S.r x)<=65536:=⟨qY _ _,hbb⟩;clear xA hbb;have HL:=χ (ψ hl hr);generalize hzl:S.l x=zl at *;generalize Ju:S.r x=zr at *;generalize hra:fM rk zl=a at *;generalize hrb:fM rk zr=b at *;have HZ:=χ (ψ hzl (ψ Ju (ψ hra hrb)));have hn0:=h.lt B.n0 (by simp [LB.blk]);have hbr:=h.lt B.br (by simp [LB.blk]);have hs:=h.sep;have hA:=h.cells.ok.c1;clear h hzl Ju hra hrb hl hr
 go_enter Tryz.func255,Tryz.ntmps255
 go_wp2
 go_quiet ((first
  | (go_at_call 248;exact Calls.quiet_of (kl _))
  | (go_at_call 249;exact Calls.quiet_of (kr _))
  | (go_at_call 247;exact Calls.quiet_of_same (lW _ _))))
 have H2:=χ (H.out.ae ((aa.refl [] w).drewN nq));have ZZ:=rl nq;have rrn:=rr nq;have h1:=q1 nq;clear kl kr q1 rl rr
 go_wp2_with (first
  | (go_at_call 258;(with_reducible refine (ZZ).mono ?_);rintro e w9 ⟨rfl,aS⟩;rw [aS];clear aS w9)
  | (go_at_call 258;(with_reducible refine (rrn).mono ?_);rintro e w9 ⟨rfl,aS⟩;rw [aS];clear aS w9))
 obtain ⟨w2,hw2⟩:∃w2,w2=w.drewN nq:=⟨_,rfl⟩;have hu2:aa [B.ba,B.br] w w2:=by rw [hw2];exact (aa.refl _ w).drewN nq
 rw [←hw2] at H2 ⊢;clear hw2 h1 ZZ rrn;have kq:=fun W (hW:aa [] w2 W)=>je (H2.out.ae hW) zr HL.out.2;rw [HZ.out.2.2.2] at kq;have r0:∀W,aa [B.br] w2 W->W.cell? ⟨B.n0,2,none⟩=some (.slice (some ⟨B.br,0,none⟩) A.cs.length A.cs.length):=fun W hW=>hW.kept H2.out.h2 ζ;have d0:=H2.out.ranks.cell x hx;have d1:=H2.out.ranks.free x;have hwr:IntKind.i64.wrap (b+1)=b+1:=Μ _ ω
 go_region_held3 (aa [B.br] w2) (exact ν) ((go_at_call 258;(with_reducible refine ((kq _ β)).mono ?_);rintro e w9 ⟨rfl,aS⟩;rw [aS];clear aS w9))
 go_wp2;go_end0;clear hwr;obtain ⟨bn,rfl⟩:∃bn:Nat,b=bn:=⟨b.toNat,ω⟩;have hR:=H2.out.dw x (bn+1);rw [show ((bn+1:Nat):Int)=(bn:Int)+1 by omega] at hR;exact ⟨rfl,((hu2.setCell (Α σ) _)).drew,hR.ae ((aa.refl _ _).drew)⟩
end
theorem BI:∀t:BT,t.rank<=t.size
 | .nil=>Θ _
 | .node x l r=>by have:=BI r;simp only [BT.rank,BT.size];omega
theorem lI {n:Nat} {l:List Nat} (hn:l.Nodup) (hl:∀x,x∈l->x<n):l.length<=n:=by
 have:=nodup_range n (l.map fun (x:Nat)=>(x:Int)) (by
  unfold List.Nodup;rw [List.pairwise_map];exact hn.imp (fun {a b} h e=>h ω)) (fun y hy=>by
  obtain ⟨x,hx,rfl⟩:=List.mem_map.1 hy;have:=hl x hx
  exact ⟨ω,ω⟩)
 simpa using this
theorem yZ {rk:Nat->Nat} {t:BT} (h:fF rk t):fM rk t.root=t.rank:=by
 unfold fM
 by_cases e:t=.nil
 ·subst e;simp [BT.root,BT.rank]
 ·have:=bH e;rw [Γ ω];rw [h.root e]
theorem uT {n:Nat} {t:BT} (h:∀x,x∈t.nodes->x<n):t.root=-1\/(0<=t.root/\t.root<n):=by
 by_cases e:t=.nil
 ·subst e;exact Α rfl
 ·have h1:=bH e;have:=h _ h1.1;exact Β ⟨ω,ω⟩
theorem Nn {S:TS} {p:Int} {x:Nat} {l r:BT} (hu:S.u x=p) (hl:bT S x (S.l x) l) (hr:bT S x (S.r x) r):bT S p x (.node x l r):=⟨rfl,hu,hl,hr⟩
section
variable {w:World} {B:LB} {F:List Nat} {gt ct:Nat} {A:NS} {st:Nat} {S:TS} {rk:Nat->Nat} {af:List Int}
theorem oz (h:jO w B F gt ct A st S rk af) {p:Int} {x:Nat} {l r:BT} (hT:bT S p x (.node x l r)) (hl:fF rk l) (hr:fF rk r) (hn:(BT.node x l r).nodes.Nodup) (hlt:∀y,y∈(BT.node x l r).nodes->y<A.cs.length) :
  Calls Tryz.prog 255 #[.pointer (some ⟨B.n0,0,none⟩),.int .i64 (x:Int)] w fun e w'=>e=.returned (.tuple #[])/\aa [B.ba,B.br] w w'/\
   ∃S' pX,jO w' B F gt ct A st S' pX af/\bT S' p x (ai x l r)/\fF pX (ai x l r)/\(∀y,y≠x->S.at S' y)/\S'.u x=S.u x/\(∀y,y≠x->pX y=rk y):=by
 obtain ⟨_,hu,Ko,hTr⟩:=hT;have hx:=hlt x (by simp [BT.nodes]);have hll:∀y,y∈l.nodes->y<A.cs.length:=fun y hy=>hlt y (by simp [BT.nodes,hy]);have hlr:∀y,y∈r.nodes->y<A.cs.length:=fun y hy=>hlt y (by simp [BT.nodes,hy]);have hA:=h.cells.ok.c1;have hn2:=hn;simp only [BT.nodes,Ζ,τ,not_or,θ] at hn2;have sl:=lI hn2.2.1 hll;have sr:=lI hn2.2.2.1 hlr;rw [BT.jP] at sl sr;have rl:=BI l;have rr:=BI r;have el:=Ko.root;have er:=hTr.root;have fr:∀ {S':TS},(∀y,y≠x->S.at S' y)->(∀z,bT S x z l->bT S' x z l)/\(∀z,bT S x z r->bT S' x z r):=fun hS=>
  ⟨fun z hz=>hz.frame (fun y hy=>hS y (fun e=>hn2.1.1 (by rw [←e];exact hy))),fun z hz=>hz.frame (fun y hy=>hS y (fun e=>hn2.1.2 (by rw [←e];exact hy)))⟩
 have zl:fM rk (S.l x)=l.rank:=by rw [el];exact yZ hl
 have zr:fM rk (S.r x)=r.rank:=by rw [er];exact yZ hr
 by_cases hab:l.rank<r.rank
 ·refine (Db h x hx (by rw [el];exact uT hll) (by rw [er];exact uT hlr) (by rw [zl];omega) (by rw [zr];omega) (by rw [zl,zr];omega)).mono ?_;rintro e w' ⟨rfl,hU,hM⟩;have hat:∀y,y≠x->S.at (iB S x) y:=fun y hy=>⟨by unfold iB TS.aB;simp [hy],by unfold iB TS.aB;simp [hy],by unfold iB TS.aB;simp⟩
  have e1:(iB S x).l x=S.r x:=by unfold iB TS.aB;simp
  have e2:(iB S x).r x=S.l x:=by unfold iB TS.aB;simp
  have e3:(iB S x).u x=S.u x:=by unfold iB TS.aB;simp
  refine ⟨rfl,hU,_,_,hM,?_,?_,hat,e3,fun y hy=>by rw [Γ hy]⟩
  ·unfold ai;rw [Δ hab];exact ⟨rfl,by rw [e3];exact hu,by rw [e1];exact (fr hat).2 _ hTr,by rw [e2];exact (fr hat).1 _ Ko⟩
  ·unfold ai;rw [Δ hab];refine ⟨by simp [zl],hr.frame (fun y hy=>by rw [Γ (fun e=>hn2.1.2 (by rw [←e];exact hy))]),hl.frame (fun y hy=>by rw [Γ (fun e=>hn2.1.1 (by rw [←e];exact hy))])⟩
 ·refine (Cr h x hx (by rw [el];exact uT hll) (by rw [er];exact uT hlr) (by rw [zl];omega) (by rw [zr];omega) (by rw [zl,zr];omega)).mono ?_;rintro e w' ⟨rfl,hU,hM⟩;refine ⟨rfl,hU,_,_,hM,?_,?_,fun y _=>⟨rfl,rfl,rfl⟩,rfl,fun y hy=>by rw [Γ hy]⟩
  ·unfold ai;rw [Γ hab];exact ⟨rfl,hu,Ko,hTr⟩
  ·unfold ai;rw [Γ hab];refine ⟨by simp [zr],hl.frame (fun y hy=>by rw [Γ (fun e=>hn2.1.1 (by rw [←e];exact hy))]),hr.frame (fun y hy=>by rw [Γ (fun e=>hn2.1.2 (by rw [←e];exact hy))])⟩
end
theorem BT.vH {t:BT} (h:t≠.nil):t.root=(t.root.toNat:Int):=(bH h).2
def yS (S:TS) (x:Nat) (r:BT):TS:=match r with | .nil=>S | .node y _ _=>lg S x y
theorem K5 {S:TS} {p:Int} {x:Nat} {l r:BT} (h:bT S p x (.node x l r)) (hn:(BT.node x l r).nodes.Nodup) :
  bT (yS S x r) p x (.node x l .nil)/\bT (yS S x r) (-1) r.root r/\∀y,y≠x->y∉r.nodes->S.at (yS S x r) y:=by
 obtain ⟨_,hu,hl,hr⟩:=h;simp only [BT.nodes,Ζ,τ,not_or,θ] at hn;cases r with
 | nil=>exact ⟨⟨rfl,hu,hl,hr⟩,rfl,fun y _ _=>⟨rfl,rfl,rfl⟩⟩
 | node y a b=>
  have hxy:x≠y:=fun e=>hn.1.2 (by rw [e];simp [BT.nodes]);have Yc:S.r x=y:=hr.1;have e:yS S x (.node y a b)=lg S x y:=rfl;rw [e];have hl':∀z,(lg S x y).l z=S.l z:=fun z=>by unfold lg TS.aB TS.bJ;rw [Ν Yc];rfl
  have hr':∀z,(lg S x y).r z=if z=x then -1 else S.r z:=fun z=>by unfold lg TS.aB TS.bJ;rw [Ν Yc];rfl
  have hu':∀z,(lg S x y).u z=if z=y then -1 else S.u z:=fun z=>by unfold lg TS.aB TS.bJ;rw [Ν Yc];rfl
  refine ⟨⟨rfl,by rw [hu',Γ hxy];exact hu,?_,by rw [hr',Δ rfl];rfl⟩,?_,fun z h1 h2=>⟨hl' z,by rw [hr',Γ h1],by rw [hu',Γ (fun e=>h2 (by rw [e];simp [BT.nodes]))]⟩⟩
  ·rw [hl'];refine hl.frame (fun z hz=>⟨hl' z,by rw [hr',Γ (fun e=>hn.1.1 (by rw [←e];exact hz))],by rw [hu',Γ (fun e=>hn.2.2.2 z hz y (by simp [BT.nodes]) e)]⟩)
  ·have h0:bT S x ((BT.node y a b).root) (.node y a b):=by rw [←hr.root];exact hr
   refine h0.Kq (p':=-1) hn.2.2.1 (fun z hz=>⟨hl' z,by rw [hr',Γ (fun e=>hn.1.2 (by rw [←e];exact hz))],fun Ju=>by rw [hu',Γ (fun e=>Ju (by rw [e];simp [BT.root]))]⟩) (fun _=>by rw [hu'];simp [BT.root])
theorem Br {S:TS} {p:Int} {x:Nat} {l m:BT} (h:bT S p x (.node x l .nil)) (hm:bT S (-1) m.root m) (hne:m≠.nil) (hn:(BT.node x l m).nodes.Nodup) :
  bT (jG S x m.root true) p x (.node x l m)/\∀y,y≠x->y∉m.nodes->S.at (jG S x m.root true) y:=by
 obtain ⟨_,hu,hl,_⟩:=h;simp only [BT.nodes,Ζ,τ,not_or,θ] at hn;obtain ⟨r1,r2⟩:=bH hne;have hl':∀z,(jG S x m.root true).l z=S.l z:=fun z=>by unfold jG TS.aB TS.bJ;rfl
 have hr':∀z,(jG S x m.root true).r z=if z=x then m.root else S.r z:=fun z=>by unfold jG TS.aB TS.bJ;simp
 have hu':∀z,(jG S x m.root true).u z=if z=m.root.toNat then (x:Int) else S.u z:=fun z=>by unfold jG TS.aB TS.bJ;simp
 have hxm:x≠m.root.toNat:=fun e=>hn.1.2 (by rw [e];exact r1);refine ⟨⟨rfl,by rw [hu',Γ hxm];exact hu,?_,?_⟩,fun z h1 h2=>⟨hl' z,by rw [hr',Γ h1],by rw [hu',Γ (fun e=>h2 (by rw [e];exact r1))]⟩⟩
 ·rw [hl'];exact hl.frame (fun z hz=>⟨hl' z,by rw [hr',Γ (fun e=>hn.1.1 (by rw [←e];exact hz))],by rw [hu',Γ (fun e=>hn.2.2.2 z hz _ r1 e)]⟩)
 ·rw [hr',Δ rfl];exact hm.Kq (p':=(x:Int)) hn.2.2.1 (fun z hz=>⟨hl' z,by rw [hr',Γ (fun e=>hn.1.2 (by rw [←e];exact hz))],fun Ju=>by rw [hu',Γ Ju]⟩) (fun _=>by rw [hu',Δ rfl])
structure Down (up:Nat->BT->BT->BT) (A:NS) (S0:TS) (ta tb:BT) (S:TS) (W:List (Nat×BT)) (a b:BT):Prop where
 Y5:bT S (-1) a.root a
 XG:bT S (-1) b.root b
 way:∀p,p∈W->bT S (-1) (p.1:Int) (.node p.1 p.2 .nil)
 far:∀y,y∉ta.nodes++tb.nodes->S0.at S y
 perm:(rU W++(a.nodes++b.nodes)).Perm (ta.nodes++tb.nodes)
 res:aH up A ta tb=(si up W (aH up A a b).1,W.length+(aH up A a b).2)
theorem Down.start (up:Nat->BT->BT->BT) (A:NS) {S0:TS} {ta tb:BT} (ha:bT S0 (-1) ta.root ta) (hb:bT S0 (-1) tb.root tb):Down up A S0 ta tb S0 [] ta tb:=
 ⟨ha,hb,fun p hp=>(by cases hp),fun y _=>⟨rfl,rfl,rfl⟩,by simp [rU],by simp [si]⟩
theorem nJ (W:List (Nat×BT)) (x:Nat) (l:BT):rU (W++[(x,l)])=rU W++(x::l.nodes):=by unfold rU;simp
theorem Cn {W:List (Nat×BT)} {p:Nat×BT} (hp:p∈W):p.1∈rU W/\∀y,y∈p.2.nodes->y∈rU W:=by
 unfold rU;exact ⟨List.mem_flatMap.2 ⟨p,hp,σ⟩,fun y hy=>List.mem_flatMap.2 ⟨p,hp,by simp [hy]⟩⟩
theorem Down.take {up:Nat->BT->BT->BT} {A:NS} {S0 S:TS} {ta tb b l r:BT} {x:Nat} {W:List (Nat×BT)} (hX:(ta.nodes++tb.nodes).Nodup)
  (h1:bT S (-1) (x:Int) (.node x l r)) (h2:bT S (-1) b.root b) (h3:∀p,p∈W->bT S (-1) (p.1:Int) (.node p.1 p.2 .nil)) (h4:∀y,y∉ta.nodes++tb.nodes->S0.at S y)
  (h5:(rU W++((BT.node x l r).nodes++b.nodes)).Perm (ta.nodes++tb.nodes)) (h6:aH up A ta tb=(si up W (up x l (aH up A r b).1),W.length+((aH up A r b).2+1))) :
  Down up A S0 ta tb (yS S x r) (W++[(x,l)]) r b:=by
 have hnd:=h5.nodup_iff.2 hX;rw [θ] at hnd;obtain ⟨n1,n2,n3⟩:=hnd;rw [θ] at n2;obtain ⟨n4,n5,n6⟩:=n2;obtain ⟨c1,c2,c3⟩:=K5 h1 n4;have hout:∀y,y∉ta.nodes++tb.nodes->y≠x/\y∉r.nodes:=fun y hy=>
  ⟨fun e=>hy (h5.mem_iff.1 (by rw [e];simp [BT.nodes])),fun hm=>hy (h5.mem_iff.1 (by simp [BT.nodes,hm]))⟩
 refine ⟨c2,h2.frame (fun y hy=>c3 y (fun e=>n6 x (by simp [BT.nodes]) y hy e.symm) (fun hm=>n6 y (by simp [BT.nodes,hm]) y hy rfl)),fun p hp=>?_,fun y hy=>?_,?_,?_⟩
 ·rcases τ.1 hp with hp|hp
  ·have hw:=Cn hp;refine (h3 p hp).frame (fun y hy=>?_);have WI:y∈rU W:=by
    simp only [BT.nodes,Υ,ρ] at hy;rcases hy with rfl|hy
    ·exact hw.1
    ·exact hw.2 y hy
   exact c3 y (fun e=>n3 y WI x (by simp [BT.nodes]) e) (fun hm=>n3 y WI y (by simp [BT.nodes,hm]) rfl)
  ·simp only [ϕ] at hp;subst hp;exact c1
 ·obtain ⟨k1,k2⟩:=hout y hy;have a1:=h4 y hy;have a2:=c3 y k1 k2;exact ⟨a2.1.trans a1.1,a2.2.1.trans a1.2.1,a2.2.2.trans a1.2.2⟩
 ·rw [nJ];refine ϣ ?_ h5;simp only [BT.nodes,ϋ,List.cons_append];exact ό _
 ·rw [h6,yF];simp only [υ,Ω,List.length_nil];exact Prod.ext rfl (by simp only;omega)
theorem Down.takeA {up:Nat->BT->BT->BT} {A:NS} {S0 S:TS} {ta tb l r l' r':BT} {x y:Nat} {W:List (Nat×BT)} (h:Down up A S0 ta tb S W (.node x l r) (.node y l' r')) (hX:(ta.nodes++tb.nodes).Nodup) (hlt:¬eU A y x) :
  Down up A S0 ta tb (yS S x r) (W++[(x,l)]) r (.node y l' r'):=by
 refine Down.take hX h.Y5 h.XG h.way h.far h.perm ?_;rw [h.res,mX,Γ hlt]
theorem Down.takeB {up:Nat->BT->BT->BT} {A:NS} {S0 S:TS} {ta tb l r l' r':BT} {x y:Nat} {W:List (Nat×BT)} (h:Down up A S0 ta tb S W (.node x l r) (.node y l' r')) (hX:(ta.nodes++tb.nodes).Nodup) (hlt:eU A y x) :
  Down up A S0 ta tb (yS S y r') (W++[(y,l')]) r' (.node x l r):=by
 refine Down.take hX h.XG h.Y5 h.way h.far ?_ ?_
 ·refine ϣ ?_ h.perm;exact List.Perm.append_left _ Φ
 ·rw [h.res,mX,Δ hlt]
structure SE (up:Nat->BT->BT->BT) (S0:TS) (X:List Nat) (t:BT) (S:TS) (W:List (Nat×BT)) (m:BT):Prop where
 isM:bT S (-1) m.root m
 way:∀p,p∈W->bT S (-1) (p.1:Int) (.node p.1 p.2 .nil)
 far:∀y,y∉X->S0.at S y
 perm:(rU W++m.nodes).Perm X
 res:t=si up W m
theorem Down.turn {up:Nat->BT->BT->BT} {A:NS} {S0 S:TS} {ta tb a b:BT} {W:List (Nat×BT)} (h:Down up A S0 ta tb S W a b) (he:a=.nil\/b=.nil) :
  ∃m,m.root=(if a.root=-1 then b.root else a.root)/\SE up S0 (ta.nodes++tb.nodes) (aH up A ta tb).1 S W m/\(aH up A ta tb).2=W.length/\(m=a\/m=b):=by
 rcases he with rfl|rfl
 ·refine ⟨b,by simp [BT.root],⟨h.XG,h.way,h.far,by simpa [BT.nodes] using h.perm,by rw [h.res,jY]⟩,by rw [h.res,jY];simp,Β rfl⟩
 ·refine ⟨a,?_,⟨h.Y5,h.way,h.far,by simpa [BT.nodes] using h.perm,by rw [h.res,mP]⟩,by rw [h.res,mP];simp,Α rfl⟩
  split
  ·rename_i e;rw [e];rfl
  ·rfl
theorem SE.turn {up:Nat->BT->BT->BT} {S0 S2 S3:TS} {X:List Nat} {t m l:BT} {x:Nat} {W:List (Nat×BT)} (U:SE up S0 X t S2 (W++[(x,l)]) m) (K:OC up) (hX:X.Nodup)
  (hT:bT S3 (-1) x (up x l m)) (BL:∀y,y≠x->y∉l.nodes->y∉m.nodes->S2.at S3 y):SE up S0 X t S3 W (up x l m):=by
 have hp:=U.perm;rw [nJ,ϋ] at hp;have hnd:=hp.nodup_iff.2 hX;rw [θ] at hnd;obtain ⟨n1,n2,n3⟩:=hnd;refine ⟨by rw [K.root];exact hT,fun p hpW=>?_,fun y hy=>?_,?_,by rw [U.res,yF]⟩
 ·have hw:=Cn hpW;refine (U.way p (List.mem_append_left _ hpW)).frame (fun y hy=>?_);have WI:y∈rU W:=by
   simp only [BT.nodes,Υ,ρ] at hy;rcases hy with rfl|hy
   ·exact hw.1
   ·exact hw.2 y hy
  exact BL y (fun e=>n3 y WI x σ e) (fun hm=>n3 y WI y (by simp [hm]) rfl) (fun hm=>n3 y WI y (by simp [hm]) rfl)
 ·have h1:=U.far y hy;have h2:=BL y (fun e=>hy (hp.mem_iff.1 (by rw [e];simp))) (fun hm=>hy (hp.mem_iff.1 (by simp [hm]))) (fun hm=>hy (hp.mem_iff.1 (by simp [hm])));exact ⟨h2.1.trans h1.1,h2.2.1.trans h1.2.1,h2.2.2.trans h1.2.2⟩
 ·refine ϣ (List.Perm.append_left _ (K.nodes x l m)) ?_;simpa using hp
theorem SE.len {up:Nat->BT->BT->BT} {S0 S:TS} {X:List Nat} {t m:BT} {W:List (Nat×BT)} (U:SE up S0 X t S W m):W.length<=X.length:=by
 have:=U.perm.length_eq;rw [υ] at this;have h2:W.length<=(rU W).length:=by
  clear this U
  induction W with
  | nil=>simp
  | cons p t ih=>unfold rU at *;simp only [List.flatMap_cons,υ,Ω];omega
 omega
theorem Down.len {up:Nat->BT->BT->BT} {A:NS} {S0 S:TS} {ta tb a b:BT} {W:List (Nat×BT)} (U:Down up A S0 ta tb S W a b):W.length+a.nodes.length+b.nodes.length<=(ta.nodes++tb.nodes).length:=by
 have:=U.perm.length_eq;rw [υ,υ] at this;have h2:W.length<=(rU W).length:=by
  clear this U
  induction W with
  | nil=>simp
  | cons p t ih=>unfold rU at *;simp only [List.flatMap_cons,υ,Ω];omega
 omega
theorem Bh {S0 S2:TS} {X:List Nat} {t m l:BT} {x:Nat} {W:List (Nat×BT)} {zJ PK:Nat->Nat} {up:Nat->BT->BT->BT} (U:SE up S0 X t S2 (W++[(x,l)]) m) (hX:X.Nodup)
  (hk:∀y,y≠x->PK y=zJ y) (hr:∀p,p∈W->fF zJ p.2):∀p,p∈W->fF PK p.2:=fun p hp=>by
 have hpx:=U.perm;rw [nJ,ϋ] at hpx;have hnd:=hpx.nodup_iff.2 hX;rw [θ] at hnd;exact (hr p hp).frame (fun y hy=>hk y (fun e=>hnd.2.2 y ((Cn hp).2 y hy) x σ e))
section
variable {w:World} {B:LB} {F:List Nat} {gt ct:Nat} {A:NS} {st:Nat} {S:TS} {rk:Nat->Nat} {af:List Int}
theorem Ku (h:jO w B F gt ct A st S rk af) {p:Int} {x:Nat} {l r:BT} (hT:bT S p x (.node x l r)) (hx:x<A.cs.length) (hr:∀y,y∈r.nodes->y<A.cs.length) :
  Calls Tryz.prog 244 #[.pointer (some ⟨B.bt,0,none⟩),.int .i64 r.root] w fun e w'=>(∃v,e=.returned v)/\jO w' B F gt ct A st (yS S x r) rk af/\aa [B.ba] w w':=by
 cases r with
 | nil=>
  refine (Nj B.bt B.ba A.cs.length S (-1) w h.trees (by unfold oK;simp)).mono ?_;rintro e w' ⟨rfl,rfl⟩;exact ⟨⟨_,rfl⟩,h,aa.refl _ _⟩
 | node y a b=>
  obtain ⟨_,_,_,hr'⟩:=hT;have e1:S.r x=y:=hr'.1;have e2:S.u y=x:=hr'.2.1;refine (BH B.bt B.ba A.cs.length S x y w h.trees hx (hr y (by simp [BT.nodes])) e2).mono ?_;rintro e w' ⟨rfl,hT,hu⟩;exact ⟨⟨_,rfl⟩,h.il hu hT,hu⟩
theorem GZ (h:jO w B F gt ct A st S rk af) {p:Int} {x:Nat} {l r:BT} (hT:bT S p x (.node x l r)) (hx:x<A.cs.length) :
  Calls Tryz.prog 249 #[.pointer (some ⟨B.bt,0,none⟩),.int .i64 (x:Int)] w fun e w'=>e=.returned (.tuple #[.int .i64 (tv r.root),.bool (tb r.root)])/\aa [] w w':=by
 have e:fE A.cs.length S (x:Int) true=r.root:=by
  unfold fE TS.kid;rw [Δ ω];simp only [if_true,π];exact hT.2.2.2.root
 refine (nX B.bt B.ba A.cs.length S (x:Int) w h.trees).mono ?_;rw [e];rintro e w' ⟨rfl,k,rfl⟩;exact ⟨rfl,(aa.refl _ _).drewN k⟩
def GV (W:List (Nat×BT)):List Value:=aM (W.map fun p=>(p.1:Int))
theorem Aq (W:List (Nat×BT)) (x:Nat) (l:BT):GV (W++[(x,l)])=GV W++[.int .i64 (x:Int)]:=by unfold GV aM;simp
theorem yB (h:jO w B F gt ct A st S rk af) {ta tb:BT} (ha:bT S (-1) ta.root ta) (hb:bT S (-1) tb.root tb) (hX:(ta.nodes++tb.nodes).Nodup) (hin:∀y,y∈ta.nodes++tb.nodes->bV A (y:Int)=true) (ra:fF rk ta) (rb:fF rk tb) :
  Calls Tryz.prog 246 #[.pointer (some ⟨B.n0,0,none⟩),.int .i64 ta.root,.int .i64 tb.root] w fun e w'=>e=.returned (.int .i64 (aH ai A ta tb).1.root)/\aa [B.c,B.ba,B.br] w w'/\
   ∃S' pX,jO w' B F gt ct A (dF st (aH ai A ta tb).2) S' pX af/\bT S' (-1) (aH ai A ta tb).1.root (aH ai A ta tb).1/\fF pX (aH ai A ta tb).1/\∀y,y∉ta.nodes++tb.nodes->S.at S' y/\pX y=rk y:=by
 have hblk:=h.lt;have su:=h.cF;have hbl0:=hblk B.n0 (by simp [LB.blk]);have hbl1:=hblk B.bt (by simp [LB.blk]);have hbl2:=hblk B.ba (by simp [LB.blk]);have hbl3:=hblk B.br (by simp [LB.blk]);have hbl4:=hblk B.c (by simp [LB.blk,su]);have hs:=χ h.sep;have hA:=h.cells.ok.c1;have hlt:Hid (∀y,y∈ta.nodes++tb.nodes->y<A.cs.length):=fun y hy=>((aj A y).1 (hin y hy)).1;have QM:(ta.nodes++tb.nodes).length<=A.cs.length:=lI hX hlt.out;have Vp:=χ h;have HBL:=χ hblk;have D0:=χ (Down.start ai A ha hb);have Ma:=χ hin;have HX:=χ hX;have RA:=χ (ψ ra rb);have hst:=h.cells.qp;clear h ha hb hblk su hin hX ra rb
 go_enter Tryz.func246,Tryz.ntmps246
 go_wp2
 go_loopw [1,2,7] (fun a b way wr=>∃ (S1:TS) (W:List (Nat×BT)) (a1 b1:BT),a=.int .i64 a1.root/\b=.int .i64 b1.root/\wr.ownsRow w.heap.size 3 1 way W.length (GV W)/\jO wr B F gt ct A (dF st W.length) S1 rk af/\Down ai A S ta tb S1 W a1 b1/\fF rk a1/\fF rk b1/\(∀p,p∈W->fF rk p.2)/\aa [B.c,B.ba] w wr) (fun _ _ way _=>(ta.nodes++tb.nodes).length-lenOf way)
 case atStart=>
  exact ⟨S,[],ta,tb,rfl,rfl,⟨by simp [GV,aM],Α ⟨rfl,rfl⟩⟩,by rw [List.length_nil,ig hst];exact Vp.out.ae β,D0.out,RA.out.1,RA.out.2,(fun p hp=>by cases hp),β⟩
 case round=>
  obtain ⟨S1,W,a1,b1,rfl,rfl,ho,hM,hD,r1,r2,r3,hu⟩:=hrel;have HM:=χ hM;have HD:=χ hD;have HR:=χ (ψ r1 (ψ r2 r3));have HO:=χ ho;have hlen:=hD.len;have h0:=hM.h0;have h1:=hM.h1;clear hM hD r1 r2 r3;obtain ⟨a5,c5,rfl,Z4⟩:=aU ho;have DW:∀g,(Value.slice a5 W.length c5).ownBlock=some g->w.heap.size<=g:=fun g hg=>(ho.lt g hg).1;have Rs:=χ DW;clear ho DW
  by_cases hne:a1=.nil\/b1=.nil
  ·obtain ⟨m0,e0,U0,hcnt,hor⟩:=HD.out.turn hne;have hm0:fF rk m0:=by rcases hor with rfl|rfl;exact HR.out.1;exact HR.out.2.1
   have hz:a1.root=-1\/(a1.root≠-1/\b1.root=-1):=by
    rcases hne with rfl|rfl
    ·exact Α rfl
    ·by_cases e:a1.root=-1
     ·exact Α e
     ·exact Β ⟨e,rfl⟩
   have HU:=χ (ψ U0 (ψ hm0 (ψ hcnt HR.out.2.2)));have hWl:=U0.len;have HUP:=χ hu;rw [←hcnt] at HM;clear hne hor U0 hm0 HR HD hcnt hu hlen h0;generalize a1.root=za at *;generalize b1.root=zb at *;have HEX:Hid (∃W2 U2:List (Nat×BT),W=W2++U2):=⟨W,[],σ⟩;have e9:∃z9,m0.root=z9:=⟨_,rfl⟩;obtain ⟨z9,e9⟩:=e9;rw [e9] at e0;generalize hn0:W.length=n0 at *;have TF:=χ hn0;clear hn0;rcases hz with rfl|⟨hz1,rfl⟩
   all_goals
    first|rw [Δ rfl] at e0|rw [Γ hz1] at e0
    subst e0
    try (have hz2:(z9 != -1)=true:=by simpa using hz1)
    try (have hz3:(z9 == -1)=false:=by simpa using hz1)
    go_wp2
    go_loopw [9,10] (fun top i w5=>∃ (S2:TS) (W2 U2:List (Nat×BT)) (m:BT) (zJ:Nat->Nat),W=W2++U2/\top=.int .i64 m.root/\i=.int .i64 ((W2.length:Int)-1)/\jO w5 B F gt ct A (dF st (aH ai A ta tb).2) S2 zJ af/\SE ai S (ta.nodes++tb.nodes) (aH ai A ta tb).1 S2 W2 m/\fF zJ m/\(∀p,p∈W2->fF zJ p.2)/\(∀y,y∉ta.nodes++tb.nodes->zJ y=rk y)/\aa [B.ba,B.br] wr w5) (fun _ i _=>(intOf i+1).toNat)
    case atStart=>exact ⟨S1,W,[],m0,rk,σ,by rw [e9],by rw [TF.out],HM.out,HU.out.1,HU.out.2.1,HU.out.2.2.2,fun _ _=>rfl,aa.refl _ _⟩
    case round=>
     obtain ⟨S2,W2,U2,m,zJ,rfl,rfl,rfl,hM,hU,r1,r2,r3,hu⟩:=hrel;rename World=>w5;rcases List.eq_nil_or_concat W2 with rfl|⟨W3,⟨x,l⟩,rfl⟩
     ·have e0:=hU.res;simp only [si] at e0;simp only [List.length_nil];go_wp2;go_ret;rw [e0];exact ⟨rfl,(HUP.out.mono σ).trans (hu.mono σ),S2,zJ,hM,hU.isM,r1,fun y hy=>⟨hU.far y hy,r3 y hy⟩⟩
     ·have hpx:=hU.perm;simp only [List.concat_eq_append] at *;rw [nJ,ϋ] at hpx;have Ae:∀q,q∈(x::l.nodes)++m.nodes->q<A.cs.length:=fun q hq=>hlt.out q (hpx.mem_iff.1 (List.mem_append_right _ hq));have hnd:((x::l.nodes)++m.nodes).Nodup:=(θ.1 (hpx.nodup_iff.2 HX.out)).2.1;have Yx:=Ae x σ;obtain ⟨g,cap,ee,hI,hg⟩:=IZ.fQ (l:=(W3++[(x,l)]++U2).map fun p=>(p.1:Int)) (by rw [ϓ,TF.out];exact ay HO.out hu (fun k hk=>by have:=Rs.out k hk;simp;omega)) ζ;rw [ϓ,TF.out] at ee
      injection ee with ee1 ee2 ee3
      subst ee1 ee3;have dz:=hI.cell W3.length σ;rw [show (((W3++[(x,l)]++U2).map fun p=>(p.1:Int)).getD W3.length 0)=(x:Int) by simp [φ]] at dz;have h0:=hM.h0;have h1:=hM.h1;have tQ:=χ hM;have Ki:=χ hU;have Uu:=χ (ψ r1 (ψ r2 r3));have FW:=χ (ψ Ae hnd);have hTx:=hU.way (x,l) σ;have Vt:=χ hTx;have HPX:=χ hpx;have hil:((W3++[(x,l)]).length:Int)-1=W3.length:=σ;rw [hil];have hi0:((W3.length:Int)≥0):=ω;have hWn:W3.length+1+U2.length=n0:=by have:=TF.out;simp at this;omega
      have hW3:W3.length<=65536:=ω;clear hM hU r1 r2 r3 Ae hnd hTx hpx hil hI ee2
      by_cases hm:m=.nil
      ·subst hm;simp only [BT.root]
       go_wp2_with fail
       have q9:bT S2 (-1) x (.node x l .nil):=Vt.out;refine (oz tQ.out q9 (Uu.out.2.1 (x,l) σ) Uu.out.1 (by simpa [BT.nodes] using FW.out.2) (fun q hq=>FW.out.1 q (by simpa [BT.nodes] using hq))).mono ?_;rintro e w7 ⟨rfl,pV,S3,PK,FT,QQ,Q7,hs7,_,UC⟩;have VF:=χ FT;have xe:=χ (ψ QQ (ψ Q7 (ψ hs7 UC)));have UU:=χ (hu.trans pV);clear FT QQ Q7 hs7 UC hu pV Vt h0 h1 dz;go_wp2
       go_roundw
       case rel=>
        refine ⟨S3,W3,(x,l)::U2,ai x l .nil,PK,σ,congrArg (Value.int .i64) (iE x l .nil).symm,by go_num,VF.out,Ki.out.turn nY HX.out xe.out.1 (fun y h1 _ _=>xe.out.2.2.1 y h1),xe.out.2.1,?_,?_,UU.out⟩
        ·exact Bh Ki.out HX.out xe.out.2.2.2 (fun p hp=>Uu.out.2.1 p (List.mem_append_left _ hp))
        ·exact fun y hy=>(xe.out.2.2.2 y (fun e=>hy (by rw [e];exact HPX.out.mem_iff.1 σ))).trans (Uu.out.2.2 y hy)
       case measure=>simp [intOf]
      ·obtain ⟨mr,hmr⟩:∃mr:Nat,m.root=mr:=⟨_,BT.vH hm⟩;have hmm:=(bH hm).1;rw [hmr,π] at hmm;have q9:bT S2 (-1) x (.node x l .nil):=Vt.out;have Ww:=Ki.out.isM;have hur:S2.u mr=-1:=by
        cases m with
        | nil=>exact absurd rfl hm
        | node q a b=>
         have e:q=mr:=by have e':(q:Int)=mr:=hmr;omega
         subst e;exact Ww.2.1
       have hnd:=FW.out.2;have hxm:x≠mr:=fun e=>by
        rw [θ] at hnd;exact hnd.2.2 x σ mr hmm e
       obtain ⟨Ai,Hz⟩:=Br (m:=m) q9 Ww hm (by simpa [BT.nodes] using hnd);rw [hmr] at Ai Hz;have HT3:=χ (ψ Ai (ψ hm Hz));have kh:=fun W (hW:aa [] w5 W)=>xN B.bt B.ba A.cs.length S2 x mr true W ((tQ.out.ae hW).trees) Yx (FW.out.1 mr (List.mem_append_right _ hmm)) hxm hur q9.2.2.2;have HMR:=χ hmr;rw [hmr];have hz4:((mr:Int) != -1)=true:=σ;have rr1:∀W,aa [B.ba] w5 W->W.cell? ⟨B.n0,1,none⟩=some (.pointer (some ⟨B.bt,0,none⟩)):=fun W hW=>hW.kept h1 (by have:=hs.out;simp;omega);have rr2:∀W,aa [B.ba] w5 W->W.cell? ⟨g,W3.length,none⟩=some (.int .i64 (x:Int)):=fun W hW=>hW.kept dz ζ
       clear q9 Ww hur hnd Ai Hz hm hmr h0 h1 dz hmm
       go_wp2_with fail
       have IA:(0:Int)<=(W3.length:Int):=ω;have J7:(W3.length:Int)<(n0:Int):=ω
       go_region_held3 (aa [B.ba] w5) (exact ν)
        ((go_at_call 251;(with_reducible refine (kh _ β).mono ?_);rintro e w6 ⟨rfl,Ml,gX⟩;(have RN:aa [B.ba] w5 w6:=ν)))
       have dz6:=rr2 w6 RN;have uZ:=χ (tQ.out.il RN Ml);clear rr1 rr2 kh gX Ml
       go_wp2_with fail
       refine (oz uZ.out HT3.out.1 (Uu.out.2.1 (x,l) σ) Uu.out.1 (by simpa [BT.nodes] using FW.out.2) (fun q hq=>FW.out.1 q (by simpa [BT.nodes] using hq))).mono ?_;rintro e w7 ⟨rfl,pV,S3,PK,FT,QQ,Q7,hs7,_,UC⟩;have VF:=χ FT;have xe:=χ (ψ QQ (ψ Q7 (ψ hs7 UC)));have UU:=χ (hu.trans ((RN.mono σ).trans pV));clear FT QQ Q7 hs7 UC hu pV Vt dz6 RN;go_wp2
       go_roundw
       case rel=>
        refine ⟨S3,W3,(x,l)::U2,ai x l m,PK,σ,by rw [iE],by go_num,VF.out,Ki.out.turn nY HX.out xe.out.1 (fun y h1 _ h3=>?_),xe.out.2.1,?_,?_,UU.out⟩
        ·have a1:=HT3.out.2.2 y h1 h3;have a2:=xe.out.2.2.1 y h1;exact ⟨a2.1.trans a1.1,a2.2.1.trans a1.2.1,a2.2.2.trans a1.2.2⟩
        ·exact Bh Ki.out HX.out xe.out.2.2.2 (fun p hp=>Uu.out.2.1 p (List.mem_append_left _ hp))
        ·exact fun y hy=>(xe.out.2.2.2 y (fun e=>hy (by rw [e];exact HPX.out.mem_iff.1 σ))).trans (Uu.out.2.2 y hy)
       case measure=>simp [intOf]
  ·obtain ⟨x,l,r,rfl⟩:∃x l r,a1=.node x l r:=by
    cases a1 with
    | nil=>exact absurd (Α rfl) hne
    | node x l r=>exact ⟨x,l,r,rfl⟩
   obtain ⟨y,l',r',rfl⟩:∃x l r,b1=.node x l r:=by
    cases b1 with
    | nil=>exact absurd (Β rfl) hne
    | node x l r=>exact ⟨x,l,r,rfl⟩
   clear hne;have hmx:∀z,z∈(BT.node x l r).nodes++(BT.node y l' r').nodes->z∈ta.nodes++tb.nodes:=fun z hz=>HD.out.perm.mem_iff.1 (List.mem_append_right _ hz);have hxm:=hmx x (by simp [BT.nodes]);have hym:=hmx y (by simp [BT.nodes]);have hWl:W.length+2<=(ta.nodes++tb.nodes).length:=by simp only [BT.nodes,Ω,υ] at hlen ⊢;omega
   have ZN:=χ hmx;have hxb:((x:Int) != -1)=true:=σ;have hyb:((y:Int) != -1)=true:=σ;clear hmx hlen;have kA:=gZ HM.out.cells y x (Ma.out y hym) (Ma.out x hxm);obtain ⟨sw,hsw⟩:∃sw,decide (eU A y x)=sw:=⟨_,rfl⟩;rw [hsw] at kA;have KEY:∃ (z:Nat) (lz rz o:BT),z=(if sw then y else x)/\Down ai A S ta tb (yS S1 z rz) (W++[(z,lz)]) rz o/\bT S1 (-1) z (.node z lz rz)/\fF rk lz/\fF rk rz/\fF rk o/\z<A.cs.length/\(∀q,q∈rz.nodes->q<A.cs.length)/\o.root=(if sw then (x:Int) else (y:Int)):=by
    cases sw with
    | true=>
     exact ⟨y,l',r',.node x l r,rfl,HD.out.takeB HX.out (Ϧ hsw),HD.out.XG,HR.out.2.1.2.1,HR.out.2.1.2.2,HR.out.1,hlt.out y hym,fun q hq=>hlt.out q (ZN.out q (by simp [BT.nodes,hq])),rfl⟩
    | false=>
     exact ⟨x,l,r,.node y l' r',rfl,HD.out.takeA HX.out (ϧ hsw),HD.out.Y5,HR.out.1.2.1,HR.out.1.2.2,HR.out.2.1,hlt.out x hxm,fun q hq=>hlt.out q (ZN.out q (by simp [BT.nodes,hq])),rfl⟩
   obtain ⟨z,lz,rz,o,ez,hD2,ZX,q1,q2,q3,hz,hrz,eo⟩:=KEY;have HD2:=χ hD2;have HT:=χ ZX;have HQ:=χ (ψ q1 (ψ q2 (ψ q3 hrz)));clear hD2 ZX q1 q2 q3 hrz hsw;simp only [BT.root];cases sw
   all_goals
    simp only [if_true,if_false,ϥ] at ez eo;subst ez
    go_wp2_with fail
    refine kA.mono ?_;rintro e w1 ⟨rfl,jN,hu1⟩;have hM1:=χ (HM.out.fH (hu1.mono (by simp [HM.out.cF])) jN (fun x hx=>Α hx) rfl rfl);have hss:dF (dF st W.length) 1=dF st (W.length+1):=kG _ _ _;rw [hss] at hM1;have ho1:=ay HO.out hu1 (fun k hk=>by have:=Rs.out k hk;simp;omega);have h01:=hM1.out.h0;have h11:=hM1.out.h1;clear h0 h1 kA hss;have Tc:=χ (ψ hu hu1);clear hu hu1 jN;have HGB:Hid (∀g,g∈(Value.slice a5 W.length c5).ownBlock.toList->g∉B.blk F gt):=fun g hg hb=>by
     have h1:=Rs.out g (Option.mem_toList.1 hg);have h2:=HBL.out g hb;omega
    have hsz1:w.heap.size<=w1.heap.size:=(Tc.out.1.trans (Tc.out.2.mono σ)).size
    go_wp2_with (first
     | ((at_builtin;refine aI rfl _ _ 26 rfl w.heap.size 3 (.int .i64 0) 1 8 Tryz.underlying26 dX rfl δ _ _ _ rfl (ho1) [.int .i64 (z:Int)] rfl (by simp [Value.oneCell']) (by first|rfl|(rw [Κ];rfl)) μ ω (ω) ?_;intro v2 w2 ho2 hu2 lF);(have hM2:=χ (hM1.out.upd hu2 HGB.out));(have k12:=hM2.out.h1);(have kr:=GZ hM2.out HT.out hz))
     | (go_at_call 249;(with_reducible refine (kr).mono ?_);rintro e w3 ⟨rfl,hu3⟩;(have k13:=hu3.was k12);(have oP:=χ (hM2.out.ae hu3));(have kc:=Ku oP.out HT.out hz HQ.out.2.2.2))
     | (go_at_call 247;(with_reducible refine (lW _ _).mono ?_);rintro e w9 ⟨rfl,aS⟩;rw [aS];clear aS w9)
     | (go_at_call 244;(with_reducible refine (kc).mono ?_);rintro e w4 ⟨⟨v4,rfl⟩,zG,om⟩)
     | fail)
    obtain ⟨a6,c6,rfl,hc6⟩:=aU ho2;have VG:∀k,(Value.slice a6 (W.length+1) c6).ownBlock=some k->w.heap.size<=k:=fun k hk=>(ho2.lt k hk).1;refine ⟨⟨_,W++[(z,lz)],rz,o,rfl,congrArg (Value.int .i64) eo.symm,?_,?_,HD2.out,HQ.out.2.1,HQ.out.2.2.1,?_,?_⟩,?_⟩
    ·rw [Aq,υ,List.length_singleton];exact ay (ay ho2 hu3 σ) om (fun k hk=>by have:=VG k hk;simp;omega)
    ·rw [υ,List.length_singleton];exact zG
    ·intro p hp;rcases τ.1 hp with hp|hp
     ·exact HR.out.2.2 p hp
     ·simp only [ϕ] at hp;subst hp;exact HQ.out.1
    ·have v1:aa [B.c,B.ba] w w1:=Tc.out.1.trans (Tc.out.2.mono σ);have v2:aa [B.c,B.ba] w w2:=v1.joined hu2 (fun g hg=>Β (Rs.out g (Option.mem_toList.1 hg)));exact (v2.trans (hu3.mono σ)).trans (om.mono σ)
    ·show (ta.nodes++tb.nodes).length-(W.length+1)<(ta.nodes++tb.nodes).length-W.length
     omega
end
end Go.Proofs.YtklibcncmbofpaaGreat
namespace Go.Proofs.YtklibcncmbofpaaGreat
abbrev Fr:=Nat×Bool×BT
def bf (f:Fr) (t:BT):BT:=if f.2.1 then .node f.1 f.2.2 t else .node f.1 t f.2.2
def ag:List Fr->BT->BT
 | [],t=>t
 | f::P,t=>ag P (bf f t)
def BD:List Fr->Int|[]=>-1|f::_=>f.1
def cK:List Fr->List Nat|[]=>[]|f::P=>f.1::(f.2.2.nodes++cK P)
def NT (S:TS):List Fr->Int->Prop
 | [],_=>True
 | f::P,z=>S.kid f.2.1 f.1=z/\bT S f.1 (S.kid (!f.2.1) f.1) f.2.2/\S.u f.1=BD P/\NT S P f.1
theorem lS (f:Fr) (t:BT):(bf f t).root=f.1:=by unfold bf;split<;>rfl
theorem NR (f:Fr) (t:BT):bf f t≠.nil:=by unfold bf;split<;>simp
theorem iA (f:Fr) (t:BT):(bf f t).nodes.Perm (f.1::(t.nodes++f.2.2.nodes)):=by
 unfold bf;split
 ·simp only [BT.nodes];exact List.Perm.cons _ Φ
 ·exact ό _
theorem aW:∀ (P:List Fr) (t:BT),(ag P t).nodes.Perm (t.nodes++cK P)
 | [],t=>by simp [ag,cK]
 | f::P,t=>by
  refine (aW P (bf f t)).trans ?_;refine ((iA f t).append_right (cK P)).trans ?_;simp only [cK,List.cons_append,ϋ];exact (Ϥ (a:=f.1) (l₁:=t.nodes) (l₂:=f.2.2.nodes++cK P)).symm
theorem zx:∀ (P:List Fr) (t t':BT),t.root=t'.root->(ag P t).root=(ag P t').root
 | [],t,t',h=>h
 | f::P,t,t',h=>zx P _ _ (by rw [lS,lS])
theorem ow (f:Fr) (P:List Fr) (t t':BT):(ag (f::P) t).root=(ag (f::P) t').root:=zx P _ _ (by rw [lS,lS])
theorem qF:∀ (P Q:List Fr) (t:BT),ag (P++Q) t=ag Q (ag P t)
 | [],_,_=>rfl
 | f::P,Q,t=>qF P Q (bf f t)
theorem vT:∀ {t:BT} {x:Nat},x∈t.nodes->∃P l r,t=ag P (.node x l r)
 | .nil,_,h=>by cases h
 | .node y a b,x,h=>by
  simp only [BT.nodes,ρ,τ] at h;rcases h with rfl|h|h
  ·exact ⟨[],a,b,rfl⟩
  ·obtain ⟨P,l,r,e⟩:=vT h;exact ⟨P++[(y,false,b)],l,r,by rw [qF,←e];rfl⟩
  ·obtain ⟨P,l,r,e⟩:=vT h;exact ⟨P++[(y,true,a)],l,r,by rw [qF,←e];rfl⟩
theorem Lm {S:TS} {p:Int} (f:Fr) (t:BT):bT S p f.1 (bf f t)↔bT S f.1 t.root t/\S.kid f.2.1 f.1=t.root/\bT S f.1 (S.kid (!f.2.1) f.1) f.2.2/\S.u f.1=p:=by
 obtain ⟨x,s,o⟩:=f;cases s
 ·simp only [bf,ϥ,if_false,bT,TS.kid,Bool.not_false,if_true];constructor
  ·rintro ⟨_,h2,h3,h4⟩;have e:=h3.root;exact ⟨by rw [←e];exact h3,e,h4,h2⟩
  ·rintro ⟨h1,h2,h3,h4⟩;exact ⟨trivial,h4,by rw [h2];exact h1,h3⟩
 ·simp only [bf,if_true,bT,TS.kid,Bool.not_true,ϥ,if_false];constructor
  ·rintro ⟨_,h2,h3,h4⟩;have e:=h4.root;exact ⟨by rw [←e];exact h4,e,h3,h2⟩
  ·rintro ⟨h1,h2,h3,h4⟩;exact ⟨trivial,h4,h3,by rw [h2];exact h1⟩
theorem cZ {S:TS}:∀ (P:List Fr) (t:BT),bT S (-1) (ag P t).root (ag P t)↔bT S (BD P) t.root t/\NT S P t.root
 | [],t=>by simp [ag,BD,NT]
 | f::P,t=>by
  have h:=cZ (S:=S) P (bf f t);rw [lS] at h
  show bT S (-1) (ag P (bf f t)).root (ag P (bf f t))↔_
  rw [h,Lm];simp only [BD,NT];constructor
  ·rintro ⟨⟨h1,h2,h3,h4⟩,h5⟩;exact ⟨h1,h2,h3,h4,h5⟩
  ·rintro ⟨h1,h2,h3,h4,h5⟩;exact ⟨⟨h1,h2,h3,h4⟩,h5⟩
theorem NT.frame {S S':TS}:∀ {P:List Fr} {z:Int},NT S P z->(∀y,y∈cK P->S.at S' y)->NT S' P z
 | [],_,_,_=>trivial
 | f::P,z,h,hs=>by
  obtain ⟨h1,h2,h3,h4⟩:=h;have hf:=hs f.1 (by simp [cK]);have hk:∀s,S'.kid s f.1=S.kid s f.1:=fun s=>by unfold TS.kid;rw [hf.1,hf.2.1]
  exact ⟨by rw [hk];exact h1,by rw [hk];exact h2.frame (fun y hy=>hs y (by simp [cK,hy])),by rw [hf.2.2];exact h3,h4.frame (fun y hy=>hs y (by simp [cK,hy]))⟩
theorem NT.other {S S':TS} {f:Fr} {P:List Fr} {z z':Int} (h:NT S (f::P) z) (hn:(cK (f::P)).Nodup) (h1:S'.kid f.2.1 f.1=z') (h2:S'.kid (!f.2.1) f.1=S.kid (!f.2.1) f.1) (h3:S'.u f.1=S.u f.1)
  (hs:∀y,y≠f.1->y∈cK (f::P)->S.at S' y):NT S' (f::P) z':=by
 obtain ⟨_,g2,g3,g4⟩:=h;simp only [cK,Ζ,τ,not_or] at hn;exact ⟨h1,by rw [h2];exact g2.frame (fun y hy=>hs y (fun e=>hn.1.1 (by rw [←e];exact hy)) (by simp [cK,hy])),by rw [h3];exact g3,g4.frame (fun y hy=>hs y (fun e=>hn.1.2 (by rw [←e];exact hy)) (by simp [cK,hy]))⟩
theorem SN {S:TS} {i j:Nat} {y:Nat} (h1:y≠i) (h2:y≠j):S.at (lg S i j) y:=by
 unfold lg TS.aB TS.bJ TS.at;refine ⟨?_,?_,?_⟩
 ·cases decide (S.r i=(j:Int))<;>simp [h1]
 ·cases decide (S.r i=(j:Int))<;>simp [h1]
 ·cases decide (S.r i=(j:Int))<;>simp [h2]
theorem AB {S:TS} {i:Nat} {s:Bool} {v:Int}:∀y,(S.aB i s v).u y=S.u y:=fun y=>by unfold TS.aB;cases s<;>rfl
theorem Qz {S:TS} {f:Fr} {P:List Fr} {t:BT} (h:bT S (-1) (ag (f::P) t).root (ag (f::P) t)) (ht:t≠.nil) (hn:(ag (f::P) t).nodes.Nodup) :
  bT (lg S f.1 t.root.toNat) (-1) t.root t/\bT (lg S f.1 t.root.toNat) (-1) (ag (f::P) .nil).root (ag (f::P) .nil)/\∀y,y≠f.1->y≠t.root.toNat->S.at (lg S f.1 t.root.toNat) y:=by
 obtain ⟨h1,h2⟩:=(cZ _ _).1 h;have VO:=(aW (f::P) t).nodup_iff.1 hn;rw [θ] at VO;obtain ⟨n1,n2,n3⟩:=VO;obtain ⟨rm,rc⟩:=bH ht;generalize hx:t.root.toNat=x at *;have hfx:f.1≠x:=fun e=>n3 x rm f.1 (by simp [cK]) e.symm;have hat:∀y,y≠f.1->y≠x->S.at (lg S f.1 x) y:=fun y h1 h2=>SN h1 h2;have hk:S.kid f.2.1 f.1=x:=by rw [h2.1,rc]
 have hside:decide (S.r f.1=(x:Int))=f.2.1:=by
  cases hs:f.2.1 with
  | true=>rw [hs] at hk;exact Ν (by simpa [TS.kid] using hk)
  | false=>
   refine Ξ (fun e=>?_);have h3:=h2.2.1;rw [hs] at h3;have h4:=h3.root;have h5:f.2.2.root=(x:Int):=by rw [←h4];simpa [TS.kid] using e
   have h6:f.2.2≠.nil:=fun e=>by rw [e] at h5;simp [BT.root] at h5
   have h7:=(bH h6).1;rw [h5,π] at h7;exact n3 x rm x (by simp [cK,h7]) rfl
 have Np:∀s,(lg S f.1 x).kid s f.1=if s=f.2.1 then -1 else S.kid s f.1:=fun s=>by
  unfold lg;rw [hside];unfold TS.aB TS.bJ TS.kid;cases s<;>cases f.2.1<;>simp
 have hu:∀y,(lg S f.1 x).u y=if y=x then -1 else S.u y:=fun y=>by
  unfold lg TS.bJ;simp only [AB]
 refine ⟨h1.Kq n1 (fun y hy=>?_) (fun _=>?_),(cZ _ _).2 ⟨rfl,h2.other n2 ?_ ?_ ?_ (fun y g1 g2=>hat y g1 (fun e=>n3 x rm y g2 e.symm))⟩,hat⟩
 ·have Zj:y≠f.1:=fun e=>n3 y hy f.1 (by simp [cK]) e;refine ⟨?_,?_,fun hr=>?_⟩
  ·unfold lg TS.aB TS.bJ;cases decide (S.r f.1=(x:Int))<;>simp [Zj]
  ·unfold lg TS.aB TS.bJ;cases decide (S.r f.1=(x:Int))<;>simp [Zj]
  ·rw [hu,Γ (by rw [hx] at hr;exact hr)]
 ·rw [hu,hx,Δ rfl]
 ·rw [Np,Δ rfl];rfl
 ·rw [Np,Γ (by cases f.2.1<;>simp)]
 ·rw [hu,Γ hfx]
theorem Lr {S:TS} {f:Fr} {P:List Fr} {m:BT} (h:bT S (-1) (ag (f::P) .nil).root (ag (f::P) .nil)) (hM:bT S (-1) m.root m) (hm:m≠.nil) (hn:(m.nodes++cK (f::P)).Nodup) :
  bT (jG S f.1 m.root f.2.1) (-1) (ag (f::P) m).root (ag (f::P) m)/\∀y,y≠f.1->y≠m.root.toNat->S.at (jG S f.1 m.root f.2.1) y:=by
 obtain ⟨_,h2⟩:=(cZ _ _).1 h;rw [θ] at hn;obtain ⟨n1,n2,n3⟩:=hn;obtain ⟨rm,rc⟩:=bH hm;have hfx:f.1≠m.root.toNat:=fun e=>n3 _ rm f.1 (by simp [cK]) e.symm;have Np:∀s,(jG S f.1 m.root f.2.1).kid s f.1=if s=f.2.1 then m.root else S.kid s f.1:=fun s=>by
  unfold jG TS.aB TS.bJ TS.kid;cases s<;>cases f.2.1<;>simp
 have hu:∀y,(jG S f.1 m.root f.2.1).u y=if y=m.root.toNat then (f.1:Int) else S.u y:=fun y=>by
  unfold jG TS.bJ;simp only [AB]
 have hl:∀y,y≠f.1->(jG S f.1 m.root f.2.1).l y=S.l y/\(jG S f.1 m.root f.2.1).r y=S.r y:=fun y hy=>by
  unfold jG TS.aB TS.bJ;cases f.2.1<;>simp [hy]
 have hat:∀y,y≠f.1->y≠m.root.toNat->S.at (jG S f.1 m.root f.2.1) y:=fun y g1 g2=>⟨(hl y g1).1,(hl y g1).2,by rw [hu,Γ g2]⟩
 refine ⟨(cZ _ _).2 ⟨hM.Kq n1 (fun y hy=>?_) (fun _=>by rw [hu,Δ rfl];rfl),h2.other n2 ?_ ?_ ?_ (fun y g1 g2=>hat y g1 (fun e=>n3 _ rm y g2 e.symm))⟩,hat⟩
 ·have Zj:y≠f.1:=fun e=>n3 y hy f.1 (by simp [cK]) e;exact ⟨(hl y Zj).1,(hl y Zj).2,fun hr=>by rw [hu,Γ hr]⟩
 ·rw [Np,Δ rfl]
 ·rw [Np,Γ (by cases f.2.1<;>simp)]
 ·rw [hu,Γ hfx]
/-! ### heaps, ranks -/
theorem sI {A:NS} {f:Fr} {t:BT}:Heap A (bf f t)↔(∀y,y∈t.nodes->eU A f.1 y)/\(∀y,y∈f.2.2.nodes->eU A f.1 y)/\Heap A t/\Heap A f.2.2:=by
 unfold bf
 split
 ·simp only [Heap];constructor
  ·rintro ⟨a,b,c,d⟩;exact ⟨b,a,d,c⟩
  ·rintro ⟨a,b,c,d⟩;exact ⟨b,a,d,c⟩
 ·simp only [Heap]
theorem tZ {A:NS}:∀ {P:List Fr} {t:BT},Heap A (ag P t)->Heap A t
 | [],_,h=>h
 | f::P,t,h=>(sI.1 (tZ (P:=P) h)).2.2.1
theorem vS {A:NS}:∀ {P:List Fr} {t t':BT},Heap A (ag P t)->Heap A t'->(∀y,y∈t'.nodes->y∈t.nodes)->Heap A (ag P t')
 | [],_,_,_,h,_=>h
 | f::P,t,t',h,h',hs=>by
  have h1:=sI.1 (tZ (P:=P) h);refine vS (P:=P) h (sI.2 ⟨fun y hy=>h1.1 y (hs y hy),h1.2.1,h',h1.2.2.2⟩) (fun y hy=>?_);have hy':=(iA f t').mem_iff.1 hy;refine (iA f t).mem_iff.2 ?_;simp only [ρ,τ] at hy' ⊢;rcases hy' with h|h|h
  ·exact Α h
  ·exact Β (Α (hs y h))
  ·exact Β (Β h)
def jF (f:Fr) (n:Nat):Nat:=(if f.2.1 then n else f.2.2.rank)+1
theorem zq (f:Fr) (t:BT):(bf f t).rank=jF f t.rank:=by unfold bf jF;split<;>rfl
def MP (rk:Nat->Nat):List Fr->Nat->Prop
 | [],_=>True
 | f::P,n=>fF rk f.2.2/\rk f.1=jF f n/\MP rk P (jF f n)
theorem Qs {rk:Nat->Nat} {f:Fr} {t:BT}:fF rk (bf f t)↔fF rk t/\fF rk f.2.2/\rk f.1=jF f t.rank:=by
 unfold bf jF
 split
 ·simp only [fF];constructor
  ·rintro ⟨a,b,c⟩;exact ⟨c,b,a⟩
  ·rintro ⟨a,b,c⟩;exact ⟨c,b,a⟩
 ·simp only [fF];constructor
  ·rintro ⟨a,b,c⟩;exact ⟨b,c,a⟩
  ·rintro ⟨a,b,c⟩;exact ⟨c,a,b⟩
theorem Cs {rk:Nat->Nat}:∀ (P:List Fr) (t:BT),fF rk (ag P t)↔fF rk t/\MP rk P t.rank
 | [],t=>by simp [ag,MP]
 | f::P,t=>by
  show fF rk (ag P (bf f t))↔_
  rw [Cs P,Qs,zq];simp only [MP];constructor
  ·rintro ⟨⟨a,b,c⟩,d⟩;exact ⟨a,b,c,d⟩
  ·rintro ⟨a,b,c,d⟩;exact ⟨⟨a,b,c⟩,d⟩
theorem MP.frame {rk pX:Nat->Nat}:∀ {P:List Fr} {n:Nat},MP rk P n->(∀y,y∈cK P->pX y=rk y)->MP pX P n
 | [],_,_,_=>trivial
 | f::P,n,h,hs=>⟨h.1.frame (fun y hy=>hs y (by simp [cK,hy])),by rw [hs f.1 (by simp [cK])];exact h.2.1,h.2.2.frame (fun y hy=>hs y (by simp [cK,hy]))⟩
def AA:List Fr->Nat->Prop
 | [],_=>True
 | f::P,n=>Lean f.2.2/\(if f.2.1 then n<=f.2.2.rank else f.2.2.rank<=n)/\AA P (jF f n)
theorem Ig {f:Fr} {t:BT}:Lean (bf f t)↔Lean t/\Lean f.2.2/\(if f.2.1 then t.rank<=f.2.2.rank else f.2.2.rank<=t.rank):=by
 unfold bf
 split
 ·simp only [Lean];constructor
  ·rintro ⟨a,b,c⟩;exact ⟨c,b,a⟩
  ·rintro ⟨a,b,c⟩;exact ⟨c,b,a⟩
 ·simp only [Lean];constructor
  ·rintro ⟨a,b,c⟩;exact ⟨b,c,a⟩
  ·rintro ⟨a,b,c⟩;exact ⟨c,a,b⟩
theorem vG:∀ (P:List Fr) (t:BT),Lean (ag P t)↔Lean t/\AA P t.rank
 | [],t=>by simp [ag,AA]
 | f::P,t=>by
  show Lean (ag P (bf f t))↔_
  rw [vG P,Ig,zq];simp only [AA];constructor
  ·rintro ⟨⟨a,b,c⟩,d⟩;exact ⟨a,b,c,d⟩
  ·rintro ⟨a,b,c,d⟩;exact ⟨⟨a,b,c⟩,d⟩
def jo:List Fr->Nat->Nat->BT->BT->BT
 | [],_,x,l,r=>ai x l r
 | f::P,was,x,l,r=>
  if (ai x l r).rank=was then ag (f::P) (ai x l r)
  else if f.2.1 then jo P (jF f was) f.1 f.2.2 (ai x l r) else jo P (jF f was) f.1 (ai x l r) f.2.2
theorem oL:∀ (P:List Fr) (was x:Nat) (l r:BT),(jo P was x l r).nodes.Perm (ag P (.node x l r)).nodes
 | [],was,x,l,r=>jD x l r
 | f::P,was,x,l,r=>by
  have h0:(bf f (ai x l r)).nodes.Perm (bf f (.node x l r)).nodes:=
   (iA f _).trans ((List.Perm.cons _ ((jD x l r).append_right _)).trans (iA f (.node x l r)).symm)
  have h1:(ag P (bf f (ai x l r))).nodes.Perm (ag P (bf f (.node x l r))).nodes:=
   (aW P _).trans ((h0.append_right _).trans (aW P _).symm)
  unfold jo
  split
  ·exact h1
  ·split
   ·rename_i hs
    have e:bf f (ai x l r)=.node f.1 f.2.2 (ai x l r):=by unfold bf;rw [Δ hs]
    rw [e] at h1;exact (oL P _ _ _ _).trans h1
   ·rename_i hs
    have e:bf f (ai x l r)=.node f.1 (ai x l r) f.2.2:=by unfold bf;rw [Γ hs]
    rw [e] at h1;exact (oL P _ _ _ _).trans h1
theorem rf:∀ (P:List Fr) (was x:Nat) (l r:BT),(jo P was x l r).root=(ag P (.node x l r)).root
 | [],was,x,l,r=>iE x l r
 | f::P,was,x,l,r=>by
  have h1:=ow f P (ai x l r) (.node x l r);unfold jo
  split
  ·exact h1
  ·split
   ·rename_i hs
    have e:bf f (ai x l r)=.node f.1 f.2.2 (ai x l r):=by unfold bf;rw [Δ hs]
    unfold ag at h1;rw [e] at h1;exact (rf P _ _ _ _).trans h1
   ·rename_i hs
    have e:bf f (ai x l r)=.node f.1 (ai x l r) f.2.2:=by unfold bf;rw [Γ hs]
    unfold ag at h1;rw [e] at h1;exact (rf P _ _ _ _).trans h1
theorem rE {A:NS}:∀ (P:List Fr) (was x:Nat) (l r:BT),Heap A (ag P (.node x l r))->Heap A (jo P was x l r)
 | [],was,x,l,r,h=>ql h.1 h.2.1 h.2.2.1 h.2.2.2
 | f::P,was,x,l,r,h=>by
  have h0:=tZ h;have h1:Heap A (ag (f::P) (ai x l r)):=vS h (ql h0.1 h0.2.1 h0.2.2.1 h0.2.2.2) (fun y hy=>(jD x l r).mem_iff.1 hy);unfold jo
  split
  ·exact h1
  ·split
   ·rename_i hs
    have e:bf f (ai x l r)=.node f.1 f.2.2 (ai x l r):=by unfold bf;rw [Δ hs]
    unfold ag at h1;rw [e] at h1;exact rE P _ _ _ _ h1
   ·rename_i hs
    have e:bf f (ai x l r)=.node f.1 (ai x l r) f.2.2:=by unfold bf;rw [Γ hs]
    unfold ag at h1;rw [e] at h1;exact rE P _ _ _ _ h1
theorem qR:∀ (P:List Fr) (was x:Nat) (l r:BT),Lean l->Lean r->AA P was->Lean (jo P was x l r)
 | [],was,x,l,r,hl,hr,_=>ji hl hr
 | f::P,was,x,l,r,hl,hr,h=>by
  unfold jo
  split
  ·rename_i e
   exact (vG _ _).2 ⟨ji hl hr,by rw [e];exact h⟩
  ·split
   ·exact qR P _ _ _ _ h.1 (ji hl hr) h.2.2
   ·exact qR P _ _ _ _ (ji hl hr) h.1 h.2.2
end Go.Proofs.YtklibcncmbofpaaGreat
namespace Go.Proofs.YtklibcncmbofpaaGreat
open Go Go.RowKit
structure wh (S0:TS) (Kh:Nat->Nat) (T:BT) (X:List Nat) (S:TS) (rk:Nat->Nat) (P:List Fr) (was x:Nat) (l r:BT):Prop where
 I7:bT S (-1) (ag P (.node x l r)).root (ag P (.node x l r))
 perm:(ag P (.node x l r)).nodes.Perm X
 rl:fF rk l
 rr:fF rk r
 rx:rk x=was
 rP:MP rk P was
 far:∀y,y∉X->S0.at S y/\rk y=Kh y
 res:jo P was x l r=T
structure ru (S0:TS) (Kh:Nat->Nat) (T:BT) (X:List Nat) (S:TS) (rk:Nat->Nat):Prop where
 I7:bT S (-1) T.root T
 isR:fF rk T
 far:∀y,y∉X->S0.at S y/\rk y=Kh y
section
variable {S0 S S2:TS} {Kh rk zJ:Nat->Nat} {T:BT} {X:List Nat} {P:List Fr} {was x:Nat} {l r:BT}
theorem wh.parts (h:wh S0 Kh T X S rk P was x l r) (hX:X.Nodup):x∈X/\(BT.node x l r).nodes.Nodup/\(∀y,y∈(BT.node x l r).nodes->y∈X)/\(∀y,y∈cK P->y≠x/\y∈X)/\(cK P).Nodup:=by
 have hp:=(aW P (.node x l r)).symm.trans h.perm;have hn:=hp.nodup_iff.2 hX;rw [θ] at hn;refine ⟨hp.mem_iff.1 (by simp [BT.nodes]),hn.1,fun y hy=>hp.mem_iff.1 (List.mem_append_left _ hy),fun y hy=>⟨fun e=>hn.2.2 x (by simp [BT.nodes]) y hy e.symm,hp.mem_iff.1 (List.mem_append_right _ hy)⟩,hn.2.1⟩
theorem wh.settled (h:wh S0 Kh T X S rk P was x l r) (hX:X.Nodup) (q9:bT S2 (BD P) x (ai x l r)) (hs:∀y,y≠x->S.at S2 y) (hk:∀y,y≠x->zJ y=rk y) :
  bT S2 (-1) (ag P (ai x l r)).root (ag P (ai x l r))/\MP zJ P was/\(∀y,y∉X->S0.at S2 y/\zJ y=Kh y)/\(ag P (ai x l r)).nodes.Perm X:=by
 obtain ⟨p1,p2,p3,p4,p5⟩:=h.parts hX;refine ⟨(cZ _ _).2 ⟨by rw [iE];exact q9,?_⟩,h.rP.frame (fun y hy=>hk y (p4 y hy).1),fun y hy=>?_,?_⟩
 ·have:=((cZ _ _).1 h.I7).2;rw [iE];exact this.frame (fun y hy=>hs y (p4 y hy).1)
 ·have hne:y≠x:=fun e=>hy (by rw [e];exact p1);have a1:=h.far y hy;have a2:=hs y hne;exact ⟨⟨a2.1.trans a1.1.1,a2.2.1.trans a1.1.2.1,a2.2.2.trans a1.1.2.2⟩,(hk y hne).trans a1.2⟩
 ·exact (aW P _).trans (((jD x l r).append_right _).trans ((aW P (.node x l r)).symm.trans h.perm))
theorem wh.stay (h:wh S0 Kh T X S rk P was x l r) (hX:X.Nodup) (q9:bT S2 (BD P) x (ai x l r)) (hr2:fF zJ (ai x l r)) (hs:∀y,y≠x->S.at S2 y) (hk:∀y,y≠x->zJ y=rk y)
  (e:(ai x l r).rank=was):ru S0 Kh T X S2 zJ:=by
 obtain ⟨a1,a2,a3,a4⟩:=h.settled hX q9 hs hk;have hT:T=ag P (ai x l r):=by
  rw [←h.res];cases P with
  | nil=>rfl
  | cons f P=>unfold jo;rw [Δ e]
 rw [hT];exact ⟨a1,(Cs _ _).2 ⟨hr2,by rw [e];exact a2⟩,a3⟩
theorem wh.top (h:wh S0 Kh T X S rk [] was x l r) (hX:X.Nodup) (q9:bT S2 (BD []) x (ai x l r)) (hr2:fF zJ (ai x l r)) (hs:∀y,y≠x->S.at S2 y) (hk:∀y,y≠x->zJ y=rk y) :
  ru S0 Kh T X S2 zJ:=by
 obtain ⟨a1,a2,a3,a4⟩:=h.settled hX q9 hs hk;have hT:T=ag [] (ai x l r):=by rw [←h.res];rfl
 rw [hT];exact ⟨a1,hr2,a3⟩
theorem wh.up {f:Fr} (h:wh S0 Kh T X S rk (f::P) was x l r) (hX:X.Nodup) (q9:bT S2 (BD (f::P)) x (ai x l r)) (hr2:fF zJ (ai x l r)) (hs:∀y,y≠x->S.at S2 y) (hk:∀y,y≠x->zJ y=rk y)
  (e:(ai x l r).rank≠was):∃l' r',wh S0 Kh T X S2 zJ P (jF f was) f.1 l' r':=by
 obtain ⟨a1,a2,a3,a4⟩:=h.settled hX q9 hs hk;have hres:=h.res;unfold jo at hres;rw [Γ e] at hres;unfold ag at a1 a4
 by_cases hsd:f.2.1=true
 ·rw [Δ hsd] at hres;have e1:bf f (ai x l r)=.node f.1 f.2.2 (ai x l r):=by unfold bf;rw [Δ hsd]
  rw [e1] at a1 a4;exact ⟨_,_,a1,a4,a2.1,hr2,a2.2.1,a2.2.2,a3,hres⟩
 ·rw [Γ hsd] at hres;have e1:bf f (ai x l r)=.node f.1 (ai x l r) f.2.2:=by unfold bf;rw [Γ hsd]
  rw [e1] at a1 a4;exact ⟨_,_,a1,a4,hr2,a2.1,a2.2.1,a2.2.2,a3,hres⟩
end
theorem J4:∀ {P:List Fr},(cK P).Nodup->(P.map (·.1)).Nodup/\∀y,y∈P.map (·.1)->y∈cK P
 | [],_=>⟨Ϩ,fun y hy=>by cases hy⟩
 | f::P,h=>by
  simp only [cK,Ζ,τ,not_or,θ] at h;obtain ⟨h1,h2⟩:=J4 (P:=P) h.2.2.1;refine ⟨List.nodup_cons.2 ⟨fun hm=>h.1.2 (h2 _ hm),h1⟩,fun y hy=>?_⟩;simp only [List.map_cons,ρ] at hy;rcases hy with rfl|hy
  ·simp [cK]
  ·simp [cK,h2 y hy]
theorem Io {L done rest:List Nat} {x:Nat} (hL:L.Nodup) (e:L=done++x::rest):L.idxOf x=done.length/\done.length<L.length:=by
 subst e;have hx:x∉done:=fun hm=>by
  rw [θ] at hL;exact hL.2.2 x hm x σ rfl
 refine ⟨by rw [List.idxOf_append,Γ hx];simp,σ⟩
section
variable {w:World} {B:LB} {F:List Nat} {gt ct:Nat} {A:NS} {st:Nat} {S:TS} {rk:Nat->Nat} {af:List Int}
theorem AX (h:jO w B F gt ct A st S rk af) {P:List Fr} {was x:Nat} {l r:BT} (hM:wh S rk (jo P was x l r) (ag P (.node x l r)).nodes S rk P was x l r) (hX:(ag P (.node x l r)).nodes.Nodup)
  (hlt:∀y,y∈(ag P (.node x l r)).nodes->y<A.cs.length) :
  Calls Tryz.prog 245 #[.pointer (some ⟨B.n0,0,none⟩),.int .i64 (x:Int)] w fun e w'=>e=.returned (.tuple #[])/\aa [B.ba,B.br] w w'/\
   ∃S' pX,jO w' B F gt ct A st S' pX af/\ru S rk (jo P was x l r) (ag P (.node x l r)).nodes S' pX:=by
 generalize hT:jo P was x l r=T at *;generalize hXX:(ag P (.node x l r)).nodes=X at *;have hL:(x::P.map (·.1)).Nodup:=by
  obtain ⟨p1,p2,p3,p4,p5⟩:=hM.parts hX;obtain ⟨q1,q2⟩:=J4 p5;exact List.nodup_cons.2 ⟨fun hm=>(p4 x (q2 x hm)).1 rfl,q1⟩
 generalize hLL:x::P.map (·.1)=L at *;have hblk:=h.lt;have su:=h.cF;have hs:=χ h.sep;have hA:=h.cells.ok.c1;have Vp:=χ h;have MM:=χ hM;have HX:=χ hX;have HL:=χ hL;have HLL:=χ hLL;have Ur:=χ hlt;clear h hM hX hL hlt hT hXX hblk hLL
 go_enter Tryz.func245,Tryz.ntmps245
 go_wp2
 go_loopw [1] (fun a wr=>∃ (S1:TS) (XM:Nat->Nat),jO wr B F gt ct A st S1 XM af/\aa [B.ba,B.br] w wr/\((∃ (P1:List Fr) (KF x1:Nat) (l1 r1:BT) (dn:List Nat),a=.int .i64 (x1:Int)/\L=dn++x1::P1.map (·.1)/\wh S rk T X S1 XM P1 KF x1 l1 r1)\/(a=.int .i64 (-1)/\ru S rk T X S1 XM))) (fun a _=>if intOf a=-1 then 0 else L.length-L.idxOf (intOf a).toNat)
 case atStart=>exact ⟨S,rk,Vp.out,aa.refl _ _,Α ⟨P,was,x,l,r,[],rfl,HLL.out.symm,MM.out⟩⟩
 case round=>
  obtain ⟨S1,XM,hM,hu,hor⟩:=hrel;rename World=>w5;rcases hor with ⟨P1,KF,x1,l1,r1,dn,rfl,hLe,hMe⟩|⟨rfl,hE⟩
  ·have hxb:((x1:Int) != -1)=true:=σ;obtain ⟨p1,p2,p3,p4,p5⟩:=hMe.parts HX.out;have hx1:=Ur.out x1 p1;have h0:=hM.h0;have h2:=hM.h2;have d0:=hM.ranks.cell x1 hx1;have ex:=hMe.rx;rw [ex] at d0;have hT1:=((cZ _ _).1 hMe.I7).1;have ks:=oz hM (p:=BD P1) hT1 hMe.rl hMe.rr p2 (fun y hy=>Ur.out y (p3 y hy));have ME:=χ hMe;have HLe:=χ hLe;have hu1:S1.u x1=BD P1:=hT1.2.1;have HPU:=χ hu1;clear hMe p1 p2 p3 p4 p5 hT1 hM ex hLe hu1
   go_wp2_with fail
   refine ks.mono ?_;rintro e w7 ⟨rfl,pV,S3,PK,FT,QQ,Q7,hs7,hsu,UC⟩;have e7:PK x1=(ai x1 l1 r1).rank:=by
    have:=Q7.root (by unfold ai;split<;>simp);rw [iE] at this;simpa using this
   have g2:=FT.h2;have g1:=FT.h1;have d7:=FT.ranks.cell x1 hx1;rw [e7] at d7;have Y0:S3.u x1=BD P1:=hsu.trans HPU.out;have ku:=Nq B.bt B.ba A.cs.length S3 (x1:Int) w7 FT.trees;rw [show oK A.cs.length S3 (x1:Int)=BD P1 by unfold oK;rw [Δ ω];simpa using Y0] at ku;have VF:=χ FT;have xe:=χ (ψ QQ (ψ Q7 (ψ hs7 UC)));have UU:=χ (hu.trans pV);have ZJ:∃k3,(ai x1 l1 r1).rank=k3:=⟨_,rfl⟩;obtain ⟨k3,ZJ⟩:=ZJ;rw [ZJ] at d7;have HRK:=χ ZJ;clear FT QQ Q7 hs7 UC hu pV hsu Y0 e7 ks h0 h2 d0 ZJ HPU
   by_cases he:k3=KF
   ·have hb:((k3:Int) == (KF:Int))=true:=by rw [he];simp
    go_wp2;exact bodyPost_ret (v:=.tuple #[]) (by simp [results,Tryz.results245,go_sem]) rfl ⟨rfl,UU.out,S3,PK,VF.out,ME.out.stay HX.out xe.out.1 xe.out.2.1 xe.out.2.2.1 xe.out.2.2.2 (HRK.out.trans he)⟩
   ·have hb:((k3:Int) == (KF:Int))=false:=ζ;have HNE:=χ (show (ai x1 l1 r1).rank≠KF from fun e=>he (HRK.out.symm.trans e));generalize hz:BD P1=z at *;clear he
    go_wp2_with (first
     | (go_at_call 250;(with_reducible refine (ku).mono ?_);rintro e w8 ⟨rfl,kk,rfl⟩)
     | (go_at_call 247;(with_reducible refine (lW _ _).mono ?_);rintro e w9 ⟨rfl,aS⟩;rw [aS];clear aS w9)
     | fail)
    cases P1 with
    | nil=>
     subst hz;refine ⟨⟨S3,PK,VF.out.ae ((aa.refl _ _).drewN kk),UU.out.drewN kk,Β ⟨rfl,ME.out.top HX.out xe.out.1 xe.out.2.1 xe.out.2.2.1 xe.out.2.2.2⟩⟩,?_⟩;have hi:=Io HL.out HLe.out
     show (if ((-1:Int))=-1 then 0 else _)<(if ((x1:Int))=-1 then 0 else L.length-L.idxOf ((x1:Int)).toNat)
     rw [Δ rfl,Γ ω,π,hi.1];omega
    | cons f P2=>
     subst hz;obtain ⟨l2,r2,hM2⟩:=ME.out.up HX.out xe.out.1 xe.out.2.1 xe.out.2.2.1 xe.out.2.2.2 HNE.out;refine ⟨⟨S3,PK,VF.out.ae ((aa.refl _ _).drewN kk),UU.out.drewN kk,Α ⟨P2,_,f.1,l2,r2,dn++[x1],rfl,by rw [HLe.out];simp,hM2⟩⟩,?_⟩;have hi:=Io HL.out HLe.out;have hi2:=Io (done:=dn++[x1]) (x:=f.1) (rest:=P2.map (·.1)) HL.out (by rw [HLe.out];simp)
     show (if ((f.1:Int))=-1 then 0 else L.length-L.idxOf ((f.1:Int)).toNat)<(if ((x1:Int))=-1 then 0 else L.length-L.idxOf ((x1:Int)).toNat)
     rw [Γ ω,Γ ω,π,π,hi.1,hi2.1];rw [υ,List.length_singleton] at hi2 ⊢;omega
  ·go_wp2
   (first|go_end0|go_ret)
   exact ⟨rfl,hu,S1,XM,hM,hE⟩
end
end Go.Proofs.YtklibcncmbofpaaGreat
namespace Go.Proofs.YtklibcncmbofpaaGreat
theorem Heap.frame {A A':NS}:∀ {t:BT},Heap A t->(∀x,x∈t.nodes->A'.c x=A.c x)->Heap A' t
 | .nil,_,_=>trivial
 | .node x l r,h,hs=>by
  have hx:=hs x (by simp [BT.nodes]);refine ⟨fun y hy=>(gB hx (hs y (by simp [BT.nodes,hy]))).2 (h.1 y hy),fun y hy=>(gB hx (hs y (by simp [BT.nodes,hy]))).2 (h.2.1 y hy),h.2.2.1.frame (fun y hy=>hs y (by simp [BT.nodes,hy])),h.2.2.2.frame (fun y hy=>hs y (by simp [BT.nodes,hy]))⟩
structure Q3 where
 H:NS->BT->Prop
 frame:∀ {A A':NS} {t:BT},H A t->(∀x,x∈t.nodes->A'.c x=A.c x)->H A' t
 nil:∀A,H A .nil
abbrev heapK:Q3:=⟨Heap,Heap.frame,fun _=>trivial⟩
structure wU (K:Q3) (A:NS) (S:TS) (af:List Int) (tr:Nat->BT):Prop where
 top:∀h,h<A.hs.length->af.getD h 0=(tr h).root
 I7:∀h,bT S (-1) (tr h).root (tr h)
 mem:∀h x,x∈(tr h).nodes↔0<h/\x<A.cs.length/\(A.c x).i=h
 nd:∀h,(tr h).nodes.Nodup
 heap:∀h,K.H A (tr h)
 free:∀x,x<A.cs.length->(A.c x).i=0->S.l x=-1/\S.r x=-1/\S.u x=-1
abbrev Z7:=wU heapK
theorem wU.next {K:Q3} {A A':NS} {S S':TS} {af og:List Int} {tr LC:Nat->BT} (h:wU K A S af tr) (hc:A'.cs.length=A.cs.length) (keep:Nat->Prop)
  (k1:∀g,keep g->LC g=tr g/\∀x,x∈(tr g).nodes->S.at S' x/\A'.c x=A.c x)
  (k2:∀g,keep g->∀x,x<A.cs.length->0<g->((A'.c x).i=g↔(A.c x).i=g))
  (n1:∀g,¬keep g->bT S' (-1) (LC g).root (LC g)/\(LC g).nodes.Nodup/\K.H A' (LC g)/\∀x,x∈(LC g).nodes↔0<g/\x<A.cs.length/\(A'.c x).i=g)
  (tp:∀g,g<A'.hs.length->og.getD g 0=(LC g).root)
  (fr:∀x,x<A.cs.length->(A'.c x).i=0->S'.l x=-1/\S'.r x=-1/\S'.u x=-1):wU K A' S' og LC:=by
 refine ⟨tp,fun g=>?_,fun g x=>?_,fun g=>?_,fun g=>?_,fun x hx=>fr x ω⟩
 ·by_cases hk:keep g
  ·obtain ⟨e,hs⟩:=k1 g hk;rw [e];exact (h.I7 g).frame (fun y hy=>(hs y hy).1)
  ·exact (n1 g hk).1
 ·rw [hc]
  by_cases hk:keep g
  ·rw [(k1 g hk).1,h.mem g x];constructor
   ·rintro ⟨a,b,c⟩;exact ⟨a,b,(k2 g hk x b a).2 c⟩
   ·rintro ⟨a,b,c⟩;exact ⟨a,b,(k2 g hk x b a).1 c⟩
  ·exact (n1 g hk).2.2.2 x
 ·by_cases hk:keep g
  ·rw [(k1 g hk).1];exact h.nd g
  ·exact (n1 g hk).2.1
 ·by_cases hk:keep g
  ·obtain ⟨e,hs⟩:=k1 g hk;rw [e];exact K.frame (h.heap g) (fun y hy=>(hs y hy).2)
  ·exact (n1 g hk).2.2.1
def single (x:Nat):BT:=.node x .nil .nil
theorem sU {S:TS} {x:Nat} (h:S.l x=-1/\S.r x=-1/\S.u x=-1):bT S (-1) (single x).root (single x):=⟨rfl,h.2.2,h.1,h.2.1⟩
theorem wU.out {K:Q3} {A:NS} {S:TS} {af:List Int} {tr:Nat->BT} (h:wU K A S af tr) {x g:Nat} (hx:(A.c x).i=0):x∉(tr g).nodes:=fun hm=>by
 have:=(h.mem g x).1 hm;omega
theorem wU.put {K:Q3} {A:NS} {S S':TS} {af:List Int} {tr:Nat->BT} (h:wU K A S af tr) (ok:A.Ok) (hn:af.length=A.hs.length) {g x:Nat} {k s:Int} (hB:iM A g x=true) {t':BT}
  (hT:bT S' (-1) t'.root t') (hp:t'.nodes.Perm ((tr g).nodes++[x])) (hH:K.H (az A g x k s) t') (hs:∀y,y∉(tr g).nodes++[x]->S.at S' y) :
  wU K (az A g x k s) S' (af.set g t'.root) (fun q=>if q=g then t' else tr q):=by
 obtain ⟨b1,b2,b3⟩:=(bX _ _ _).1 hB;have b4:=(aQ _ _).1 b1;have hx:x<A.cs.length:=by have:=(dE _ _).1 b2;omega
 have h0:(A.c x).i=0:=by
  have:=(ok.nat x hx).1;have h3:¬ (0<(A.c x).i):=fun h'=>by rw [(aj A x).2 ⟨hx,h'⟩] at b3;cases b3
  omega
 have hc:∀y,(az A g x k s).c y=if y=x then ⟨g,k,s⟩ else A.c y:=fun y=>by
  unfold az;rw [Δ hB,π,iN]
  by_cases e:y=x
  ·rw [Δ ⟨e,hx⟩,Δ e]
  ·rw [Γ (fun h=>e h.1),Γ e]
 have hl:(az A g x k s).cs.length=A.cs.length:=by unfold az;rw [Δ hB,fq]
 have hh:(az A g x k s).hs=A.hs:=by unfold az;rw [Δ hB];rfl
 have hgn:g<A.hs.length:=ω;refine h.next hl (fun q=>q≠g) (fun q hq=>⟨Γ hq,fun y hy=>?_⟩) (fun q hq y hy hq0=>?_) (fun q hq=>?_) (fun q hq=>?_) (fun y hy hy0=>?_)
 ·have hyx:y≠x:=fun e=>h.out (g:=q) h0 (by rw [←e];exact hy);have hyg:y∉(tr g).nodes:=fun hm=>by
   have a1:=(h.mem g y).1 hm;have a2:=(h.mem q y).1 hy;omega
  exact ⟨hs y (by simp [hyx,hyg]),by rw [hc,Γ hyx]⟩
 ·rw [hc]
  by_cases e:y=x
  ·rw [Δ e,e];simp only;omega
  ·rw [Γ e]
 ·have hq':q=g:=Classical.not_not.1 hq;subst hq';rw [Δ rfl];refine ⟨hT,hp.nodup_iff.2 ?_,hH,fun y=>?_⟩
  ·rw [θ];refine ⟨h.nd q,σ,fun a ha b hb e=>?_⟩;simp only [ϕ] at hb;exact h.out (g:=q) h0 (by rw [←hb,←e];exact ha)
  ·rw [hp.mem_iff,τ,ϕ,h.mem q y,hc]
   by_cases e:y=x
   ·rw [Δ e];simp only [e,or_true,true_iff];exact ⟨ω,hx,trivial⟩
   ·rw [Γ e];simp only [e,or_false]
 ·rw [hh] at hq
  by_cases e:q=g
  ·rw [Δ e,e,φ,ύ,Δ rfl,Δ ω];rfl
  ·rw [Γ e,φ,ύ,Γ (fun h=>e h.symm),←φ];exact h.top q hq
 ·rw [hc] at hy0
  by_cases e:y=x
  ·rw [Δ e] at hy0;simp only at hy0;omega
  ·rw [Γ e] at hy0;have hyn:y∉(tr g).nodes++[x]:=by
    simp only [τ,ϕ,e,or_false];exact h.out hy0
   have a1:=h.free y hy hy0;have a2:=hs y hyn;exact ⟨a2.1.trans a1.1,a2.2.1.trans a1.2.1,a2.2.2.trans a1.2.2⟩
theorem Cv {K:Q3} (n:Nat):wU K (NS.new n) TS.none [-1] (fun _=>BT.nil):=by
 refine ⟨fun h hh=>?_,fun h=>rfl,fun h x=>?_,fun h=>Ϩ,fun h=>K.nil _,fun x hx _=>⟨rfl,rfl,rfl⟩⟩
 ·have:h=0:=by simp [NS.new] at hh;exact hh
  subst this;rfl
 ·rw [NS.wL];simp only [BT.nodes,ς,false_iff,Cl.z];omega
theorem wU.make {K:Q3} {A:NS} {S:TS} {af:List Int} {tr:Nat->BT} (h:wU K A S af tr) (ok:A.Ok) (hn:af.length=A.hs.length) (hl:¬65536<A.hs.length)  :wU K (aC A) S (af++[-1]) tr:=by
 have hc:(aC A).cs=A.cs:=by unfold aC;rw [Γ hl]
 have hh:(aC A).hs=A.hs++[true]:=by unfold aC;rw [Γ hl]
 have hcc:∀x,(aC A).c x=A.c x:=fun x=>by unfold NS.c;rw [hc]
 refine h.next (by rw [hc]) (fun _=>True) (fun g _=>⟨rfl,fun x _=>⟨⟨rfl,rfl,rfl⟩,hcc x⟩⟩) (fun g _ x _ _=>by rw [hcc]) (fun g hg=>absurd trivial hg) (fun g hg=>?_) (fun x hx h0=>h.free x hx (by rw [hcc] at h0;exact h0));rw [hh,υ,List.length_singleton] at hg
 by_cases e:g<A.hs.length
 ·rw [φ,Ρ ω,←φ];exact h.top g e
 ·have e2:g=af.length:=ω;have hnil:tr g=.nil:=by
   cases ht:tr g with
   | nil=>rfl
   | node x l r=>
    have hm:=(h.mem g x).1 (by rw [ht];simp [BT.nodes]);have:=(ok.nat x hm.2.1).2;omega
  rw [φ,e2,ϊ (Θ _)];rw [←e2,hnil];simp [BT.root]
end Go.Proofs.YtklibcncmbofpaaGreat
namespace Go.Proofs.YtklibcncmbofpaaGreat
open Go Go.RowKit
def mH (w:World) (B:LB) (F:List Nat) (gt ct:Nat) (A:NS) (st:Nat) (tr:Nat->BT):Prop:=
 ∃S rk af,jO w B F gt ct A st S rk af/\Z7 A S af tr/\(∀h,Lean (tr h))/\(∀h,fF rk (tr h))
theorem mH.upd {w w':World} {B:LB} {F:List Nat} {gt ct:Nat} {A:NS} {st:Nat} {tr:Nat->BT} {G:List Nat} (h:mH w B F gt ct A st tr) (hu:aa G w w') (hG:∀x,x∈G->x∉B.blk F gt):mH w' B F gt ct A st tr:=by
 obtain ⟨S,rk,af,hM,h1,h2,h3⟩:=h;exact ⟨S,rk,af,hM.upd hu hG,h1,h2,h3⟩
theorem mH.ae {w w':World} {B:LB} {F:List Nat} {gt ct:Nat} {A:NS} {st:Nat} {tr:Nat->BT} (h:mH w B F gt ct A st tr) (hu:aa [] w w'):mH w' B F gt ct A st tr:=h.upd hu σ
section
variable {w:World} {B:LB} {F:List Nat} {gt ct:Nat} {A:NS} {st:Nat} {tr:Nat->BT}
theorem Ec (h:mH w B F gt ct A st tr) (hh x:Nat) (k s:Int) (hk:-9223372036854775808<=k/\k<=9223372036854775807/\0<=s/\s<=18446744073709551615) (hB:iM A hh x=true) :
  Calls Tryz.prog 240 #[.pointer (some ⟨B.n0,0,none⟩),.int .i64 (hh:Int),.int .i64 (x:Int),.agg #[.int .i64 k,.int .u64 s]] w fun e w'=>e=.returned (.bool true)/\aa (B.blk F gt) w w'/\
   mH w' B F gt ct (az A hh x k s) (dF st (aH ai (az A hh x k s) (tr hh) (single x)).2) (fun q=>if q=hh then (aH ai (az A hh x k s) (tr hh) (single x)).1 else tr q):=by
 obtain ⟨S,rk,af,hM,hI,hL,hR⟩:=h;have hlt:=hM.lt;have ok:=hM.cells.ok;have ok':=rD ok hh x k s hk;obtain ⟨b1,b2,b3⟩:=(bX _ _ _).1 hB;have b4:=(aQ _ _).1 b1;have hx:x<A.cs.length:=by have:=(dE _ _).1 b2;omega
 have Na:(A.c x).i=0:=by
  have:=(ok.nat x hx).1;have h3:¬ (0<(A.c x).i):=fun h'=>by rw [(aj A x).2 ⟨hx,h'⟩] at b3;cases b3
  omega
 have hcs:(az A hh x k s).cs.length=A.cs.length:=by unfold az;rw [Δ hB,fq]
 have nG:(az A hh x k s).hs.length=A.hs.length:=by unfold az;rw [Δ hB];rfl
 have hcx:∀y,(az A hh x k s).c y=if y=x then ⟨hh,k,s⟩ else A.c y:=fun y=>by
  unfold az;rw [Δ hB,π,iN]
  by_cases e:y=x
  ·rw [Δ ⟨e,hx⟩,Δ e]
  ·rw [Γ (fun h=>e h.1),Γ e]
 have tY:x∉(tr hh).nodes:=hI.out Na;have hX:((tr hh).nodes++(single x).nodes).Nodup:=by
  rw [θ];refine ⟨hI.nd hh,by simp [single,BT.nodes],fun a ha b hb e=>?_⟩;simp only [single,BT.nodes,Υ,ϕ] at hb;exact tY (by rw [←hb,←e];exact ha)
 have hin:∀y,y∈(tr hh).nodes++(single x).nodes->bV (az A hh x k s) (y:Int)=true:=fun y hy=>by
  rw [aj,hcs,hcx];simp only [single,BT.nodes,Υ,τ,ϕ] at hy
  by_cases e:y=x
  ·rw [Δ e,e];exact ⟨hx,by show (0:Int)<(hh:Int);omega⟩
  ·rw [Γ e];have:=(hI.mem hh y).1 (hy.resolve_right e);exact ⟨this.2.1,ω⟩
 have UA:Heap (az A hh x k s) (tr hh):=(hI.heap hh).frame (fun y hy=>by rw [hcx,Γ (fun e=>tY (by rw [←e];exact hy))]);obtain ⟨mp,mh⟩:=qg nY (az A hh x k s) _ (tr hh) (single x) (Θ _);have VZ:=mh UA ⟨by simp [BT.nodes],by simp [BT.nodes],trivial,trivial⟩ hX;have ml:=yC (az A hh x k s) _ (tr hh) (single x) (Θ _) (hL hh) ⟨Θ _,trivial,trivial⟩;have hfr:=hI.free x hx Na
 have FI:Hid (∀ (W:World) (S':TS) (pX:Nat->Nat) (st':Nat),jO W B F gt ct (az A hh x k s) st' S' pX (af.set hh (aH ai (az A hh x k s) (tr hh) (single x)).1.root)->bT S' (-1) (aH ai (az A hh x k s) (tr hh) (single x)).1.root (aH ai (az A hh x k s) (tr hh) (single x)).1->fF pX (aH ai (az A hh x k s) (tr hh) (single x)).1->
   (∀y,y∉(tr hh).nodes++(single x).nodes->S.at S' y/\pX y=rk y)->mH W B F gt ct (az A hh x k s) st' (fun q=>if q=hh then (aH ai (az A hh x k s) (tr hh) (single x)).1 else tr q)):=fun W S' pX st' a1 a2 a3 a4=>by
  refine ⟨S',pX,_,a1,hI.put ok hM.jA hB a2 mp VZ (fun y hy=>(a4 y hy).1),fun q=>?_,fun q=>?_⟩
  ·show Lean (if q=hh then _ else _)
   split
   ·exact ml
   ·exact hL q
  ·show fF pX (if q=hh then _ else _)
   split
   ·exact a3
   ·rename_i hq
    refine (hR q).frame (fun y hy=>(a4 y (fun hm=>?_)).2);simp only [single,BT.nodes,Υ,τ,ϕ] at hm;rcases hm with hm|hm
    ·have c1:=(hI.mem hh y).1 hm;have c2:=(hI.mem q y).1 hy;omega
    ·exact hI.out (g:=q) Na (by rw [←hm];exact hy)
 have T9:=hI.I7 hh;have hRh:=hR hh;have htop:=hI.top hh ω;have hgn:hh<af.length:=by rw [hM.jA];omega
 have u1:aa [] w (w.alloc (.cells #[.int .i64 k,.int .u64 s] 129)):=(aa.refl _ _).alloc _;have kp:=fun W (hW:aa [] (w.alloc (.cells #[.int .i64 k,.int .u64 s] 129)) W)=>l9 (hM.cells.ae (u1.trans hW)) hh x k s hk hB;have h0:=hM.h0;have wC:B.n0∉F:=hM.bI.1;have hsz:w.heap.size∉F:=fun hm=>by have:=hlt w.heap.size (by simp [LB.blk,hm]);omega
 have r0:∀W,aa F (w.alloc (.cells #[.int .i64 k,.int .u64 s] 129)) W->W.cell? ⟨B.n0,0,none⟩=some (.pointer (some ⟨B.c,0,none⟩)):=fun W hW=>hW.kept (u1.was h0) wC;have r1:∀W,aa F (w.alloc (.cells #[.int .i64 k,.int .u64 s] 129)) W->W.cell? ⟨w.heap.size,0,none⟩=some (.int .i64 k):=fun W h=>h.kept σ hsz;have r2:∀W,aa F (w.alloc (.cells #[.int .i64 k,.int .u64 s] 129)) W->W.cell? ⟨w.heap.size,1,none⟩=some (.int .u64 s):=fun W h=>h.kept σ hsz;have HM:=χ hM;have HH:=χ (ψ hX (ψ hin (ψ T9 (ψ hRh hfr))));have Ur:=χ hlt;have HSE:=χ (ψ hM.sep hM.bI);have hA:=ok.c1;have XZ:=ok.h1;have HXN:=χ tY
 clear hM hI hL hR ok ok' b1 b2 b3 Na hcx tY hX hin UA mp mh VZ ml hfr h0 hlt T9 hRh;generalize hA':az A hh x k s=A' at *;generalize htr:tr hh=th at *
 go_enter Tryz.func240,Tryz.ntmps240
 go_wp2
 go_region_held3 (aa F (w.alloc (.cells #[.int .i64 k,.int .u64 s] 129))) (exact ν)
  ((go_at_call 154;(with_reducible refine (kp _ β).mono ?_);rintro e w1 ⟨rfl,jN,hu1⟩;(have hu2:aa F (w.alloc (.cells #[.int .i64 k,.int .u64 s] 129)) w1:=ν)))
 have uF:aa F w (w.alloc (.cells #[.int .i64 k,.int .u64 s] 129)):=u1.mono σ;have hM1:=HM.out.fH (uF.trans hu2) jN (fun y hy=>Α hy) hcs nG;have h2:=hM1.h2;have dR:=hM1.ranks.cell x (by rw [hcs];exact hx);have fR:=hM1.ranks.free x;have hw1:aa F w w1:=uF.trans hu2;have pR:=χ hM1;clear r0 r1 r2 kp hu1 hu2 jN hM1 uF;rw [hcs] at h2;go_wp2;obtain ⟨w2,hw2⟩:∃w2,w2=w1.setCell ⟨B.br,x,none⟩ (.int .i64 1):=⟨_,rfl⟩;have u2:aa [B.br] w1 w2:=by rw [hw2];exact β
 have hM2:jO w2 B F gt ct A' st S (fun y=>if y=x then 1 else rk y) af:=by rw [hw2];exact pR.out.dw x 1
 rw [←hw2];clear hw2 pR h2 dR fR;have km:=fun W (hW:aa [] w2 W)=>yB (hM2.ae hW) HH.out.2.2.1 (sU HH.out.2.2.2.2) HH.out.1 HH.out.2.1 (HH.out.2.2.2.1.frame (fun y hy=>Γ (fun e=>HXN.out (by rw [←e];exact hy)))) ⟨by simp [BT.rank],trivial,trivial⟩;rw [show (single x).root=(x:Int) from rfl] at km;have d4:=hM2.jC.cell hh hgn;rw [htop] at d4;have f4:=hM2.jC.free hh;have h3:=hM2.h3;have hg:=hM2.lt gt (by simp [LB.blk]);have vv:=χ hM2;have Q9:B.n0∉[B.c,B.ba,B.br,gt]:=by
  have a1:=HSE.out;have a2:B.n0≠B.c:=fun e=>a1.2.1 (by rw [e];exact HM.out.cF);simp;omega
 have hgc:gt∉[B.c,B.ba,B.br]:=by
  have a1:=HSE.out;have a2:gt≠B.c:=fun e=>a1.2.2.2.2.2 (by rw [e];exact HM.out.cF);simp;omega
 have r3:∀W,aa [B.c,B.ba,B.br,gt] w2 W->W.cell? ⟨B.n0,3,none⟩=some (.slice (some ⟨gt,0,none⟩) af.length ct):=fun W hW=>hW.kept h3 Q9;have r4:∀W,aa [B.c,B.ba,B.br] w2 W->W.cell? ⟨gt,hh,none⟩=some (.int .i64 th.root)/\W.frozen? ⟨gt,hh,none⟩=false:=fun W hW=>⟨hW.kept d4 hgc,hW.aP d4 hgc f4⟩
 have IA:(0:Int)<=(hh:Int):=ω;have J7:(hh:Int)<(af.length:Int):=ω;have MG:Hid (aH ai A' th (single x)=aH ai A' th (single x)):=rfl;generalize hmt:(aH ai A' th (single x)).1=mt at *;generalize hmk:(aH ai A' th (single x)).2=mk at *;clear hM2 f4 h3 MG;have q3:=r3 _ (aa.refl _ _);have q4:=(r4 _ (aa.refl _ _)).1
 go_region_law
  (first
   | (go_simp;go_at_call 246;(with_reducible refine (km _ β).mono ?_);rintro e w5 ⟨rfl,CO,S5,XQ,Dk,MV,NF,hs5⟩;(have dJ:aa [B.c,B.ba,B.br] w2 w5:=aa.trans β CO);(have gX:aa [B.c,B.ba,B.br,gt] w2 w5:=dJ.mono σ);obtain ⟨d5,f5⟩:=r4 _ dJ;(have q5:=r3 _ gX)))
 all_goals
  go_wp2;go_ret;have su:=HM.out.cF;have v1:aa (B.blk F gt) w w1:=hw1.mono (fun y hy=>by simp only [LB.blk,ρ];simp [hy]);have v2:aa (B.blk F gt) w w2:=v1.trans (u2.mono (fun y hy=>by simp at hy;simp [LB.blk,hy]))
  have v3:aa (B.blk F gt) w w5:=v2.trans (dJ.mono (fun y hy=>by
   simp only [ρ,ς,or_false] at hy;simp only [LB.blk,ρ];rcases hy with rfl|rfl|rfl
   ·simp [su]
   ·simp
   ·simp))
  subst hmt hmk;refine ⟨rfl,v3.setCell (Α (by simp [LB.blk])) _,FI.out _ S5 XQ _ (Dk.tH hh _) MV NF (fun y hy=>⟨(hs5 y hy).1,?_⟩)⟩;rw [(hs5 y hy).2,Γ (fun e=>hy (by rw [e];simp [single,BT.nodes]))]
end
theorem PE (n j:Nat) (hj:j<n):(madeCells #[Value.int .i64 0] (n*1)).toList.getD j undef=.int .i64 0:=by
 rw [φ,ε (by simp [madeCells];omega)];simp [madeCells,Nat.mod_one]
theorem O9 (n:Nat) (w:World) (h:n<=65536) :
  Calls Tryz.prog 100 #[.int .i64 (n:Int)] w fun e w'=>∃B F gt,e=.returned (.tuple #[.pointer (some ⟨B.n0,0,none⟩),.int .i64 0])/\mH w' B F gt 1 (NS.new n) 0 (fun _=>.nil)/\aa [] w w'/\∀x,x∈B.blk F gt->w.heap.size<=x:=by
 go_enter Tryz.func100,Tryz.ntmps100
 go_wp2_with (first
  | ((go_at_call 107;(with_reducible refine (lV n _ h).mono ?_));rintro e w1 ⟨c,F,rfl,hC,hu1,hF⟩)
  | ((go_at_call 112;(with_reducible refine (uE n _ h).mono ?_));rintro e w2 ⟨bt,ba,rfl,hT,hu2,hb1,hb2⟩)
  | (at_make;refine wpList_make_row rfl _ 26 rfl 3 (.int .i64 0) 1 8 Tryz.underlying26 dX n rfl ω μ ?_;intro w3 hr3 hu3))
 go_ret2;have hcs:(NS.new n).cs.length=n:=by simp [NS.new]
 have l1:=hu1.size;have l2:=hu2.size;have l3:=hu3.size;have l4:=hr3.lt;have l5:=hT.head.lt;have l6:=hT.row.lt;have l7:=hC.lt;have lc:=l7 c hC.mem;have e3:((w3.alloc (.cells #[.int .i64 (-1)] 3)).heap.size)=w3.heap.size+1:=by rw [Κ]
 have hv:aa [] w3 (w3.alloc (.cells #[.int .i64 (-1)] 3)):=(aa.refl _ _).alloc _;have hw:aa [] w3 ((w3.alloc (.cells #[.int .i64 (-1)] 3)).alloc (.cells #[.pointer (some ⟨c,0,none⟩),.pointer (some ⟨bt,0,none⟩),.slice (some ⟨w2.heap.size,0,none⟩) n n,.slice (some ⟨w3.heap.size,0,none⟩) 1 1] 231)):=hv.alloc _;have hh:=dC (w3.alloc (.cells #[.int .i64 (-1)] 3)) [.pointer (some ⟨c,0,none⟩),.pointer (some ⟨bt,0,none⟩),.slice (some ⟨w2.heap.size,0,none⟩) n n,.slice (some ⟨w3.heap.size,0,none⟩) 1 1] 231;rw [e3] at hh
 have hi:IZ (w3.alloc (.cells #[.int .i64 (-1)] 3)) w3.heap.size 1 [-1]:=IZ.lit w3 [-1] σ;have hF':∀x,x∈F->x<w1.heap.size:=l7;have hnF:∀x,w1.heap.size<=x->x∉F:=fun x hx hm=>by have:=hF' x hm;omega
 refine ⟨⟨w3.heap.size+1,c,bt,ba,w2.heap.size⟩,F,w3.heap.size,rfl,⟨TS.none,fun _=>0,[-1],⟨by rw [hcs];exact hh,((hC.ae hu2).ae hu3).ae hw,by rw [hcs];exact (hT.upd hu3 σ σ).upd hw σ σ,?_,hi.upd ((aa.refl [] _).alloc _) σ,rfl,⟨hnF _ (by first|omega|(simp only;omega)),hnF _ (by first|omega|(simp only;omega)),hnF _ (by first|omega|(simp only;omega)),hnF _ (by first|omega|(simp only;omega)),hnF _ (by first|omega|(simp only;omega))⟩,⟨⟨by simp only;omega,by simp only;omega,by simp only;omega,by simp only;omega⟩,by simp only;omega,by simp only;omega,by simp only;omega,by simp only;omega,by simp only;omega⟩⟩,Cv n,fun _=>trivial,fun _=>trivial⟩,((hu1.trans hu2).trans hu3).trans hw,fun x hx=>?_⟩
 ·rw [hcs];have:=hr3.upd hw σ;rw [Nat.mul_one] at this;refine this.ext (fun j hj=>?_);have hz:(Value.int .i64 0).cells=#[.int .i64 0]:=rfl;have e:=PE n j hj;rw [Nat.mul_one] at e;rw [hz,e];rfl
 ·simp only [LB.blk,ρ] at hx;rcases hx with rfl|rfl|rfl|rfl|rfl|hx
  ·omega
  ·omega
  ·omega
  ·omega
  ·omega
  ·exact hF x hx
section
variable {w:World} {B:LB} {F:List Nat} {gt ct:Nat} {A:NS} {st:Nat} {tr:Nat->BT}
theorem Qq (h:mH w B F gt ct A st tr) (hl:65536<A.hs.length) :
  Calls Tryz.prog 241 #[.pointer (some ⟨B.n0,0,none⟩)] w fun e w'=>e=.returned (.int .i64 0)/\Goes (B.blk F gt) w w' (fun F'=>∃F1,F'=B.blk F1 gt/\mH w' B F1 gt ct A st tr):=by
 obtain ⟨S,rk,af,hM,hI⟩:=h;have k:=gQ hM.cells;have e1:bS A=0:=by unfold bS;rw [Δ hl]
 have e2:aC A=A:=by unfold aC;rw [Δ hl]
 rw [e1,e2] at k;have h0:=hM.h0;have HM:=χ hM;have HI:=χ hI;clear hM hI e1 e2
 go_enter Tryz.func241,Tryz.ntmps241
 go_wp2_with (first|((go_at_call 156;(with_reducible refine (k).mono ?_));rintro e w1 ⟨rfl,F1,hC,hu,hF⟩))
 go_ret
 exact ⟨rfl,B.blk F1 gt,⟨F1,rfl,S,rk,af,HM.out.fH hu hC hF rfl rfl,HI.out⟩,hu.mono (fun y hy=>by simp [LB.blk,hy]),fun x hx=>by
  simp only [LB.blk,ρ] at hx ⊢;rcases hx with rfl|rfl|rfl|rfl|rfl|hx
  ·simp
  ·simp
  ·simp
  ·simp
  ·simp
  ·rcases hF x hx with h|h
   ·simp [h]
   ·exact Β h⟩
theorem Lc (h:mH w B F gt ct A st tr) (hl:¬65536<A.hs.length) :
  Calls Tryz.prog 241 #[.pointer (some ⟨B.n0,0,none⟩)] w fun e w'=>e=.returned (.int .i64 (A.hs.length:Int))/\Goes (B.blk F gt) w w' (fun F'=>∃F1 nH DK,F'=B.blk F1 nH/\mH w' B F1 nH DK (aC A) st tr):=by
 obtain ⟨S,rk,af,hM,hI,hL,hR⟩:=h;have k:=gQ hM.cells;have e1:bS A=A.hs.length:=by unfold bS;rw [Γ hl]
 rw [e1] at k;have hcs:(aC A).cs.length=A.cs.length:=by unfold aC;rw [Γ hl]
 have nG:(aC A).hs.length=A.hs.length+1:=by unfold aC;rw [Γ hl];simp
 have hI2:=hI.make hM.cells.ok hM.jA hl;have h0:=hM.h0;have hh0:=hM.cells.ok.h0;have HTN:=χ hM.jA;have htb:af.length<=65536:=by rw [hM.jA];omega
 have HM:=χ hM;have HI:=χ (ψ hI2 (ψ hL hR));clear hM hI hL hR e1 hI2
 go_enter Tryz.func241,Tryz.ntmps241
 go_wp2_with (first
  | ((go_at_call 156;(with_reducible refine (k).mono ?_));rintro e w1 ⟨rfl,F1,hC,hu,hF⟩;(have d3:=hu.kept HM.out.h3 HM.out.bI.1);(have f3:=hu.aP HM.out.h3 HM.out.bI.1 (HM.out.head.free 3));(have ho1:=(HM.out.jC.upd hu HM.out.bI.2.2.2.2).own);(have g0:B.n0≠gt:=HM.out.sep.1.2.2.2);(have gl:=(HM.out.jC.upd hu HM.out.bI.2.2.2.2).lt))
  | ((at_builtin;refine aI rfl _ _ 26 rfl 0 3 (.int .i64 0) 1 8 Tryz.underlying26 dX rfl δ _ _ _ rfl (ho1) [.int .i64 (-1)] rfl (by simp [Value.oneCell']) (by first|rfl|(rw [Κ];rfl)) μ ω (ω) ?_;intro v2 w2 ho2 hu2 lF);(have hu2:aa [gt] w1 w2:=hu2);obtain ⟨nH,DK,ev,hI2, -⟩:=IZ.fQ (l:=af++[-1]) (by rw [bz,υ];exact ho2) σ;rw [υ,List.length_singleton] at ev;subst ev;(have d4:=hu2.kept d3 ζ);(have f4:=hu2.aP d3 ζ f3)))
 go_ret;have hM:=HM.out;have hlt:=hM.lt;have f:=hM.bI;have q:=hM.sep;have hw3:aa [B.n0] w2 (w2.setCell ⟨B.n0,3,none⟩ (.slice (some ⟨nH,0,none⟩) (af.length+1) DK)):=β;have hg1:nH=gt\/w1.heap.size<nH:=by
  rcases lF with h|h
  ·exact Α (Option.some.inj h)
  ·exact Β (h nH rfl)
 have hws:=hu.size;have jN:=hC.lt;have l0:=hlt B.n0 (by simp [LB.blk]);have l1:=hlt B.bt (by simp [LB.blk]);have l2:=hlt B.ba (by simp [LB.blk]);have l3:=hlt B.br (by simp [LB.blk]);have l4:=hlt gt (by simp [LB.blk]);have hnF:∀y,y<w.heap.size->y∉F->y∉F1:=fun y hy hn hm=>by rcases hF y hm with h'|h';exact hn h';omega
 have xB:nH∉F1:=by
  rcases hg1 with e|e
  ·rw [e];exact hnF gt l4 f.2.2.2.2
  ·exact fun hm=>by have:=jN nH hm;omega
 have hb:w.heap.size<=nH\/nH=gt:=ω;have hhd:=((hM.head.upd hu f.1).upd hu2 ζ).set 3 (.slice (some ⟨nH,0,none⟩) (af.length+1) DK);refine ⟨rfl,B.blk F1 nH,⟨F1,nH,DK,rfl,S,rk,af++[-1],⟨?_,?_,?_,?_,hI2.upd hw3 ζ,?_,⟨hnF _ l0 f.1,hnF _ l1 f.2.1,hnF _ l2 f.2.2.1,hnF _ l3 f.2.2.2.1,xB⟩,⟨⟨q.1.1,q.1.2.1,q.1.2.2.1,ω⟩,q.2.1,ω,q.2.2.2.1,ω,ω⟩⟩,HI.out⟩,?_,fun y hy=>?_⟩
 ·rw [hcs,υ,List.length_singleton];refine hhd.ext (fun j hj=>?_);rcases (ω:j=0\/j=1\/j=2\/j=3) with rfl|rfl|rfl|rfl<;>rfl
 ·exact (hC.upd hu2 (fun y hy=>by simp at hy;rw [hy];exact hnF gt l4 f.2.2.2.2)).upd hw3 (fun y hy=>by simp at hy;rw [hy];exact hnF _ l0 f.1)
 ·rw [hcs];exact ((hM.trees.upd hu f.2.1 f.2.2.1).upd hu2 ζ ζ).upd hw3 ζ ζ
 ·rw [hcs];exact ((hM.ranks.upd hu f.2.2.2.1).upd hu2 ζ).upd hw3 ζ
 ·rw [υ,List.length_singleton,nG,HTN.out]
 ·have u1:aa (B.blk F gt) w w1:=hu.mono (fun y hy=>by simp [LB.blk,hy]);exact (u1.trans (hu2.mono (fun y hy=>by simp at hy;simp [LB.blk,hy]))).trans (hw3.mono (fun y hy=>by simp at hy;simp [LB.blk,hy]))
 ·simp only [LB.blk,ρ] at hy ⊢;rcases hy with rfl|rfl|rfl|rfl|rfl|hy
  ·simp
  ·simp
  ·simp
  ·simp
  ·rcases hb with h|h
   ·exact Β h
   ·exact Α (by simp [h])
  ·rcases hF y hy with h|h
   ·simp [h]
   ·exact Β h
end
theorem wU.first {A:NS} {S:TS} {af:List Int} {tr:Nat->BT} (h:Z7 A S af tr) {g:Nat} (hg:0<dG A g):∃m:Nat,(tr g).root=m/\bB A g=some m:=by
 obtain ⟨x,hx,hi,h0⟩:=dL.1 hg;have hxm:x∈(tr g).nodes:=(h.mem g x).2 ⟨ω,hx,hi⟩;cases ht:tr g with
 | nil=>rw [ht] at hxm;cases hxm
 | node m l r=>
  have hm:=(h.mem g m).1 (by rw [ht];simp [BT.nodes]);have hH:=h.heap g;rw [ht] at hH;refine ⟨m,rfl,(dD h0).2 ⟨hm.2.1,hm.2.2,fun y hy hyi=>?_⟩⟩;have hym:=(h.mem g y).2 ⟨ω,hy,hyi⟩;rw [ht] at hym;simp only [BT.nodes,ρ,τ] at hym;rcases hym with e|e|e
  ·exact Α e
  ·exact Β (hH.1 y e)
  ·exact Β (hH.2.1 y e)
section
variable {w:World} {B:LB} {F:List Nat} {gt ct:Nat} {A:NS} {st:Nat} {tr:Nat->BT}
theorem KA (h:mH w B F gt ct A st tr) (x:Int) (hx:-9223372036854775808<=x/\x<=9223372036854775807) (hn:dG A x=0) :
  Calls Tryz.prog 243 #[.pointer (some ⟨B.n0,0,none⟩),.int .i64 x] w fun e w'=>e=.returned (.tuple #[.int .i64 0,.bool false])/\w'=w:=by
 obtain ⟨S,rk,af,hM, -, -, -⟩:=h;have k:=nZ hM.cells x hx;rw [hn] at k;have h0:=hM.h0;clear hM hn
 go_enter Tryz.func243,Tryz.ntmps243
 go_wp2_with (first|(go_at_call 142;(with_reducible refine (k).mono ?_);rintro e w9 ⟨rfl,aS⟩;rw [aS];clear aS w9))
 go_ret2;exact ⟨rfl,rfl⟩
theorem Aj (h:mH w B F gt ct A st tr) (g:Nat) (hn:0<dG A g) :
  Calls Tryz.prog 243 #[.pointer (some ⟨B.n0,0,none⟩),.int .i64 (g:Int)] w fun e w'=>∃m:Nat,bB A g=some m/\(tr g).root=m/\e=.returned (.tuple #[.int .i64 (m:Int),.bool true])/\w'=w:=by
 obtain ⟨S,rk,af,hM,hI, -, -⟩:=h;obtain ⟨m,hm,hf⟩:=hI.first hn;obtain ⟨x,hx,hi,h0⟩:=dL.1 hn;have ok:=hM.cells.ok;have hgl:g<A.hs.length:=by have:=(ok.nat x hx).2;omega
 have XZ:=ok.h1;have k:=nZ hM.cells (g:Int) ω;have hh0:=hM.h0;have h3:=hM.h3;have d:=hM.jC.cell g (by rw [hM.jA];exact hgl);rw [hI.top g hgl,hm] at d;have htl:g<af.length:=by rw [hM.jA];exact hgl
 generalize hl:dG A (g:Int)=n at *;have hb:((n:Int) == 0)=false:=ζ;have HF:=χ (ψ hf hm);clear hM hI hm hf hx hi h0 ok hl
 go_enter Tryz.func243,Tryz.ntmps243
 go_wp2_with (first|(go_at_call 142;(with_reducible refine (k).mono ?_);rintro e w9 ⟨rfl,aS⟩;rw [aS];clear aS w9))
 go_ret2;exact ⟨m,HF.out.1,HF.out.2,rfl,rfl⟩
end
theorem wU.del {K:Q3} {A:NS} {S S':TS} {af og:List Int} {tr:Nat->BT} (h:wU K A S af tr) {g x:Nat} (hx:x∈(tr g).nodes) {t':BT}
  (hT:bT S' (-1) t'.root t') (hp:(x::t'.nodes).Perm (tr g).nodes) (hH:K.H A t') (hs:∀y,y∉(tr g).nodes->S.at S' y) (hf:S'.l x=-1/\S'.r x=-1/\S'.u x=-1)
  (htp:∀q,q<A.hs.length->og.getD q 0=if q=g then t'.root else af.getD q 0) :
  wU K (aN A x) S' og (fun q=>if q=g then t' else tr q):=by
 have hm:=(h.mem g x).1 hx;have hin:bV A (x:Int)=true:=(aj A x).2 ⟨hm.2.1,ω⟩;have hc:=pY hin;have hnd:(x::t'.nodes).Nodup:=hp.nodup_iff.2 (h.nd g);have hxt:x∉t'.nodes:=(List.nodup_cons.1 hnd).1;refine h.next (dm _ _) (fun q=>q≠g) (fun q hq=>⟨Γ hq,fun y hy=>?_⟩) (fun q hq y hy hq0=>?_) (fun q hq=>?_) (fun q hq=>?_) (fun y hy hy0=>?_)
 ·have hyg:y∉(tr g).nodes:=fun hm=>by
   have a1:=(h.mem g y).1 hm;have a2:=(h.mem q y).1 hy;omega
  exact ⟨hs y hyg,by rw [hc,Γ (fun e=>hyg (by rw [e];exact hx))]⟩
 ·rw [hc]
  by_cases e:y=x
  ·rw [Δ e,e]
   show (0:Int)=(q:Int)↔_
   omega
  ·rw [Γ e]
 ·have hq':q=g:=Classical.not_not.1 hq;subst hq';rw [Δ rfl];refine ⟨hT,(List.nodup_cons.1 hnd).2,K.frame hH (fun y hy=>by rw [hc,Γ (fun e=>hxt (by rw [←e];exact hy))]),fun y=>?_⟩;have e1:=hp.mem_iff (a:=y);rw [ρ,h.mem q y] at e1;rw [hc]
  by_cases e:y=x
  ·rw [Δ e,e];refine ⟨fun hh=>absurd hh hxt,fun hh=>?_⟩;have:(0:Int)=(q:Int):=hh.2.2;omega
  ·rw [Γ e,←e1];simp [e]
 ·rw [fJ] at hq;rw [htp q hq]
  by_cases e:q=g
  ·rw [Δ e,Δ e]
  ·rw [Γ e,Γ e];exact h.top q hq
 ·rw [hc] at hy0
  by_cases e:y=x
  ·rw [e];exact hf
  ·rw [Γ e] at hy0;have a1:=h.free y hy hy0;have a2:=hs y (h.out hy0);exact ⟨a2.1.trans a1.1,a2.2.1.trans a1.2.1,a2.2.2.trans a1.2.2⟩
instance:Nonempty (List Fr×BT×BT):=⟨([],.nil,.nil)⟩
noncomputable def pathOf (t:BT) (x:Nat):List Fr×BT×BT:=Classical.epsilon fun q:List Fr×BT×BT=>t=ag q.1 (.node x q.2.1 q.2.2)
theorem vz {t:BT} {x:Nat} (h:x∈t.nodes):t=ag (pathOf t x).1 (.node x (pathOf t x).2.1 (pathOf t x).2.2):=by
 obtain ⟨P,l,r,e⟩:=vT h;unfold pathOf;exact Classical.epsilon_spec (p:=fun q:List Fr×BT×BT=>t=ag q.1 (.node x q.2.1 q.2.2)) ⟨(P,l,r),e⟩
theorem aJ {P:List Fr} {t:BT} {y:Nat}:y∈(ag P t).nodes↔y∈t.nodes\/y∈cK P:=by
 rw [(aW P t).mem_iff,τ]
def cutV (f:Fr) (t:BT):Int:=if t.root=-1 then 0 else (f.1:Int)
section
variable {w:World} {bt ba n:Nat} {S:TS}
theorem qE (h:aY w bt ba n S) {f:Fr} {P:List Fr} {t:BT} (hT:bT S (-1) (ag (f::P) t).root (ag (f::P) t)) (hn:(ag (f::P) t).nodes.Nodup) (hlt:∀y,y∈(ag (f::P) t).nodes->y<n) :
  Calls Tryz.prog 244 #[.pointer (some ⟨bt,0,none⟩),.int .i64 t.root] w fun e w'=>e=.returned (.tuple #[.int .i64 (cutV f t),.bool (tb t.root)])/\aa [ba] w w'/\
   ∃S',aY w' bt ba n S'/\bT S' (-1) t.root t/\bT S' (-1) (ag (f::P) .nil).root (ag (f::P) .nil)/\∀y,y∉(ag (f::P) t).nodes->S.at S' y:=by
 by_cases ht:t=.nil
 ·subst ht;refine (Nj bt ba n S (-1) w h (by unfold oK;simp)).mono ?_;rintro e w' ⟨rfl,rfl⟩;exact ⟨by simp [cutV,BT.root,tb],aa.refl _ _,S,h,rfl,hT,fun y _=>⟨rfl,rfl,rfl⟩⟩
 ·obtain ⟨c1,c2,c3⟩:=Qz hT ht hn;obtain ⟨m1,m2⟩:=bH ht;have hp:=(cZ _ _).1 hT;have hu:S.u t.root.toNat=(f.1:Int):=by
   cases t with
   | nil=>exact absurd rfl ht
   | node y a b=>exact hp.1.2.1
  have hf:f.1<n:=hlt _ (aJ.2 (Β (by simp [cK])));have hr:t.root.toNat<n:=hlt _ (aJ.2 (Α m1));have hne:t.root≠-1:=ω;have k:=BH bt ba n S f.1 t.root.toNat w h hf hr hu;rw [←m2] at k;refine k.mono ?_;rintro e w' ⟨rfl,h',hu'⟩;refine ⟨by unfold cutV tb;rw [Γ hne];simp [hne],hu',_,h',c1,c2,fun y hy=>c3 y (fun e=>hy ?_) (fun e=>hy ?_)⟩
  ·rw [e];exact aJ.2 (Β (by simp [cK]))
  ·rw [e];exact aJ.2 (Α m1)
theorem Bz (h:aY w bt ba n S) {f:Fr} {P:List Fr} {m:BT} (hT:bT S (-1) (ag (f::P) .nil).root (ag (f::P) .nil)) (hM:bT S (-1) m.root m) (hm:m≠.nil) (hn:(m.nodes++cK (f::P)).Nodup) (hlt:∀y,y∈m.nodes++cK (f::P)->y<n) :
  Calls Tryz.prog 251 #[.pointer (some ⟨bt,0,none⟩),.int .i64 (f.1:Int),.int .i64 m.root,.bool f.2.1] w fun e w'=>e=.returned (.bool true)/\aa [ba] w w'/\
   ∃S',aY w' bt ba n S'/\bT S' (-1) (ag (f::P) m).root (ag (f::P) m)/\∀y,y∉m.nodes++cK (f::P)->S.at S' y:=by
 obtain ⟨c1,c2⟩:=Lr hT hM hm hn;obtain ⟨m1,m2⟩:=bH hm;have hp:=(cZ _ _).1 hT;have hk:S.kid f.2.1 f.1=-1:=hp.2.1;have hu:S.u m.root.toNat=-1:=by
  cases m with
  | nil=>exact absurd rfl hm
  | node y a b=>exact hM.2.1
 have hf:f.1<n:=hlt _ (by simp [cK]);have hr:m.root.toNat<n:=hlt _ (by simp [m1]);have hne:f.1≠m.root.toNat:=fun e=>by
  rw [θ] at hn;exact hn.2.2 _ m1 f.1 (by simp [cK]) e.symm
 have k:=xN bt ba n S f.1 m.root.toNat f.2.1 w h hf hr hne hu hk;rw [←m2] at k;refine k.mono ?_;rintro e w' ⟨rfl,h',hu'⟩;refine ⟨rfl,hu',_,h',c1,fun y hy=>c2 y (fun e=>hy ?_) (fun e=>hy ?_)⟩
 ·rw [e];simp [cK]
 ·rw [e];simp [m1]
theorem JQ (h:aY w bt ba n S) {P:List Fr} {x:Nat} {l r:BT} (hT:bT S (-1) (ag P (.node x l r)).root (ag P (.node x l r))) (hx:x<n) :
  Calls Tryz.prog 250 #[.pointer (some ⟨bt,0,none⟩),.int .i64 (x:Int)] w fun e w'=>e=.returned (.tuple #[.int .i64 (tv (BD P)),.bool (tb (BD P))])/\∃k,w'=w.drewN k:=by
 have k:=Nq bt ba n S (x:Int) w h;have e:oK n S (x:Int)=BD P:=by
  unfold oK;rw [Δ ω,π];exact ((cZ _ _).1 hT).1.2.1
 rw [e] at k;exact k
theorem Am (h:aY w bt ba n S) {p:Int} {x:Nat} {l r:BT} (hT:bT S p x (.node x l r)) (hx:x<n) :
  Calls Tryz.prog 248 #[.pointer (some ⟨bt,0,none⟩),.int .i64 (x:Int)] w fun e w'=>e=.returned (.tuple #[.int .i64 (tv l.root),.bool (tb l.root)])/\∃k,w'=w.drewN k:=by
 have e:fE n S (x:Int) false=l.root:=by
  unfold fE TS.kid;rw [Δ ω];simp only [π];exact hT.2.2.1.root
 have k:=xU bt ba n S (x:Int) w h;rw [e] at k;exact k
theorem sQ (h:aY w bt ba n S) {p:Int} {x:Nat} {l r:BT} (hT:bT S p x (.node x l r)) (hx:x<n) :
  Calls Tryz.prog 249 #[.pointer (some ⟨bt,0,none⟩),.int .i64 (x:Int)] w fun e w'=>e=.returned (.tuple #[.int .i64 (tv r.root),.bool (tb r.root)])/\∃k,w'=w.drewN k:=by
 have e:fE n S (x:Int) true=r.root:=by
  unfold fE TS.kid;rw [Δ ω];simp only [if_true,π];exact hT.2.2.2.root
 have k:=nX bt ba n S (x:Int) w h;rw [e] at k;exact k
theorem Bo (h:aY w bt ba n S) {f:Fr} {P:List Fr} {x:Nat} {l r:BT} (hT:bT S (-1) (ag (f::P) (.node x l r)).root (ag (f::P) (.node x l r))) (hn:(ag (f::P) (.node x l r)).nodes.Nodup) (hf:f.1<n) :
  ∃z:Int,(z == (x:Int))=f.2.1/\Calls Tryz.prog 249 #[.pointer (some ⟨bt,0,none⟩),.int .i64 (f.1:Int)] w fun e w'=>e=.returned (.tuple #[.int .i64 (tv z),.bool (tb z)])/\∃k,w'=w.drewN k:=by
 refine ⟨S.r f.1,?_,?_⟩
 ·have hp:=(cZ _ _).1 hT;obtain ⟨q1,q2,_,_⟩:=hp.2;unfold TS.kid at q1 q2;cases hs:f.2.1
  ·rw [hs] at q1 q2;simp only [Bool.not_false,if_true] at q2;have e2:=q2.root;have hx:x∉f.2.2.nodes:=fun hm=>by
    have h1:=(aW (f::P) (.node x l r)).nodup_iff.1 hn;rw [θ] at h1;exact h1.2.2 x (by simp [BT.nodes]) x (by simp [cK,hm]) rfl
   have:S.r f.1≠(x:Int):=fun e=>by
    rw [e2] at e
    by_cases hnil:f.2.2=.nil
    ·rw [hnil] at e;have e:(-1:Int)=x:=e;omega
    ·have:=(bH hnil).1;rw [e] at this;exact hx this
   simpa using this
  ·rw [hs] at q1;simp only [if_true] at q1;rw [q1];simp [BT.root]
 ·have k:=nX bt ba n S (f.1:Int) w h;have e:fE n S (f.1:Int) true=S.r f.1:=by unfold fE TS.kid;rw [Δ ω];simp
  rw [e] at k;exact k
end
def DV:List Fr->BT->BT->BT
 | [],_,m=>m
 | f::P,old,m=>if f.2.1 then jo P (jF f old.rank) f.1 f.2.2 m else jo P (jF f old.rank) f.1 m f.2.2
theorem nM (f:Fr) (P:List Fr) (old m:BT):DV (f::P) old m=if f.2.1 then jo P (jF f old.rank) f.1 f.2.2 m else jo P (jF f old.rank) f.1 m f.2.2:=rfl
theorem Ka:∀ (P:List Fr) (old m:BT),(DV P old m).nodes.Perm (ag P m).nodes
 | [],_,_=>ό _
 | f::P,old,m=>by
  rw [nM]
  show List.Perm _ (ag P (bf f m)).nodes
  unfold bf
  split
  ·exact oL _ _ _ _ _
  ·exact oL _ _ _ _ _
theorem OD (f:Fr) (P:List Fr) (old m:BT):(DV (f::P) old m).root=(ag (f::P) m).root:=by
 rw [nM]
 show _=(ag P (bf f m)).root
 unfold bf
 split
 ·exact rf _ _ _ _ _
 ·exact rf _ _ _ _ _
theorem Oi {A:NS}:∀ (P:List Fr) (old m:BT),Heap A (ag P m)->Heap A (DV P old m)
 | [],_,_,h=>h
 | f::P,old,m,h=>by
  have h1:Heap A (ag P (bf f m)):=h;rw [nM];unfold bf at h1
  split at h1
  ·rename_i e;rw [Δ e];exact rE _ _ _ _ _ h1
  ·rename_i e;rw [Γ e];exact rE _ _ _ _ _ h1
theorem OT:∀ (P:List Fr) (old m:BT),Lean m->AA P old.rank->Lean (DV P old m)
 | [],_,_,h,_=>h
 | f::P,old,m,h,hp=>by
  rw [nM]
  split
  ·exact qR _ _ _ _ _ hp.1 h hp.2.2
  ·exact qR _ _ _ _ _ h hp.1 hp.2.2
noncomputable def Eb (A:NS) (t:BT) (x:Nat):BT×Nat:=
 (DV (pathOf t x).1 (.node x (pathOf t x).2.1 (pathOf t x).2.2) (aH ai A (pathOf t x).2.1 (pathOf t x).2.2).1,(aH ai A (pathOf t x).2.1 (pathOf t x).2.2).2)
theorem sV {P:List Fr} {x:Nat} {l r:BT} (hn:(ag P (.node x l r)).nodes.Nodup) :
  (x∉l.nodes/\x∉r.nodes/\x∉cK P)/\(l.nodes++r.nodes).Nodup/\(∀y,y∈l.nodes->y∉cK P)/\(∀y,y∈r.nodes->y∉cK P)/\(cK P).Nodup:=by
 have h:=(aW P (.node x l r)).nodup_iff.1 hn;rw [θ] at h;obtain ⟨h1,h2,h3⟩:=h;simp only [BT.nodes,Ζ,τ,not_or] at h1;exact ⟨⟨h1.1.1,h1.1.2,fun hm=>h3 x (by simp [BT.nodes]) x hm rfl⟩,h1.2,fun y hy hm=>h3 y (by simp [BT.nodes,hy]) y hm rfl,fun y hy hm=>h3 y (by simp [BT.nodes,hy]) y hm rfl,h2⟩
theorem DD {up:Nat->BT->BT->BT} (U:OC up) {A:NS} {P:List Fr} {x:Nat} {l r:BT} (hn:(ag P (.node x l r)).nodes.Nodup) (hH:Heap A (ag P (.node x l r))) :
  (x::(ag P (aH up A l r).1).nodes).Perm (ag P (.node x l r)).nodes/\Heap A (ag P (aH up A l r).1)/\(aH up A l r).1.nodes.Perm (l.nodes++r.nodes):=by
 obtain ⟨mp,mh⟩:=qg U A _ l r (Θ _);have h1:=sV hn;have hs:=tZ hH;have VZ:=mh hs.2.2.1 hs.2.2.2 h1.2.1;refine ⟨?_,vS hH VZ (fun y hy=>?_),mp⟩
 ·refine ((((aW P _).trans (mp.append_right _)).cons x)).trans ?_;exact (aW P (.node x l r)).symm
 ·have:=mp.mem_iff.1 hy;simp only [BT.nodes,ρ];exact Β this
section
variable {w:World} {B:LB} {F:List Nat} {gt ct:Nat} {A:NS} {st:Nat} {S:TS} {rk:Nat->Nat} {af:List Int}
theorem Ev (h:jO w B F gt ct A st S rk af) {f:Fr} {P:List Fr} {old m:BT} (hT:bT S (-1) (ag (f::P) m).root (ag (f::P) m)) (hm:fF rk m) (hP:MP rk (f::P) old.rank) (hX:(ag (f::P) m).nodes.Nodup)
  (hlt:∀y,y∈(ag (f::P) m).nodes->y<A.cs.length) :
  Calls Tryz.prog 245 #[.pointer (some ⟨B.n0,0,none⟩),.int .i64 (f.1:Int)] w fun e w'=>e=.returned (.tuple #[])/\aa [B.ba,B.br] w w'/\
   ∃S' pX,jO w' B F gt ct A st S' pX af/\ru S rk (DV (f::P) old m) (ag (f::P) m).nodes S' pX:=by
 rw [nM];have hT1:bT S (-1) (ag P (bf f m)).root (ag P (bf f m)):=hT;have hX1:(ag P (bf f m)).nodes.Nodup:=hX;have hlt1:∀y,y∈(ag P (bf f m)).nodes->y<A.cs.length:=hlt
 show Calls _ _ _ _ fun e w'=>e=_/\_/\∃S' pX,_/\ru S rk _ (ag P (bf f m)).nodes S' pX
 by_cases hs:f.2.1=true
 ·have e1:bf f m=.node f.1 f.2.2 m:=by unfold bf;rw [Δ hs]
  rw [e1] at hT1 hX1 hlt1 ⊢;rw [Δ hs];exact AX h ⟨hT1,ό _,hP.1,hm,hP.2.1,hP.2.2,fun y _=>⟨⟨rfl,rfl,rfl⟩,rfl⟩,rfl⟩ hX1 hlt1
 ·have e1:bf f m=.node f.1 m f.2.2:=by unfold bf;rw [Γ hs]
  rw [e1] at hT1 hX1 hlt1 ⊢;rw [Γ hs];exact AX h ⟨hT1,ό _,hm,hP.1,hP.2.1,hP.2.2,fun y _=>⟨⟨rfl,rfl,rfl⟩,rfl⟩,rfl⟩ hX1 hlt1
end
theorem OB (n:Nat):tv (n:Int)=n:=by unfold tv;rw [Γ ω]
theorem N8 (n:Nat):tb (n:Int)=true:=by unfold tb;simp
section
variable {w:World} {B:LB} {F:List Nat} {gt ct:Nat} {A:NS} {st:Nat} {tr:Nat->BT} {S:TS} {rk:Nat->Nat} {af:List Int}
def UM (w':World) (B:LB) (F:List Nat) (gt ct:Nat) (A:NS) (st:Nat) (S:TS) (rk:Nat->Nat) (af:List Int) (g x:Nat) (P:List Fr) (X:List Nat) (T:BT):Prop:=
 ∃S' pX og,jO w' B F gt ct (aN A x) st S' pX og/\bT S' (-1) T.root T/\fF pX T/\(∀y,y∉X->S.at S' y/\pX y=rk y)/\(S'.l x=-1/\S'.r x=-1/\S'.u x=-1)/\
  ∀q,q<A.hs.length->og.getD q 0=if P=[]/\q=g then T.root else af.getD q 0
theorem gP {S S' XO:TS} {x:Nat} (h:S.at S' x) (h':S'.at XO x):S.at XO x:=⟨h'.1.trans h.1,h'.2.1.trans h.2.1,h'.2.2.trans h.2.2⟩
theorem C8 (hM:jO w B F gt ct A st S rk af) {g x:Nat} {P:List Fr} {l r:BT} (hin:bV A (x:Int)=true) (hg:(A.c x).i=g) (hgt:g<af.length)
  (hT:bT S (-1) (ag P (.node x l r)).root (ag P (.node x l r))) (hn:(ag P (.node x l r)).nodes.Nodup) (hR:fF rk (ag P (.node x l r))) (hall:∀y,y∈(ag P (.node x l r)).nodes->bV A (y:Int)=true) :
  Calls Tryz.prog 238 #[.pointer (some ⟨B.n0,0,none⟩),.int .i64 (x:Int)] w fun e w'=>e=.returned (.bool true)/\aa (B.blk F gt) w w'/\
   UM w' B F gt ct A (dF st (aH ai A l r).2) S rk af g x P (ag P (.node x l r)).nodes (DV P (.node x l r) (aH ai A l r).1):=by
 have hxl:=((aj A x).1 hin).1;have hlt:∀y,y∈(ag P (.node x l r)).nodes->y<A.cs.length:=fun y hy=>((aj A y).1 (hall y hy)).1;have kh:=jq hM.cells x hin;rw [hg] at kh;have h0:=hM.h0;have HM:=χ hM;have WT:=sV hn;have hrr:=(Cs P (.node x l r)).1 hR;have mp:=(qg nY A _ l r (Θ _)).1;have hblk:=χ hM.lt;have su:=χ hM.cF;have hsep:=χ (ψ hM.sep hM.bI);have HT:=χ (ψ hT (ψ hn (ψ hrr (ψ hall hlt))));have HP:=χ WT;have hA:=hM.cells.ok.c1;obtain ⟨m,k,hmk⟩:∃m k,aH ai A l r=(m,k):=⟨_,_,rfl⟩;rw [hmk] at mp;rw [hmk];have UT:=χ mp;have HMK:=χ hmk;have Ma:=χ hin;clear hM hT hn hR hall hlt WT hrr mp hmk hin hg
 go_enter Tryz.func238,Tryz.ntmps238
 go_wp2_with (first|((go_at_call 140;(with_reducible refine (kh).mono ?_));rintro e w1 ⟨rfl,jN,hu1⟩;(have g1:=(HM.out.fH hu1 jN (fun y hy=>Α hy) rfl rfl).h1)))
 have hM1:=HM.out.fH hu1 jN (fun y hy=>Α hy) rfl rfl;have q1:∀d,(w1.drewN d).cell? ⟨B.n0,1,none⟩=some (.pointer (some ⟨B.bt,0,none⟩)):=fun d=>hM1.h1;have kl:=fun d=>Am (hM1.trees.drewN d) ((cZ _ _).1 HT.out.1).1 hxl;have kr:=fun d=>sQ (hM1.trees.drewN d) ((cZ _ _).1 HT.out.1).1 hxl;have pR:=χ hM1;clear hM1 jN kh h0 g1
 go_quiet ((first
  | (go_at_call 248;exact Calls.quiet_of (kl _))
  | (go_at_call 249;exact Calls.quiet_of (kr _))
  | (go_at_call 247;exact Calls.quiet_of_same (lW _ _))))
 obtain ⟨w2,hw2⟩:∃w2,w2=w1.drewN nq:=⟨_,rfl⟩;have u2:aa F w w2:=by rw [hw2];exact hu1.drewN nq
 have hM2:jO w2 B F gt ct A st S rk af:=by rw [hw2];exact pR.out.ae ((aa.refl [] w1).drewN nq)
 rw [←hw2];clear hw2 kl kr q1 pR hu1;have Uc:=qE hM2.trees (f:=(x,false,r)) (P:=P) (t:=l) HT.out.1 HT.out.2.1 HT.out.2.2.2.2;have g2:=hM2.h1;have vv:=χ hM2;clear hM2
 go_wp2_with (first
  | ((go_at_call 244;(with_reducible refine (Uc).mono ?_));rintro e w3 ⟨rfl,hu3,S3,Ai,hl3,hp3,hs3⟩;(have g3:=(vv.out.il hu3 Ai).h1);clear g2)
  | fail)
 have oP:=vv.out.il hu3 Ai;have Kt:bT S3 (-1) (ag ((x,true,.nil)::P) r).root (ag ((x,true,.nil)::P) r):=hp3;have JF:(ag ((x,true,.nil)::P) r).nodes.Nodup:=by
  have e:=(aW P (.node x .nil r));refine e.nodup_iff.2 ?_;obtain ⟨⟨a1,a2,a3⟩,a4,a5,a6,a7⟩:=HP.out;simp only [BT.nodes,Ϡ,θ] at a4 ⊢;refine ⟨List.nodup_cons.2 ⟨a2,a4.2.1⟩,a7,fun y hy z hz e=>?_⟩;subst e;rcases ρ.1 hy with e|hy
  ·exact a3 (by rw [←e];exact hz)
  ·exact a6 y hy hz
 have Bw:∀y,y∈(ag ((x,true,.nil)::P) r).nodes->y∈(ag P (.node x l r)).nodes:=fun y hy=>by
  have h':y∈(ag P (.node x .nil r)).nodes:=hy;rw [aJ] at h' ⊢;simp only [BT.nodes,Ϡ,ρ,τ] at h' ⊢;rcases h' with (h'|h')|h'
  ·exact Α (Α h')
  ·exact Α (Β (Β h'))
  ·exact Β h'
 have Y4:=qE oP.trees (f:=(x,true,.nil)) (P:=P) (t:=r) Kt JF (fun y hy=>HT.out.2.2.2.2 y (Bw y hy));have Ph:l.nodes.Nodup/\∀y,y∈l.nodes->y∉(ag ((x,true,.nil)::P) r).nodes:=by
  obtain ⟨⟨a1,a2,a3⟩,a4,a5,a6,a7⟩:=HP.out;rw [θ] at a4;refine ⟨a4.1,fun y hy hm=>?_⟩;have h':y∈(ag P (.node x .nil r)).nodes:=hm;rw [aJ] at h';simp only [BT.nodes,Ϡ,ρ] at h';rcases h' with (h'|h')|h'
  ·exact a1 (by rw [←h'];exact hy)
  ·exact a4.2.2 y hy y h' rfl
  ·exact a5 y hy h'
 have Uo:=χ oP;have H3:=χ (ψ hl3 (ψ hs3 (ψ Bw Ph)));have u3:aa (B.ba::F) w w3:=(u2.mono (by simp;intro x hx;exact Β hx)).trans (hu3.mono σ);clear oP Ai hl3 hp3 Kt hs3 JF Bw Ph Uc hu3 u2
 go_wp2_with (first
  | ((go_at_call 244;(with_reducible refine (Y4).mono ?_));rintro e w4 ⟨rfl,om,S4,QP,hr4,hp4,hs4⟩)
  | fail)
 have zG:=Uo.out.il om QP;have hl4:bT S4 (-1) l.root l:=H3.out.1.frame (fun y hy=>hs4 y (H3.out.2.2.2.2 y hy));have km:=yB zG hl4 hr4 HP.out.2.1 (fun y hy=>HT.out.2.2.2.1 y (aJ.2 (Α (by simp only [BT.nodes];exact Λ _ hy)))) HT.out.2.2.1.1.2.1 HT.out.2.2.1.1.2.2;rw [HMK.out] at km;have YH:bT S4 (-1) (ag P (.node x .nil .nil)).root (ag P (.node x .nil .nil)):=hp4;have u4:aa (B.ba::F) w w4:=u3.trans (om.mono σ);have f4:∀y,y∉(ag P (.node x l r)).nodes->S.at S4 y:=fun y hy=>gP (H3.out.2.1 y hy) (hs4 y (fun hm=>hy (H3.out.2.2.1 y hm)));have H4:=χ (ψ YH f4)
 clear zG QP hr4 hp4 YH hs4 hl4 Y4 om u3 f4 H3 Uo vv g3
 go_wp2_with (first
  | ((go_at_call 246;(with_reducible refine (km).mono ?_));rintro e w5 ⟨rfl,dJ,S5,XQ,Dk,MV,NF,hs5⟩;(have g5:=Dk.h1))
  | fail)
 have QW:bT S5 (-1) (ag P (.node x .nil .nil)).root (ag P (.node x .nil .nil)):=H4.out.1.frame (fun y hy=>(hs5 y (fun hm=>by
  obtain ⟨⟨a1,a2,a3⟩,a4,a5,a6,a7⟩:=HP.out;rw [aJ] at hy;simp only [BT.nodes,Ϡ,ρ,ς,or_false] at hy;rw [τ] at hm;rcases hy with e|hy
  ·subst e;rcases hm with hm|hm;exact a1 hm;exact a2 hm
  ·rcases hm with hm|hm;exact a5 y hm hy;exact a6 y hm hy)).1)
 have f5:∀y,y∉(ag P (.node x l r)).nodes->S.at S5 y/\XQ y=rk y:=fun y hy=>by
  have h1:y∉l.nodes++r.nodes:=fun hm=>hy (aJ.2 (Α (by simp only [BT.nodes];exact Λ _ hm)));exact ⟨gP (H4.out.2 y hy) (hs5 y h1).1,(hs5 y h1).2⟩
 have M7:MP XQ P (BT.node x l r).rank:=HT.out.2.2.1.2.frame (fun y hy=>(hs5 y (fun hm=>by
  rw [τ] at hm;rcases hm with hm|hm
  ·exact HP.out.2.2.1 y hm hy
  ·exact HP.out.2.2.2.1 y hm hy)).2)
 have u5:aa (B.blk F gt) w w5:=(u4.mono (fun y hy=>by simp only [LB.blk,ρ] at hy ⊢;rcases hy with h|h<;>simp [h])).trans (dJ.mono (fun y hy=>by
   have:=su.out;simp only [ρ,ς,or_false] at hy;simp only [LB.blk,ρ];rcases hy with rfl|rfl|rfl
   ·simp [this]
   ·simp
   ·simp))
 have ku:=JQ Dk.trees QW hxl;have tQ:=χ Dk;have H5:=χ (ψ QW (ψ f5 (ψ M7 (ψ MV NF))));clear Dk MV NF hs5 km u4 H4 QW f5 M7 dJ;have hmm:∀y,y∈m.nodes->y∉cK P/\y≠x:=fun y hy=>by
  obtain ⟨⟨a1,a2,a3⟩,a4,a5,a6,a7⟩:=HP.out;have h1:=UT.out.mem_iff.1 hy;rw [τ] at h1;rcases h1 with h1|h1
  ·exact ⟨a5 y h1,fun e=>a1 (by rw [←e];exact h1)⟩
  ·exact ⟨a6 y h1,fun e=>a2 (by rw [←e];exact h1)⟩
 have hmx:∀y,y∈m.nodes->y∈(ag P (.node x l r)).nodes:=fun y hy=>aJ.2 (Α (by
  have h1:=UT.out.mem_iff.1 hy
  simp only [BT.nodes,ρ];exact Β h1))
 have CW:m.nodes.Nodup:=UT.out.nodup_iff.2 HP.out.2.1;have YG:=χ (ψ hmm (ψ hmx CW));clear hmm hmx CW;have sp:=hsep.out;have s1:B.n0≠gt:=sp.1.1.2.2.2;clear sp;cases P with
 | nil=>
  rw [show BD ([]:List Fr)=-1 from rfl,show tv (-1)=0 from rfl,show tb (-1)=false from rfl] at ku
  go_wp2_with (first
   | ((go_at_call 250;(with_reducible refine (ku).mono ?_));rintro e w6 ⟨rfl,kk,Q4⟩;(have u6:aa [] w5 w6:=by (rw [Q4];exact (aa.refl _ _).drewN kk));clear Q4;(have g60:=(tQ.out.ae u6).h0);(have g63:=(tQ.out.ae u6).h3);(have d6:=(tQ.out.ae u6).jC.cell g hgt);(have f6:=(tQ.out.ae u6).jC.free g);(have kd:=fU ((tQ.out.ae u6).tH g m.root).cells x Ma.out))
   | ((go_at_call 151;(with_reducible refine (kd).mono ?_));rintro e w7 ⟨rfl,YR,pV⟩)
   | fail)
  go_ret;obtain ⟨b1,b2,b3,b4,b5⟩:=H5.out;have bx:=((cZ _ _).1 b1).1;refine ⟨rfl,((u5.trans (u6.mono σ)).setCell (Α (by simp [LB.blk])) _).trans (pV.mono (fun y hy=>by simp only [LB.blk,ρ];simp [hy])),S5,XQ,af.set g m.root,((tQ.out.ae u6).tH g m.root).fH pV YR (fun y hy=>Α hy) (dm _ _) (by rw [fJ]),b4,b5,b2,⟨bx.2.2.1.root,bx.2.2.2.root,bx.2.1⟩,fun q hq=>?_⟩
  by_cases e:q=g
  ·rw [Δ ⟨rfl,e⟩,e,φ,ύ,Δ rfl,Δ hgt];rfl
  ·rw [Γ (fun h=>e h.2),φ,ύ,Γ (fun h=>e h.symm),←φ]
 | cons f P2=>
  rw [show BD (f::P2)=(f.1:Int) from rfl,OB,N8] at ku;have hfl:f.1<A.cs.length:=HT.out.2.2.2.2 f.1 (aJ.2 (Β (by simp [cK])));have LU:(ag (f::P2) (.node x .nil .nil)).nodes.Nodup:=by
   refine (aW (f::P2) (.node x .nil .nil)).nodup_iff.2 ?_;obtain ⟨⟨a1,a2,a3⟩,a4,a5,a6,a7⟩:=HP.out;simp only [BT.nodes,Ϡ,List.singleton_append,Ζ];exact ⟨a3,a7⟩
  have Gx:∀y,y∈(ag (f::P2) (.node x .nil .nil)).nodes->y∈(ag (f::P2) (.node x l r)).nodes:=fun y hy=>by
   rw [aJ] at hy ⊢;simp only [BT.nodes,Ϡ,ρ,ς,or_false] at hy;rcases hy with hy|hy
   ·exact Α (by simp [BT.nodes,hy])
   ·exact Β hy
  have Xt:∀W,aa [] w5 W->∃z:Int,(z == (x:Int))=f.2.1/\Calls Tryz.prog 249 #[.pointer (some ⟨B.bt,0,none⟩),.int .i64 (f.1:Int)] W fun e w'=>e=.returned (.tuple #[.int .i64 (tv z),.bool (tb z)])/\∃k,w'=W.drewN k:=fun W hW=>Bo (tQ.out.ae hW).trees H5.out.1 LU hfl;have O6:=fun W (hW:aa [] w5 W)=>qE (tQ.out.ae hW).trees (f:=f) (P:=P2) (t:=.node x .nil .nil) H5.out.1 LU (fun y hy=>HT.out.2.2.2.2 y (Gx y hy));rw [show BT.root (.node x .nil .nil)=(x:Int) from rfl] at O6;generalize hcv:cutV f (.node x .nil .nil)=cv at O6;generalize hcb:tb (x:Int)=cb at O6;have FW:=χ (ψ LU Gx);clear LU Gx hcv hcb
  by_cases hmz:m=.nil
  ·have hmb:(m.root != -1)=false:=by rw [hmz];rfl
   have Vv:=χ hmz;clear hmz
   go_wp2_with (first
    | ((go_at_call 250;(with_reducible refine (ku).mono ?_));rintro e w6 ⟨rfl,kk,Q4⟩;(have u6:aa [] w5 w6:=by (rw [Q4];exact (aa.refl _ _).drewN kk));clear Q4;(have g61:=(tQ.out.ae u6).h1);obtain ⟨z,hz,kr⟩:=Xt w6 u6)
    | ((go_at_call 249;(with_reducible refine (kr).mono ?_));rintro e w7 ⟨rfl,kk7,hw7⟩;(have u7:aa [] w5 w7:=by (rw [hw7];exact u6.drewN kk7));clear hw7;(have g71:=(tQ.out.ae u7).h1);(have kc:=O6 w7 u7))
    | (go_at_call 247;(with_reducible refine (lW _ _).mono ?_);rintro e w9 ⟨rfl,aS⟩;rw [aS];clear aS w9)
    | ((go_at_call 244;(with_reducible refine (kc).mono ?_));rintro e w8 ⟨rfl,zC,S8,Jh,hx8,hp8,hs8⟩;(have kmd:=Ev ((tQ.out.ae u7).il zC Jh) (old:=.node x l r) hp8 (by trivial) H5.out.2.2.1 (by first|(refine (aW (f::P2) .nil).nodup_iff.2 ?_;simpa [BT.nodes] using HP.out.2.2.2.2)) (by intro y hy;rw [aJ] at hy;exact HT.out.2.2.2.2 y (aJ.2 (Β (by simpa [BT.nodes] using hy))))))
    | ((go_at_call 245;(with_reducible refine (kmd).mono ?_));rintro e w9 ⟨rfl,jJ,S9,rk9,Wj,Tm⟩;(have g90:=Wj.h0);(have kd:=fU Wj.cells x Ma.out))
    | ((go_at_call 151;(with_reducible refine (kd).mono ?_));rintro e Q0 ⟨rfl,FZ,tF⟩)
    | fail)
   go_ret;have hz:=Vv.out;subst hz;refine ⟨rfl,((((u5.trans (u7.mono σ)).trans (zC.mono (by simp [LB.blk]))).trans (jJ.mono (by simp [LB.blk]))).trans (tF.mono (fun y hy=>by simp only [LB.blk,ρ];simp [hy]))),S9,rk9,af,Wj.fH tF FZ (fun y hy=>Α hy) (dm _ _) (by rw [fJ]),Tm.I7,Tm.isR,fun y hy=>?_,?_,fun q hq=>by rw [Γ σ]⟩
   ·have a1:=H5.out.2.1 y hy;have a2:=hs8 y (fun hm=>hy (FW.out.2 y hm));have a3:=Tm.far y (fun hm=>hy (aJ.2 (Β (by rw [aJ] at hm;simpa [BT.nodes] using hm))));exact ⟨gP (gP a1.1 a2) a3.1,a3.2.trans a1.2⟩
   ·have a3:=(Tm.far x (fun hm=>HP.out.1.2.2 (by rw [aJ] at hm;simpa [BT.nodes] using hm))).1;have a4:=hx8;exact ⟨a3.1.trans a4.2.2.1.root,a3.2.1.trans a4.2.2.2.root,a3.2.2.trans a4.2.1⟩
  ·have hmb:(m.root != -1)=true:=by
    have:=(bH hmz).2;simp;omega
   have Vv:=χ hmz;have hxm:∀y,y∈m.nodes->y∉(ag (f::P2) (.node x .nil .nil)).nodes:=fun y hy hm=>by
    have b1:=YG.out.1 y hy;rw [aJ] at hm;simp only [BT.nodes,Ϡ,ρ,ς,or_false] at hm;rcases hm with hm|hm
    ·exact b1.2 hm
    ·exact b1.1 hm
   have hnd:(m.nodes++cK (f::P2)).Nodup:=by
    rw [θ];exact ⟨YG.out.2.2,HP.out.2.2.2.2,fun a ha b hb e=>(YG.out.1 a ha).1 (by rw [e];exact hb)⟩
   have hsm:∀y,y∈m.nodes++cK (f::P2)->y∈(ag (f::P2) (.node x l r)).nodes:=fun y hy=>by
    rw [τ] at hy;rcases hy with hy|hy
    ·exact YG.out.2.1 y hy
    ·exact aJ.2 (Β hy)
   have MX:=χ (ψ hxm (ψ hnd hsm));clear hmz hxm hnd hsm
   go_wp2_with (first
    | ((go_at_call 250;(with_reducible refine (ku).mono ?_));rintro e w6 ⟨rfl,kk,Q4⟩;(have u6:aa [] w5 w6:=by (rw [Q4];exact (aa.refl _ _).drewN kk));clear Q4;(have g61:=(tQ.out.ae u6).h1);obtain ⟨z,hz,kr⟩:=Xt w6 u6)
    | ((go_at_call 249;(with_reducible refine (kr).mono ?_));rintro e w7 ⟨rfl,kk7,hw7⟩;(have u7:aa [] w5 w7:=by (rw [hw7];exact u6.drewN kk7));clear hw7;(have g71:=(tQ.out.ae u7).h1);(have kc:=O6 w7 u7))
    | (go_at_call 247;(with_reducible refine (lW _ _).mono ?_);rintro e w9 ⟨rfl,aS⟩;rw [aS];clear aS w9)
    | ((go_at_call 244;(with_reducible refine (kc).mono ?_));rintro e w8 ⟨rfl,zC,S8,Jh,hx8,hp8,hs8⟩;(have g81:=((tQ.out.ae u7).il zC Jh).h1);(have khg:=Bz Jh hp8 (H5.out.2.2.2.1.frame (fun y hy=>hs8 y (MX.out.1 y hy))) Vv.out MX.out.2.1 (fun y hy=>HT.out.2.2.2.2 y (MX.out.2.2 y hy))))
    | ((go_at_call 251;(with_reducible refine (khg).mono ?_));rintro e w8b ⟨rfl,YZ,S8b,hT8b,hp8b,Zt⟩;(have kmd:=Ev (((tQ.out.ae u7).il zC Jh).il YZ hT8b) (old:=.node x l r) hp8b H5.out.2.2.2.2 H5.out.2.2.1 ((aW (f::P2) m).nodup_iff.2 MX.out.2.1) (fun y hy=>HT.out.2.2.2.2 y (MX.out.2.2 y ((aW (f::P2) m).mem_iff.1 hy)))))
    | ((go_at_call 245;(with_reducible refine (kmd).mono ?_));rintro e w9 ⟨rfl,jJ,S9,rk9,Wj,Tm⟩;(have g90:=Wj.h0);(have kd:=fU Wj.cells x Ma.out))
    | ((go_at_call 151;(with_reducible refine (kd).mono ?_));rintro e Q0 ⟨rfl,FZ,tF⟩)
    | fail)
   go_ret;refine ⟨rfl,(((((u5.trans (u7.mono σ)).trans (zC.mono (by simp [LB.blk]))).trans (YZ.mono (by simp [LB.blk]))).trans (jJ.mono (by simp [LB.blk]))).trans (tF.mono (fun y hy=>by simp only [LB.blk,ρ];simp [hy]))),S9,rk9,af,Wj.fH tF FZ (fun y hy=>Α hy) (dm _ _) (by rw [fJ]),Tm.I7,Tm.isR,fun y hy=>?_,?_,fun q hq=>by rw [Γ σ]⟩
   ·have a1:=H5.out.2.1 y hy;have a2:=hs8 y (fun hm=>hy (FW.out.2 y hm));have a2b:=Zt y (fun hm=>hy (MX.out.2.2 y hm));have a3:=Tm.far y (fun hm=>hy (MX.out.2.2 y ((aW (f::P2) m).mem_iff.1 hm)));exact ⟨gP (gP (gP a1.1 a2) a2b) a3.1,a3.2.trans a1.2⟩
   ·have tY:x∉m.nodes++cK (f::P2):=fun hm=>by
     rw [τ] at hm;rcases hm with hm|hm
     ·exact (YG.out.1 x hm).2 rfl
     ·exact HP.out.1.2.2 hm
    have a3:=gP (Zt x tY) (Tm.far x (fun hm=>tY ((aW (f::P2) m).mem_iff.1 hm))).1;have a4:=hx8;exact ⟨a3.1.trans a4.2.2.1.root,a3.2.1.trans a4.2.2.2.root,a3.2.2.trans a4.2.1⟩
theorem Ep (h:mH w B F gt ct A st tr) (g x:Nat) (hx:x∈(tr g).nodes) :
  Calls Tryz.prog 238 #[.pointer (some ⟨B.n0,0,none⟩),.int .i64 (x:Int)] w fun e w'=>e=.returned (.bool true)/\aa (B.blk F gt) w w'/\
   mH w' B F gt ct (aN A x) (dF st (Eb A (tr g) x).2) (fun q=>if q=g then (Eb A (tr g) x).1 else tr q):=by
 obtain ⟨S,rk,af,hM,hI,hL,hR⟩:=h;have hm:=(hI.mem g x).1 hx;have hin:bV A (x:Int)=true:=(aj A x).2 ⟨hm.2.1,ω⟩;have e:=vz hx;unfold Eb;generalize (pathOf (tr g) x).1=P at *;generalize (pathOf (tr g) x).2.1=l at *;generalize (pathOf (tr g) x).2.2=r at *;have hgt:g<af.length:=by rw [hM.jA];have:=(hM.cells.ok.nat x hm.2.1);omega
 have hgh:g<A.hs.length:=by rw [←hM.jA];exact hgt
 have hT:=hI.I7 g;have hn:=hI.nd g;have hH:=hI.heap g;have hRg:=hR g;have V8:=hL g;rw [e] at hT hn hH hRg V8;obtain ⟨d1,d2,d3⟩:=DD nY hn hH;obtain ⟨l1,l2⟩:=(vG _ _).1 V8;have ml:=yC A _ l r (Θ _) l1.2.1 l1.2.2;refine (C8 hM hin hm.2.2 hgt hT hn hRg (fun y hy=>?_)).mono ?_
 ·rw [←e] at hy;have:=(hI.mem g y).1 hy;exact (aj A y).2 ⟨this.2.1,ω⟩
 ·rintro e' w' ⟨rfl,hu,S',pX,og,q1,q2,q3,q4,q5,q6⟩;refine ⟨rfl,hu,S',pX,og,q1,hI.del hx q2 ?_ (Oi _ _ _ d2) (fun y hy=>(q4 y (by rw [←e];exact hy)).1) q5 (fun q hq=>?_),fun q=>?_,fun q=>?_⟩
  ·rw [e];exact ((Ka _ _ _).cons x).trans d1
  ·rw [q6 q hq]
   by_cases hq':q=g
   ·rw [Δ hq']
    by_cases hp:P=[]
    ·rw [Δ ⟨hp,hq'⟩]
    ·rw [Γ (fun h=>hp h.1),hq',hI.top g hgh,e];cases P with
     | nil=>exact absurd rfl hp
     | cons f P2=>rw [OD];exact ow _ _ _ _
   ·rw [Γ hq',Γ (fun h=>hq' h.2)]
  ·show Lean (if q=g then _ else _)
   split
   ·exact OT _ _ _ ml l2
   ·exact hL q
  ·show fF pX (if q=g then _ else _)
   split
   ·exact q3
   ·rename_i hq
    refine (hR q).frame (fun y hy=>(q4 y (fun hm'=>?_)).2);rw [←e] at hm';have c1:=(hI.mem g y).1 hm';have c2:=(hI.mem q y).1 hy;omega
end
section
variable {w:World} {B:LB} {F:List Nat} {gt ct:Nat} {A:NS} {st:Nat} {tr:Nat->BT} {S:TS} {rk:Nat->Nat} {af:List Int}
theorem Ad (h:mH w B F gt ct A st tr) (g:Nat) (hn:0<dG A g) :
  Calls Tryz.prog 239 #[.pointer (some ⟨B.n0,0,none⟩),.int .i64 (g:Int)] w fun e w'=>∃m:Nat,bB A g=some m/\e=.returned (.tuple #[.int .i64 (m:Int),.bool true])/\aa (B.blk F gt) w w'/\
   mH w' B F gt ct (aN A m) (dF st (Eb A (tr g) m).2) (fun q=>if q=g then (Eb A (tr g) m).1 else tr q):=by
 have k:=Aj h g hn;have h':=h;obtain ⟨S,rk,af,hM,hI,hL,hR⟩:=h';have kd:=fun m hm=>Ep h g m hm;have hroot:∀m:Nat,(tr g).root=m->m∈(tr g).nodes:=fun m hm=>by
  have hne:tr g≠.nil:=fun e=>by rw [e] at hm;have:(-1:Int)=m:=hm;omega
  have:=(bH hne).1;rw [hm] at this;simpa using this
 clear hM hI hL hR h
 go_enter Tryz.func239,Tryz.ntmps239
 go_wp2_with (first
  | ((go_at_call 243;(with_reducible refine (k).mono ?_));rintro e w1 ⟨m,hm1,hm2,rfl,rfl⟩;(have XF:=kd m (hroot m hm2)))
  | ((go_at_call 238;(with_reducible refine (XF).mono ?_));rintro e w2 ⟨rfl,hu2,hL2⟩)
  | fail)
 go_ret2;exact ⟨m,hm1,rfl,hu2,hL2⟩
end
theorem GM (p c:Nat):∀W:World,W.cell? ⟨p,0,none⟩=some (.pointer (some ⟨c,0,none⟩))->(method 429 186 (.pointer (some ⟨p,0,none⟩)) "Has").run Tryz.prog W=.ok (139,.pointer (some ⟨c,0,none⟩)) W:=(by intro W h;unfold method;have hm:∃m,(Array.find? (fun x=>x.name == "Has") Tryz.t186.methods)=some m/\m.path.toList=[⟨231,0,true⟩]/\m.func=some (139,true)/\m.path.isEmpty=false:=⟨(Array.find? (fun x=>x.name == "Has") Tryz.t186.methods).get!,by kernel_rfl,by kernel_rfl,by kernel_rfl,by kernel_rfl⟩;obtain ⟨m,h1,h2,h3,h4⟩:=hm;go_simp;simp only [follow,Place.get];go_simp;(try unfold receiverAt);(try simp only [Place.get]);(try go_simp))
theorem Cf (p c:Nat):∀W:World,W.cell? ⟨p,0,none⟩=some (.pointer (some ⟨c,0,none⟩))->(method 429 186 (.pointer (some ⟨p,0,none⟩)) "Entry").run Tryz.prog W=.ok (137,.pointer (some ⟨c,0,none⟩)) W:=(by intro W h;unfold method;have hm:∃m,(Array.find? (fun x=>x.name == "Entry") Tryz.t186.methods)=some m/\m.path.toList=[⟨231,0,true⟩]/\m.func=some (137,true)/\m.path.isEmpty=false:=⟨(Array.find? (fun x=>x.name == "Entry") Tryz.t186.methods).get!,by kernel_rfl,by kernel_rfl,by kernel_rfl,by kernel_rfl⟩;obtain ⟨m,h1,h2,h3,h4⟩:=hm;go_simp;simp only [follow,Place.get];go_simp;(try unfold receiverAt);(try simp only [Place.get]);(try go_simp))
theorem TM (p:Nat):∀W:World,(method 429 186 (.pointer (some ⟨p,0,none⟩)) "Make").run Tryz.prog W=.ok (241,.pointer (some ⟨p,0,none⟩)) W:=fun _=>by kernel_rfl
theorem Lg (p:Nat):∀W:World,(method 429 186 (.pointer (some ⟨p,0,none⟩)) "Insert").run Tryz.prog W=.ok (240,.pointer (some ⟨p,0,none⟩)) W:=fun _=>by kernel_rfl
theorem VY (p:Nat):∀W:World,(method 429 186 (.pointer (some ⟨p,0,none⟩)) "Min").run Tryz.prog W=.ok (243,.pointer (some ⟨p,0,none⟩)) W:=fun _=>by kernel_rfl
theorem Gw (p:Nat):∀W:World,(method 429 186 (.pointer (some ⟨p,0,none⟩)) "Extract").run Tryz.prog W=.ok (239,.pointer (some ⟨p,0,none⟩)) W:=fun _=>by kernel_rfl
def LfQ (w:World) (p:Nat) (F:List Nat) (A:NS):Prop:=∃B F1 gt ct st tr,p=B.n0/\F=B.blk F1 gt/\mH w B F1 gt ct A st tr
def wY:dV where
 ty:=186
 at_:=LfQ
 upd:=fun h hu hS=>by
  obtain ⟨B,F1,gt,ct,st,tr,rfl,rfl,hL⟩:=h;exact ⟨B,F1,gt,ct,st,tr,rfl,rfl,hL.upd hu hS⟩
 lt:=fun h=>by
  obtain ⟨B,F1,gt,ct,st,tr,rfl,rfl,S,rk,af,hM, -⟩:=h;exact hM.lt
 ok:=fun h=>by
  obtain ⟨B,F1,gt,ct,st,tr,rfl,rfl,S,rk,af,hM, -⟩:=h;exact hM.cells.ok
 make:=fun {w p F A} h=>by
  obtain ⟨B,F1,gt,ct,st,tr,rfl,rfl,hL⟩:=h;refine aX 241 (fun _ _=>by kernel_rfl) (TM _) (fun W hW=>?_);have pg:=hL.ae hW
  by_cases hl:65536<A.hs.length
  ·have e1:bS A=0:=by unfold bS;rw [Δ hl]
   have e2:aC A=A:=by unfold aC;rw [Δ hl]
   rw [e1,e2];refine (Qq pg hl).mono ?_;rintro e w' ⟨rfl,F',⟨F2,rfl,hA⟩,hu,hf⟩;exact ⟨rfl,_,⟨B,F2,gt,ct,st,tr,rfl,rfl,hA⟩,hu,hf⟩
  ·have e1:bS A=A.hs.length:=by unfold bS;rw [Γ hl]
   rw [e1];refine (Lc pg hl).mono ?_;rintro e w' ⟨rfl,F',⟨F2,gt2,ct2,rfl,hA⟩,hu,hf⟩;exact ⟨rfl,_,⟨B,F2,gt2,ct2,st,tr,rfl,rfl,hA⟩,hu,hf⟩
 insert:=fun {w p F A} g y k s hk hB h=>by
  obtain ⟨B,F1,gt,ct,st,tr,rfl,rfl,hL⟩:=h;refine aX 240 (fun _ _=>by kernel_rfl) (Lg _) (fun W hW=>?_);refine (Ec (hL.ae hW) g y k s hk hB).mono ?_;rintro e w' ⟨rfl,hu,hL2⟩;exact ⟨rfl,Goes.stay ⟨B,F1,gt,ct,_,_,rfl,rfl,hL2⟩ hu⟩
 min:=fun {w p F A} y hB h=>by
  obtain ⟨B,F1,gt,ct,st,tr,rfl,rfl,hL⟩:=h;refine aX 243 (fun _ _=>by kernel_rfl) (VY _) (fun W hW=>?_);have pg:=hL.ae hW;have hok:A.Ok:=by obtain ⟨S,rk,af,hM, -⟩:=hL;exact hM.cells.ok
  by_cases hl:dG A (y:Int)=0
  ·rw [gJ.2 hl];have h4:=(aQ _ _).1 hB;have h5:=hok.h1;refine (KA pg y ω hl).mono ?_;rintro e w' ⟨rfl,rfl⟩;exact ⟨rfl,Goes.stay ⟨B,F1,gt,ct,st,tr,rfl,rfl,pg⟩ (aa.refl _ _)⟩
  ·refine (Aj pg y ω).mono ?_;rintro e w' ⟨m,hm, -,rfl,rfl⟩;rw [hm];exact ⟨rfl,Goes.stay ⟨B,F1,gt,ct,st,tr,rfl,rfl,pg⟩ (aa.refl _ _)⟩
 extract:=fun {w p F A} y m hm h=>by
  obtain ⟨B,F1,gt,ct,st,tr,rfl,rfl,hL⟩:=h;refine aX 239 (fun _ _=>by kernel_rfl) (Gw _) (fun W hW=>?_);have hl:¬dG A (y:Int)=0:=fun e=>by rw [gJ.2 e] at hm;cases hm
  refine (Ad (hL.ae hW) y ω).mono ?_;rintro e w' ⟨m',hm',rfl,hu,hL2⟩;rw [hm] at hm';cases hm';exact ⟨rfl,Goes.stay ⟨B,F1,gt,ct,_,_,rfl,rfl,hL2⟩ hu⟩
 has:=fun x h=>by
  obtain ⟨B,F1,gt,ct,st,tr,rfl,rfl,S,rk,af,hM, -⟩:=h;exact gN 139 (fun _ _=>by kernel_rfl) hM.h0 (GM _ _) (fun W hW=>iw (hM.ae hW).cells x)
 entry:=fun {w p F A} x h=>by
  obtain ⟨B,F1,gt,ct,st,tr,rfl,rfl,S,rk,af,hM, -⟩:=h;refine gN 137 (fun _ _=>by kernel_rfl) hM.h0 (Cf _ _) (fun W hW=>?_);cases hin:bV A x with
  | false=>simpa using jR (hM.ae hW).cells x hin
  | true=>
   obtain ⟨y,rfl⟩:=oZ hin;simpa using iY (hM.ae hW).cells y hin
theorem IC (p:Nat) (w:World):Calls Tryz.prog 99 #[.pointer (some ⟨p,0,none⟩),.int .i64 0] w fun e w'=>e=.returned (.tuple #[.iface 186 (.pointer (some ⟨p,0,none⟩)),.int .i64 0])/\w'=w:=by
 go_enter Tryz.func99,Tryz.ntmps99
 go_wp2;go_ret2;exact ⟨rfl,rfl⟩
theorem ze (n:Nat) (hn:n<=65536):lG wY 6 0 n:=by
 intro w;have kn:=fun W=>O9 n W hn;have km:=IC;have hty:wY.ty=186:=rfl;have hat:∀w' B F gt,mH w' B F gt 1 (NS.new n) 0 (fun _=>.nil)->wY.at_ w' B.n0 (B.blk F gt) (NS.new n):=fun w' B F gt h=>⟨B,F,gt,_,_,_,rfl,rfl,h⟩
 generalize wY=K at *;rw [hty]
 go_enter Tryz.func81,Tryz.ntmps81
 go_wp2_with (first
  | ((go_at_call 100;(with_reducible refine (kn _).mono ?_));rintro e w1 ⟨B,F,gt,rfl,hS,hu1,hf⟩)
  | ((go_at_call 99;(with_reducible refine (km _ _).mono ?_));rintro e w2 ⟨rfl,rfl⟩)
  | fail)
 go_ret2;exact ⟨B.n0,B.blk F gt,rfl,hat _ _ _ _ hS,aa.trans β hu1,fun x hx=>by have:=hf x hx;simp at this;omega⟩
def il (tr:Nat->BT) (h:Nat) (t:BT):Nat->BT:=fun q=>if q=h then t else tr q
end Go.Proofs.YtklibcncmbofpaaGreat
