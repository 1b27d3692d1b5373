/-
  Lemmas for PathAlike: Spine, Spine2, Bt, Bt2, Bt3, Bt4, Lf, Lf2, Lf3, Lf4, Lf5, Lf6, Lf7, Lf8, Lf9, Bt5, Lf13, Lf14, Lf15, Lf16, LfQ, TOps. Conditions: those of each lemma.
-/
import Derived.IntWalk
import Derived.Test.YtklibcncmbofpaaGreatA03
set_option linter.all false
set_option maxHeartbeats 8000000
set_option maxRecDepth 10000
namespace Go.Proofs.YtklibcncmbofpaaGreat
open Go Go.RowKit
structure TS where
 l:Nat->Int
 r:Nat->Int
 u:Nat->Int
def TS.none:TS:=⟨fun _=>-1,fun _=>-1,fun _=>-1⟩
def TS.kid (S:TS) (s:Bool) (x:Nat):Int:=if s then S.r x else S.l x
def dC (S:TS) (j:Nat):Value:=.int .i64 (if j % 3=0 then S.l (j / 3) else if j % 3=1 then S.r (j / 3) else S.u (j / 3))
theorem oW (S:TS) (x:Nat):dC S (x*3)=.int .i64 (S.l x):=by unfold dC;rw [Δ ω,show x*3 / 3=x by omega]
theorem pV (S:TS) (x:Nat):dC S (x*3+1)=.int .i64 (S.r x):=by unfold dC;rw [Γ ω,Δ ω,show (x*3+1) / 3=x by omega]
theorem tY (S:TS) (x:Nat):dC S (x*3+2)=.int .i64 (S.u x):=by unfold dC;rw [Γ ω,Γ ω,show (x*3+2) / 3=x by omega]
structure bf (w:World) (bt ba n:Nat) (S:TS):Prop where
 head:aK w bt 257 1 (fun _=>.slice (some ⟨ba,0,none⟩) n n)
 row:aK w ba 260 (n*3) (dC S)
 ne:bt≠ba
 le:n<=65536
theorem bf.upd {w w':World} {F:List Nat} {bt ba n:Nat} {S:TS} (h:bf w bt ba n S) (hu:aa F w w') (h1:bt∉F) (h2:ba∉F):bf w' bt ba n S:=
 ⟨h.head.upd hu h1,h.row.upd hu h2,h.ne,h.le⟩
theorem bf.drewN {w:World} {bt ba n:Nat} {S:TS} (h:bf w bt ba n S) (k:Nat):bf (w.drewN k) bt ba n S:=⟨h.head,h.row,h.ne,h.le⟩
theorem bf.drew {w:World} {bt ba n:Nat} {S:TS} (h:bf w bt ba n S):bf w.drew bt ba n S:=⟨h.head,h.row,h.ne,h.le⟩
theorem Nc:(Tryz.prog.info? 260).map (fun i=>(i.zero,i.size,i.bytes))=some (some (.agg #[.int .i64 0,.int .i64 0,.int .i64 0]),3,24):=by kernel_rfl
theorem wK (n:Nat) (w:World) (h:n<=65536) :
  Calls Tryz.prog 112 #[.int .i64 (n:Int)] w fun e w'=>∃bt ba,e=.returned (.tuple #[.pointer (some ⟨bt,0,none⟩),.int .i64 0])/\bf w' bt ba n TS.none/\aa [] w w'/\w.heap.size<=bt/\w.heap.size<=ba:=by
 go_enter Tryz.func112,Tryz.ntmps112
 go_wp2_with (at_make;refine wpList_make_row rfl _ 255 rfl 260 (.agg #[.int .i64 0,.int .i64 0,.int .i64 0]) 3 24 Tryz.underlying255 Nc n rfl ω μ ?_;intro w1 hr1 hu1)
 have hlt:=hr1.lt
 go_loopw [21] (fun i wr=>∃ (k:Nat) (f:Nat->Value),k<=n/\i=.int .i64 k/\aK wr w1.heap.size 257 1 (fun _=>.slice (some ⟨w.heap.size,0,none⟩) n n)/\aK wr w.heap.size 260 (n*3) f/\(∀j,j<k*3->f j=.int .i64 (-1))/\aa [] w wr) (fun i _=>n-(intOf i).toNat)
 case atStart=>exact ⟨0,_,ω,rfl,dJ _ _ _ |>.ext (fun j hj=>by simp at hj;subst hj;rfl),hr1.alloc _,ω,hu1.alloc _⟩
 case round=>
  obtain ⟨k,f,hk,rfl,hH,hR,hf,hu⟩:=hrel
  by_cases hkn:k<n
  ·have c0:=hH.cell 0 ω;have d0:=hR.cell (k*3) ω;have d1:=hR.cell (k*3+1) ω;have d2:=hR.cell (k*3+2) ω;have e0:=hR.free (k*3);have e1:=hR.free (k*3+1);have e2:=hR.free (k*3+2);have HF:=χ hf;clear hf;go_wp2
   go_roundw
   case rel=>
    refine ⟨k+1,_,ω,by go_num,((hH.far _ _ ζ).far _ _ ζ).far _ _ ζ,((hR.set _ _).set _ _).set _ _,fun j hj=>?_,((hu.setCell (Β σ) _).setCell (Β σ) _).setCell (Β σ) _⟩
    show (if j=k*3+2 then _ else if j=k*3+1 then _ else if j=k*3 then _ else f j)=_
    split
    ·rfl
    ·split
     ·rfl
     ·split
      ·rfl
      ·exact HF.out j ω
   case measure=>simp [intOf];omega
  ·obtain rfl:k=n:=ω;go_wp2;go_ret2;exact ⟨_,_,rfl,⟨hH,hR.ext (fun j hj=>by rw [hf j hj];unfold dC TS.none;simp),ω,h⟩,hu,hu1.size,Θ _⟩
theorem qG (bt ba n:Nat) (S:TS) (x:Int) (w:World) (h:bf w bt ba n S) (b:Bool) (hb:b=decide (0<=x/\x<n)) :
  Calls Tryz.prog 257 #[.pointer (some ⟨bt,0,none⟩),.int .i64 x] w fun e w'=>e=.returned (.bool b)/\w'=w:=by
 have hle:=h.le;have c0:=h.head.cell 0 ω;clear h;subst hb
 by_cases h0:0<=x
 ·by_cases h1:x<n
  ·go_enter Tryz.func257,Tryz.ntmps257
   go_wp2;go_ret;exact ⟨aU (by simp [h0,h1]),rfl⟩
  ·go_enter Tryz.func257,Tryz.ntmps257
   go_wp2;go_ret;exact ⟨aU (by simp [h0,h1]),rfl⟩
 ·go_enter Tryz.func257,Tryz.ntmps257
  go_wp2;go_ret;exact ⟨aU ζ,rfl⟩
theorem ry (b:Bool) (w:World):Calls Tryz.prog 253 #[.bool b] w fun e w'=>e=.returned (.int .i64 (if b then 1 else 0))/\w'=w:=by
 cases b
 all_goals
  go_enter Tryz.func253,Tryz.ntmps253
  go_wp2;go_ret;exact ⟨rfl,rfl⟩
theorem told_none (w:World):Calls Tryz.prog 256 #[.int .i64 (-1)] w fun e w'=>e=.returned (.tuple #[.int .i64 0,.bool false])/\w'=w:=by
 go_enter Tryz.func256,Tryz.ntmps256
 go_wp2;go_ret2;exact ⟨rfl,rfl⟩
theorem OQ (x:Int) (w:World) (h:x≠-1):Calls Tryz.prog 256 #[.int .i64 x] w fun e w'=>e=.returned (.tuple #[.int .i64 x,.bool true])/\w'=w:=by
 have h':(x == -1)=false:=by simpa using h
 go_enter Tryz.func256,Tryz.ntmps256
 go_wp2;go_ret2;exact ⟨rfl,rfl⟩
def gK (n:Nat) (S:TS) (x:Int) (r:Bool):Int:=if 0<=x/\x<n then S.kid r x.toNat else -1
def oq (n:Nat) (S:TS) (x:Int):Int:=if 0<=x/\x<n then S.u x.toNat else -1
theorem yN (bt ba n:Nat) (S:TS) (x:Int) (r:Bool) (w:World) (h:bf w bt ba n S) :
  Calls Tryz.prog 254 #[.pointer (some ⟨bt,0,none⟩),.int .i64 x,.bool r] w fun e w'=>e=.returned (.int .i64 (gK n S x r))/\∃k,w'=w.drewN k:=by
 by_cases hx:0<=x/\x<n
 ·obtain ⟨k,rfl⟩:∃k:Nat,x=k:=⟨x.toNat,ω⟩;have hk:k<n:=ω;have e:gK n S k r=S.kid r k:=by unfold gK;rw [Δ hx];simp
  have hle:=h.le;have c0:=h.head.cell 0 ω;have d0:=h.row.cellAt (k*3) ω (oW S k);have d1:=h.row.cellAt (k*3+1) ω (pV S k);rw [e];clear e;cases r
  all_goals
   unfold TS.kid;simp only [if_true,if_false,Ϟ]
   go_enter Tryz.func254,Tryz.ntmps254
   go_wp2_with (go_at_call 257;refine (qG bt ba n S k _ h true (by simp [hk])).mono ?_;rintro e w' ⟨rfl,rfl⟩)
   go_quiet ((go_at_call 253;exact Calls.quiet_of_same (ry _ _)))
   go_wp2;go_ret;exact ⟨rfl,_,rfl⟩
 ·have e:gK n S x r=-1:=by unfold gK;rw [Γ hx]
  rw [e];clear e
  go_enter Tryz.func254,Tryz.ntmps254
  go_wp2_with (go_at_call 257;refine (qG bt ba n S x _ h false (by simp [hx])).mono ?_;rintro e w' ⟨rfl,rfl⟩)
  go_ret;exact ⟨rfl,0,rfl⟩
theorem tX (bt ba n:Nat) (S:TS) (x:Int) (w:World) (h:bf w bt ba n S) :
  Calls Tryz.prog 252 #[.pointer (some ⟨bt,0,none⟩),.int .i64 x] w fun e w'=>e=.returned (.int .i64 (oq n S x))/\w'=w:=by
 by_cases hx:0<=x/\x<n
 ·obtain ⟨k,rfl⟩:∃k:Nat,x=k:=⟨x.toNat,ω⟩;have hk:k<n:=ω;have e:oq n S k=S.u k:=by unfold oq;rw [Δ hx];simp
  have hle:=h.le;have c0:=h.head.cell 0 ω;have d0:=h.row.cellAt (k*3+2) ω (tY S k);rw [e];clear e
  go_enter Tryz.func252,Tryz.ntmps252
  go_wp2_with (go_at_call 257;refine (qG bt ba n S k _ h true (by simp [hk])).mono ?_;rintro e w' ⟨rfl,rfl⟩)
  go_ret;exact ⟨rfl,rfl⟩
 ·have e:oq n S x=-1:=by unfold oq;rw [Γ hx]
  rw [e];clear e
  go_enter Tryz.func252,Tryz.ntmps252
  go_wp2_with (go_at_call 257;refine (qG bt ba n S x _ h false (by simp [hx])).mono ?_;rintro e w' ⟨rfl,rfl⟩)
  go_ret;exact ⟨rfl,rfl⟩
def tv (x:Int):Int:=if x=-1 then 0 else x
def tb (x:Int):Bool:=decide (x≠-1)
theorem Af (x:Int) (w:World):Calls Tryz.prog 256 #[.int .i64 x] w fun e w'=>e=.returned (.tuple #[.int .i64 (tv x),.bool (tb x)])/\w'=w:=by
 by_cases h:x=-1
 ·subst h;exact told_none w
 ·have e1:tv x=x:=by unfold tv;rw [Γ h]
  have e2:tb x=true:=by unfold tb;simp [h]
  rw [e1,e2];exact OQ x w h
theorem zF (bt ba n:Nat) (S:TS) (x:Int) (w:World) (h:bf w bt ba n S) :
  Calls Tryz.prog 248 #[.pointer (some ⟨bt,0,none⟩),.int .i64 x] w fun e w'=>e=.returned (.tuple #[.int .i64 (tv (gK n S x false)),.bool (tb (gK n S x false))])/\∃k,w'=w.drewN k:=by
 generalize hy:gK n S x false=y;have c1:=yN bt ba n S x false w h;rw [hy] at c1;have c2:=fun W=>Af y W
 go_enter Tryz.func248,Tryz.ntmps248
 go_wp2_with (first|(go_at_call 254;refine c1.mono ?_;rintro e w' ⟨rfl,k,rfl⟩)|(go_at_call 256;refine (c2 _).mono ?_;rintro e w' ⟨rfl,rfl⟩))
 go_ret2;exact ⟨rfl,_,rfl⟩
theorem pF (bt ba n:Nat) (S:TS) (x:Int) (w:World) (h:bf w bt ba n S) :
  Calls Tryz.prog 249 #[.pointer (some ⟨bt,0,none⟩),.int .i64 x] w fun e w'=>e=.returned (.tuple #[.int .i64 (tv (gK n S x true)),.bool (tb (gK n S x true))])/\∃k,w'=w.drewN k:=by
 generalize hy:gK n S x true=y;have c1:=yN bt ba n S x true w h;rw [hy] at c1;have c2:=fun W=>Af y W
 go_enter Tryz.func249,Tryz.ntmps249
 go_wp2_with (first|(go_at_call 254;refine c1.mono ?_;rintro e w' ⟨rfl,k,rfl⟩)|(go_at_call 256;refine (c2 _).mono ?_;rintro e w' ⟨rfl,rfl⟩))
 go_ret2;exact ⟨rfl,_,rfl⟩
theorem PR (bt ba n:Nat) (S:TS) (x:Int) (w:World) (h:bf w bt ba n S) :
  Calls Tryz.prog 250 #[.pointer (some ⟨bt,0,none⟩),.int .i64 x] w fun e w'=>e=.returned (.tuple #[.int .i64 (tv (oq n S x)),.bool (tb (oq n S x))])/\∃k,w'=w.drewN k:=by
 generalize hy:oq n S x=y;have c1:=tX bt ba n S x w h;rw [hy] at c1;have c2:=fun W=>Af y W
 go_enter Tryz.func250,Tryz.ntmps250
 go_wp2_with (first|(go_at_call 252;refine c1.mono ?_;rintro e w' ⟨rfl,rfl⟩)|(go_at_call 256;refine (c2 _).mono ?_;rintro e w' ⟨rfl,rfl⟩))
 go_ret2;exact ⟨rfl,0,rfl⟩
def TS.aF (S:TS) (p:Nat) (s:Bool) (v:Int):TS:=if s then ⟨S.l,fun i=>if i=p then v else S.r i,S.u⟩ else ⟨fun i=>if i=p then v else S.l i,S.r,S.u⟩
def TS.bO (S:TS) (p:Nat) (v:Int):TS:=⟨S.l,S.r,fun i=>if i=p then v else S.u i⟩
theorem bf.aF {w:World} {bt ba n:Nat} {S:TS} (h:bf w bt ba n S) (p:Nat) (s:Bool) (v:Int) :
  bf (w.setCell ⟨ba,p*3+(if s then 1 else 0),none⟩ (.int .i64 v)) bt ba n (S.aF p s v):=by
 refine ⟨h.head.far _ _ h.ne,(h.row.set _ _).ext (fun j hj=>?_),h.ne,h.le⟩;cases s
 ·unfold dC TS.aF
  by_cases hj2:j=p*3
  ·subst hj2;simp
  ·have:¬ (j % 3=0/\j / 3=p):=ω
   by_cases h0:j % 3=0
   ·simp [hj2,h0];intro hh;exfalso;omega
   ·simp [hj2,h0]
 ·unfold dC TS.aF
  by_cases hj2:j=p*3+1
  ·subst hj2;simp;intro hh;exfalso;omega
  ·by_cases h0:j % 3=1
   ·simp [hj2,h0];intro hh;exfalso;omega
   ·simp [hj2,h0]
theorem bf.bO {w:World} {bt ba n:Nat} {S:TS} (h:bf w bt ba n S) (p:Nat) (v:Int) :
  bf (w.setCell ⟨ba,p*3+2,none⟩ (.int .i64 v)) bt ba n (S.bO p v):=by
 refine ⟨h.head.far _ _ h.ne,(h.row.set _ _).ext (fun j hj=>?_),h.ne,h.le⟩;unfold dC TS.bO
 by_cases hj2:j=p*3+2
 ·subst hj2;simp;intro hh;exfalso;omega
 ·by_cases h0:j % 3=0
  ·simp [hj2,h0]
  ·by_cases h1:j % 3=1
   ·simp [hj2,h1]
   ·simp [hj2,h0,h1];intro hh;exfalso;omega
def kP (S:TS) (p x:Int) (r:Bool):TS:=(S.aF p.toNat r x).bO x.toNat p
theorem zk (bt ba n:Nat) (S:TS) (i j:Nat) (r:Bool) (w:World) (h:bf w bt ba n S) (hi:i<n) (hj:j<n) (hne:i≠j) (hu:S.u j=-1) (hk:S.kid r i=-1) :
  Calls Tryz.prog 251 #[.pointer (some ⟨bt,0,none⟩),.int .i64 (i:Int),.int .i64 (j:Int),.bool r] w fun e w'=>e=.returned (.bool true)/\bf w' bt ba n (kP S i j r)/\aa [ba] w w':=by
 have hle:=h.le;have hbne:=h.ne;have hbne':ba≠bt:=fun e=>h.ne e.symm;have c0:=h.head.cell 0 ω;have d0:=h.row.cellAt (i*3) ω (oW S i);have d1:=h.row.cellAt (i*3+1) ω (pV S i);have d2:=h.row.cellAt (j*3+2) ω (tY S j);have e0:=h.row.free (i*3);have e1:=h.row.free (i*3+1);have e2:=h.row.free (j*3+2);have k1:=qG bt ba n S i w h true (by simp [hi]);have k2:=qG bt ba n S j w h true (by simp [hj]);have k3:=tX bt ba n S j w h;rw [show oq n S j=-1 by unfold oq;rw [Δ ω];simpa using hu] at k3;have k4:=yN bt ba n S i r w h;rw [show gK n S i r=-1 by unfold gK;rw [Δ ω];simpa using hk] at k4
 have hij:((i:Int) == (j:Int))=false:=ζ;have H:=χ h;clear h hu hk;cases r
 ·go_enter Tryz.func251,Tryz.ntmps251
  go_wp2_with (first
   | (go_at_call 257;(with_reducible refine (k1).mono ?_);rintro e w' ⟨rfl,rfl⟩)
   | (go_at_call 257;(with_reducible refine (k2).mono ?_);rintro e w' ⟨rfl,rfl⟩)
   | (go_at_call 252;(with_reducible refine (k3).mono ?_);rintro e w' ⟨rfl,rfl⟩)
   | (go_at_call 254;(with_reducible refine (k4).mono ?_);rintro e w' ⟨rfl,kd,rfl⟩))
  go_region_held3 (fun W=>W.cell? ⟨bt,0,none⟩=some (.slice (some ⟨ba,0,none⟩) n n)) (go_keep) ((go_at_call 253;refine (ry _ _).mono ?_;rintro e w' ⟨rfl,rfl⟩))
  go_wp2;go_ret;exact ⟨rfl,((H.out.drewN _).aF i false j).bO j i,(((aa.refl _ _).drewN _).setCell (Α σ) _).setCell (Α σ) _⟩
 ·go_enter Tryz.func251,Tryz.ntmps251
  go_wp2_with (first
   | (go_at_call 257;(with_reducible refine (k1).mono ?_);rintro e w' ⟨rfl,rfl⟩)
   | (go_at_call 257;(with_reducible refine (k2).mono ?_);rintro e w' ⟨rfl,rfl⟩)
   | (go_at_call 252;(with_reducible refine (k3).mono ?_);rintro e w' ⟨rfl,rfl⟩)
   | (go_at_call 254;(with_reducible refine (k4).mono ?_);rintro e w' ⟨rfl,kd,rfl⟩))
  go_region_held3 (fun W=>W.cell? ⟨bt,0,none⟩=some (.slice (some ⟨ba,0,none⟩) n n)) (go_keep) ((go_at_call 253;refine (ry _ _).mono ?_;rintro e w' ⟨rfl,rfl⟩))
  go_wp2;go_ret;exact ⟨rfl,((H.out.drewN _).aF i true j).bO j i,(((aa.refl _ _).drewN _).setCell (Α σ) _).setCell (Α σ) _⟩
theorem D8 (bt ba n:Nat) (S:TS) (x:Int) (w:World) (h:bf w bt ba n S) (hu:oq n S x=-1) :
  Calls Tryz.prog 244 #[.pointer (some ⟨bt,0,none⟩),.int .i64 x] w fun e w'=>e=.returned (.tuple #[.int .i64 0,.bool false])/\w'=w:=by
 have k3:=tX bt ba n S x w h;rw [hu] at k3;clear h hu
 go_enter Tryz.func244,Tryz.ntmps244
 go_wp2_with ((go_at_call 252;(with_reducible refine (k3).mono ?_);rintro e w' ⟨rfl,rfl⟩))
 go_ret2;exact ⟨rfl,rfl⟩
def mD (S:TS) (i j:Nat):TS:=(S.aF i (decide (S.r i=j)) (-1)).bO j (-1)
theorem D9 (bt ba n:Nat) (S:TS) (i j:Nat) (w:World) (h:bf w bt ba n S) (hi:i<n) (hj:j<n) (hu:S.u j=i) :
  Calls Tryz.prog 244 #[.pointer (some ⟨bt,0,none⟩),.int .i64 (j:Int)] w fun e w'=>e=.returned (.tuple #[.int .i64 (i:Int),.bool true])/\bf w' bt ba n (mD S i j)/\aa [ba] w w':=by
 have hle:=h.le;have hbne:ba≠bt:=fun e=>h.ne e.symm;have c0:=h.head.cell 0 ω;have d0:=h.row.cellAt (i*3) ω (oW S i);have d1:=h.row.cellAt (i*3+1) ω (pV S i);have d2:=h.row.cellAt (j*3+2) ω (tY S j);have e0:=h.row.free (i*3);have e1:=h.row.free (i*3+1);have e2:=h.row.free (j*3+2);have k3:=tX bt ba n S j w h;rw [show oq n S j=i by unfold oq;rw [Δ ω];simpa using hu] at k3;have k4:=fun W (hW:bf W bt ba n S)=>yN bt ba n S i true W hW;rw [show gK n S i true=S.r i by unfold gK TS.kid;rw [Δ ω];simp] at k4;have H:=χ h;have hi1:((i:Int) == -1)=false:=σ;clear h
 by_cases hr:S.r i=j
 ·have hb:(S.r i == (j:Int))=true:=by simpa using hr
  have ec:mD S i j=(S.aF i true (-1)).bO j (-1):=by unfold mD;rw [Ν hr]
  have EC:=χ ec;clear hr ec hu
  go_enter Tryz.func244,Tryz.ntmps244
  go_wp2_with ((go_at_call 252;(with_reducible refine (k3).mono ?_);rintro e w' ⟨rfl,rfl⟩))
  go_region_held3 (fun W=>W.cell? ⟨bt,0,none⟩=some (.slice (some ⟨ba,0,none⟩) n n)) (go_keep)
   (first|((go_at_call 253;refine (ry _ _).mono ?_;rintro e w' ⟨rfl,rfl⟩))|((go_at_call 254;refine (k4 _ (H.out.drew)).mono ?_;rintro e w' ⟨rfl,kd,rfl⟩)))
  go_wp2;go_ret2;exact ⟨rfl,by rw [EC.out];exact ((H.out.drewN _).aF i true (-1)).bO j (-1),(((aa.refl _ _).drewN _).setCell (Α σ) _).setCell (Α σ) _⟩
 ·have hb:(S.r i == (j:Int))=false:=by simpa using hr
  have ec:mD S i j=(S.aF i false (-1)).bO j (-1):=by unfold mD;rw [Ξ hr]
  have EC:=χ ec;clear hr ec hu
  go_enter Tryz.func244,Tryz.ntmps244
  go_wp2_with ((go_at_call 252;(with_reducible refine (k3).mono ?_);rintro e w' ⟨rfl,rfl⟩))
  go_region_held3 (fun W=>W.cell? ⟨bt,0,none⟩=some (.slice (some ⟨ba,0,none⟩) n n)) (go_keep)
   (first|((go_at_call 253;refine (ry _ _).mono ?_;rintro e w' ⟨rfl,rfl⟩))|((go_at_call 254;refine (k4 _ (H.out.drew)).mono ?_;rintro e w' ⟨rfl,kd,rfl⟩)))
  go_wp2;go_ret2;exact ⟨rfl,by rw [EC.out];exact ((H.out.drewN _).aF i false (-1)).bO j (-1),(((aa.refl _ _).drewN _).setCell (Α σ) _).setCell (Α σ) _⟩
def je (S:TS) (i:Nat):TS:=(S.aF i false (S.r i)).aF i true (S.l i)
theorem zw (bt ba n:Nat) (S:TS) (i:Nat) (w:World) (h:bf w bt ba n S) (hi:i<n) :
  Calls Tryz.prog 259 #[.pointer (some ⟨bt,0,none⟩),.int .i64 (i:Int)] w fun e w'=>e=.returned (.bool true)/\bf w' bt ba n (je S i)/\aa [ba] w w':=by
 have hle:=h.le;have c0:=h.head.cell 0 ω;have d0:=h.row.cellAt (i*3) ω (oW S i);have d1:=h.row.cellAt (i*3+1) ω (pV S i);have e0:=h.row.free (i*3);have e1:=h.row.free (i*3+1);have k1:=qG bt ba n S i w h true (by simp [hi]);have H:=χ h;clear h
 go_enter Tryz.func259,Tryz.ntmps259
 go_wp2_with ((go_at_call 257;(with_reducible refine (k1).mono ?_);rintro e w' ⟨rfl,rfl⟩))
 go_region
 go_wp2;go_ret;exact ⟨rfl,((H.out.aF i false (S.r i)).aF i true (S.l i)).drew,(((aa.refl _ _).setCell (Α σ) _).setCell (Α σ) _).drew⟩
end Go.Proofs.YtklibcncmbofpaaGreat
namespace Go.Proofs.YtklibcncmbofpaaGreat
inductive BT where
 | nil:BT
 | node:Nat->BT->BT->BT
def BT.root:BT->Int | .nil=>-1 | .node x _ _=>x
def BT.nodes:BT->List Nat | .nil=>[] | .node x l r=>x::(l.nodes++r.nodes)
def BT.size:BT->Nat | .nil=>0 | .node _ l r=>l.size+r.size+1
theorem BT.lC:∀t:BT,t.nodes.length=t.size
 | .nil=>rfl
 | .node x l r=>by simp [BT.nodes,BT.size,BT.lC l,BT.lC r]
def bV (S:TS):Int->Int->BT->Prop
 | _,z,.nil=>z=-1
 | p,z,.node x l r=>z=x/\S.u x=p/\bV S x (S.l x) l/\bV S x (S.r x) r
theorem bV.root {S:TS}:∀ {t:BT} {p z:Int},bV S p z t->z=t.root
 | .nil,_,_,h=>h
 | .node _ _ _,_,_,h=>h.1
def TS.at (S S':TS) (x:Nat):Prop:=S'.l x=S.l x/\S'.r x=S.r x/\S'.u x=S.u x
theorem bV.frame {S S':TS}:∀ {t:BT} {p z:Int},bV S p z t->(∀x,x∈t.nodes->S.at S' x)->bV S' p z t
 | .nil,_,_,h,_=>h
 | .node x l r,p,z,h,hs=>by
  have hx:=hs x (by simp [BT.nodes]);refine ⟨h.1,by rw [hx.2.2];exact h.2.1,?_,?_⟩
  ·rw [hx.1];exact bV.frame h.2.2.1 (fun y hy=>hs y (by simp [BT.nodes,hy]))
  ·rw [hx.2.1];exact bV.frame h.2.2.2 (fun y hy=>hs y (by simp [BT.nodes,hy]))
theorem bV.Nh {S S':TS} {t:BT} {p p' z:Int} (h:bV S p z t) (hn:t.nodes.Nodup) (hs:∀x,x∈t.nodes->S'.l x=S.l x/\S'.r x=S.r x/\(x≠t.root.toNat->S'.u x=S.u x)) (hr:t≠.nil->S'.u t.root.toNat=p'):bV S' p' z t:=by
 cases t with
 | nil=>exact h
 | node x l r=>
  have hx:=hs x (by simp [BT.nodes]);simp only [BT.nodes,Ζ,τ,not_or] at hn;refine ⟨h.1,?_,?_,?_⟩
  ·have:=hr σ;simpa [BT.root] using this
  ·rw [hx.1];refine h.2.2.1.frame (fun y hy=>?_);have hy':=hs y (by simp [BT.nodes,hy]);exact ⟨hy'.1,hy'.2.1,hy'.2.2 (fun e=>by simp [BT.root] at e;rw [e] at hy;exact hn.1.1 hy)⟩
  ·rw [hx.2.1];refine h.2.2.2.frame (fun y hy=>?_);have hy':=hs y (by simp [BT.nodes,hy]);exact ⟨hy'.1,hy'.2.1,hy'.2.2 (fun e=>by simp [BT.root] at e;rw [e] at hy;exact hn.1.2 hy)⟩
theorem bH {t:BT} (h:t≠.nil):t.root.toNat∈t.nodes/\t.root=(t.root.toNat:Int):=by
 cases t with
 | nil=>exact absurd rfl h
 | node x l r=>simp [BT.root,BT.nodes]
/-! ### ranks; what a merge gives -/
def BT.rank:BT->Nat | .nil=>0 | .node _ _ r=>r.rank+1
def au (x:Nat) (l r:BT):BT:=if l.rank<r.rank then .node x r l else .node x l r
def fK (rk:Nat->Nat):BT->Prop
 | .nil=>True
 | .node x l r=>rk x=r.rank+1/\fK rk l/\fK rk r
theorem fK.frame {rk nP:Nat->Nat}:∀ {t:BT},fK rk t->(∀x,x∈t.nodes->nP x=rk x)->fK nP t
 | .nil,_,_=>trivial
 | .node x l r,h,hs=>⟨by rw [hs x (by simp [BT.nodes])];exact h.1,h.2.1.frame (fun y hy=>hs y (by simp [BT.nodes,hy])),h.2.2.frame (fun y hy=>hs y (by simp [BT.nodes,hy]))⟩
theorem fK.root {rk:Nat->Nat} {t:BT} (h:fK rk t) (ht:t≠.nil):rk t.root.toNat=t.rank:=by
 cases t with
 | nil=>exact absurd rfl ht
 | node x l r=>simpa [BT.root,BT.rank] using h.1
def Lean:BT->Prop
 | .nil=>True
 | .node _ l r=>r.rank<=l.rank/\Lean l/\Lean r
theorem jX {x:Nat} {l r:BT} (hl:Lean l) (hr:Lean r):Lean (au x l r):=by
 unfold au;split
 ·exact ⟨ω,hr,hl⟩
 ·exact ⟨ω,hl,hr⟩
def Heap (A:NS):BT->Prop
 | .nil=>True
 | .node x l r=>(∀y,y∈l.nodes->bX A x y)/\(∀y,y∈r.nodes->bX A x y)/\Heap A l/\Heap A r
theorem kK (x:Nat) (l r:BT):(au x l r).nodes.Perm (x::(l.nodes++r.nodes)):=by
 unfold au;split
 ·simp only [BT.nodes];exact List.Perm.cons x Φ
 ·exact ό _
theorem rE {A:NS} {x:Nat} {l r:BT} (h1:∀y,y∈l.nodes->bX A x y) (h2:∀y,y∈r.nodes->bX A x y) (hl:Heap A l) (hr:Heap A r):Heap A (au x l r):=by
 unfold au;split
 ·exact ⟨h2,h1,hr,hl⟩
 ·exact ⟨h1,h2,hl,hr⟩
theorem jk (x:Nat) (l r:BT):(au x l r).root=x:=by unfold au;split<;>rfl
def aG (up:Nat->BT->BT->BT) (A:NS):BT->BT->BT×Nat
 | .nil,t=>(t,0)
 | .node x l r,.nil=>(.node x l r,0)
 | .node x l r,.node y l' r'=>
  if bX A y x then (up y l' (aG up A r' (.node x l r)).1,(aG up A r' (.node x l r)).2+1)
  else (up x l (aG up A r (.node y l' r')).1,(aG up A r (.node y l' r')).2+1)
termination_by a b=>a.size+b.size
decreasing_by
 all_goals simp only [BT.size]
 all_goals omega
theorem lh (up:Nat->BT->BT->BT) (A:NS) (t:BT):aG up A .nil t=(t,0):=by rw [aG]
theorem nX (up:Nat->BT->BT->BT) (A:NS) (t:BT):aG up A t .nil=(t,0):=by cases t<;>rw [aG]
theorem og (up:Nat->BT->BT->BT) (A:NS) (x y:Nat) (l r l' r':BT):aG up A (.node x l r) (.node y l' r')=
  if bX A y x then (up y l' (aG up A r' (.node x l r)).1,(aG up A r' (.node x l r)).2+1)
  else (up x l (aG up A r (.node y l' r')).1,(aG up A r (.node y l' r')).2+1):=by rw [aG]
structure TC (up:Nat->BT->BT->BT):Prop where
 nodes:∀x l r,(up x l r).nodes.Perm (x::(l.nodes++r.nodes))
 heap:∀A x l r,(∀y,y∈l.nodes->bX A x y)->(∀y,y∈r.nodes->bX A x y)->Heap A l->Heap A r->Heap A (up x l r)
 root:∀x l r,(up x l r).root=x
theorem mV:TC au:=⟨kK,fun _ _ _ _=>rE,jk⟩
theorem lT {up:Nat->BT->BT->BT} (U:TC up) (A:NS) (k:Nat):∀ (a b:BT),a.size+b.size<=k->
  (aG up A a b).1.nodes.Perm (a.nodes++b.nodes)/\(Heap A a->Heap A b->(a.nodes++b.nodes).Nodup->Heap A (aG up A a b).1):=by
 induction k with
 | zero=>
  intro a b hk;cases a with
  | nil=>rw [lh];exact ⟨by simp [BT.nodes],fun _ h _=>h⟩
  | node x l r=>simp only [BT.size] at hk;omega
 | succ k ih=>
  intro a b hk;cases a with
  | nil=>rw [lh];exact ⟨by simp [BT.nodes],fun _ h _=>h⟩
  | node x l r=>
   cases b with
   | nil=>rw [nX];exact ⟨by simp [BT.nodes],fun h _ _=>h⟩
   | node y l' r'=>
    rw [og];simp only [BT.size] at hk
    by_cases h:bX A y x
    ·rw [Δ h];obtain ⟨i1,i2⟩:=ih r' (.node x l r) (by simp only [BT.size];omega);have i3:=U.nodes y l' (aG up A r' (.node x l r)).1;have i4:(y::(l'.nodes++(aG up A r' (.node x l r)).1.nodes)).Perm ((BT.node x l r).nodes++(BT.node y l' r').nodes):=by
      refine Ϝ (List.Perm.cons y (List.Perm.append_left _ i1)) ?_;rw [←ϋ]
      show (y::(l'.nodes++r'.nodes++(BT.node x l r).nodes)).Perm ((BT.node x l r).nodes++(y::(l'.nodes++r'.nodes)))
      exact (Φ (l₁:=y::(l'.nodes++r'.nodes)))
     refine ⟨i3.trans i4,fun ha hb hn=>?_⟩;have hn2:(r'.nodes++(BT.node x l r).nodes).Nodup:=by
      rw [θ] at hn ⊢;simp only [BT.nodes,Ζ,θ] at hn;refine ⟨hn.2.1.2.2.1,by simp only [BT.nodes,Ζ,θ];exact hn.1,fun p hp q hq e=>hn.2.2 q hq p (by simp [hp]) e.symm⟩
     refine U.heap A y l' _ hb.1 (fun z hz=>?_) hb.2.2.1 (i2 hb.2.2.2 ha hn2);rcases τ.1 (i1.mem_iff.1 hz) with hz|hz
     ·exact hb.2.1 z hz
     ·simp only [BT.nodes,ρ,τ] at hz;rcases hz with rfl|hz|hz
      ·exact h
      ·exact bT h (ha.1 z hz)
      ·exact bT h (ha.2.1 z hz)
    ·rw [Γ h];obtain ⟨i1,i2⟩:=ih r (.node y l' r') (by simp only [BT.size];omega);have i3:=U.nodes x l (aG up A r (.node y l' r')).1;have i4:(x::(l.nodes++(aG up A r (.node y l' r')).1.nodes)).Perm ((BT.node x l r).nodes++(BT.node y l' r').nodes):=by
      refine Ϝ (List.Perm.cons x (List.Perm.append_left _ i1)) ?_;rw [←ϋ];exact ό _
     refine ⟨i3.trans i4,fun ha hb hn=>?_⟩;have hn1:=hn;rw [θ] at hn;have hxy:x≠y:=hn.2.2 x (by simp [BT.nodes]) y (by simp [BT.nodes]);have hlt:bX A x y:=by
      rcases iQ (A:=A) hxy with h'|h'
      ·exact h'
      ·exact absurd h' h
     have hn2:(r.nodes++(BT.node y l' r').nodes).Nodup:=by
      rw [θ];simp only [BT.nodes,Ζ,θ] at hn;refine ⟨hn.1.2.2.1,by simp only [BT.nodes,Ζ,θ];exact hn.2.1,fun p hp q hq e=>hn.2.2 p (by simp [hp]) q hq e⟩
     refine U.heap A x l _ ha.1 (fun z hz=>?_) ha.2.2.1 (i2 ha.2.2.2 hb hn2);rcases τ.1 (i1.mem_iff.1 hz) with hz|hz
     ·exact ha.2.1 z hz
     ·simp only [BT.nodes,ρ,τ] at hz;rcases hz with rfl|hz|hz
      ·exact hlt
      ·exact bT hlt (hb.1 z hz)
      ·exact bT hlt (hb.2.1 z hz)
theorem ve (A:NS) (k:Nat):∀ (a b:BT),a.size+b.size<=k->Lean a->Lean b->Lean (aG au A a b).1:=by
 induction k with
 | zero=>
  intro a b hk ha hb;cases a with
  | nil=>rw [lh];exact hb
  | node x l r=>simp only [BT.size] at hk;omega
 | succ k ih=>
  intro a b hk ha hb;cases a with
  | nil=>rw [lh];exact hb
  | node x l r=>
   cases b with
   | nil=>rw [nX];exact ha
   | node y l' r'=>
    rw [og];simp only [BT.size] at hk
    split
    ·exact jX hb.2.1 (ih r' (.node x l r) (by simp only [BT.size];omega) hb.2.2 ha)
    ·exact jX ha.2.1 (ih r (.node y l' r') (by simp only [BT.size];omega) ha.2.2 hb)
def uE (up:Nat->BT->BT->BT):List (Nat×BT)->BT->BT
 | [],m=>m
 | (x,l)::t,m=>up x l (uE up t m)
theorem zL (up:Nat->BT->BT->BT) (W:List (Nat×BT)) (x:Nat) (l m:BT):uE up (W++[(x,l)]) m=uE up W (up x l m):=by
 induction W with
 | nil=>rfl
 | cons p t ih=>obtain ⟨y,k⟩:=p;simp only [List.cons_append,uE,ih]
def uz (W:List (Nat×BT)):List Nat:=W.flatMap fun p=>p.1::p.2.nodes
abbrev Fr:=Nat×Bool×BT
def bq (f:Fr) (t:BT):BT:=if f.2.1 then .node f.1 f.2.2 t else .node f.1 t f.2.2
def af:List Fr->BT->BT
 | [],t=>t
 | f::P,t=>af P (bq f t)
def Cz:List Fr->Int|[]=>-1|f::_=>f.1
def dE:List Fr->List Nat|[]=>[]|f::P=>f.1::(f.2.2.nodes++dE P)
def Sa (S:TS):List Fr->Int->Prop
 | [],_=>True
 | f::P,z=>S.kid f.2.1 f.1=z/\bV S f.1 (S.kid (!f.2.1) f.1) f.2.2/\S.u f.1=Cz P/\Sa S P f.1
theorem nK (f:Fr) (t:BT):(bq f t).root=f.1:=by unfold bq;split<;>rfl
theorem PS (f:Fr) (t:BT):bq f t≠.nil:=by unfold bq;split<;>simp
theorem jo (f:Fr) (t:BT):(bq f t).nodes.Perm (f.1::(t.nodes++f.2.2.nodes)):=by
 unfold bq;split
 ·simp only [BT.nodes];exact List.Perm.cons _ Φ
 ·exact ό _
theorem aM:∀ (P:List Fr) (t:BT),(af P t).nodes.Perm (t.nodes++dE P)
 | [],t=>by simp [af,dE]
 | f::P,t=>by
  refine (aM P (bq f t)).trans ?_;refine ((jo f t).append_right (dE P)).trans ?_;simp only [dE,List.cons_append,ϋ];exact (ϝ (a:=f.1) (l₁:=t.nodes) (l₂:=f.2.2.nodes++dE P)).symm
theorem zX:∀ (P:List Fr) (t t':BT),t.root=t'.root->(af P t).root=(af P t').root
 | [],t,t',h=>h
 | f::P,t,t',h=>zX P _ _ (by rw [nK,nK])
theorem jP (f:Fr) (P:List Fr) (t t':BT):(af (f::P) t).root=(af (f::P) t').root:=zX P _ _ (by rw [nK,nK])
theorem sF:∀ (P Q:List Fr) (t:BT),af (P++Q) t=af Q (af P t)
 | [],_,_=>rfl
 | f::P,Q,t=>sF P Q (bq f t)
theorem xu:∀ {t:BT} {x:Nat},x∈t.nodes->∃P l r,t=af P (.node x l r)
 | .nil,_,h=>by cases h
 | .node y a b,x,h=>by
  simp only [BT.nodes,ρ,τ] at h;rcases h with rfl|h|h
  ·exact ⟨[],a,b,rfl⟩
  ·obtain ⟨P,l,r,e⟩:=xu h;exact ⟨P++[(y,false,b)],l,r,by rw [sF,←e];rfl⟩
  ·obtain ⟨P,l,r,e⟩:=xu h;exact ⟨P++[(y,true,a)],l,r,by rw [sF,←e];rfl⟩
theorem Np {S:TS} {p:Int} (f:Fr) (t:BT):bV S p f.1 (bq f t)↔bV S f.1 t.root t/\S.kid f.2.1 f.1=t.root/\bV S f.1 (S.kid (!f.2.1) f.1) f.2.2/\S.u f.1=p:=by
 obtain ⟨x,s,o⟩:=f;cases s
 ·simp only [bq,Ϟ,if_false,bV,TS.kid,Bool.not_false,if_true];constructor
  ·rintro ⟨_,h2,h3,h4⟩;have e:=h3.root;exact ⟨by rw [←e];exact h3,e,h4,h2⟩
  ·rintro ⟨h1,h2,h3,h4⟩;exact ⟨trivial,h4,by rw [h2];exact h1,h3⟩
 ·simp only [bq,if_true,bV,TS.kid,Bool.not_true,Ϟ,if_false];constructor
  ·rintro ⟨_,h2,h3,h4⟩;have e:=h4.root;exact ⟨by rw [←e];exact h4,e,h3,h2⟩
  ·rintro ⟨h1,h2,h3,h4⟩;exact ⟨trivial,h4,h3,by rw [h2];exact h1⟩
theorem dL {S:TS}:∀ (P:List Fr) (t:BT),bV S (-1) (af P t).root (af P t)↔bV S (Cz P) t.root t/\Sa S P t.root
 | [],t=>by simp [af,Cz,Sa]
 | f::P,t=>by
  have h:=dL (S:=S) P (bq f t);rw [nK] at h
  show bV S (-1) (af P (bq f t)).root (af P (bq f t))↔_
  rw [h,Np];simp only [Cz,Sa];constructor
  ·rintro ⟨⟨h1,h2,h3,h4⟩,h5⟩;exact ⟨h1,h2,h3,h4,h5⟩
  ·rintro ⟨h1,h2,h3,h4,h5⟩;exact ⟨⟨h1,h2,h3,h4⟩,h5⟩
theorem Sa.frame {S S':TS}:∀ {P:List Fr} {z:Int},Sa S P z->(∀y,y∈dE P->S.at S' y)->Sa S' P z
 | [],_,_,_=>trivial
 | f::P,z,h,hs=>by
  obtain ⟨h1,h2,h3,h4⟩:=h;have hf:=hs f.1 (by simp [dE]);have hk:∀s,S'.kid s f.1=S.kid s f.1:=fun s=>by unfold TS.kid;rw [hf.1,hf.2.1]
  exact ⟨by rw [hk];exact h1,by rw [hk];exact h2.frame (fun y hy=>hs y (by simp [dE,hy])),by rw [hf.2.2];exact h3,h4.frame (fun y hy=>hs y (by simp [dE,hy]))⟩
theorem Sa.other {S S':TS} {f:Fr} {P:List Fr} {z z':Int} (h:Sa S (f::P) z) (hn:(dE (f::P)).Nodup) (h1:S'.kid f.2.1 f.1=z') (h2:S'.kid (!f.2.1) f.1=S.kid (!f.2.1) f.1) (h3:S'.u f.1=S.u f.1)
  (hs:∀y,y≠f.1->y∈dE (f::P)->S.at S' y):Sa S' (f::P) z':=by
 obtain ⟨_,g2,g3,g4⟩:=h;simp only [dE,Ζ,τ,not_or] at hn;exact ⟨h1,by rw [h2];exact g2.frame (fun y hy=>hs y (fun e=>hn.1.1 (by rw [←e];exact hy)) (by simp [dE,hy])),by rw [h3];exact g3,g4.frame (fun y hy=>hs y (fun e=>hn.1.2 (by rw [←e];exact hy)) (by simp [dE,hy]))⟩
theorem Wm {S:TS} {i j:Nat} {y:Nat} (h1:y≠i) (h2:y≠j):S.at (mD S i j) y:=by
 unfold mD TS.aF TS.bO TS.at;refine ⟨?_,?_,?_⟩
 ·cases decide (S.r i=(j:Int))<;>simp [h1]
 ·cases decide (S.r i=(j:Int))<;>simp [h1]
 ·cases decide (S.r i=(j:Int))<;>simp [h2]
theorem Ck {S:TS} {i:Nat} {s:Bool} {v:Int}:∀y,(S.aF i s v).u y=S.u y:=fun y=>by unfold TS.aF;cases s<;>rfl
theorem Qx {S:TS} {f:Fr} {P:List Fr} {t:BT} (h:bV S (-1) (af (f::P) t).root (af (f::P) t)) (ht:t≠.nil) (hn:(af (f::P) t).nodes.Nodup) :
  bV (mD S f.1 t.root.toNat) (-1) t.root t/\bV (mD S f.1 t.root.toNat) (-1) (af (f::P) .nil).root (af (f::P) .nil)/\∀y,y≠f.1->y≠t.root.toNat->S.at (mD S f.1 t.root.toNat) y:=by
 obtain ⟨h1,h2⟩:=(dL _ _).1 h;have X0:=(aM (f::P) t).nodup_iff.1 hn;rw [θ] at X0;obtain ⟨n1,n2,n3⟩:=X0;obtain ⟨rm,rc⟩:=bH ht;generalize hx:t.root.toNat=x at *;have hfx:f.1≠x:=fun e=>n3 x rm f.1 (by simp [dE]) e.symm;have hat:∀y,y≠f.1->y≠x->S.at (mD S f.1 x) y:=fun y h1 h2=>Wm h1 h2;have hk:S.kid f.2.1 f.1=x:=by rw [h2.1,rc]
 have hside:decide (S.r f.1=(x:Int))=f.2.1:=by
  cases hs:f.2.1 with
  | true=>rw [hs] at hk;exact Ν (by simpa [TS.kid] using hk)
  | false=>
   refine Ξ (fun e=>?_);have h3:=h2.2.1;rw [hs] at h3;have h4:=h3.root;have h5:f.2.2.root=(x:Int):=by rw [←h4];simpa [TS.kid] using e
   have h6:f.2.2≠.nil:=fun e=>by rw [e] at h5;simp [BT.root] at h5
   have h7:=(bH h6).1;rw [h5,π] at h7;exact n3 x rm x (by simp [dE,h7]) rfl
 have P6:∀s,(mD S f.1 x).kid s f.1=if s=f.2.1 then -1 else S.kid s f.1:=fun s=>by
  unfold mD;rw [hside];unfold TS.aF TS.bO TS.kid;cases s<;>cases f.2.1<;>simp
 have hu:∀y,(mD S f.1 x).u y=if y=x then -1 else S.u y:=fun y=>by
  unfold mD TS.bO;simp only [Ck]
 refine ⟨h1.Nh n1 (fun y hy=>?_) (fun _=>?_),(dL _ _).2 ⟨rfl,h2.other n2 ?_ ?_ ?_ (fun y g1 g2=>hat y g1 (fun e=>n3 x rm y g2 e.symm))⟩,hat⟩
 ·have hyf:y≠f.1:=fun e=>n3 y hy f.1 (by simp [dE]) e;refine ⟨?_,?_,fun hr=>?_⟩
  ·unfold mD TS.aF TS.bO;cases decide (S.r f.1=(x:Int))<;>simp [hyf]
  ·unfold mD TS.aF TS.bO;cases decide (S.r f.1=(x:Int))<;>simp [hyf]
  ·rw [hu,Γ (by rw [hx] at hr;exact hr)]
 ·rw [hu,hx,Δ rfl]
 ·rw [P6,Δ rfl];rfl
 ·rw [P6,Γ (by cases f.2.1<;>simp)]
 ·rw [hu,Γ hfx]
theorem Pg {S:TS} {f:Fr} {P:List Fr} {m:BT} (h:bV S (-1) (af (f::P) .nil).root (af (f::P) .nil)) (hM:bV S (-1) m.root m) (hm:m≠.nil) (hn:(m.nodes++dE (f::P)).Nodup) :
  bV (kP S f.1 m.root f.2.1) (-1) (af (f::P) m).root (af (f::P) m)/\∀y,y≠f.1->y≠m.root.toNat->S.at (kP S f.1 m.root f.2.1) y:=by
 obtain ⟨_,h2⟩:=(dL _ _).1 h;rw [θ] at hn;obtain ⟨n1,n2,n3⟩:=hn;obtain ⟨rm,rc⟩:=bH hm;have hfx:f.1≠m.root.toNat:=fun e=>n3 _ rm f.1 (by simp [dE]) e.symm;have P6:∀s,(kP S f.1 m.root f.2.1).kid s f.1=if s=f.2.1 then m.root else S.kid s f.1:=fun s=>by
  unfold kP TS.aF TS.bO TS.kid;cases s<;>cases f.2.1<;>simp
 have hu:∀y,(kP S f.1 m.root f.2.1).u y=if y=m.root.toNat then (f.1:Int) else S.u y:=fun y=>by
  unfold kP TS.bO;simp only [Ck]
 have hl:∀y,y≠f.1->(kP S f.1 m.root f.2.1).l y=S.l y/\(kP S f.1 m.root f.2.1).r y=S.r y:=fun y hy=>by
  unfold kP TS.aF TS.bO;cases f.2.1<;>simp [hy]
 have hat:∀y,y≠f.1->y≠m.root.toNat->S.at (kP S f.1 m.root f.2.1) y:=fun y g1 g2=>⟨(hl y g1).1,(hl y g1).2,by rw [hu,Γ g2]⟩
 refine ⟨(dL _ _).2 ⟨hM.Nh n1 (fun y hy=>?_) (fun _=>by rw [hu,Δ rfl];rfl),h2.other n2 ?_ ?_ ?_ (fun y g1 g2=>hat y g1 (fun e=>n3 _ rm y g2 e.symm))⟩,hat⟩
 ·have hyf:y≠f.1:=fun e=>n3 y hy f.1 (by simp [dE]) e;exact ⟨(hl y hyf).1,(hl y hyf).2,fun hr=>by rw [hu,Γ hr]⟩
 ·rw [P6,Δ rfl]
 ·rw [P6,Γ (by cases f.2.1<;>simp)]
 ·rw [hu,Γ hfx]
/-! ### heaps, ranks -/
theorem vg {A:NS} {f:Fr} {t:BT}:Heap A (bq f t)↔(∀y,y∈t.nodes->bX A f.1 y)/\(∀y,y∈f.2.2.nodes->bX A f.1 y)/\Heap A t/\Heap A f.2.2:=by
 unfold bq
 split
 ·simp only [Heap];constructor
  ·rintro ⟨a,b,c,d⟩;exact ⟨b,a,d,c⟩
  ·rintro ⟨a,b,c,d⟩;exact ⟨b,a,d,c⟩
 ·simp only [Heap]
theorem rV {A:NS}:∀ {P:List Fr} {t:BT},Heap A (af P t)->Heap A t
 | [],_,h=>h
 | f::P,t,h=>(vg.1 (rV (P:=P) h)).2.2.1
theorem sK {A:NS}:∀ {P:List Fr} {t t':BT},Heap A (af P t)->Heap A t'->(∀y,y∈t'.nodes->y∈t.nodes)->Heap A (af P t')
 | [],_,_,_,h,_=>h
 | f::P,t,t',h,h',hs=>by
  have h1:=vg.1 (rV (P:=P) h);refine sK (P:=P) h (vg.2 ⟨fun y hy=>h1.1 y (hs y hy),h1.2.1,h',h1.2.2.2⟩) (fun y hy=>?_);have hy':=(jo f t').mem_iff.1 hy;refine (jo f t).mem_iff.2 ?_;simp only [ρ,τ] at hy' ⊢;rcases hy' with h|h|h
  ·exact Α h
  ·exact Β (Α (hs y h))
  ·exact Β (Β h)
def kN (f:Fr) (n:Nat):Nat:=(if f.2.1 then n else f.2.2.rank)+1
theorem AA (f:Fr) (t:BT):(bq f t).rank=kN f t.rank:=by unfold bq kN;split<;>rfl
def Ra (rk:Nat->Nat):List Fr->Nat->Prop
 | [],_=>True
 | f::P,n=>fK rk f.2.2/\rk f.1=kN f n/\Ra rk P (kN f n)
theorem Qz {rk:Nat->Nat} {f:Fr} {t:BT}:fK rk (bq f t)↔fK rk t/\fK rk f.2.2/\rk f.1=kN f t.rank:=by
 unfold bq kN
 split
 ·simp only [fK];constructor
  ·rintro ⟨a,b,c⟩;exact ⟨c,b,a⟩
  ·rintro ⟨a,b,c⟩;exact ⟨c,b,a⟩
 ·simp only [fK];constructor
  ·rintro ⟨a,b,c⟩;exact ⟨b,c,a⟩
  ·rintro ⟨a,b,c⟩;exact ⟨c,a,b⟩
theorem yz {rk:Nat->Nat}:∀ (P:List Fr) (t:BT),fK rk (af P t)↔fK rk t/\Ra rk P t.rank
 | [],t=>by simp [af,Ra]
 | f::P,t=>by
  show fK rk (af P (bq f t))↔_
  rw [yz P,Qz,AA];simp only [Ra];constructor
  ·rintro ⟨⟨a,b,c⟩,d⟩;exact ⟨a,b,c,d⟩
  ·rintro ⟨a,b,c,d⟩;exact ⟨⟨a,b,c⟩,d⟩
theorem Ra.frame {rk nP:Nat->Nat}:∀ {P:List Fr} {n:Nat},Ra rk P n->(∀y,y∈dE P->nP y=rk y)->Ra nP P n
 | [],_,_,_=>trivial
 | f::P,n,h,hs=>⟨h.1.frame (fun y hy=>hs y (by simp [dE,hy])),by rw [hs f.1 (by simp [dE])];exact h.2.1,h.2.2.frame (fun y hy=>hs y (by simp [dE,hy]))⟩
def Ct:List Fr->Nat->Prop
 | [],_=>True
 | f::P,n=>Lean f.2.2/\(if f.2.1 then n<=f.2.2.rank else f.2.2.rank<=n)/\Ct P (kN f n)
theorem Ji {f:Fr} {t:BT}:Lean (bq f t)↔Lean t/\Lean f.2.2/\(if f.2.1 then t.rank<=f.2.2.rank else f.2.2.rank<=t.rank):=by
 unfold bq
 split
 ·simp only [Lean];constructor
  ·rintro ⟨a,b,c⟩;exact ⟨c,b,a⟩
  ·rintro ⟨a,b,c⟩;exact ⟨c,b,a⟩
 ·simp only [Lean];constructor
  ·rintro ⟨a,b,c⟩;exact ⟨b,c,a⟩
  ·rintro ⟨a,b,c⟩;exact ⟨c,a,b⟩
theorem tH:∀ (P:List Fr) (t:BT),Lean (af P t)↔Lean t/\Ct P t.rank
 | [],t=>by simp [af,Ct]
 | f::P,t=>by
  show Lean (af P (bq f t))↔_
  rw [tH P,Ji,AA];simp only [Ct];constructor
  ·rintro ⟨⟨a,b,c⟩,d⟩;exact ⟨a,b,c,d⟩
  ·rintro ⟨a,b,c,d⟩;exact ⟨⟨a,b,c⟩,d⟩
def j4:List Fr->Nat->Nat->BT->BT->BT
 | [],_,x,l,r=>au x l r
 | f::P,was,x,l,r=>
  if (au x l r).rank=was then af (f::P) (au x l r)
  else if f.2.1 then j4 P (kN f was) f.1 f.2.2 (au x l r) else j4 P (kN f was) f.1 (au x l r) f.2.2
theorem qI:∀ (P:List Fr) (was x:Nat) (l r:BT),(j4 P was x l r).nodes.Perm (af P (.node x l r)).nodes
 | [],was,x,l,r=>kK x l r
 | f::P,was,x,l,r=>by
  have h0:(bq f (au x l r)).nodes.Perm (bq f (.node x l r)).nodes:=
   (jo f _).trans ((List.Perm.cons _ ((kK x l r).append_right _)).trans (jo f (.node x l r)).symm)
  have h1:(af P (bq f (au x l r))).nodes.Perm (af P (bq f (.node x l r))).nodes:=
   (aM P _).trans ((h0.append_right _).trans (aM P _).symm)
  unfold j4
  split
  ·exact h1
  ·split
   ·rename_i hs
    have e:bq f (au x l r)=.node f.1 f.2.2 (au x l r):=by unfold bq;rw [Δ hs]
    rw [e] at h1;exact (qI P _ _ _ _).trans h1
   ·rename_i hs
    have e:bq f (au x l r)=.node f.1 (au x l r) f.2.2:=by unfold bq;rw [Γ hs]
    rw [e] at h1;exact (qI P _ _ _ _).trans h1
theorem tq:∀ (P:List Fr) (was x:Nat) (l r:BT),(j4 P was x l r).root=(af P (.node x l r)).root
 | [],was,x,l,r=>jk x l r
 | f::P,was,x,l,r=>by
  have h1:=jP f P (au x l r) (.node x l r);unfold j4
  split
  ·exact h1
  ·split
   ·rename_i hs
    have e:bq f (au x l r)=.node f.1 f.2.2 (au x l r):=by unfold bq;rw [Δ hs]
    unfold af at h1;rw [e] at h1;exact (tq P _ _ _ _).trans h1
   ·rename_i hs
    have e:bq f (au x l r)=.node f.1 (au x l r) f.2.2:=by unfold bq;rw [Γ hs]
    unfold af at h1;rw [e] at h1;exact (tq P _ _ _ _).trans h1
theorem sQ {A:NS}:∀ (P:List Fr) (was x:Nat) (l r:BT),Heap A (af P (.node x l r))->Heap A (j4 P was x l r)
 | [],was,x,l,r,h=>rE h.1 h.2.1 h.2.2.1 h.2.2.2
 | f::P,was,x,l,r,h=>by
  have h0:=rV h;have h1:Heap A (af (f::P) (au x l r)):=sK h (rE h0.1 h0.2.1 h0.2.2.1 h0.2.2.2) (fun y hy=>(kK x l r).mem_iff.1 hy);unfold j4
  split
  ·exact h1
  ·split
   ·rename_i hs
    have e:bq f (au x l r)=.node f.1 f.2.2 (au x l r):=by unfold bq;rw [Δ hs]
    unfold af at h1;rw [e] at h1;exact sQ P _ _ _ _ h1
   ·rename_i hs
    have e:bq f (au x l r)=.node f.1 (au x l r) f.2.2:=by unfold bq;rw [Γ hs]
    unfold af at h1;rw [e] at h1;exact sQ P _ _ _ _ h1
theorem tL:∀ (P:List Fr) (was x:Nat) (l r:BT),Lean l->Lean r->Ct P was->Lean (j4 P was x l r)
 | [],was,x,l,r,hl,hr,_=>jX hl hr
 | f::P,was,x,l,r,hl,hr,h=>by
  unfold j4
  split
  ·rename_i e
   exact (tH _ _).2 ⟨jX hl hr,by rw [e];exact h⟩
  ·split
   ·exact tL P _ _ _ _ h.1 (jX hl hr) h.2.2
   ·exact tL P _ _ _ _ (jX hl hr) h.1 h.2.2
theorem Heap.frame {A A':NS}:∀ {t:BT},Heap A t->(∀x,x∈t.nodes->A'.c x=A.c x)->Heap A' t
 | .nil,_,_=>trivial
 | .node x l r,h,hs=>by
  have hx:=hs x (by simp [BT.nodes]);refine ⟨fun y hy=>(eZ hx (hs y (by simp [BT.nodes,hy]))).2 (h.1 y hy),fun y hy=>(eZ hx (hs y (by simp [BT.nodes,hy]))).2 (h.2.1 y hy),h.2.2.1.frame (fun y hy=>hs y (by simp [BT.nodes,hy])),h.2.2.2.frame (fun y hy=>hs y (by simp [BT.nodes,hy]))⟩
structure Tv where
 H:NS->BT->Prop
 frame:∀ {A A':NS} {t:BT},H A t->(∀x,x∈t.nodes->A'.c x=A.c x)->H A' t
 nil:∀A,H A .nil
abbrev heapK:Tv:=⟨Heap,Heap.frame,fun _=>trivial⟩
structure vT (K:Tv) (A:NS) (S:TS) (ah:List Int) (tr:Nat->BT):Prop where
 top:∀h,h<A.hs.length->ah.getD h 0=(tr h).root
 Ex:∀h,bV S (-1) (tr h).root (tr h)
 mem:∀h x,x∈(tr h).nodes↔0<h/\x<A.cs.length/\(A.c x).i=h
 nd:∀h,(tr h).nodes.Nodup
 heap:∀h,K.H A (tr h)
 free:∀x,x<A.cs.length->(A.c x).i=0->S.l x=-1/\S.r x=-1/\S.u x=-1
abbrev TrI:=vT heapK
theorem vT.next {K:Tv} {A A':NS} {S S':TS} {ah iU:List Int} {tr IA:Nat->BT} (h:vT K A S ah tr) (hc:A'.cs.length=A.cs.length) (keep:Nat->Prop)
  (k1:∀g,keep g->IA g=tr g/\∀x,x∈(tr g).nodes->S.at S' x/\A'.c x=A.c x)
  (k2:∀g,keep g->∀x,x<A.cs.length->0<g->((A'.c x).i=g↔(A.c x).i=g))
  (n1:∀g,¬keep g->bV S' (-1) (IA g).root (IA g)/\(IA g).nodes.Nodup/\K.H A' (IA g)/\∀x,x∈(IA g).nodes↔0<g/\x<A.cs.length/\(A'.c x).i=g)
  (tp:∀g,g<A'.hs.length->iU.getD g 0=(IA g).root)
  (fr:∀x,x<A.cs.length->(A'.c x).i=0->S'.l x=-1/\S'.r x=-1/\S'.u x=-1):vT K A' S' iU IA:=by
 refine ⟨tp,fun g=>?_,fun g x=>?_,fun g=>?_,fun g=>?_,fun x hx=>fr x ω⟩
 ·by_cases hk:keep g
  ·obtain ⟨e,hs⟩:=k1 g hk;rw [e];exact (h.Ex g).frame (fun y hy=>(hs y hy).1)
  ·exact (n1 g hk).1
 ·rw [hc]
  by_cases hk:keep g
  ·rw [(k1 g hk).1,h.mem g x];constructor
   ·rintro ⟨a,b,c⟩;exact ⟨a,b,(k2 g hk x b a).2 c⟩
   ·rintro ⟨a,b,c⟩;exact ⟨a,b,(k2 g hk x b a).1 c⟩
  ·exact (n1 g hk).2.2.2 x
 ·by_cases hk:keep g
  ·rw [(k1 g hk).1];exact h.nd g
  ·exact (n1 g hk).2.1
 ·by_cases hk:keep g
  ·obtain ⟨e,hs⟩:=k1 g hk;rw [e];exact K.frame (h.heap g) (fun y hy=>(hs y hy).2)
  ·exact (n1 g hk).2.2.1
def single (x:Nat):BT:=.node x .nil .nil
theorem uP {S:TS} {x:Nat} (h:S.l x=-1/\S.r x=-1/\S.u x=-1):bV S (-1) (single x).root (single x):=⟨rfl,h.2.2,h.1,h.2.1⟩
theorem vT.out {K:Tv} {A:NS} {S:TS} {ah:List Int} {tr:Nat->BT} (h:vT K A S ah tr) {x g:Nat} (hx:(A.c x).i=0):x∉(tr g).nodes:=fun hm=>by
 have:=(h.mem g x).1 hm;omega
theorem vT.put {K:Tv} {A:NS} {S S':TS} {ah:List Int} {tr:Nat->BT} (h:vT K A S ah tr) (ok:A.Ok) (hn:ah.length=A.hs.length) {g x:Nat} {k s:Int} (hB:nR A g x=true) {t':BT}
  (hT:bV S' (-1) t'.root t') (hp:t'.nodes.Perm ((tr g).nodes++[x])) (hH:K.H (aJ A g x k s) t') (hs:∀y,y∉(tr g).nodes++[x]->S.at S' y) :
  vT K (aJ A g x k s) S' (ah.set g t'.root) (fun q=>if q=g then t' else tr q):=by
 obtain ⟨b1,b2,b3⟩:=(dW _ _ _).1 hB;have b4:=(aO _ _).1 b1;have hx:x<A.cs.length:=by have:=(gH _ _).1 b2;omega
 have h0:(A.c x).i=0:=by
  have:=(ok.nat x hx).1;have h3:¬ (0<(A.c x).i):=fun h'=>by rw [(ae A x).2 ⟨hx,h'⟩] at b3;cases b3
  omega
 have hc:∀y,(aJ A g x k s).c y=if y=x then ⟨g,k,s⟩ else A.c y:=fun y=>by
  unfold aJ;rw [Δ hB,π,jQ]
  by_cases e:y=x
  ·rw [Δ ⟨e,hx⟩,Δ e]
  ·rw [Γ (fun h=>e h.1),Γ e]
 have hl:(aJ A g x k s).cs.length=A.cs.length:=by unfold aJ;rw [Δ hB,eY]
 have hh:(aJ A g x k s).hs=A.hs:=by unfold aJ;rw [Δ hB];rfl
 have hgn:g<A.hs.length:=ω;refine h.next hl (fun q=>q≠g) (fun q hq=>⟨Γ hq,fun y hy=>?_⟩) (fun q hq y hy hq0=>?_) (fun q hq=>?_) (fun q hq=>?_) (fun y hy hy0=>?_)
 ·have hyx:y≠x:=fun e=>h.out (g:=q) h0 (by rw [←e];exact hy);have hyg:y∉(tr g).nodes:=fun hm=>by
   have a1:=(h.mem g y).1 hm;have a2:=(h.mem q y).1 hy;omega
  exact ⟨hs y (by simp [hyx,hyg]),by rw [hc,Γ hyx]⟩
 ·rw [hc]
  by_cases e:y=x
  ·rw [Δ e,e];simp only;omega
  ·rw [Γ e]
 ·have hq':q=g:=Classical.not_not.1 hq;subst hq';rw [Δ rfl];refine ⟨hT,hp.nodup_iff.2 ?_,hH,fun y=>?_⟩
  ·rw [θ];refine ⟨h.nd q,σ,fun a ha b hb e=>?_⟩;simp only [ϒ] at hb;exact h.out (g:=q) h0 (by rw [←hb,←e];exact ha)
  ·rw [hp.mem_iff,τ,ϒ,h.mem q y,hc]
   by_cases e:y=x
   ·rw [Δ e];simp only [e,or_true,true_iff];exact ⟨ω,hx,trivial⟩
   ·rw [Γ e];simp only [e,or_false]
 ·rw [hh] at hq
  by_cases e:q=g
  ·rw [Δ e,e,φ,ύ,Δ rfl,Δ ω];rfl
  ·rw [Γ e,φ,ύ,Γ (fun h=>e h.symm),←φ];exact h.top q hq
 ·rw [hc] at hy0
  by_cases e:y=x
  ·rw [Δ e] at hy0;simp only at hy0;omega
  ·rw [Γ e] at hy0;have hyn:y∉(tr g).nodes++[x]:=by
    simp only [τ,ϒ,e,or_false];exact h.out hy0
   have a1:=h.free y hy hy0;have a2:=hs y hyn;exact ⟨a2.1.trans a1.1,a2.2.1.trans a1.2.1,a2.2.2.trans a1.2.2⟩
theorem DD {K:Tv} (n:Nat):vT K (NS.new n) TS.none [-1] (fun _=>BT.nil):=by
 refine ⟨fun h hh=>?_,fun h=>rfl,fun h x=>?_,fun h=>Ϡ,fun h=>K.nil _,fun x hx _=>⟨rfl,rfl,rfl⟩⟩
 ·have:h=0:=by simp [NS.new] at hh;exact hh
  subst this;rfl
 ·rw [NS.xY];simp only [BT.nodes,ς,false_iff,Cl.z];omega
theorem vT.make {K:Tv} {A:NS} {S:TS} {ah:List Int} {tr:Nat->BT} (h:vT K A S ah tr) (ok:A.Ok) (hn:ah.length=A.hs.length) (hl:¬65536<A.hs.length)  :vT K (aN A) S (ah++[-1]) tr:=by
 have hc:(aN A).cs=A.cs:=by unfold aN;rw [Γ hl]
 have hh:(aN A).hs=A.hs++[true]:=by unfold aN;rw [Γ hl]
 have hcc:∀x,(aN A).c x=A.c x:=fun x=>by unfold NS.c;rw [hc]
 refine h.next (by rw [hc]) (fun _=>True) (fun g _=>⟨rfl,fun x _=>⟨⟨rfl,rfl,rfl⟩,hcc x⟩⟩) (fun g _ x _ _=>by rw [hcc]) (fun g hg=>absurd trivial hg) (fun g hg=>?_) (fun x hx h0=>h.free x hx (by rw [hcc] at h0;exact h0));rw [hh,υ,List.length_singleton] at hg
 by_cases e:g<A.hs.length
 ·rw [φ,Ρ ω,←φ];exact h.top g e
 ·have e2:g=ah.length:=ω;have hnil:tr g=.nil:=by
   cases ht:tr g with
   | nil=>rfl
   | node x l r=>
    have hm:=(h.mem g x).1 (by rw [ht];simp [BT.nodes]);have:=(ok.nat x hm.2.1).2;omega
  rw [φ,e2,ϊ (Θ _)];rw [←e2,hnil];simp [BT.root]
end Go.Proofs.YtklibcncmbofpaaGreat
namespace Go.Proofs.YtklibcncmbofpaaGreat
open Go Go.RowKit
theorem Rp {A:NS} {x:Nat} {k s:Int} (hB:iT A x k s=true) (hx:x<A.cs.length) {l r:BT} (h:Heap A (.node x l r)) (hn:(BT.node x l r).nodes.Nodup):Heap (ak A x k s) (.node x l r):=by
 simp only [BT.nodes,Ζ,τ,not_or] at hn;have hle:=sP hB;rw [π] at hle;have hc:=qN hB hx;have hy:∀y,y≠x->(ak A x k s).c y=A.c y:=fun y e=>by rw [hc,Γ e]
 have wu:(ak A x k s).c x=⟨(A.c x).i,k,s⟩:=by rw [hc,Δ rfl]
 refine ⟨fun y m=>lI (h.1 y m) (hy y (fun e=>hn.1.1 (by rw [←e];exact m))) ?_,fun y m=>lI (h.2.1 y m) (hy y (fun e=>hn.1.2 (by rw [←e];exact m))) ?_,h.2.2.1.frame (fun y m=>hy y (fun e=>hn.1.1 (by rw [←e];exact m))),h.2.2.2.frame (fun y m=>hy y (fun e=>hn.1.2 (by rw [←e];exact m)))⟩
 ·rw [wu];exact hle
 ·rw [wu];exact hle
theorem vT.low {K:Tv} {A:NS} {S S':TS} {ah iU:List Int} {tr:Nat->BT} (h:vT K A S ah tr) {g x:Nat} {k s:Int} (hB:iT A x k s=true) (hx:x∈(tr g).nodes) {t':BT}
  (hT:bV S' (-1) t'.root t') (hp:t'.nodes.Perm (tr g).nodes) (hH:K.H (ak A x k s) t') (hs:∀y,y∉(tr g).nodes->S.at S' y)
  (htp:∀q,q<A.hs.length->iU.getD q 0=if q=g then t'.root else ah.getD q 0) :
  vT K (ak A x k s) S' iU (fun q=>if q=g then t' else tr q):=by
 have hm:=(h.mem g x).1 hx;have hc:=qN hB hm.2.1;have hi:=iy hB hm.2.1;refine h.next (eB _ _ _ _) (fun q=>q≠g) (fun q hq=>⟨Γ hq,fun y hy=>?_⟩) (fun q hq y hy hq0=>?_) (fun q hq=>?_) (fun q hq=>?_) (fun y hy hy0=>?_)
 ·have hyg:y∉(tr g).nodes:=fun hm=>by
   have a1:=(h.mem g y).1 hm;have a2:=(h.mem q y).1 hy;omega
  exact ⟨hs y hyg,by rw [hc,Γ (fun e=>hyg (by rw [e];exact hx))]⟩
 ·rw [hi]
 ·have hq':q=g:=Classical.not_not.1 hq;subst hq';rw [Δ rfl];refine ⟨hT,hp.nodup_iff.2 (h.nd q),hH,fun y=>?_⟩;rw [hp.mem_iff,h.mem q y,hi]
 ·rw [kV] at hq;rw [htp q hq]
  by_cases e:q=g
  ·rw [Δ e,Δ e]
  ·rw [Γ e,Γ e];exact h.top q hq
 ·rw [hi] at hy0;have a1:=h.free y hy hy0;have a2:=hs y (h.out hy0);exact ⟨a2.1.trans a1.1,a2.2.1.trans a1.2.1,a2.2.2.trans a1.2.2⟩
theorem vT.del {K:Tv} {A:NS} {S S':TS} {ah iU:List Int} {tr:Nat->BT} (h:vT K A S ah tr) {g x:Nat} (hx:x∈(tr g).nodes) {t':BT}
  (hT:bV S' (-1) t'.root t') (hp:(x::t'.nodes).Perm (tr g).nodes) (hH:K.H A t') (hs:∀y,y∉(tr g).nodes->S.at S' y) (hf:S'.l x=-1/\S'.r x=-1/\S'.u x=-1)
  (htp:∀q,q<A.hs.length->iU.getD q 0=if q=g then t'.root else ah.getD q 0) :
  vT K (aZ A x) S' iU (fun q=>if q=g then t' else tr q):=by
 have hm:=(h.mem g x).1 hx;have hin:bQ A (x:Int)=true:=(ae A x).2 ⟨hm.2.1,ω⟩;have hc:=xz hin;have hnd:(x::t'.nodes).Nodup:=hp.nodup_iff.2 (h.nd g);have hxt:x∉t'.nodes:=(List.nodup_cons.1 hnd).1;refine h.next (eU _ _) (fun q=>q≠g) (fun q hq=>⟨Γ hq,fun y hy=>?_⟩) (fun q hq y hy hq0=>?_) (fun q hq=>?_) (fun q hq=>?_) (fun y hy hy0=>?_)
 ·have hyg:y∉(tr g).nodes:=fun hm=>by
   have a1:=(h.mem g y).1 hm;have a2:=(h.mem q y).1 hy;omega
  exact ⟨hs y hyg,by rw [hc,Γ (fun e=>hyg (by rw [e];exact hx))]⟩
 ·rw [hc]
  by_cases e:y=x
  ·rw [Δ e,e]
   show (0:Int)=(q:Int)↔_
   omega
  ·rw [Γ e]
 ·have hq':q=g:=Classical.not_not.1 hq;subst hq';rw [Δ rfl];refine ⟨hT,(List.nodup_cons.1 hnd).2,K.frame hH (fun y hy=>by rw [hc,Γ (fun e=>hxt (by rw [←e];exact hy))]),fun y=>?_⟩;have e1:=hp.mem_iff (a:=y);rw [ρ,h.mem q y] at e1;rw [hc]
  by_cases e:y=x
  ·rw [Δ e,e];refine ⟨fun hh=>absurd hh hxt,fun hh=>?_⟩;have:(0:Int)=(q:Int):=hh.2.2;omega
  ·rw [Γ e,←e1];simp [e]
 ·rw [iK] at hq;rw [htp q hq]
  by_cases e:q=g
  ·rw [Δ e,Δ e]
  ·rw [Γ e,Γ e];exact h.top q hq
 ·rw [hc] at hy0
  by_cases e:y=x
  ·rw [e];exact hf
  ·rw [Γ e] at hy0;have a1:=h.free y hy hy0;have a2:=hs y (h.out hy0);exact ⟨a2.1.trans a1.1,a2.2.1.trans a1.2.1,a2.2.2.trans a1.2.2⟩
instance:Nonempty (List Fr×BT×BT):=⟨([],.nil,.nil)⟩
noncomputable def pathOf (t:BT) (x:Nat):List Fr×BT×BT:=Classical.epsilon fun q:List Fr×BT×BT=>t=af q.1 (.node x q.2.1 q.2.2)
theorem mZ {t:BT} {x:Nat} (h:x∈t.nodes):t=af (pathOf t x).1 (.node x (pathOf t x).2.1 (pathOf t x).2.2):=by
 obtain ⟨P,l,r,e⟩:=xu h;unfold pathOf;exact Classical.epsilon_spec (p:=fun q:List Fr×BT×BT=>t=af q.1 (.node x q.2.1 q.2.2)) ⟨(P,l,r),e⟩
structure LB where
 n0:Nat
 c:Nat
 bt:Nat
 ba:Nat
 br:Nat
structure kW (w:World) (B:LB) (F:List Nat) (gt ct:Nat) (A:NS) (st:Nat) (S:TS) (rk:Nat->Nat) (ah:List Int):Prop where
 head:aK w B.n0 231 4 (fun j=>[Value.pointer (some ⟨B.c,0,none⟩),.pointer (some ⟨B.bt,0,none⟩),.slice (some ⟨B.br,0,none⟩) A.cs.length A.cs.length,.slice (some ⟨gt,0,none⟩) ah.length ct].getD j undef)
 cells:aC w B.c F A st
 trees:bf w B.bt B.ba A.cs.length S
 ranks:aK w B.br 3 A.cs.length (fun j=>.int .i64 (rk j:Int))
 jv:IZ w gt ct ah
 jc:ah.length=A.hs.length
 bz:B.n0∉F/\B.bt∉F/\B.ba∉F/\B.br∉F/\gt∉F
 sep:(B.n0≠B.bt/\B.n0≠B.ba/\B.n0≠B.br/\B.n0≠gt)/\(B.bt≠B.br/\B.bt≠gt/\B.ba≠B.br/\B.ba≠gt/\B.br≠gt)
section
variable {w:World} {B:LB} {F:List Nat} {gt ct:Nat} {A:NS} {st:Nat} {S:TS} {rk:Nat->Nat} {ah:List Int}
def LB.blk (B:LB) (F:List Nat) (gt:Nat):List Nat:=B.n0::B.bt::B.ba::B.br::gt::F
theorem kW.upd {w':World} {G:List Nat} (h:kW w B F gt ct A st S rk ah) (hu:aa G w w') (hG:∀x,x∈G->x∉B.blk F gt):kW w' B F gt ct A st S rk ah:=by
 have h1:∀x,x∈B.blk F gt->x∉G:=fun x hx hg=>hG x hg hx;exact ⟨h.head.upd hu (h1 _ (by simp [LB.blk])),h.cells.upd hu (fun x hx=>fun hm=>hG x hx (by simp [LB.blk,hm])),h.trees.upd hu (h1 _ (by simp [LB.blk])) (h1 _ (by simp [LB.blk])),h.ranks.upd hu (h1 _ (by simp [LB.blk])),h.jv.upd hu (h1 _ (by simp [LB.blk])),h.jc,h.bz,h.sep⟩
theorem kW.aj {w':World} (h:kW w B F gt ct A st S rk ah) (hu:aa [] w w'):kW w' B F gt ct A st S rk ah:=h.upd hu σ
theorem kW.lt (h:kW w B F gt ct A st S rk ah):∀x,x∈B.blk F gt->x<w.heap.size:=by
 intro x hx;have:=h.head.lt;have:=h.trees.head.lt;have:=h.trees.row.lt;have:=h.ranks.lt;have:=h.jv.lt;simp only [LB.blk,ρ] at hx;rcases hx with rfl|rfl|rfl|rfl|rfl|hx
 ·assumption
 ·assumption
 ·assumption
 ·assumption
 ·assumption
 ·exact h.cells.lt x hx
theorem kW.cF (h:kW w B F gt ct A st S rk ah):B.c∈F:=h.cells.mem
theorem kW.h0 (h:kW w B F gt ct A st S rk ah):w.cell? ⟨B.n0,0,none⟩=some (.pointer (some ⟨B.c,0,none⟩)):=h.head.cellAt 0 ω rfl
theorem kW.h1 (h:kW w B F gt ct A st S rk ah):w.cell? ⟨B.n0,1,none⟩=some (.pointer (some ⟨B.bt,0,none⟩)):=h.head.cellAt 1 ω rfl
theorem kW.h2 (h:kW w B F gt ct A st S rk ah):w.cell? ⟨B.n0,2,none⟩=some (.slice (some ⟨B.br,0,none⟩) A.cs.length A.cs.length):=h.head.cellAt 2 ω rfl
theorem kW.h3 (h:kW w B F gt ct A st S rk ah):w.cell? ⟨B.n0,3,none⟩=some (.slice (some ⟨gt,0,none⟩) ah.length ct):=h.head.cellAt 3 ω rfl
theorem kW.iE {w':World} {S':TS} (h:kW w B F gt ct A st S rk ah) (hu:aa [B.ba] w w') (hT:bf w' B.bt B.ba A.cs.length S'):kW w' B F gt ct A st S' rk ah:=by
 have s:=h.sep;have f:=h.bz;have hne:=h.trees.ne;exact ⟨h.head.upd hu ζ,h.cells.upd hu (fun x hx=>by simp at hx;rw [hx];exact f.2.2.1),hT,h.ranks.upd hu ζ,h.jv.upd hu ζ,h.jc,f,s⟩
theorem kW.cz (h:kW w B F gt ct A st S rk ah) (x:Nat) (k:Nat):kW (w.setCell ⟨B.br,x,none⟩ (.int .i64 (k:Int))) B F gt ct A st S (fun y=>if y=x then k else rk y) ah:=by
 have s:=h.sep;have f:=h.bz;have hu:aa [B.br] w (w.setCell ⟨B.br,x,none⟩ (.int .i64 (k:Int))):=β;refine ⟨h.head.upd hu ζ,h.cells.upd hu (fun x hx=>by simp at hx;rw [hx];exact f.2.2.2.1),h.trees.upd hu ζ ζ,(h.ranks.set x _).ext (fun j hj=>?_),h.jv.upd hu ζ,h.jc,f,s⟩
 by_cases e:j=x
 ·simp only [e,if_true]
 ·simp only [e,if_false]
theorem kW.qz (h:kW w B F gt ct A st S rk ah) (x:Nat) (k:Int):kW (w.setCell ⟨gt,x,none⟩ (.int .i64 k)) B F gt ct A st S rk (ah.set x k):=by
 have s:=h.sep;have f:=h.bz;have hu:aa [gt] w (w.setCell ⟨gt,x,none⟩ (.int .i64 k)):=β;refine ⟨by rw [Ι];exact h.head.upd hu ζ,h.cells.upd hu (fun x hx=>by simp at hx;rw [hx];exact f.2.2.2.2),h.trees.upd hu ζ ζ,h.ranks.upd hu ζ,h.jv.set x k,by rw [Ι];exact h.jc,f,s⟩
theorem kW.bY {w':World} {F':List Nat} {A':NS} {st':Nat} (h:kW w B F gt ct A st S rk ah) (hu:aa F w w') (hC:aC w' B.c F' A' st') (hF:∀x,x∈F'->x∈F\/w.heap.size<=x) (h1:A'.cs.length=A.cs.length) (h2:A'.hs.length=A.hs.length):kW w' B F' gt ct A' st' S rk ah:=by
 have f:=h.bz;have g:=h.lt;have hf:∀x,x<w.heap.size->x∉F->x∉F':=fun x hx hn hm=>by rcases hF x hm with h'|h';exact hn h';omega
 have l0:=g B.n0 (by simp [LB.blk]);have l1:=g B.bt (by simp [LB.blk]);have l2:=g B.ba (by simp [LB.blk]);have l3:=g B.br (by simp [LB.blk]);have l4:=g gt (by simp [LB.blk]);exact ⟨by rw [h1];exact h.head.upd hu f.1,hC,by rw [h1];exact h.trees.upd hu f.2.1 f.2.2.1,by rw [h1];exact h.ranks.upd hu f.2.2.2.1,h.jv.upd hu f.2.2.2.2,by rw [h2];exact h.jc,⟨hf _ l0 f.1,hf _ l1 f.2.1,hf _ l2 f.2.2.1,hf _ l3 f.2.2.2.1,hf _ l4 f.2.2.2.2⟩,h.sep⟩
end
theorem nH (z:Int) (w:World):Calls Tryz.prog 247 #[.int .i64 (tv z),.bool (tb z)] w fun e w'=>e=.returned (.int .i64 z)/\w'=w:=by
 unfold tv tb
 by_cases h:z=-1
 ·subst h;simp only [if_true,ne_eq,not_true,decide_false]
  go_enter Tryz.func247,Tryz.ntmps247
  go_wp2;go_ret;exact ⟨rfl,rfl⟩
 ·rw [Γ h,Ν h]
  go_enter Tryz.func247,Tryz.ntmps247
  go_wp2;go_ret;exact ⟨rfl,rfl⟩
def gM (rk:Nat->Nat) (z:Int):Int:=if z=-1 then 0 else (rk z.toNat:Int)
section
variable {w:World} {B:LB} {F:List Nat} {gt ct:Nat} {A:NS} {st:Nat} {S:TS} {rk:Nat->Nat} {ah:List Int}
theorem jZ (h:kW w B F gt ct A st S rk ah) (z:Int) (hz:z=-1\/(0<=z/\z<A.cs.length)) :
  Calls Tryz.prog 258 #[.pointer (some ⟨B.n0,0,none⟩),.int .i64 z] w fun e w'=>e=.returned (.int .i64 (gM rk z))/\w'=w:=by
 unfold gM;have h2:=h.h2;have hA:=h.cells.ok.c1
 by_cases e:z=-1
 ·subst e;clear h
  go_enter Tryz.func258,Tryz.ntmps258
  go_wp2;go_ret;exact ⟨rfl,rfl⟩
 ·obtain ⟨i,rfl⟩:∃i:Nat,z=i:=⟨z.toNat,ω⟩;have hi:i<A.cs.length:=ω;have d:=h.ranks.cell i hi;have hb:((i:Int) == -1)=false:=σ;rw [Γ e];simp only [π];clear h e hz
  go_enter Tryz.func258,Tryz.ntmps258
  go_wp2;go_ret;exact ⟨rfl,rfl⟩
theorem tV (rk:Nat->Nat) (z:Int):0<=gM rk z:=by unfold gM;split<;>omega
theorem DR (h:kW w B F gt ct A st S rk ah) (x:Nat) (hx:x<A.cs.length) (hl:S.l x=-1\/(0<=S.l x/\S.l x<A.cs.length)) (hr:S.r x=-1\/(0<=S.r x/\S.r x<A.cs.length)) (OG:gM rk (S.l x)<=65536) (hbb:gM rk (S.r x)<=65536) (hab:gM rk (S.l x)<gM rk (S.r x)) :
  Calls Tryz.prog 255 #[.pointer (some ⟨B.n0,0,none⟩),.int .i64 (x:Int)] w fun e w'=>e=.returned (.tuple #[])/\aa [B.ba,B.br] w w'/\kW w' B F gt ct A st (je S x) (fun y=>if y=x then (gM rk (S.l x)).toNat + 1 else rk y) ah:=by
 have kl:=fun d=>zF B.bt B.ba A.cs.length S (x:Int) (w.drewN d) (h.trees.drewN d);have kr:=fun d=>pF B.bt B.ba A.cs.length S (x:Int) (w.drewN d) (h.trees.drewN d);rw [show gK A.cs.length S (x:Int) false=S.l x by unfold gK TS.kid;rw [Δ ω];simp] at kl;rw [show gK A.cs.length S (x:Int) true=S.r x by unfold gK TS.kid;rw [Δ ω];simp] at kr;have q1:∀d,(w.drewN d).cell? ⟨B.n0,1,none⟩=some (.pointer (some ⟨B.bt,0,none⟩)):=fun d=>h.h1;have H:=χ h;have rl:=fun d=>jZ (h.aj ((aa.refl [] w).drewN d)) (S.l x) hl;have rr:=fun d=>jZ (h.aj ((aa.refl [] w).drewN d)) (S.r x) hr
 have ba1:0<=gM rk (S.l x)/\gM rk (S.l x)<=65536:=⟨tV _ _,OG⟩;have bb1:0<=gM rk (S.r x)/\gM rk (S.r x)<=65536:=⟨tV _ _,hbb⟩;clear OG hbb;have HL:=χ (ψ hl hr);generalize hzl:S.l x=zl at *;generalize Md:S.r x=zr at *;generalize hra:gM rk zl=a at *;generalize hrb:gM rk zr=b at *;have HZ:=χ (ψ hzl (ψ Md (ψ hra hrb)));have hn0:=h.lt B.n0 (by simp [LB.blk]);have hbr:=h.lt B.br (by simp [LB.blk]);have hs:=h.sep;have hA:=h.cells.ok.c1;clear h hzl Md hra hrb hl hr
 go_enter Tryz.func255,Tryz.ntmps255
 go_wp2
 go_quiet ((first
  | (go_at_call 248;exact Calls.quiet_of (kl _))
  | (go_at_call 249;exact Calls.quiet_of (kr _))
  | (go_at_call 247;exact Calls.quiet_of_same (nH _ _))))
 have H2:=χ (H.out.aj ((aa.refl [] w).drewN nq));have rln:=rl nq;have rrn:=rr nq;have h1:=q1 nq;clear kl kr q1 rl rr;have kt:=zw B.bt B.ba A.cs.length S x (w.drewN nq) H2.out.trees hx
 go_wp2_with (first
  | (go_at_call 258;(with_reducible refine (rln).mono ?_);rintro e w9 ⟨rfl,aI⟩;rw [aI];clear aI w9)
  | (go_at_call 258;(with_reducible refine (rrn).mono ?_);rintro e w9 ⟨rfl,aI⟩;rw [aI];clear aI w9)
  | (go_at_call 259;(with_reducible refine (kt).mono ?_);rintro e w2 ⟨rfl,hT,hu2⟩))
 have h3:=χ (H2.out.iE hu2 hT);have hw2:aa [B.ba,B.br] w w2:=((aa.refl _ w).drewN nq).trans (hu2.mono σ);have kq:=fun W (hW:aa [] w2 W)=>jZ (h3.out.aj hW) zl HL.out.1;rw [HZ.out.2.2.1] at kq;have r0:∀W,aa [B.br] w2 W->W.cell? ⟨B.n0,2,none⟩=some (.slice (some ⟨B.br,0,none⟩) A.cs.length A.cs.length):=fun W hW=>hW.kept h3.out.h2 ζ;have d0:=h3.out.ranks.cell x hx;have d1:=h3.out.ranks.free x;have hwr:IntKind.i64.wrap (a+1)=a+1:=Μ _ ω
 go_region_held3 (aa [B.br] w2) (exact ν) ((go_at_call 258;(with_reducible refine ((kq _ β)).mono ?_);rintro e w9 ⟨rfl,aI⟩;rw [aI];clear aI w9))
 go_wp2;go_end0;clear hwr;obtain ⟨an,rfl⟩:∃an:Nat,a=an:=⟨a.toNat,ω⟩;have hR:=h3.out.cz x (an+1);rw [show ((an+1:Nat):Int)=(an:Int)+1 by omega] at hR;exact ⟨rfl,((hw2.setCell (Α σ) _)).drew,hR.aj ((aa.refl _ _).drew)⟩
theorem DI (h:kW w B F gt ct A st S rk ah) (x:Nat) (hx:x<A.cs.length) (hl:S.l x=-1\/(0<=S.l x/\S.l x<A.cs.length)) (hr:S.r x=-1\/(0<=S.r x/\S.r x<A.cs.length)) (OG:gM rk (S.l x)<=65536) (hbb:gM rk (S.r x)<=65536) (hab:¬gM rk (S.l x)<gM rk (S.r x)) :
  Calls Tryz.prog 255 #[.pointer (some ⟨B.n0,0,none⟩),.int .i64 (x:Int)] w fun e w'=>e=.returned (.tuple #[])/\aa [B.ba,B.br] w w'/\kW w' B F gt ct A st S (fun y=>if y=x then (gM rk (S.r x)).toNat + 1 else rk y) ah:=by
 have kl:=fun d=>zF B.bt B.ba A.cs.length S (x:Int) (w.drewN d) (h.trees.drewN d);have kr:=fun d=>pF B.bt B.ba A.cs.length S (x:Int) (w.drewN d) (h.trees.drewN d);rw [show gK A.cs.length S (x:Int) false=S.l x by unfold gK TS.kid;rw [Δ ω];simp] at kl;rw [show gK A.cs.length S (x:Int) true=S.r x by unfold gK TS.kid;rw [Δ ω];simp] at kr;have q1:∀d,(w.drewN d).cell? ⟨B.n0,1,none⟩=some (.pointer (some ⟨B.bt,0,none⟩)):=fun d=>h.h1;have H:=χ h;have rl:=fun d=>jZ (h.aj ((aa.refl [] w).drewN d)) (S.l x) hl;have rr:=fun d=>jZ (h.aj ((aa.refl [] w).drewN d)) (S.r x) hr
 have ba1:0<=gM rk (S.l x)/\gM rk (S.l x)<=65536:=⟨tV _ _,OG⟩;have bb1:0<=gM rk (S.r x)/\gM rk (S.r x)<=65536:=⟨tV _ _,hbb⟩;clear OG hbb;have HL:=χ (ψ hl hr);generalize hzl:S.l x=zl at *;generalize Md:S.r x=zr at *;generalize hra:gM rk zl=a at *;generalize hrb:gM rk zr=b at *;have HZ:=χ (ψ hzl (ψ Md (ψ hra hrb)));have hn0:=h.lt B.n0 (by simp [LB.blk]);have hbr:=h.lt B.br (by simp [LB.blk]);have hs:=h.sep;have hA:=h.cells.ok.c1;clear h hzl Md hra hrb hl hr
 go_enter Tryz.func255,Tryz.ntmps255
 go_wp2
 go_quiet ((first
  | (go_at_call 248;exact Calls.quiet_of (kl _))
  | (go_at_call 249;exact Calls.quiet_of (kr _))
  | (go_at_call 247;exact Calls.quiet_of_same (nH _ _))))
 have H2:=χ (H.out.aj ((aa.refl [] w).drewN nq));have rln:=rl nq;have rrn:=rr nq;have h1:=q1 nq;clear kl kr q1 rl rr
 go_wp2_with (first
  | (go_at_call 258;(with_reducible refine (rln).mono ?_);rintro e w9 ⟨rfl,aI⟩;rw [aI];clear aI w9)
  | (go_at_call 258;(with_reducible refine (rrn).mono ?_);rintro e w9 ⟨rfl,aI⟩;rw [aI];clear aI w9))
 obtain ⟨w2,hw2⟩:∃w2,w2=w.drewN nq:=⟨_,rfl⟩;have hu2:aa [B.ba,B.br] w w2:=by rw [hw2];exact (aa.refl _ w).drewN nq
 rw [←hw2] at H2 ⊢;clear hw2 h1 rln rrn;have kq:=fun W (hW:aa [] w2 W)=>jZ (H2.out.aj hW) zr HL.out.2;rw [HZ.out.2.2.2] at kq;have r0:∀W,aa [B.br] w2 W->W.cell? ⟨B.n0,2,none⟩=some (.slice (some ⟨B.br,0,none⟩) A.cs.length A.cs.length):=fun W hW=>hW.kept H2.out.h2 ζ;have d0:=H2.out.ranks.cell x hx;have d1:=H2.out.ranks.free x;have hwr:IntKind.i64.wrap (b+1)=b+1:=Μ _ ω
 go_region_held3 (aa [B.br] w2) (exact ν) ((go_at_call 258;(with_reducible refine ((kq _ β)).mono ?_);rintro e w9 ⟨rfl,aI⟩;rw [aI];clear aI w9))
 go_wp2;go_end0;clear hwr;obtain ⟨bn,rfl⟩:∃bn:Nat,b=bn:=⟨b.toNat,ω⟩;have hR:=H2.out.cz x (bn+1);rw [show ((bn+1:Nat):Int)=(bn:Int)+1 by omega] at hR;exact ⟨rfl,((hu2.setCell (Α σ) _)).drew,hR.aj ((aa.refl _ _).drew)⟩
end
theorem Et:∀t:BT,t.rank<=t.size
 | .nil=>Θ _
 | .node x l r=>by have:=Et r;simp only [BT.rank,BT.size];omega
theorem mI {n:Nat} {l:List Nat} (hn:l.Nodup) (hl:∀x,x∈l->x<n):l.length<=n:=by
 have:=nodup_range n (l.map fun (x:Nat)=>(x:Int)) (by
  unfold List.Nodup;rw [List.pairwise_map];exact hn.imp (fun {a b} h e=>h ω)) (fun y hy=>by
  obtain ⟨x,hx,rfl⟩:=List.mem_map.1 hy;have:=hl x hx
  exact ⟨ω,ω⟩)
 simpa using this
theorem AO {rk:Nat->Nat} {t:BT} (h:fK rk t):gM rk t.root=t.rank:=by
 unfold gM
 by_cases e:t=.nil
 ·subst e;simp [BT.root,BT.rank]
 ·have:=bH e;rw [Γ ω];rw [h.root e]
theorem wH {n:Nat} {t:BT} (h:∀x,x∈t.nodes->x<n):t.root=-1\/(0<=t.root/\t.root<n):=by
 by_cases e:t=.nil
 ·subst e;exact Α rfl
 ·have h1:=bH e;have:=h _ h1.1;exact Β ⟨ω,ω⟩
theorem Ro {S:TS} {p:Int} {x:Nat} {l r:BT} (hu:S.u x=p) (hl:bV S x (S.l x) l) (hr:bV S x (S.r x) r):bV S p x (.node x l r):=⟨rfl,hu,hl,hr⟩
section
variable {w:World} {B:LB} {F:List Nat} {gt ct:Nat} {A:NS} {st:Nat} {S:TS} {rk:Nat->Nat} {ah:List Int}
theorem qp (h:kW w B F gt ct A st S rk ah) {p:Int} {x:Nat} {l r:BT} (hT:bV S p x (.node x l r)) (hl:fK rk l) (hr:fK rk r) (hn:(BT.node x l r).nodes.Nodup) (hlt:∀y,y∈(BT.node x l r).nodes->y<A.cs.length) :
  Calls Tryz.prog 255 #[.pointer (some ⟨B.n0,0,none⟩),.int .i64 (x:Int)] w fun e w'=>e=.returned (.tuple #[])/\aa [B.ba,B.br] w w'/\
   ∃S' nP,kW w' B F gt ct A st S' nP ah/\bV S' p x (au x l r)/\fK nP (au x l r)/\(∀y,y≠x->S.at S' y)/\S'.u x=S.u x/\(∀y,y≠x->nP y=rk y):=by
 obtain ⟨_,hu,Nq,hTr⟩:=hT;have hx:=hlt x (by simp [BT.nodes]);have hll:∀y,y∈l.nodes->y<A.cs.length:=fun y hy=>hlt y (by simp [BT.nodes,hy]);have hlr:∀y,y∈r.nodes->y<A.cs.length:=fun y hy=>hlt y (by simp [BT.nodes,hy]);have hA:=h.cells.ok.c1;have hn2:=hn;simp only [BT.nodes,Ζ,τ,not_or,θ] at hn2;have sl:=mI hn2.2.1 hll;have sr:=mI hn2.2.2.1 hlr;rw [BT.lC] at sl sr;have rl:=Et l;have rr:=Et r;have el:=Nq.root;have er:=hTr.root;have fr:∀ {S':TS},(∀y,y≠x->S.at S' y)->(∀z,bV S x z l->bV S' x z l)/\(∀z,bV S x z r->bV S' x z r):=fun hS=>
  ⟨fun z hz=>hz.frame (fun y hy=>hS y (fun e=>hn2.1.1 (by rw [←e];exact hy))),fun z hz=>hz.frame (fun y hy=>hS y (fun e=>hn2.1.2 (by rw [←e];exact hy)))⟩
 have zl:gM rk (S.l x)=l.rank:=by rw [el];exact AO hl
 have zr:gM rk (S.r x)=r.rank:=by rw [er];exact AO hr
 by_cases hab:l.rank<r.rank
 ·refine (DR h x hx (by rw [el];exact wH hll) (by rw [er];exact wH hlr) (by rw [zl];omega) (by rw [zr];omega) (by rw [zl,zr];omega)).mono ?_;rintro e w' ⟨rfl,hU,hM⟩;have hat:∀y,y≠x->S.at (je S x) y:=fun y hy=>⟨by unfold je TS.aF;simp [hy],by unfold je TS.aF;simp [hy],by unfold je TS.aF;simp⟩
  have e1:(je S x).l x=S.r x:=by unfold je TS.aF;simp
  have e2:(je S x).r x=S.l x:=by unfold je TS.aF;simp
  have e3:(je S x).u x=S.u x:=by unfold je TS.aF;simp
  refine ⟨rfl,hU,_,_,hM,?_,?_,hat,e3,fun y hy=>by rw [Γ hy]⟩
  ·unfold au;rw [Δ hab];exact ⟨rfl,by rw [e3];exact hu,by rw [e1];exact (fr hat).2 _ hTr,by rw [e2];exact (fr hat).1 _ Nq⟩
  ·unfold au;rw [Δ hab];refine ⟨by simp [zl],hr.frame (fun y hy=>by rw [Γ (fun e=>hn2.1.2 (by rw [←e];exact hy))]),hl.frame (fun y hy=>by rw [Γ (fun e=>hn2.1.1 (by rw [←e];exact hy))])⟩
 ·refine (DI h x hx (by rw [el];exact wH hll) (by rw [er];exact wH hlr) (by rw [zl];omega) (by rw [zr];omega) (by rw [zl,zr];omega)).mono ?_;rintro e w' ⟨rfl,hU,hM⟩;refine ⟨rfl,hU,_,_,hM,?_,?_,fun y _=>⟨rfl,rfl,rfl⟩,rfl,fun y hy=>by rw [Γ hy]⟩
  ·unfold au;rw [Γ hab];exact ⟨rfl,hu,Nq,hTr⟩
  ·unfold au;rw [Γ hab];refine ⟨by simp [zr],hl.frame (fun y hy=>by rw [Γ (fun e=>hn2.1.1 (by rw [←e];exact hy))]),hr.frame (fun y hy=>by rw [Γ (fun e=>hn2.1.2 (by rw [←e];exact hy))])⟩
end
theorem BT.xO {t:BT} (h:t≠.nil):t.root=(t.root.toNat:Int):=(bH h).2
def yX (S:TS) (x:Nat) (r:BT):TS:=match r with | .nil=>S | .node y _ _=>mD S x y
theorem Na {S:TS} {p:Int} {x:Nat} {l r:BT} (h:bV S p x (.node x l r)) (hn:(BT.node x l r).nodes.Nodup) :
  bV (yX S x r) p x (.node x l .nil)/\bV (yX S x r) (-1) r.root r/\∀y,y≠x->y∉r.nodes->S.at (yX S x r) y:=by
 obtain ⟨_,hu,hl,hr⟩:=h;simp only [BT.nodes,Ζ,τ,not_or,θ] at hn;cases r with
 | nil=>exact ⟨⟨rfl,hu,hl,hr⟩,rfl,fun y _ _=>⟨rfl,rfl,rfl⟩⟩
 | node y a b=>
  have hxy:x≠y:=fun e=>hn.1.2 (by rw [e];simp [BT.nodes]);have hry:S.r x=y:=hr.1;have e:yX S x (.node y a b)=mD S x y:=rfl;rw [e];have hl':∀z,(mD S x y).l z=S.l z:=fun z=>by unfold mD TS.aF TS.bO;rw [Ν hry];rfl
  have hr':∀z,(mD S x y).r z=if z=x then -1 else S.r z:=fun z=>by unfold mD TS.aF TS.bO;rw [Ν hry];rfl
  have hu':∀z,(mD S x y).u z=if z=y then -1 else S.u z:=fun z=>by unfold mD TS.aF TS.bO;rw [Ν hry];rfl
  refine ⟨⟨rfl,by rw [hu',Γ hxy];exact hu,?_,by rw [hr',Δ rfl];rfl⟩,?_,fun z h1 h2=>⟨hl' z,by rw [hr',Γ h1],by rw [hu',Γ (fun e=>h2 (by rw [e];simp [BT.nodes]))]⟩⟩
  ·rw [hl'];refine hl.frame (fun z hz=>⟨hl' z,by rw [hr',Γ (fun e=>hn.1.1 (by rw [←e];exact hz))],by rw [hu',Γ (fun e=>hn.2.2.2 z hz y (by simp [BT.nodes]) e)]⟩)
  ·have h0:bV S x ((BT.node y a b).root) (.node y a b):=by rw [←hr.root];exact hr
   refine h0.Nh (p':=-1) hn.2.2.1 (fun z hz=>⟨hl' z,by rw [hr',Γ (fun e=>hn.1.2 (by rw [←e];exact hz))],fun Md=>by rw [hu',Γ (fun e=>Md (by rw [e];simp [BT.root]))]⟩) (fun _=>by rw [hu'];simp [BT.root])
theorem BL {S:TS} {p:Int} {x:Nat} {l m:BT} (h:bV S p x (.node x l .nil)) (hm:bV S (-1) m.root m) (hne:m≠.nil) (hn:(BT.node x l m).nodes.Nodup) :
  bV (kP S x m.root true) p x (.node x l m)/\∀y,y≠x->y∉m.nodes->S.at (kP S x m.root true) y:=by
 obtain ⟨_,hu,hl,_⟩:=h;simp only [BT.nodes,Ζ,τ,not_or,θ] at hn;obtain ⟨r1,r2⟩:=bH hne;have hl':∀z,(kP S x m.root true).l z=S.l z:=fun z=>by unfold kP TS.aF TS.bO;rfl
 have hr':∀z,(kP S x m.root true).r z=if z=x then m.root else S.r z:=fun z=>by unfold kP TS.aF TS.bO;simp
 have hu':∀z,(kP S x m.root true).u z=if z=m.root.toNat then (x:Int) else S.u z:=fun z=>by unfold kP TS.aF TS.bO;simp
 have hxm:x≠m.root.toNat:=fun e=>hn.1.2 (by rw [e];exact r1);refine ⟨⟨rfl,by rw [hu',Γ hxm];exact hu,?_,?_⟩,fun z h1 h2=>⟨hl' z,by rw [hr',Γ h1],by rw [hu',Γ (fun e=>h2 (by rw [e];exact r1))]⟩⟩
 ·rw [hl'];exact hl.frame (fun z hz=>⟨hl' z,by rw [hr',Γ (fun e=>hn.1.1 (by rw [←e];exact hz))],by rw [hu',Γ (fun e=>hn.2.2.2 z hz _ r1 e)]⟩)
 ·rw [hr',Δ rfl];exact hm.Nh (p':=(x:Int)) hn.2.2.1 (fun z hz=>⟨hl' z,by rw [hr',Γ (fun e=>hn.1.2 (by rw [←e];exact hz))],fun Md=>by rw [hu',Γ Md]⟩) (fun _=>by rw [hu',Δ rfl])
structure Down (up:Nat->BT->BT->BT) (A:NS) (S0:TS) (ta tb:BT) (S:TS) (W:List (Nat×BT)) (a b:BT):Prop where
 isA:bV S (-1) a.root a
 isB:bV S (-1) b.root b
 way:∀p,p∈W->bV S (-1) (p.1:Int) (.node p.1 p.2 .nil)
 far:∀y,y∉ta.nodes++tb.nodes->S0.at S y
 perm:(uz W++(a.nodes++b.nodes)).Perm (ta.nodes++tb.nodes)
 res:aG up A ta tb=(uE up W (aG up A a b).1,W.length+(aG up A a b).2)
theorem Down.start (up:Nat->BT->BT->BT) (A:NS) {S0:TS} {ta tb:BT} (ha:bV S0 (-1) ta.root ta) (hb:bV S0 (-1) tb.root tb):Down up A S0 ta tb S0 [] ta tb:=
 ⟨ha,hb,fun p hp=>(by cases hp),fun y _=>⟨rfl,rfl,rfl⟩,by simp [uz],by simp [uE]⟩
theorem pJ (W:List (Nat×BT)) (x:Nat) (l:BT):uz (W++[(x,l)])=uz W++(x::l.nodes):=by unfold uz;simp
theorem Df {W:List (Nat×BT)} {p:Nat×BT} (hp:p∈W):p.1∈uz W/\∀y,y∈p.2.nodes->y∈uz W:=by
 unfold uz;exact ⟨List.mem_flatMap.2 ⟨p,hp,σ⟩,fun y hy=>List.mem_flatMap.2 ⟨p,hp,by simp [hy]⟩⟩
theorem Down.take {up:Nat->BT->BT->BT} {A:NS} {S0 S:TS} {ta tb b l r:BT} {x:Nat} {W:List (Nat×BT)} (hX:(ta.nodes++tb.nodes).Nodup)
  (h1:bV S (-1) (x:Int) (.node x l r)) (h2:bV S (-1) b.root b) (h3:∀p,p∈W->bV S (-1) (p.1:Int) (.node p.1 p.2 .nil)) (h4:∀y,y∉ta.nodes++tb.nodes->S0.at S y)
  (h5:(uz W++((BT.node x l r).nodes++b.nodes)).Perm (ta.nodes++tb.nodes)) (h6:aG up A ta tb=(uE up W (up x l (aG up A r b).1),W.length+((aG up A r b).2+1))) :
  Down up A S0 ta tb (yX S x r) (W++[(x,l)]) r b:=by
 have hnd:=h5.nodup_iff.2 hX;rw [θ] at hnd;obtain ⟨n1,n2,n3⟩:=hnd;rw [θ] at n2;obtain ⟨n4,n5,n6⟩:=n2;obtain ⟨c1,c2,c3⟩:=Na h1 n4;have hout:∀y,y∉ta.nodes++tb.nodes->y≠x/\y∉r.nodes:=fun y hy=>
  ⟨fun e=>hy (h5.mem_iff.1 (by rw [e];simp [BT.nodes])),fun hm=>hy (h5.mem_iff.1 (by simp [BT.nodes,hm]))⟩
 refine ⟨c2,h2.frame (fun y hy=>c3 y (fun e=>n6 x (by simp [BT.nodes]) y hy e.symm) (fun hm=>n6 y (by simp [BT.nodes,hm]) y hy rfl)),fun p hp=>?_,fun y hy=>?_,?_,?_⟩
 ·rcases τ.1 hp with hp|hp
  ·have hw:=Df hp;refine (h3 p hp).frame (fun y hy=>?_);have Zz:y∈uz W:=by
    simp only [BT.nodes,Υ,ρ] at hy;rcases hy with rfl|hy
    ·exact hw.1
    ·exact hw.2 y hy
   exact c3 y (fun e=>n3 y Zz x (by simp [BT.nodes]) e) (fun hm=>n3 y Zz y (by simp [BT.nodes,hm]) rfl)
  ·simp only [ϒ] at hp;subst hp;exact c1
 ·obtain ⟨k1,k2⟩:=hout y hy;have a1:=h4 y hy;have a2:=c3 y k1 k2;exact ⟨a2.1.trans a1.1,a2.2.1.trans a1.2.1,a2.2.2.trans a1.2.2⟩
 ·rw [pJ];refine Ϝ ?_ h5;simp only [BT.nodes,ϋ,List.cons_append];exact ό _
 ·rw [h6,zL];simp only [υ,Ω,List.length_nil];exact Prod.ext rfl (by simp only;omega)
theorem Down.takeA {up:Nat->BT->BT->BT} {A:NS} {S0 S:TS} {ta tb l r l' r':BT} {x y:Nat} {W:List (Nat×BT)} (h:Down up A S0 ta tb S W (.node x l r) (.node y l' r')) (hX:(ta.nodes++tb.nodes).Nodup) (hlt:¬bX A y x) :
  Down up A S0 ta tb (yX S x r) (W++[(x,l)]) r (.node y l' r'):=by
 refine Down.take hX h.isA h.isB h.way h.far h.perm ?_;rw [h.res,og,Γ hlt]
theorem Down.takeB {up:Nat->BT->BT->BT} {A:NS} {S0 S:TS} {ta tb l r l' r':BT} {x y:Nat} {W:List (Nat×BT)} (h:Down up A S0 ta tb S W (.node x l r) (.node y l' r')) (hX:(ta.nodes++tb.nodes).Nodup) (hlt:bX A y x) :
  Down up A S0 ta tb (yX S y r') (W++[(y,l')]) r' (.node x l r):=by
 refine Down.take hX h.isB h.isA h.way h.far ?_ ?_
 ·refine Ϝ ?_ h.perm;exact List.Perm.append_left _ Φ
 ·rw [h.res,og,Δ hlt]
structure Vp (up:Nat->BT->BT->BT) (S0:TS) (X:List Nat) (t:BT) (S:TS) (W:List (Nat×BT)) (m:BT):Prop where
 isM:bV S (-1) m.root m
 way:∀p,p∈W->bV S (-1) (p.1:Int) (.node p.1 p.2 .nil)
 far:∀y,y∉X->S0.at S y
 perm:(uz W++m.nodes).Perm X
 res:t=uE up W m
theorem Down.turn {up:Nat->BT->BT->BT} {A:NS} {S0 S:TS} {ta tb a b:BT} {W:List (Nat×BT)} (h:Down up A S0 ta tb S W a b) (he:a=.nil\/b=.nil) :
  ∃m,m.root=(if a.root=-1 then b.root else a.root)/\Vp up S0 (ta.nodes++tb.nodes) (aG up A ta tb).1 S W m/\(aG up A ta tb).2=W.length/\(m=a\/m=b):=by
 rcases he with rfl|rfl
 ·refine ⟨b,by simp [BT.root],⟨h.isB,h.way,h.far,by simpa [BT.nodes] using h.perm,by rw [h.res,lh]⟩,by rw [h.res,lh];simp,Β rfl⟩
 ·refine ⟨a,?_,⟨h.isA,h.way,h.far,by simpa [BT.nodes] using h.perm,by rw [h.res,nX]⟩,by rw [h.res,nX];simp,Α rfl⟩
  split
  ·rename_i e;rw [e];rfl
  ·rfl
theorem Vp.turn {up:Nat->BT->BT->BT} {S0 S2 S3:TS} {X:List Nat} {t m l:BT} {x:Nat} {W:List (Nat×BT)} (U:Vp up S0 X t S2 (W++[(x,l)]) m) (K:TC up) (hX:X.Nodup)
  (hT:bV S3 (-1) x (up x l m)) (D5:∀y,y≠x->y∉l.nodes->y∉m.nodes->S2.at S3 y):Vp up S0 X t S3 W (up x l m):=by
 have hp:=U.perm;rw [pJ,ϋ] at hp;have hnd:=hp.nodup_iff.2 hX;rw [θ] at hnd;obtain ⟨n1,n2,n3⟩:=hnd;refine ⟨by rw [K.root];exact hT,fun p hpW=>?_,fun y hy=>?_,?_,by rw [U.res,zL]⟩
 ·have hw:=Df hpW;refine (U.way p (List.mem_append_left _ hpW)).frame (fun y hy=>?_);have Zz:y∈uz W:=by
   simp only [BT.nodes,Υ,ρ] at hy;rcases hy with rfl|hy
   ·exact hw.1
   ·exact hw.2 y hy
  exact D5 y (fun e=>n3 y Zz x σ e) (fun hm=>n3 y Zz y (by simp [hm]) rfl) (fun hm=>n3 y Zz y (by simp [hm]) rfl)
 ·have h1:=U.far y hy;have h2:=D5 y (fun e=>hy (hp.mem_iff.1 (by rw [e];simp))) (fun hm=>hy (hp.mem_iff.1 (by simp [hm]))) (fun hm=>hy (hp.mem_iff.1 (by simp [hm])));exact ⟨h2.1.trans h1.1,h2.2.1.trans h1.2.1,h2.2.2.trans h1.2.2⟩
 ·refine Ϝ (List.Perm.append_left _ (K.nodes x l m)) ?_;simpa using hp
theorem Vp.len {up:Nat->BT->BT->BT} {S0 S:TS} {X:List Nat} {t m:BT} {W:List (Nat×BT)} (U:Vp up S0 X t S W m):W.length<=X.length:=by
 have:=U.perm.length_eq;rw [υ] at this;have h2:W.length<=(uz W).length:=by
  clear this U
  induction W with
  | nil=>simp
  | cons p t ih=>unfold uz at *;simp only [List.flatMap_cons,υ,Ω];omega
 omega
theorem Down.len {up:Nat->BT->BT->BT} {A:NS} {S0 S:TS} {ta tb a b:BT} {W:List (Nat×BT)} (U:Down up A S0 ta tb S W a b):W.length+a.nodes.length+b.nodes.length<=(ta.nodes++tb.nodes).length:=by
 have:=U.perm.length_eq;rw [υ,υ] at this;have h2:W.length<=(uz W).length:=by
  clear this U
  induction W with
  | nil=>simp
  | cons p t ih=>unfold uz at *;simp only [List.flatMap_cons,υ,Ω];omega
 omega
theorem BS {S0 S2:TS} {X:List Nat} {t m l:BT} {x:Nat} {W:List (Nat×BT)} {A8 QI:Nat->Nat} {up:Nat->BT->BT->BT} (U:Vp up S0 X t S2 (W++[(x,l)]) m) (hX:X.Nodup)
  (hk:∀y,y≠x->QI y=A8 y) (hr:∀p,p∈W->fK A8 p.2):∀p,p∈W->fK QI p.2:=fun p hp=>by
 have hpx:=U.perm;rw [pJ,ϋ] at hpx;have hnd:=hpx.nodup_iff.2 hX;rw [θ] at hnd;exact (hr p hp).frame (fun y hy=>hk y (fun e=>hnd.2.2 y ((Df hp).2 y hy) x σ e))
section
variable {w:World} {B:LB} {F:List Nat} {gt ct:Nat} {A:NS} {st:Nat} {S:TS} {rk:Nat->Nat} {ah:List Int}
theorem Nu (h:kW w B F gt ct A st S rk ah) {p:Int} {x:Nat} {l r:BT} (hT:bV S p x (.node x l r)) (hx:x<A.cs.length) (hr:∀y,y∈r.nodes->y<A.cs.length) :
  Calls Tryz.prog 244 #[.pointer (some ⟨B.bt,0,none⟩),.int .i64 r.root] w fun e w'=>(∃v,e=.returned v)/\kW w' B F gt ct A st (yX S x r) rk ah/\aa [B.ba] w w':=by
 cases r with
 | nil=>
  refine (D8 B.bt B.ba A.cs.length S (-1) w h.trees (by unfold oq;simp)).mono ?_;rintro e w' ⟨rfl,rfl⟩;exact ⟨⟨_,rfl⟩,h,aa.refl _ _⟩
 | node y a b=>
  obtain ⟨_,_,_,hr'⟩:=hT;have e1:S.r x=y:=hr'.1;have e2:S.u y=x:=hr'.2.1;refine (D9 B.bt B.ba A.cs.length S x y w h.trees hx (hr y (by simp [BT.nodes])) e2).mono ?_;rintro e w' ⟨rfl,hT,hu⟩;exact ⟨⟨_,rfl⟩,h.iE hu hT,hu⟩
theorem Jk (h:kW w B F gt ct A st S rk ah) {p:Int} {x:Nat} {l r:BT} (hT:bV S p x (.node x l r)) (hx:x<A.cs.length) :
  Calls Tryz.prog 249 #[.pointer (some ⟨B.bt,0,none⟩),.int .i64 (x:Int)] w fun e w'=>e=.returned (.tuple #[.int .i64 (tv r.root),.bool (tb r.root)])/\aa [] w w':=by
 have e:gK A.cs.length S (x:Int) true=r.root:=by
  unfold gK TS.kid;rw [Δ ω];simp only [if_true,π];exact hT.2.2.2.root
 refine (pF B.bt B.ba A.cs.length S (x:Int) w h.trees).mono ?_;rw [e];rintro e w' ⟨rfl,k,rfl⟩;exact ⟨rfl,(aa.refl _ _).drewN k⟩
def Jf (W:List (Nat×BT)):List Value:=aP (W.map fun p=>(p.1:Int))
theorem Cv (W:List (Nat×BT)) (x:Nat) (l:BT):Jf (W++[(x,l)])=Jf W++[.int .i64 (x:Int)]:=by unfold Jf aP;simp
theorem uL (h:kW w B F gt ct A st S rk ah) {ta tb:BT} (ha:bV S (-1) ta.root ta) (hb:bV S (-1) tb.root tb) (hX:(ta.nodes++tb.nodes).Nodup) (hin:∀y,y∈ta.nodes++tb.nodes->bQ A (y:Int)=true) (ra:fK rk ta) (rb:fK rk tb) :
  Calls Tryz.prog 246 #[.pointer (some ⟨B.n0,0,none⟩),.int .i64 ta.root,.int .i64 tb.root] w fun e w'=>e=.returned (.int .i64 (aG au A ta tb).1.root)/\aa [B.c,B.ba,B.br] w w'/\
   ∃S' nP,kW w' B F gt ct A (bR st (aG au A ta tb).2) S' nP ah/\bV S' (-1) (aG au A ta tb).1.root (aG au A ta tb).1/\fK nP (aG au A ta tb).1/\∀y,y∉ta.nodes++tb.nodes->S.at S' y/\nP y=rk y:=by
 have hblk:=h.lt;have pY:=h.cF;have hbl0:=hblk B.n0 (by simp [LB.blk]);have hbl1:=hblk B.bt (by simp [LB.blk]);have hbl2:=hblk B.ba (by simp [LB.blk]);have hbl3:=hblk B.br (by simp [LB.blk]);have hbl4:=hblk B.c (by simp [LB.blk,pY]);have hs:=χ h.sep;have hA:=h.cells.ok.c1;have hlt:Hid (∀y,y∈ta.nodes++tb.nodes->y<A.cs.length):=fun y hy=>((ae A y).1 (hin y hy)).1;have hXl:(ta.nodes++tb.nodes).length<=A.cs.length:=mI hX hlt.out;have Y5:=χ h;have HBL:=χ hblk;have D0:=χ (Down.start au A ha hb);have MR:=χ hin;have HX:=χ hX;have RA:=χ (ψ ra rb);have hst:=h.cells.ou;clear h ha hb hblk pY hin hX ra rb
 go_enter Tryz.func246,Tryz.ntmps246
 go_wp2
 go_loopw [1,2,7] (fun a b way wr=>∃ (S1:TS) (W:List (Nat×BT)) (a1 b1:BT),a=.int .i64 a1.root/\b=.int .i64 b1.root/\wr.ownsRow w.heap.size 3 1 way W.length (Jf W)/\kW wr B F gt ct A (bR st W.length) S1 rk ah/\Down au A S ta tb S1 W a1 b1/\fK rk a1/\fK rk b1/\(∀p,p∈W->fK rk p.2)/\aa [B.c,B.ba] w wr) (fun _ _ way _=>(ta.nodes++tb.nodes).length-lenOf way)
 case atStart=>
  exact ⟨S,[],ta,tb,rfl,rfl,⟨by simp [Jf,aP],Α ⟨rfl,rfl⟩⟩,by rw [List.length_nil,fO hst];exact Y5.out.aj β,D0.out,RA.out.1,RA.out.2,(fun p hp=>by cases hp),β⟩
 case round=>
  obtain ⟨S1,W,a1,b1,rfl,rfl,ho,hM,hD,r1,r2,r3,hu⟩:=hrel;have HM:=χ hM;have HD:=χ hD;have HR:=χ (ψ r1 (ψ r2 r3));have HO:=χ ho;have hlen:=hD.len;have h0:=hM.h0;have h1:=hM.h1;clear hM hD r1 r2 r3;obtain ⟨a5,c5,rfl,hc5⟩:=aY ho;have Bb:∀g,(Value.slice a5 W.length c5).ownBlock=some g->w.heap.size<=g:=fun g hg=>(ho.lt g hg).1;have Ty:=χ Bb;clear ho Bb
  by_cases hne:a1=.nil\/b1=.nil
  ·obtain ⟨m0,e0,U0,hcnt,hor⟩:=HD.out.turn hne;have hm0:fK rk m0:=by rcases hor with rfl|rfl;exact HR.out.1;exact HR.out.2.1
   have hz:a1.root=-1\/(a1.root≠-1/\b1.root=-1):=by
    rcases hne with rfl|rfl
    ·exact Α rfl
    ·by_cases e:a1.root=-1
     ·exact Α e
     ·exact Β ⟨e,rfl⟩
   have HU:=χ (ψ U0 (ψ hm0 (ψ hcnt HR.out.2.2)));have hWl:=U0.len;have HUP:=χ hu;rw [←hcnt] at HM;clear hne hor U0 hm0 HR HD hcnt hu hlen h0;generalize a1.root=za at *;generalize b1.root=zb at *;have HEX:Hid (∃W2 U2:List (Nat×BT),W=W2++U2):=⟨W,[],σ⟩;have e9:∃z9,m0.root=z9:=⟨_,rfl⟩;obtain ⟨z9,e9⟩:=e9;rw [e9] at e0;generalize hn0:W.length=n0 at *;have Vv:=χ hn0;clear hn0;rcases hz with rfl|⟨hz1,rfl⟩
   all_goals
    first|rw [Δ rfl] at e0|rw [Γ hz1] at e0
    subst e0
    try (have hz2:(z9 != -1)=true:=by simpa using hz1)
    try (have hz3:(z9 == -1)=false:=by simpa using hz1)
    go_wp2
    go_loopw [9,10] (fun top i w5=>∃ (S2:TS) (W2 U2:List (Nat×BT)) (m:BT) (A8:Nat->Nat),W=W2++U2/\top=.int .i64 m.root/\i=.int .i64 ((W2.length:Int)-1)/\kW w5 B F gt ct A (bR st (aG au A ta tb).2) S2 A8 ah/\Vp au S (ta.nodes++tb.nodes) (aG au A ta tb).1 S2 W2 m/\fK A8 m/\(∀p,p∈W2->fK A8 p.2)/\(∀y,y∉ta.nodes++tb.nodes->A8 y=rk y)/\aa [B.ba,B.br] wr w5) (fun _ i _=>(intOf i+1).toNat)
    case atStart=>exact ⟨S1,W,[],m0,rk,σ,by rw [e9],by rw [Vv.out],HM.out,HU.out.1,HU.out.2.1,HU.out.2.2.2,fun _ _=>rfl,aa.refl _ _⟩
    case round=>
     obtain ⟨S2,W2,U2,m,A8,rfl,rfl,rfl,hM,hU,r1,r2,r3,hu⟩:=hrel;rename World=>w5;rcases List.eq_nil_or_concat W2 with rfl|⟨W3,⟨x,l⟩,rfl⟩
     ·have e0:=hU.res;simp only [uE] at e0;simp only [List.length_nil];go_wp2;go_ret;rw [e0];exact ⟨rfl,(HUP.out.mono σ).trans (hu.mono σ),S2,A8,hM,hU.isM,r1,fun y hy=>⟨hU.far y hy,r3 y hy⟩⟩
     ·have hpx:=hU.perm;simp only [List.concat_eq_append] at *;rw [pJ,ϋ] at hpx;have Bd:∀q,q∈(x::l.nodes)++m.nodes->q<A.cs.length:=fun q hq=>hlt.out q (hpx.mem_iff.1 (List.mem_append_right _ hq));have hnd:((x::l.nodes)++m.nodes).Nodup:=(θ.1 (hpx.nodup_iff.2 HX.out)).2.1;have hxA:=Bd x σ;obtain ⟨g,cap,ee,hI,hg⟩:=IZ.gW (l:=(W3++[(x,l)]++U2).map fun p=>(p.1:Int)) (by rw [List.length_map,Vv.out];exact ay HO.out hu (fun k hk=>by have:=Ty.out k hk;simp;omega)) ζ;rw [List.length_map,Vv.out] at ee
      injection ee with ee1 ee2 ee3
      subst ee1 ee3;have dz:=hI.cell W3.length σ;rw [show (((W3++[(x,l)]++U2).map fun p=>(p.1:Int)).getD W3.length 0)=(x:Int) by simp [φ]] at dz;have h0:=hM.h0;have h1:=hM.h1;have uZ:=χ hM;have O9:=χ hU;have WO:=χ (ψ r1 (ψ r2 r3));have IG:=χ (ψ Bd hnd);have hTx:=hU.way (x,l) σ;have XX:=χ hTx;have HPX:=χ hpx;have hil:((W3++[(x,l)]).length:Int)-1=W3.length:=σ;rw [hil];have hi0:((W3.length:Int)≥0):=ω;have hWn:W3.length+1+U2.length=n0:=by have:=Vv.out;simp at this;omega
      have hW3:W3.length<=65536:=ω;clear hM hU r1 r2 r3 Bd hnd hTx hpx hil hI ee2
      by_cases hm:m=.nil
      ·subst hm;simp only [BT.root]
       go_wp2_with fail
       have yQ:bV S2 (-1) x (.node x l .nil):=XX.out;refine (qp uZ.out yQ (WO.out.2.1 (x,l) σ) WO.out.1 (by simpa [BT.nodes] using IG.out.2) (fun q hq=>IG.out.1 q (by simpa [BT.nodes] using hq))).mono ?_;rintro e w7 ⟨rfl,jC,S3,QI,IK,T9,VJ,hs7,_,WK⟩;have X4:=χ IK;have yC:=χ (ψ T9 (ψ VJ (ψ hs7 WK)));have Zf:=χ (hu.trans jC);clear IK T9 VJ hs7 WK hu jC XX h0 h1 dz;go_wp2
       go_roundw
       case rel=>
        refine ⟨S3,W3,(x,l)::U2,au x l .nil,QI,σ,congrArg (Value.int .i64) (jk x l .nil).symm,by go_num,X4.out,O9.out.turn mV HX.out yC.out.1 (fun y h1 _ _=>yC.out.2.2.1 y h1),yC.out.2.1,?_,?_,Zf.out⟩
        ·exact BS O9.out HX.out yC.out.2.2.2 (fun p hp=>WO.out.2.1 p (List.mem_append_left _ hp))
        ·exact fun y hy=>(yC.out.2.2.2 y (fun e=>hy (by rw [e];exact HPX.out.mem_iff.1 σ))).trans (WO.out.2.2 y hy)
       case measure=>simp [intOf]
      ·obtain ⟨mr,hmr⟩:∃mr:Nat,m.root=mr:=⟨_,BT.xO hm⟩;have hmm:=(bH hm).1;rw [hmr,π] at hmm;have yQ:bV S2 (-1) x (.node x l .nil):=XX.out;have XH:=O9.out.isM;have hur:S2.u mr=-1:=by
        cases m with
        | nil=>exact absurd rfl hm
        | node q a b=>
         have e:q=mr:=by have e':(q:Int)=mr:=hmr;omega
         subst e;exact XH.2.1
       have hnd:=IG.out.2;have hxm:x≠mr:=fun e=>by
        rw [θ] at hnd;exact hnd.2.2 x σ mr hmm e
       obtain ⟨A7,TN⟩:=BL (m:=m) yQ XH hm (by simpa [BT.nodes] using hnd);rw [hmr] at A7 TN;have HT3:=χ (ψ A7 (ψ hm TN));have kh:=fun W (hW:aa [] w5 W)=>zk B.bt B.ba A.cs.length S2 x mr true W ((uZ.out.aj hW).trees) hxA (IG.out.1 mr (List.mem_append_right _ hmm)) hxm hur yQ.2.2.2;have HMR:=χ hmr;rw [hmr];have hz4:((mr:Int) != -1)=true:=σ;have rr1:∀W,aa [B.ba] w5 W->W.cell? ⟨B.n0,1,none⟩=some (.pointer (some ⟨B.bt,0,none⟩)):=fun W hW=>hW.kept h1 (by have:=hs.out;simp;omega);have rr2:∀W,aa [B.ba] w5 W->W.cell? ⟨g,W3.length,none⟩=some (.int .i64 (x:Int)):=fun W hW=>hW.kept dz ζ
       clear yQ XH hur hnd A7 TN hm hmr h0 h1 dz hmm
       go_wp2_with fail
       have Bw:(0:Int)<=(W3.length:Int):=ω;have FY:(W3.length:Int)<(n0:Int):=ω
       go_region_held3 (aa [B.ba] w5) (exact ν)
        ((go_at_call 251;(with_reducible refine (kh _ β).mono ?_);rintro e w6 ⟨rfl,OZ,gF⟩;(have Wn:aa [B.ba] w5 w6:=ν)))
       have dz6:=rr2 w6 Wn;have vO:=χ (uZ.out.iE Wn OZ);clear rr1 rr2 kh gF OZ
       go_wp2_with fail
       refine (qp vO.out HT3.out.1 (WO.out.2.1 (x,l) σ) WO.out.1 (by simpa [BT.nodes] using IG.out.2) (fun q hq=>IG.out.1 q (by simpa [BT.nodes] using hq))).mono ?_;rintro e w7 ⟨rfl,jC,S3,QI,IK,T9,VJ,hs7,_,WK⟩;have X4:=χ IK;have yC:=χ (ψ T9 (ψ VJ (ψ hs7 WK)));have Zf:=χ (hu.trans ((Wn.mono σ).trans jC));clear IK T9 VJ hs7 WK hu jC XX dz6 Wn;go_wp2
       go_roundw
       case rel=>
        refine ⟨S3,W3,(x,l)::U2,au x l m,QI,σ,by rw [jk],by go_num,X4.out,O9.out.turn mV HX.out yC.out.1 (fun y h1 _ h3=>?_),yC.out.2.1,?_,?_,Zf.out⟩
        ·have a1:=HT3.out.2.2 y h1 h3;have a2:=yC.out.2.2.1 y h1;exact ⟨a2.1.trans a1.1,a2.2.1.trans a1.2.1,a2.2.2.trans a1.2.2⟩
        ·exact BS O9.out HX.out yC.out.2.2.2 (fun p hp=>WO.out.2.1 p (List.mem_append_left _ hp))
        ·exact fun y hy=>(yC.out.2.2.2 y (fun e=>hy (by rw [e];exact HPX.out.mem_iff.1 σ))).trans (WO.out.2.2 y hy)
       case measure=>simp [intOf]
  ·obtain ⟨x,l,r,rfl⟩:∃x l r,a1=.node x l r:=by
    cases a1 with
    | nil=>exact absurd (Α rfl) hne
    | node x l r=>exact ⟨x,l,r,rfl⟩
   obtain ⟨y,l',r',rfl⟩:∃x l r,b1=.node x l r:=by
    cases b1 with
    | nil=>exact absurd (Β rfl) hne
    | node x l r=>exact ⟨x,l,r,rfl⟩
   clear hne;have hmx:∀z,z∈(BT.node x l r).nodes++(BT.node y l' r').nodes->z∈ta.nodes++tb.nodes:=fun z hz=>HD.out.perm.mem_iff.1 (List.mem_append_right _ hz);have hxm:=hmx x (by simp [BT.nodes]);have hym:=hmx y (by simp [BT.nodes]);have hWl:W.length+2<=(ta.nodes++tb.nodes).length:=by simp only [BT.nodes,Ω,υ] at hlen ⊢;omega
   have Ud:=χ hmx;have hxb:((x:Int) != -1)=true:=σ;have hyb:((y:Int) != -1)=true:=σ;clear hmx hlen;have kA:=dX HM.out.cells y x (MR.out y hym) (MR.out x hxm);obtain ⟨sw,hsw⟩:∃sw,decide (bX A y x)=sw:=⟨_,rfl⟩;rw [hsw] at kA;have KEY:∃ (z:Nat) (lz rz o:BT),z=(if sw then y else x)/\Down au A S ta tb (yX S1 z rz) (W++[(z,lz)]) rz o/\bV S1 (-1) z (.node z lz rz)/\fK rk lz/\fK rk rz/\fK rk o/\z<A.cs.length/\(∀q,q∈rz.nodes->q<A.cs.length)/\o.root=(if sw then (x:Int) else (y:Int)):=by
    cases sw with
    | true=>
     exact ⟨y,l',r',.node x l r,rfl,HD.out.takeB HX.out (ϟ hsw),HD.out.isB,HR.out.2.1.2.1,HR.out.2.1.2.2,HR.out.1,hlt.out y hym,fun q hq=>hlt.out q (Ud.out q (by simp [BT.nodes,hq])),rfl⟩
    | false=>
     exact ⟨x,l,r,.node y l' r',rfl,HD.out.takeA HX.out (of_decide_eq_false hsw),HD.out.isA,HR.out.1.2.1,HR.out.1.2.2,HR.out.2.1,hlt.out x hxm,fun q hq=>hlt.out q (Ud.out q (by simp [BT.nodes,hq])),rfl⟩
   obtain ⟨z,lz,rz,o,ez,hD2,hTz,q1,q2,q3,hz,hrz,eo⟩:=KEY;have HD2:=χ hD2;have HT:=χ hTz;have HQ:=χ (ψ q1 (ψ q2 (ψ q3 hrz)));clear hD2 hTz q1 q2 q3 hrz hsw;simp only [BT.root];cases sw
   all_goals
    simp only [if_true,if_false,Ϟ] at ez eo;subst ez
    go_wp2_with fail
    refine kA.mono ?_;rintro e w1 ⟨rfl,jd,hu1⟩;have hM1:=χ (HM.out.bY (hu1.mono (by simp [HM.out.cF])) jd (fun x hx=>Α hx) rfl rfl);have hss:bR (bR st W.length) 1=bR st (W.length+1):=iN _ _ _;rw [hss] at hM1;have ho1:=ay HO.out hu1 (fun k hk=>by have:=Ty.out k hk;simp;omega);have h01:=hM1.out.h0;have h11:=hM1.out.h1;clear h0 h1 kA hss;have Ve:=χ (ψ hu hu1);clear hu hu1 jd;have HGB:Hid (∀g,g∈(Value.slice a5 W.length c5).ownBlock.toList->g∉B.blk F gt):=fun g hg hb=>by
     have h1:=Ty.out g (Option.mem_toList.1 hg);have h2:=HBL.out g hb;omega
    have hsz1:w.heap.size<=w1.heap.size:=(Ve.out.1.trans (Ve.out.2.mono σ)).size
    go_wp2_with (first
     | ((at_builtin;refine aV rfl _ _ 26 rfl w.heap.size 3 (.int .i64 0) 1 8 Tryz.underlying26 fE rfl δ _ _ _ rfl (ho1) [.int .i64 (z:Int)] rfl (by simp [Value.oneCell']) (by first|rfl|(rw [Κ];rfl)) μ ω (ω) ?_;intro v2 w2 ho2 hu2 mG);(have hM2:=χ (hM1.out.upd hu2 HGB.out));(have k12:=hM2.out.h1);(have kr:=Jk hM2.out HT.out hz))
     | (go_at_call 249;(with_reducible refine (kr).mono ?_);rintro e w3 ⟨rfl,hu3⟩;(have k13:=hu3.was k12);(have jD:=χ (hM2.out.aj hu3));(have kc:=Nu jD.out HT.out hz HQ.out.2.2.2))
     | (go_at_call 247;(with_reducible refine (nH _ _).mono ?_);rintro e w9 ⟨rfl,aI⟩;rw [aI];clear aI w9)
     | (go_at_call 244;(with_reducible refine (kc).mono ?_);rintro e w4 ⟨⟨v4,rfl⟩,rQ,fZ⟩)
     | fail)
    obtain ⟨a6,c6,rfl,hc6⟩:=aY ho2;have Xp:∀k,(Value.slice a6 (W.length+1) c6).ownBlock=some k->w.heap.size<=k:=fun k hk=>(ho2.lt k hk).1;refine ⟨⟨_,W++[(z,lz)],rz,o,rfl,congrArg (Value.int .i64) eo.symm,?_,?_,HD2.out,HQ.out.2.1,HQ.out.2.2.1,?_,?_⟩,?_⟩
    ·rw [Cv,υ,List.length_singleton];exact ay (ay ho2 hu3 σ) fZ (fun k hk=>by have:=Xp k hk;simp;omega)
    ·rw [υ,List.length_singleton];exact rQ
    ·intro p hp;rcases τ.1 hp with hp|hp
     ·exact HR.out.2.2 p hp
     ·simp only [ϒ] at hp;subst hp;exact HQ.out.1
    ·have v1:aa [B.c,B.ba] w w1:=Ve.out.1.trans (Ve.out.2.mono σ);have v2:aa [B.c,B.ba] w w2:=v1.joined hu2 (fun g hg=>Β (Ty.out g (Option.mem_toList.1 hg)));exact (v2.trans (hu3.mono σ)).trans (fZ.mono σ)
    ·show (ta.nodes++tb.nodes).length-(W.length+1)<(ta.nodes++tb.nodes).length-W.length
     omega
end
structure xH (S0:TS) (MQ:Nat->Nat) (T:BT) (X:List Nat) (S:TS) (rk:Nat->Nat) (P:List Fr) (was x:Nat) (l r:BT):Prop where
 Ex:bV S (-1) (af P (.node x l r)).root (af P (.node x l r))
 perm:(af P (.node x l r)).nodes.Perm X
 rl:fK rk l
 rr:fK rk r
 rx:rk x=was
 rP:Ra rk P was
 far:∀y,y∉X->S0.at S y/\rk y=MQ y
 res:j4 P was x l r=T
structure sU (S0:TS) (MQ:Nat->Nat) (T:BT) (X:List Nat) (S:TS) (rk:Nat->Nat):Prop where
 Ex:bV S (-1) T.root T
 isR:fK rk T
 far:∀y,y∉X->S0.at S y/\rk y=MQ y
section
variable {S0 S S2:TS} {MQ rk A8:Nat->Nat} {T:BT} {X:List Nat} {P:List Fr} {was x:Nat} {l r:BT}
theorem xH.parts (h:xH S0 MQ T X S rk P was x l r) (hX:X.Nodup):x∈X/\(BT.node x l r).nodes.Nodup/\(∀y,y∈(BT.node x l r).nodes->y∈X)/\(∀y,y∈dE P->y≠x/\y∈X)/\(dE P).Nodup:=by
 have hp:=(aM P (.node x l r)).symm.trans h.perm;have hn:=hp.nodup_iff.2 hX;rw [θ] at hn;refine ⟨hp.mem_iff.1 (by simp [BT.nodes]),hn.1,fun y hy=>hp.mem_iff.1 (List.mem_append_left _ hy),fun y hy=>⟨fun e=>hn.2.2 x (by simp [BT.nodes]) y hy e.symm,hp.mem_iff.1 (List.mem_append_right _ hy)⟩,hn.2.1⟩
theorem xH.settled (h:xH S0 MQ T X S rk P was x l r) (hX:X.Nodup) (yQ:bV S2 (Cz P) x (au x l r)) (hs:∀y,y≠x->S.at S2 y) (hk:∀y,y≠x->A8 y=rk y) :
  bV S2 (-1) (af P (au x l r)).root (af P (au x l r))/\Ra A8 P was/\(∀y,y∉X->S0.at S2 y/\A8 y=MQ y)/\(af P (au x l r)).nodes.Perm X:=by
 obtain ⟨p1,p2,p3,p4,p5⟩:=h.parts hX;refine ⟨(dL _ _).2 ⟨by rw [jk];exact yQ,?_⟩,h.rP.frame (fun y hy=>hk y (p4 y hy).1),fun y hy=>?_,?_⟩
 ·have:=((dL _ _).1 h.Ex).2;rw [jk];exact this.frame (fun y hy=>hs y (p4 y hy).1)
 ·have hne:y≠x:=fun e=>hy (by rw [e];exact p1);have a1:=h.far y hy;have a2:=hs y hne;exact ⟨⟨a2.1.trans a1.1.1,a2.2.1.trans a1.1.2.1,a2.2.2.trans a1.1.2.2⟩,(hk y hne).trans a1.2⟩
 ·exact (aM P _).trans (((kK x l r).append_right _).trans ((aM P (.node x l r)).symm.trans h.perm))
theorem xH.stay (h:xH S0 MQ T X S rk P was x l r) (hX:X.Nodup) (yQ:bV S2 (Cz P) x (au x l r)) (hr2:fK A8 (au x l r)) (hs:∀y,y≠x->S.at S2 y) (hk:∀y,y≠x->A8 y=rk y)
  (e:(au x l r).rank=was):sU S0 MQ T X S2 A8:=by
 obtain ⟨a1,a2,a3,a4⟩:=h.settled hX yQ hs hk;have hT:T=af P (au x l r):=by
  rw [←h.res];cases P with
  | nil=>rfl
  | cons f P=>unfold j4;rw [Δ e]
 rw [hT];exact ⟨a1,(yz _ _).2 ⟨hr2,by rw [e];exact a2⟩,a3⟩
theorem xH.top (h:xH S0 MQ T X S rk [] was x l r) (hX:X.Nodup) (yQ:bV S2 (Cz []) x (au x l r)) (hr2:fK A8 (au x l r)) (hs:∀y,y≠x->S.at S2 y) (hk:∀y,y≠x->A8 y=rk y) :
  sU S0 MQ T X S2 A8:=by
 obtain ⟨a1,a2,a3,a4⟩:=h.settled hX yQ hs hk;have hT:T=af [] (au x l r):=by rw [←h.res];rfl
 rw [hT];exact ⟨a1,hr2,a3⟩
theorem xH.up {f:Fr} (h:xH S0 MQ T X S rk (f::P) was x l r) (hX:X.Nodup) (yQ:bV S2 (Cz (f::P)) x (au x l r)) (hr2:fK A8 (au x l r)) (hs:∀y,y≠x->S.at S2 y) (hk:∀y,y≠x->A8 y=rk y)
  (e:(au x l r).rank≠was):∃l' r',xH S0 MQ T X S2 A8 P (kN f was) f.1 l' r':=by
 obtain ⟨a1,a2,a3,a4⟩:=h.settled hX yQ hs hk;have hres:=h.res;unfold j4 at hres;rw [Γ e] at hres;unfold af at a1 a4
 by_cases hsd:f.2.1=true
 ·rw [Δ hsd] at hres;have e1:bq f (au x l r)=.node f.1 f.2.2 (au x l r):=by unfold bq;rw [Δ hsd]
  rw [e1] at a1 a4;exact ⟨_,_,a1,a4,a2.1,hr2,a2.2.1,a2.2.2,a3,hres⟩
 ·rw [Γ hsd] at hres;have e1:bq f (au x l r)=.node f.1 (au x l r) f.2.2:=by unfold bq;rw [Γ hsd]
  rw [e1] at a1 a4;exact ⟨_,_,a1,a4,hr2,a2.1,a2.2.1,a2.2.2,a3,hres⟩
end
theorem Lv:∀ {P:List Fr},(dE P).Nodup->(P.map (·.1)).Nodup/\∀y,y∈P.map (·.1)->y∈dE P
 | [],_=>⟨Ϡ,fun y hy=>by cases hy⟩
 | f::P,h=>by
  simp only [dE,Ζ,τ,not_or,θ] at h;obtain ⟨h1,h2⟩:=Lv (P:=P) h.2.2.1;refine ⟨List.nodup_cons.2 ⟨fun hm=>h.1.2 (h2 _ hm),h1⟩,fun y hy=>?_⟩;simp only [List.map_cons,ρ] at hy;rcases hy with rfl|hy
  ·simp [dE]
  ·simp [dE,h2 y hy]
theorem KJ {L done rest:List Nat} {x:Nat} (hL:L.Nodup) (e:L=done++x::rest):L.idxOf x=done.length/\done.length<L.length:=by
 subst e;have hx:x∉done:=fun hm=>by
  rw [θ] at hL;exact hL.2.2 x hm x σ rfl
 refine ⟨by rw [List.idxOf_append,Γ hx];simp,σ⟩
section
variable {w:World} {B:LB} {F:List Nat} {gt ct:Nat} {A:NS} {st:Nat} {S:TS} {rk:Nat->Nat} {ah:List Int}
theorem Cy (h:kW w B F gt ct A st S rk ah) {P:List Fr} {was x:Nat} {l r:BT} (hM:xH S rk (j4 P was x l r) (af P (.node x l r)).nodes S rk P was x l r) (hX:(af P (.node x l r)).nodes.Nodup)
  (hlt:∀y,y∈(af P (.node x l r)).nodes->y<A.cs.length) :
  Calls Tryz.prog 245 #[.pointer (some ⟨B.n0,0,none⟩),.int .i64 (x:Int)] w fun e w'=>e=.returned (.tuple #[])/\aa [B.ba,B.br] w w'/\
   ∃S' nP,kW w' B F gt ct A st S' nP ah/\sU S rk (j4 P was x l r) (af P (.node x l r)).nodes S' nP:=by
 generalize hT:j4 P was x l r=T at *;generalize hXX:(af P (.node x l r)).nodes=X at *;have hL:(x::P.map (·.1)).Nodup:=by
  obtain ⟨p1,p2,p3,p4,p5⟩:=hM.parts hX;obtain ⟨q1,q2⟩:=Lv p5;exact List.nodup_cons.2 ⟨fun hm=>(p4 x (q2 x hm)).1 rfl,q1⟩
 generalize hLL:x::P.map (·.1)=L at *;have hblk:=h.lt;have pY:=h.cF;have hs:=χ h.sep;have hA:=h.cells.ok.c1;have Y5:=χ h;have MM:=χ hM;have HX:=χ hX;have HL:=χ hL;have HLL:=χ hLL;have WG:=χ hlt;clear h hM hX hL hlt hT hXX hblk hLL
 go_enter Tryz.func245,Tryz.ntmps245
 go_wp2
 go_loopw [1] (fun a wr=>∃ (S1:TS) (rk1:Nat->Nat),kW wr B F gt ct A st S1 rk1 ah/\aa [B.ba,B.br] w wr/\((∃ (P1:List Fr) (O7 x1:Nat) (l1 r1:BT) (dn:List Nat),a=.int .i64 (x1:Int)/\L=dn++x1::P1.map (·.1)/\xH S rk T X S1 rk1 P1 O7 x1 l1 r1)\/(a=.int .i64 (-1)/\sU S rk T X S1 rk1))) (fun a _=>if intOf a=-1 then 0 else L.length-L.idxOf (intOf a).toNat)
 case atStart=>exact ⟨S,rk,Y5.out,aa.refl _ _,Α ⟨P,was,x,l,r,[],rfl,HLL.out.symm,MM.out⟩⟩
 case round=>
  obtain ⟨S1,rk1,hM,hu,hor⟩:=hrel;rename World=>w5;rcases hor with ⟨P1,O7,x1,l1,r1,dn,rfl,hLe,hMe⟩|⟨rfl,hE⟩
  ·have hxb:((x1:Int) != -1)=true:=σ;obtain ⟨p1,p2,p3,p4,p5⟩:=hMe.parts HX.out;have hx1:=WG.out x1 p1;have h0:=hM.h0;have h2:=hM.h2;have d0:=hM.ranks.cell x1 hx1;have ex:=hMe.rx;rw [ex] at d0;have hT1:=((dL _ _).1 hMe.Ex).1;have ks:=qp hM (p:=Cz P1) hT1 hMe.rl hMe.rr p2 (fun y hy=>WG.out y (p3 y hy));have ME:=χ hMe;have HLe:=χ hLe;have hu1:S1.u x1=Cz P1:=hT1.2.1;have HPU:=χ hu1;clear hMe p1 p2 p3 p4 p5 hT1 hM ex hLe hu1
   go_wp2_with fail
   refine ks.mono ?_;rintro e w7 ⟨rfl,jC,S3,QI,IK,T9,VJ,hs7,hsu,WK⟩;have e7:QI x1=(au x1 l1 r1).rank:=by
    have:=VJ.root (by unfold au;split<;>simp);rw [jk] at this;simpa using this
   have g2:=IK.h2;have g1:=IK.h1;have d7:=IK.ranks.cell x1 hx1;rw [e7] at d7;have hsu2:S3.u x1=Cz P1:=hsu.trans HPU.out;have ku:=PR B.bt B.ba A.cs.length S3 (x1:Int) w7 IK.trees;rw [show oq A.cs.length S3 (x1:Int)=Cz P1 by unfold oq;rw [Δ ω];simpa using hsu2] at ku;have X4:=χ IK;have yC:=χ (ψ T9 (ψ VJ (ψ hs7 WK)));have Zf:=χ (hu.trans jC);have LG:∃k3,(au x1 l1 r1).rank=k3:=⟨_,rfl⟩;obtain ⟨k3,LG⟩:=LG;rw [LG] at d7;have HRK:=χ LG;clear IK T9 VJ hs7 WK hu jC hsu hsu2 e7 ks h0 h2 d0 LG HPU
   by_cases he:k3=O7
   ·have hb:((k3:Int) == (O7:Int))=true:=by rw [he];simp
    go_wp2;exact bodyPost_ret (v:=.tuple #[]) (by simp [results,Tryz.results245,go_sem]) rfl ⟨rfl,Zf.out,S3,QI,X4.out,ME.out.stay HX.out yC.out.1 yC.out.2.1 yC.out.2.2.1 yC.out.2.2.2 (HRK.out.trans he)⟩
   ·have hb:((k3:Int) == (O7:Int))=false:=ζ;have HNE:=χ (show (au x1 l1 r1).rank≠O7 from fun e=>he (HRK.out.symm.trans e));generalize hz:Cz P1=z at *;clear he
    go_wp2_with (first
     | (go_at_call 250;(with_reducible refine (ku).mono ?_);rintro e w8 ⟨rfl,kk,rfl⟩)
     | (go_at_call 247;(with_reducible refine (nH _ _).mono ?_);rintro e w9 ⟨rfl,aI⟩;rw [aI];clear aI w9)
     | fail)
    cases P1 with
    | nil=>
     subst hz;refine ⟨⟨S3,QI,X4.out.aj ((aa.refl _ _).drewN kk),Zf.out.drewN kk,Β ⟨rfl,ME.out.top HX.out yC.out.1 yC.out.2.1 yC.out.2.2.1 yC.out.2.2.2⟩⟩,?_⟩;have hi:=KJ HL.out HLe.out
     show (if ((-1:Int))=-1 then 0 else _)<(if ((x1:Int))=-1 then 0 else L.length-L.idxOf ((x1:Int)).toNat)
     rw [Δ rfl,Γ ω,π,hi.1];omega
    | cons f P2=>
     subst hz;obtain ⟨l2,r2,hM2⟩:=ME.out.up HX.out yC.out.1 yC.out.2.1 yC.out.2.2.1 yC.out.2.2.2 HNE.out;refine ⟨⟨S3,QI,X4.out.aj ((aa.refl _ _).drewN kk),Zf.out.drewN kk,Α ⟨P2,_,f.1,l2,r2,dn++[x1],rfl,by rw [HLe.out];simp,hM2⟩⟩,?_⟩;have hi:=KJ HL.out HLe.out;have hi2:=KJ (done:=dn++[x1]) (x:=f.1) (rest:=P2.map (·.1)) HL.out (by rw [HLe.out];simp)
     show (if ((f.1:Int))=-1 then 0 else L.length-L.idxOf ((f.1:Int)).toNat)<(if ((x1:Int))=-1 then 0 else L.length-L.idxOf ((x1:Int)).toNat)
     rw [Γ ω,Γ ω,π,π,hi.1,hi2.1];rw [υ,List.length_singleton] at hi2 ⊢;omega
  ·go_wp2
   (first|go_end0|go_ret)
   exact ⟨rfl,hu,S1,rk1,hM,hE⟩
end
def lQ (w:World) (B:LB) (F:List Nat) (gt ct:Nat) (A:NS) (st:Nat) (tr:Nat->BT):Prop:=
 ∃S rk ah,kW w B F gt ct A st S rk ah/\TrI A S ah tr/\(∀h,Lean (tr h))/\(∀h,fK rk (tr h))
theorem lQ.upd {w w':World} {B:LB} {F:List Nat} {gt ct:Nat} {A:NS} {st:Nat} {tr:Nat->BT} {G:List Nat} (h:lQ w B F gt ct A st tr) (hu:aa G w w') (hG:∀x,x∈G->x∉B.blk F gt):lQ w' B F gt ct A st tr:=by
 obtain ⟨S,rk,ah,hM,h1,h2,h3⟩:=h;exact ⟨S,rk,ah,hM.upd hu hG,h1,h2,h3⟩
theorem lQ.aj {w w':World} {B:LB} {F:List Nat} {gt ct:Nat} {A:NS} {st:Nat} {tr:Nat->BT} (h:lQ w B F gt ct A st tr) (hu:aa [] w w'):lQ w' B F gt ct A st tr:=h.upd hu σ
section
variable {w:World} {B:LB} {F:List Nat} {gt ct:Nat} {A:NS} {st:Nat} {tr:Nat->BT}
theorem Ig (h:lQ w B F gt ct A st tr) (hh x:Nat) (k s:Int) (hk:-9223372036854775808<=k/\k<=9223372036854775807/\0<=s/\s<=18446744073709551615) (hB:nR A hh x=true) :
  Calls Tryz.prog 240 #[.pointer (some ⟨B.n0,0,none⟩),.int .i64 (hh:Int),.int .i64 (x:Int),.agg #[.int .i64 k,.int .u64 s]] w fun e w'=>e=.returned (.bool true)/\aa (B.blk F gt) w w'/\
   lQ w' B F gt ct (aJ A hh x k s) (bR st (aG au (aJ A hh x k s) (tr hh) (single x)).2) (fun q=>if q=hh then (aG au (aJ A hh x k s) (tr hh) (single x)).1 else tr q):=by
 obtain ⟨S,rk,ah,hM,hI,hL,hR⟩:=h;have hlt:=hM.lt;have ok:=hM.cells.ok;have ok':=yI ok hh x k s hk;obtain ⟨b1,b2,b3⟩:=(dW _ _ _).1 hB;have b4:=(aO _ _).1 b1;have hx:x<A.cs.length:=by have:=(gH _ _).1 b2;omega
 have Po:(A.c x).i=0:=by
  have:=(ok.nat x hx).1;have h3:¬ (0<(A.c x).i):=fun h'=>by rw [(ae A x).2 ⟨hx,h'⟩] at b3;cases b3
  omega
 have hcs:(aJ A hh x k s).cs.length=A.cs.length:=by unfold aJ;rw [Δ hB,eY]
 have kY:(aJ A hh x k s).hs.length=A.hs.length:=by unfold aJ;rw [Δ hB];rfl
 have hcx:∀y,(aJ A hh x k s).c y=if y=x then ⟨hh,k,s⟩ else A.c y:=fun y=>by
  unfold aJ;rw [Δ hB,π,jQ]
  by_cases e:y=x
  ·rw [Δ ⟨e,hx⟩,Δ e]
  ·rw [Γ (fun h=>e h.1),Γ e]
 have uJ:x∉(tr hh).nodes:=hI.out Po;have hX:((tr hh).nodes++(single x).nodes).Nodup:=by
  rw [θ];refine ⟨hI.nd hh,by simp [single,BT.nodes],fun a ha b hb e=>?_⟩;simp only [single,BT.nodes,Υ,ϒ] at hb;exact uJ (by rw [←hb,←e];exact ha)
 have hin:∀y,y∈(tr hh).nodes++(single x).nodes->bQ (aJ A hh x k s) (y:Int)=true:=fun y hy=>by
  rw [ae,hcs,hcx];simp only [single,BT.nodes,Υ,τ,ϒ] at hy
  by_cases e:y=x
  ·rw [Δ e,e];exact ⟨hx,by show (0:Int)<(hh:Int);omega⟩
  ·rw [Γ e];have:=(hI.mem hh y).1 (hy.resolve_right e);exact ⟨this.2.1,ω⟩
 have WC:Heap (aJ A hh x k s) (tr hh):=(hI.heap hh).frame (fun y hy=>by rw [hcx,Γ (fun e=>uJ (by rw [←e];exact hy))]);obtain ⟨mp,mh⟩:=lT mV (aJ A hh x k s) _ (tr hh) (single x) (Θ _);have YF:=mh WC ⟨by simp [BT.nodes],by simp [BT.nodes],trivial,trivial⟩ hX;have ml:=ve (aJ A hh x k s) _ (tr hh) (single x) (Θ _) (hL hh) ⟨Θ _,trivial,trivial⟩;have hfr:=hI.free x hx Po
 have FI:Hid (∀ (W:World) (S':TS) (nP:Nat->Nat) (st':Nat),kW W B F gt ct (aJ A hh x k s) st' S' nP (ah.set hh (aG au (aJ A hh x k s) (tr hh) (single x)).1.root)->bV S' (-1) (aG au (aJ A hh x k s) (tr hh) (single x)).1.root (aG au (aJ A hh x k s) (tr hh) (single x)).1->fK nP (aG au (aJ A hh x k s) (tr hh) (single x)).1->
   (∀y,y∉(tr hh).nodes++(single x).nodes->S.at S' y/\nP y=rk y)->lQ W B F gt ct (aJ A hh x k s) st' (fun q=>if q=hh then (aG au (aJ A hh x k s) (tr hh) (single x)).1 else tr q)):=fun W S' nP st' a1 a2 a3 a4=>by
  refine ⟨S',nP,_,a1,hI.put ok hM.jc hB a2 mp YF (fun y hy=>(a4 y hy).1),fun q=>?_,fun q=>?_⟩
  ·show Lean (if q=hh then _ else _)
   split
   ·exact ml
   ·exact hL q
  ·show fK nP (if q=hh then _ else _)
   split
   ·exact a3
   ·rename_i hq
    refine (hR q).frame (fun y hy=>(a4 y (fun hm=>?_)).2);simp only [single,BT.nodes,Υ,τ,ϒ] at hm;rcases hm with hm|hm
    ·have c1:=(hI.mem hh y).1 hm;have c2:=(hI.mem q y).1 hy;omega
    ·exact hI.out (g:=q) Po (by rw [←hm];exact hy)
 have WI:=hI.Ex hh;have hRh:=hR hh;have htop:=hI.top hh ω;have hgn:hh<ah.length:=by rw [hM.jc];omega
 have u1:aa [] w (w.alloc (.cells #[.int .i64 k,.int .u64 s] 129)):=(aa.refl _ _).alloc _;have kp:=fun W (hW:aa [] (w.alloc (.cells #[.int .i64 k,.int .u64 s] 129)) W)=>nC (hM.cells.aj (u1.trans hW)) hh x k s hk hB;have h0:=hM.h0;have uH:B.n0∉F:=hM.bz.1;have hsz:w.heap.size∉F:=fun hm=>by have:=hlt w.heap.size (by simp [LB.blk,hm]);omega
 have r0:∀W,aa F (w.alloc (.cells #[.int .i64 k,.int .u64 s] 129)) W->W.cell? ⟨B.n0,0,none⟩=some (.pointer (some ⟨B.c,0,none⟩)):=fun W hW=>hW.kept (u1.was h0) uH;have r1:∀W,aa F (w.alloc (.cells #[.int .i64 k,.int .u64 s] 129)) W->W.cell? ⟨w.heap.size,0,none⟩=some (.int .i64 k):=fun W h=>h.kept σ hsz;have r2:∀W,aa F (w.alloc (.cells #[.int .i64 k,.int .u64 s] 129)) W->W.cell? ⟨w.heap.size,1,none⟩=some (.int .u64 s):=fun W h=>h.kept σ hsz;have HM:=χ hM;have HH:=χ (ψ hX (ψ hin (ψ WI (ψ hRh hfr))));have WG:=χ hlt;have HSE:=χ (ψ hM.sep hM.bz);have hA:=ok.c1;have WL:=ok.h1;have HXN:=χ uJ
 clear hM hI hL hR ok ok' b1 b2 b3 Po hcx uJ hX hin WC mp mh YF ml hfr h0 hlt WI hRh;generalize hA':aJ A hh x k s=A' at *;generalize htr:tr hh=th at *
 go_enter Tryz.func240,Tryz.ntmps240
 go_wp2
 go_region_held3 (aa F (w.alloc (.cells #[.int .i64 k,.int .u64 s] 129))) (exact ν)
  ((go_at_call 154;(with_reducible refine (kp _ β).mono ?_);rintro e w1 ⟨rfl,jd,hu1⟩;(have hu2:aa F (w.alloc (.cells #[.int .i64 k,.int .u64 s] 129)) w1:=ν)))
 have uF:aa F w (w.alloc (.cells #[.int .i64 k,.int .u64 s] 129)):=u1.mono σ;have hM1:=HM.out.bY (uF.trans hu2) jd (fun y hy=>Α hy) hcs kY;have h2:=hM1.h2;have dR:=hM1.ranks.cell x (by rw [hcs];exact hx);have fR:=hM1.ranks.free x;have hw1:aa F w w1:=uF.trans hu2;have jI:=χ hM1;clear r0 r1 r2 kp hu1 hu2 jd hM1 uF;rw [hcs] at h2;go_wp2;obtain ⟨w2,hw2⟩:∃w2,w2=w1.setCell ⟨B.br,x,none⟩ (.int .i64 1):=⟨_,rfl⟩;have u2:aa [B.br] w1 w2:=by rw [hw2];exact β
 have hM2:kW w2 B F gt ct A' st S (fun y=>if y=x then 1 else rk y) ah:=by rw [hw2];exact jI.out.cz x 1
 rw [←hw2];clear hw2 jI h2 dR fR;have km:=fun W (hW:aa [] w2 W)=>uL (hM2.aj hW) HH.out.2.2.1 (uP HH.out.2.2.2.2) HH.out.1 HH.out.2.1 (HH.out.2.2.2.1.frame (fun y hy=>Γ (fun e=>HXN.out (by rw [←e];exact hy)))) ⟨by simp [BT.rank],trivial,trivial⟩;rw [show (single x).root=(x:Int) from rfl] at km;have d4:=hM2.jv.cell hh hgn;rw [htop] at d4;have f4:=hM2.jv.free hh;have h3:=hM2.h3;have hg:=hM2.lt gt (by simp [LB.blk]);have mU:=χ hM2;have Ea:B.n0∉[B.c,B.ba,B.br,gt]:=by
  have a1:=HSE.out;have a2:B.n0≠B.c:=fun e=>a1.2.1 (by rw [e];exact HM.out.cF);simp;omega
 have hgc:gt∉[B.c,B.ba,B.br]:=by
  have a1:=HSE.out;have a2:gt≠B.c:=fun e=>a1.2.2.2.2.2 (by rw [e];exact HM.out.cF);simp;omega
 have r3:∀W,aa [B.c,B.ba,B.br,gt] w2 W->W.cell? ⟨B.n0,3,none⟩=some (.slice (some ⟨gt,0,none⟩) ah.length ct):=fun W hW=>hW.kept h3 Ea;have r4:∀W,aa [B.c,B.ba,B.br] w2 W->W.cell? ⟨gt,hh,none⟩=some (.int .i64 th.root)/\W.frozen? ⟨gt,hh,none⟩=false:=fun W hW=>⟨hW.kept d4 hgc,hW.aH d4 hgc f4⟩
 have Bw:(0:Int)<=(hh:Int):=ω;have FY:(hh:Int)<(ah.length:Int):=ω;have MG:Hid (aG au A' th (single x)=aG au A' th (single x)):=rfl;generalize hmt:(aG au A' th (single x)).1=mt at *;generalize hmk:(aG au A' th (single x)).2=mk at *;clear hM2 f4 h3 MG;have q3:=r3 _ (aa.refl _ _);have q4:=(r4 _ (aa.refl _ _)).1
 go_region_law
  (first
   | (go_simp;go_at_call 246;(with_reducible refine (km _ β).mono ?_);rintro e w5 ⟨rfl,xw,S5,Xm,wQ,II,M0,hs5⟩;(have bK:aa [B.c,B.ba,B.br] w2 w5:=aa.trans β xw);(have gF:aa [B.c,B.ba,B.br,gt] w2 w5:=bK.mono σ);obtain ⟨d5,f5⟩:=r4 _ bK;(have q5:=r3 _ gF)))
 all_goals
  go_wp2;go_ret;have pY:=HM.out.cF;have v1:aa (B.blk F gt) w w1:=hw1.mono (fun y hy=>by simp only [LB.blk,ρ];simp [hy]);have v2:aa (B.blk F gt) w w2:=v1.trans (u2.mono (fun y hy=>by simp at hy;simp [LB.blk,hy]))
  have v3:aa (B.blk F gt) w w5:=v2.trans (bK.mono (fun y hy=>by
   simp only [ρ,ς,or_false] at hy;simp only [LB.blk,ρ];rcases hy with rfl|rfl|rfl
   ·simp [pY]
   ·simp
   ·simp))
  subst hmt hmk;refine ⟨rfl,v3.setCell (Α (by simp [LB.blk])) _,FI.out _ S5 Xm _ (wQ.qz hh _) II M0 (fun y hy=>⟨(hs5 y hy).1,?_⟩)⟩;rw [(hs5 y hy).2,Γ (fun e=>hy (by rw [e];simp [single,BT.nodes]))]
end
theorem Qu (n j:Nat) (hj:j<n):(madeCells #[Value.int .i64 0] (n*1)).toList.getD j undef=.int .i64 0:=by
 rw [φ,ε (by simp [madeCells];omega)];simp [madeCells,Nat.mod_one]
theorem RQ (n:Nat) (w:World) (h:n<=65536) :
  Calls Tryz.prog 100 #[.int .i64 (n:Int)] w fun e w'=>∃B F gt,e=.returned (.tuple #[.pointer (some ⟨B.n0,0,none⟩),.int .i64 0])/\lQ w' B F gt 1 (NS.new n) 0 (fun _=>.nil)/\aa [] w w'/\∀x,x∈B.blk F gt->w.heap.size<=x:=by
 go_enter Tryz.func100,Tryz.ntmps100
 go_wp2_with (first
  | ((go_at_call 107;(with_reducible refine (nO n _ h).mono ?_));rintro e w1 ⟨c,F,rfl,hC,hu1,hF⟩)
  | ((go_at_call 112;(with_reducible refine (wK n _ h).mono ?_));rintro e w2 ⟨bt,ba,rfl,hT,hu2,hb1,hb2⟩)
  | (at_make;refine wpList_make_row rfl _ 26 rfl 3 (.int .i64 0) 1 8 Tryz.underlying26 fE n rfl ω μ ?_;intro w3 hr3 hu3))
 go_ret2;have hcs:(NS.new n).cs.length=n:=by simp [NS.new]
 have l1:=hu1.size;have l2:=hu2.size;have l3:=hu3.size;have l4:=hr3.lt;have l5:=hT.head.lt;have l6:=hT.row.lt;have l7:=hC.lt;have lc:=l7 c hC.mem;have e3:((w3.alloc (.cells #[.int .i64 (-1)] 3)).heap.size)=w3.heap.size+1:=by rw [Κ]
 have hv:aa [] w3 (w3.alloc (.cells #[.int .i64 (-1)] 3)):=(aa.refl _ _).alloc _;have hw:aa [] w3 ((w3.alloc (.cells #[.int .i64 (-1)] 3)).alloc (.cells #[.pointer (some ⟨c,0,none⟩),.pointer (some ⟨bt,0,none⟩),.slice (some ⟨w2.heap.size,0,none⟩) n n,.slice (some ⟨w3.heap.size,0,none⟩) 1 1] 231)):=hv.alloc _;have hh:=dJ (w3.alloc (.cells #[.int .i64 (-1)] 3)) [.pointer (some ⟨c,0,none⟩),.pointer (some ⟨bt,0,none⟩),.slice (some ⟨w2.heap.size,0,none⟩) n n,.slice (some ⟨w3.heap.size,0,none⟩) 1 1] 231;rw [e3] at hh
 have hi:IZ (w3.alloc (.cells #[.int .i64 (-1)] 3)) w3.heap.size 1 [-1]:=IZ.lit w3 [-1] σ;have hF':∀x,x∈F->x<w1.heap.size:=l7;have hnF:∀x,w1.heap.size<=x->x∉F:=fun x hx hm=>by have:=hF' x hm;omega
 refine ⟨⟨w3.heap.size+1,c,bt,ba,w2.heap.size⟩,F,w3.heap.size,rfl,⟨TS.none,fun _=>0,[-1],⟨by rw [hcs];exact hh,((hC.aj hu2).aj hu3).aj hw,by rw [hcs];exact (hT.upd hu3 σ σ).upd hw σ σ,?_,hi.upd ((aa.refl [] _).alloc _) σ,rfl,⟨hnF _ (by first|omega|(simp only;omega)),hnF _ (by first|omega|(simp only;omega)),hnF _ (by first|omega|(simp only;omega)),hnF _ (by first|omega|(simp only;omega)),hnF _ (by first|omega|(simp only;omega))⟩,⟨⟨by simp only;omega,by simp only;omega,by simp only;omega,by simp only;omega⟩,by simp only;omega,by simp only;omega,by simp only;omega,by simp only;omega,by simp only;omega⟩⟩,DD n,fun _=>trivial,fun _=>trivial⟩,((hu1.trans hu2).trans hu3).trans hw,fun x hx=>?_⟩
 ·rw [hcs];have:=hr3.upd hw σ;rw [Nat.mul_one] at this;refine this.ext (fun j hj=>?_);have hz:(Value.int .i64 0).cells=#[.int .i64 0]:=rfl;have e:=Qu n j hj;rw [Nat.mul_one] at e;rw [hz,e];rfl
 ·simp only [LB.blk,ρ] at hx;rcases hx with rfl|rfl|rfl|rfl|rfl|hx
  ·omega
  ·omega
  ·omega
  ·omega
  ·omega
  ·exact hF x hx
section
variable {w:World} {B:LB} {F:List Nat} {gt ct:Nat} {A:NS} {st:Nat} {tr:Nat->BT}
theorem TI (h:lQ w B F gt ct A st tr) (hl:65536<A.hs.length) :
  Calls Tryz.prog 241 #[.pointer (some ⟨B.n0,0,none⟩)] w fun e w'=>e=.returned (.int .i64 0)/\Goes (B.blk F gt) w w' (fun F'=>∃F1,F'=B.blk F1 gt/\lQ w' B F1 gt ct A st tr):=by
 obtain ⟨S,rk,ah,hM,hI⟩:=h;have k:=iF hM.cells;have e1:cu A=0:=by unfold cu;rw [Δ hl]
 have e2:aN A=A:=by unfold aN;rw [Δ hl]
 rw [e1,e2] at k;have h0:=hM.h0;have HM:=χ hM;have HI:=χ hI;clear hM hI e1 e2
 go_enter Tryz.func241,Tryz.ntmps241
 go_wp2_with (first|((go_at_call 156;(with_reducible refine (k).mono ?_));rintro e w1 ⟨rfl,F1,hC,hu,hF⟩))
 go_ret
 exact ⟨rfl,B.blk F1 gt,⟨F1,rfl,S,rk,ah,HM.out.bY hu hC hF rfl rfl,HI.out⟩,hu.mono (fun y hy=>by simp [LB.blk,hy]),fun x hx=>by
  simp only [LB.blk,ρ] at hx ⊢;rcases hx with rfl|rfl|rfl|rfl|rfl|hx
  ·simp
  ·simp
  ·simp
  ·simp
  ·simp
  ·rcases hF x hx with h|h
   ·simp [h]
   ·exact Β h⟩
theorem NM (h:lQ w B F gt ct A st tr) (hl:¬65536<A.hs.length) :
  Calls Tryz.prog 241 #[.pointer (some ⟨B.n0,0,none⟩)] w fun e w'=>e=.returned (.int .i64 (A.hs.length:Int))/\Goes (B.blk F gt) w w' (fun F'=>∃F1 oJ Gv,F'=B.blk F1 oJ/\lQ w' B F1 oJ Gv (aN A) st tr):=by
 obtain ⟨S,rk,ah,hM,hI,hL,hR⟩:=h;have k:=iF hM.cells;have e1:cu A=A.hs.length:=by unfold cu;rw [Γ hl]
 rw [e1] at k;have hcs:(aN A).cs.length=A.cs.length:=by unfold aN;rw [Γ hl]
 have kY:(aN A).hs.length=A.hs.length+1:=by unfold aN;rw [Γ hl];simp
 have hI2:=hI.make hM.cells.ok hM.jc hl;have h0:=hM.h0;have hh0:=hM.cells.ok.h0;have HTN:=χ hM.jc;have htb:ah.length<=65536:=by rw [hM.jc];omega
 have HM:=χ hM;have HI:=χ (ψ hI2 (ψ hL hR));clear hM hI hL hR e1 hI2
 go_enter Tryz.func241,Tryz.ntmps241
 go_wp2_with (first
  | ((go_at_call 156;(with_reducible refine (k).mono ?_));rintro e w1 ⟨rfl,F1,hC,hu,hF⟩;(have d3:=hu.kept HM.out.h3 HM.out.bz.1);(have f3:=hu.aH HM.out.h3 HM.out.bz.1 (HM.out.head.free 3));(have ho1:=(HM.out.jv.upd hu HM.out.bz.2.2.2.2).own);(have g0:B.n0≠gt:=HM.out.sep.1.2.2.2);(have gl:=(HM.out.jv.upd hu HM.out.bz.2.2.2.2).lt))
  | ((at_builtin;refine aV rfl _ _ 26 rfl 0 3 (.int .i64 0) 1 8 Tryz.underlying26 fE rfl δ _ _ _ rfl (ho1) [.int .i64 (-1)] rfl (by simp [Value.oneCell']) (by first|rfl|(rw [Κ];rfl)) μ ω (ω) ?_;intro v2 w2 ho2 hu2 mG);(have hu2:aa [gt] w1 w2:=hu2);obtain ⟨oJ,Gv,ev,hI2, -⟩:=IZ.gW (l:=ah++[-1]) (by rw [bP,υ];exact ho2) σ;rw [υ,List.length_singleton] at ev;subst ev;(have d4:=hu2.kept d3 ζ);(have f4:=hu2.aH d3 ζ f3)))
 go_ret;have hM:=HM.out;have hlt:=hM.lt;have f:=hM.bz;have q:=hM.sep;have hw3:aa [B.n0] w2 (w2.setCell ⟨B.n0,3,none⟩ (.slice (some ⟨oJ,0,none⟩) (ah.length+1) Gv)):=β;have hg1:oJ=gt\/w1.heap.size<oJ:=by
  rcases mG with h|h
  ·exact Α (Option.some.inj h)
  ·exact Β (h oJ rfl)
 have hws:=hu.size;have jd:=hC.lt;have l0:=hlt B.n0 (by simp [LB.blk]);have l1:=hlt B.bt (by simp [LB.blk]);have l2:=hlt B.ba (by simp [LB.blk]);have l3:=hlt B.br (by simp [LB.blk]);have l4:=hlt gt (by simp [LB.blk]);have hnF:∀y,y<w.heap.size->y∉F->y∉F1:=fun y hy hn hm=>by rcases hF y hm with h'|h';exact hn h';omega
 have EU:oJ∉F1:=by
  rcases hg1 with e|e
  ·rw [e];exact hnF gt l4 f.2.2.2.2
  ·exact fun hm=>by have:=jd oJ hm;omega
 have hb:w.heap.size<=oJ\/oJ=gt:=ω;have hhd:=((hM.head.upd hu f.1).upd hu2 ζ).set 3 (.slice (some ⟨oJ,0,none⟩) (ah.length+1) Gv);refine ⟨rfl,B.blk F1 oJ,⟨F1,oJ,Gv,rfl,S,rk,ah++[-1],⟨?_,?_,?_,?_,hI2.upd hw3 ζ,?_,⟨hnF _ l0 f.1,hnF _ l1 f.2.1,hnF _ l2 f.2.2.1,hnF _ l3 f.2.2.2.1,EU⟩,⟨⟨q.1.1,q.1.2.1,q.1.2.2.1,ω⟩,q.2.1,ω,q.2.2.2.1,ω,ω⟩⟩,HI.out⟩,?_,fun y hy=>?_⟩
 ·rw [hcs,υ,List.length_singleton];refine hhd.ext (fun j hj=>?_);rcases (ω:j=0\/j=1\/j=2\/j=3) with rfl|rfl|rfl|rfl<;>rfl
 ·exact (hC.upd hu2 (fun y hy=>by simp at hy;rw [hy];exact hnF gt l4 f.2.2.2.2)).upd hw3 (fun y hy=>by simp at hy;rw [hy];exact hnF _ l0 f.1)
 ·rw [hcs];exact ((hM.trees.upd hu f.2.1 f.2.2.1).upd hu2 ζ ζ).upd hw3 ζ ζ
 ·rw [hcs];exact ((hM.ranks.upd hu f.2.2.2.1).upd hu2 ζ).upd hw3 ζ
 ·rw [υ,List.length_singleton,kY,HTN.out]
 ·have u1:aa (B.blk F gt) w w1:=hu.mono (fun y hy=>by simp [LB.blk,hy]);exact (u1.trans (hu2.mono (fun y hy=>by simp at hy;simp [LB.blk,hy]))).trans (hw3.mono (fun y hy=>by simp at hy;simp [LB.blk,hy]))
 ·simp only [LB.blk,ρ] at hy ⊢;rcases hy with rfl|rfl|rfl|rfl|rfl|hy
  ·simp
  ·simp
  ·simp
  ·simp
  ·rcases hb with h|h
   ·exact Β h
   ·exact Α (by simp [h])
  ·rcases hF y hy with h|h
   ·simp [h]
   ·exact Β h
end
theorem vT.first {A:NS} {S:TS} {ah:List Int} {tr:Nat->BT} (h:TrI A S ah tr) {g:Nat} (hg:0<dI A g):∃m:Nat,(tr g).root=m/\dF A g=some m:=by
 obtain ⟨x,hx,hi,h0⟩:=eH.1 hg;have hxm:x∈(tr g).nodes:=(h.mem g x).2 ⟨ω,hx,hi⟩;cases ht:tr g with
 | nil=>rw [ht] at hxm;cases hxm
 | node m l r=>
  have hm:=(h.mem g m).1 (by rw [ht];simp [BT.nodes]);have hH:=h.heap g;rw [ht] at hH;refine ⟨m,rfl,(iB h0).2 ⟨hm.2.1,hm.2.2,fun y hy hyi=>?_⟩⟩;have hym:=(h.mem g y).2 ⟨ω,hy,hyi⟩;rw [ht] at hym;simp only [BT.nodes,ρ,τ] at hym;rcases hym with e|e|e
  ·exact Α e
  ·exact Β (hH.1 y e)
  ·exact Β (hH.2.1 y e)
section
variable {w:World} {B:LB} {F:List Nat} {gt ct:Nat} {A:NS} {st:Nat} {tr:Nat->BT}
theorem MW (h:lQ w B F gt ct A st tr) (x:Int) (hx:-9223372036854775808<=x/\x<=9223372036854775807) (hn:dI A x=0) :
  Calls Tryz.prog 243 #[.pointer (some ⟨B.n0,0,none⟩),.int .i64 x] w fun e w'=>e=.returned (.tuple #[.int .i64 0,.bool false])/\w'=w:=by
 obtain ⟨S,rk,ah,hM, -, -, -⟩:=h;have k:=pW hM.cells x hx;rw [hn] at k;have h0:=hM.h0;clear hM hn
 go_enter Tryz.func243,Tryz.ntmps243
 go_wp2_with (first|(go_at_call 142;(with_reducible refine (k).mono ?_);rintro e w9 ⟨rfl,aI⟩;rw [aI];clear aI w9))
 go_ret2;exact ⟨rfl,rfl⟩
theorem Ch (h:lQ w B F gt ct A st tr) (g:Nat) (hn:0<dI A g) :
  Calls Tryz.prog 243 #[.pointer (some ⟨B.n0,0,none⟩),.int .i64 (g:Int)] w fun e w'=>∃m:Nat,dF A g=some m/\(tr g).root=m/\e=.returned (.tuple #[.int .i64 (m:Int),.bool true])/\w'=w:=by
 obtain ⟨S,rk,ah,hM,hI, -, -⟩:=h;obtain ⟨m,hm,hf⟩:=hI.first hn;obtain ⟨x,hx,hi,h0⟩:=eH.1 hn;have ok:=hM.cells.ok;have hgl:g<A.hs.length:=by have:=(ok.nat x hx).2;omega
 have WL:=ok.h1;have k:=pW hM.cells (g:Int) ω;have hh0:=hM.h0;have h3:=hM.h3;have d:=hM.jv.cell g (by rw [hM.jc];exact hgl);rw [hI.top g hgl,hm] at d;have htl:g<ah.length:=by rw [hM.jc];exact hgl
 generalize hl:dI A (g:Int)=n at *;have hb:((n:Int) == 0)=false:=ζ;have HF:=χ (ψ hf hm);clear hM hI hm hf hx hi h0 ok hl
 go_enter Tryz.func243,Tryz.ntmps243
 go_wp2_with (first|(go_at_call 142;(with_reducible refine (k).mono ?_);rintro e w9 ⟨rfl,aI⟩;rw [aI];clear aI w9))
 go_ret2;exact ⟨m,HF.out.1,HF.out.2,rfl,rfl⟩
end
theorem aD {P:List Fr} {t:BT} {y:Nat}:y∈(af P t).nodes↔y∈t.nodes\/y∈dE P:=by
 rw [(aM P t).mem_iff,τ]
def cutV (f:Fr) (t:BT):Int:=if t.root=-1 then 0 else (f.1:Int)
section
variable {w:World} {bt ba n:Nat} {S:TS}
theorem nE (h:bf w bt ba n S) {f:Fr} {P:List Fr} {t:BT} (hT:bV S (-1) (af (f::P) t).root (af (f::P) t)) (hn:(af (f::P) t).nodes.Nodup) (hlt:∀y,y∈(af (f::P) t).nodes->y<n) :
  Calls Tryz.prog 244 #[.pointer (some ⟨bt,0,none⟩),.int .i64 t.root] w fun e w'=>e=.returned (.tuple #[.int .i64 (cutV f t),.bool (tb t.root)])/\aa [ba] w w'/\
   ∃S',bf w' bt ba n S'/\bV S' (-1) t.root t/\bV S' (-1) (af (f::P) .nil).root (af (f::P) .nil)/\∀y,y∉(af (f::P) t).nodes->S.at S' y:=by
 by_cases ht:t=.nil
 ·subst ht;refine (D8 bt ba n S (-1) w h (by unfold oq;simp)).mono ?_;rintro e w' ⟨rfl,rfl⟩;exact ⟨by simp [cutV,BT.root,tb],aa.refl _ _,S,h,rfl,hT,fun y _=>⟨rfl,rfl,rfl⟩⟩
 ·obtain ⟨c1,c2,c3⟩:=Qx hT ht hn;obtain ⟨m1,m2⟩:=bH ht;have hp:=(dL _ _).1 hT;have hu:S.u t.root.toNat=(f.1:Int):=by
   cases t with
   | nil=>exact absurd rfl ht
   | node y a b=>exact hp.1.2.1
  have hf:f.1<n:=hlt _ (aD.2 (Β (by simp [dE])));have hr:t.root.toNat<n:=hlt _ (aD.2 (Α m1));have hne:t.root≠-1:=ω;have k:=D9 bt ba n S f.1 t.root.toNat w h hf hr hu;rw [←m2] at k;refine k.mono ?_;rintro e w' ⟨rfl,h',hu'⟩;refine ⟨by unfold cutV tb;rw [Γ hne];simp [hne],hu',_,h',c1,c2,fun y hy=>c3 y (fun e=>hy ?_) (fun e=>hy ?_)⟩
  ·rw [e];exact aD.2 (Β (by simp [dE]))
  ·rw [e];exact aD.2 (Α m1)
theorem CO (h:bf w bt ba n S) {f:Fr} {P:List Fr} {m:BT} (hT:bV S (-1) (af (f::P) .nil).root (af (f::P) .nil)) (hM:bV S (-1) m.root m) (hm:m≠.nil) (hn:(m.nodes++dE (f::P)).Nodup) (hlt:∀y,y∈m.nodes++dE (f::P)->y<n) :
  Calls Tryz.prog 251 #[.pointer (some ⟨bt,0,none⟩),.int .i64 (f.1:Int),.int .i64 m.root,.bool f.2.1] w fun e w'=>e=.returned (.bool true)/\aa [ba] w w'/\
   ∃S',bf w' bt ba n S'/\bV S' (-1) (af (f::P) m).root (af (f::P) m)/\∀y,y∉m.nodes++dE (f::P)->S.at S' y:=by
 obtain ⟨c1,c2⟩:=Pg hT hM hm hn;obtain ⟨m1,m2⟩:=bH hm;have hp:=(dL _ _).1 hT;have hk:S.kid f.2.1 f.1=-1:=hp.2.1;have hu:S.u m.root.toNat=-1:=by
  cases m with
  | nil=>exact absurd rfl hm
  | node y a b=>exact hM.2.1
 have hf:f.1<n:=hlt _ (by simp [dE]);have hr:m.root.toNat<n:=hlt _ (by simp [m1]);have hne:f.1≠m.root.toNat:=fun e=>by
  rw [θ] at hn;exact hn.2.2 _ m1 f.1 (by simp [dE]) e.symm
 have k:=zk bt ba n S f.1 m.root.toNat f.2.1 w h hf hr hne hu hk;rw [←m2] at k;refine k.mono ?_;rintro e w' ⟨rfl,h',hu'⟩;refine ⟨rfl,hu',_,h',c1,fun y hy=>c2 y (fun e=>hy ?_) (fun e=>hy ?_)⟩
 ·rw [e];simp [dE]
 ·rw [e];simp [m1]
theorem LF (h:bf w bt ba n S) {P:List Fr} {x:Nat} {l r:BT} (hT:bV S (-1) (af P (.node x l r)).root (af P (.node x l r))) (hx:x<n) :
  Calls Tryz.prog 250 #[.pointer (some ⟨bt,0,none⟩),.int .i64 (x:Int)] w fun e w'=>e=.returned (.tuple #[.int .i64 (tv (Cz P)),.bool (tb (Cz P))])/\∃k,w'=w.drewN k:=by
 have k:=PR bt ba n S (x:Int) w h;have e:oq n S (x:Int)=Cz P:=by
  unfold oq;rw [Δ ω,π];exact ((dL _ _).1 hT).1.2.1
 rw [e] at k;exact k
theorem Cn (h:bf w bt ba n S) {p:Int} {x:Nat} {l r:BT} (hT:bV S p x (.node x l r)) (hx:x<n) :
  Calls Tryz.prog 248 #[.pointer (some ⟨bt,0,none⟩),.int .i64 (x:Int)] w fun e w'=>e=.returned (.tuple #[.int .i64 (tv l.root),.bool (tb l.root)])/\∃k,w'=w.drewN k:=by
 have e:gK n S (x:Int) false=l.root:=by
  unfold gK TS.kid;rw [Δ ω];simp only [π];exact hT.2.2.1.root
 have k:=zF bt ba n S (x:Int) w h;rw [e] at k;exact k
theorem uN (h:bf w bt ba n S) {p:Int} {x:Nat} {l r:BT} (hT:bV S p x (.node x l r)) (hx:x<n) :
  Calls Tryz.prog 249 #[.pointer (some ⟨bt,0,none⟩),.int .i64 (x:Int)] w fun e w'=>e=.returned (.tuple #[.int .i64 (tv r.root),.bool (tb r.root)])/\∃k,w'=w.drewN k:=by
 have e:gK n S (x:Int) true=r.root:=by
  unfold gK TS.kid;rw [Δ ω];simp only [if_true,π];exact hT.2.2.2.root
 have k:=pF bt ba n S (x:Int) w h;rw [e] at k;exact k
theorem CL (h:bf w bt ba n S) {f:Fr} {P:List Fr} {x:Nat} {l r:BT} (hT:bV S (-1) (af (f::P) (.node x l r)).root (af (f::P) (.node x l r))) (hn:(af (f::P) (.node x l r)).nodes.Nodup) (hf:f.1<n) :
  ∃z:Int,(z == (x:Int))=f.2.1/\Calls Tryz.prog 249 #[.pointer (some ⟨bt,0,none⟩),.int .i64 (f.1:Int)] w fun e w'=>e=.returned (.tuple #[.int .i64 (tv z),.bool (tb z)])/\∃k,w'=w.drewN k:=by
 refine ⟨S.r f.1,?_,?_⟩
 ·have hp:=(dL _ _).1 hT;obtain ⟨q1,q2,_,_⟩:=hp.2;unfold TS.kid at q1 q2;cases hs:f.2.1
  ·rw [hs] at q1 q2;simp only [Bool.not_false,if_true] at q2;have e2:=q2.root;have hx:x∉f.2.2.nodes:=fun hm=>by
    have h1:=(aM (f::P) (.node x l r)).nodup_iff.1 hn;rw [θ] at h1;exact h1.2.2 x (by simp [BT.nodes]) x (by simp [dE,hm]) rfl
   have:S.r f.1≠(x:Int):=fun e=>by
    rw [e2] at e
    by_cases hnil:f.2.2=.nil
    ·rw [hnil] at e;have e:(-1:Int)=x:=e;omega
    ·have:=(bH hnil).1;rw [e] at this;exact hx this
   simpa using this
  ·rw [hs] at q1;simp only [if_true] at q1;rw [q1];simp [BT.root]
 ·have k:=pF bt ba n S (f.1:Int) w h;have e:gK n S (f.1:Int) true=S.r f.1:=by unfold gK TS.kid;rw [Δ ω];simp
  rw [e] at k;exact k
end
def nD:List Fr->BT->BT->BT
 | [],_,m=>m
 | f::P,old,m=>if f.2.1 then j4 P (kN f old.rank) f.1 f.2.2 m else j4 P (kN f old.rank) f.1 m f.2.2
theorem oP (f:Fr) (P:List Fr) (old m:BT):nD (f::P) old m=if f.2.1 then j4 P (kN f old.rank) f.1 f.2.2 m else j4 P (kN f old.rank) f.1 m f.2.2:=rfl
theorem tT:∀ (P:List Fr) (old m:BT),(nD P old m).nodes.Perm (af P m).nodes
 | [],_,_=>ό _
 | f::P,old,m=>by
  rw [oP]
  show List.Perm _ (af P (bq f m)).nodes
  unfold bq
  split
  ·exact qI _ _ _ _ _
  ·exact qI _ _ _ _ _
theorem GR (f:Fr) (P:List Fr) (old m:BT):(nD (f::P) old m).root=(af (f::P) m).root:=by
 rw [oP]
 show _=(af P (bq f m)).root
 unfold bq
 split
 ·exact tq _ _ _ _ _
 ·exact tq _ _ _ _ _
theorem Fj {A:NS}:∀ (P:List Fr) (old m:BT),Heap A (af P m)->Heap A (nD P old m)
 | [],_,_,h=>h
 | f::P,old,m,h=>by
  have h1:Heap A (af P (bq f m)):=h;rw [oP];unfold bq at h1
  split at h1
  ·rename_i e;rw [Δ e];exact sQ _ _ _ _ _ h1
  ·rename_i e;rw [Γ e];exact sQ _ _ _ _ _ h1
theorem FC:∀ (P:List Fr) (old m:BT),Lean m->Ct P old.rank->Lean (nD P old m)
 | [],_,_,h,_=>h
 | f::P,old,m,h,hp=>by
  rw [oP]
  split
  ·exact tL _ _ _ _ _ hp.1 h hp.2.2
  ·exact tL _ _ _ _ _ h hp.1 hp.2.2
noncomputable def Hq (A:NS) (t:BT) (x:Nat):BT×Nat:=
 (nD (pathOf t x).1 (.node x (pathOf t x).2.1 (pathOf t x).2.2) (aG au A (pathOf t x).2.1 (pathOf t x).2.2).1,(aG au A (pathOf t x).2.1 (pathOf t x).2.2).2)
noncomputable def PE (A':NS) (t:BT) (x:Nat):BT×Nat:=
 match (pathOf t x).1 with
 | []=>(t,0)
 | _::_=>aG au A' (nD (pathOf t x).1 (.node x (pathOf t x).2.1 (pathOf t x).2.2) .nil) (.node x (pathOf t x).2.1 (pathOf t x).2.2)
theorem qH {P:List Fr} {x:Nat} {l r:BT} (hn:(af P (.node x l r)).nodes.Nodup) :
  (x∉l.nodes/\x∉r.nodes/\x∉dE P)/\(l.nodes++r.nodes).Nodup/\(∀y,y∈l.nodes->y∉dE P)/\(∀y,y∈r.nodes->y∉dE P)/\(dE P).Nodup:=by
 have h:=(aM P (.node x l r)).nodup_iff.1 hn;rw [θ] at h;obtain ⟨h1,h2,h3⟩:=h;simp only [BT.nodes,Ζ,τ,not_or] at h1;exact ⟨⟨h1.1.1,h1.1.2,fun hm=>h3 x (by simp [BT.nodes]) x hm rfl⟩,h1.2,fun y hy hm=>h3 y (by simp [BT.nodes,hy]) y hm rfl,fun y hy hm=>h3 y (by simp [BT.nodes,hy]) y hm rfl,h2⟩
theorem FN {up:Nat->BT->BT->BT} (U:TC up) {A:NS} {P:List Fr} {x:Nat} {l r:BT} (hn:(af P (.node x l r)).nodes.Nodup) (hH:Heap A (af P (.node x l r))) :
  (x::(af P (aG up A l r).1).nodes).Perm (af P (.node x l r)).nodes/\Heap A (af P (aG up A l r).1)/\(aG up A l r).1.nodes.Perm (l.nodes++r.nodes):=by
 obtain ⟨mp,mh⟩:=lT U A _ l r (Θ _);have h1:=qH hn;have hs:=rV hH;have YF:=mh hs.2.2.1 hs.2.2.2 h1.2.1;refine ⟨?_,sK hH YF (fun y hy=>?_),mp⟩
 ·refine ((((aM P _).trans (mp.append_right _)).cons x)).trans ?_;exact (aM P (.node x l r)).symm
 ·have:=mp.mem_iff.1 hy;simp only [BT.nodes,ρ];exact Β this
section
variable {w:World} {B:LB} {F:List Nat} {gt ct:Nat} {A:NS} {st:Nat} {S:TS} {rk:Nat->Nat} {ah:List Int}
theorem Ay (h:kW w B F gt ct A st S rk ah) {f:Fr} {P:List Fr} {old m:BT} (hT:bV S (-1) (af (f::P) m).root (af (f::P) m)) (hm:fK rk m) (hP:Ra rk (f::P) old.rank) (hX:(af (f::P) m).nodes.Nodup)
  (hlt:∀y,y∈(af (f::P) m).nodes->y<A.cs.length) :
  Calls Tryz.prog 245 #[.pointer (some ⟨B.n0,0,none⟩),.int .i64 (f.1:Int)] w fun e w'=>e=.returned (.tuple #[])/\aa [B.ba,B.br] w w'/\
   ∃S' nP,kW w' B F gt ct A st S' nP ah/\sU S rk (nD (f::P) old m) (af (f::P) m).nodes S' nP:=by
 rw [oP];have hT1:bV S (-1) (af P (bq f m)).root (af P (bq f m)):=hT;have hX1:(af P (bq f m)).nodes.Nodup:=hX;have hlt1:∀y,y∈(af P (bq f m)).nodes->y<A.cs.length:=hlt
 show Calls _ _ _ _ fun e w'=>e=_/\_/\∃S' nP,_/\sU S rk _ (af P (bq f m)).nodes S' nP
 by_cases hs:f.2.1=true
 ·have e1:bq f m=.node f.1 f.2.2 m:=by unfold bq;rw [Δ hs]
  rw [e1] at hT1 hX1 hlt1 ⊢;rw [Δ hs];exact Cy h ⟨hT1,ό _,hP.1,hm,hP.2.1,hP.2.2,fun y _=>⟨⟨rfl,rfl,rfl⟩,rfl⟩,rfl⟩ hX1 hlt1
 ·have e1:bq f m=.node f.1 m f.2.2:=by unfold bq;rw [Γ hs]
  rw [e1] at hT1 hX1 hlt1 ⊢;rw [Γ hs];exact Cy h ⟨hT1,ό _,hm,hP.1,hP.2.1,hP.2.2,fun y _=>⟨⟨rfl,rfl,rfl⟩,rfl⟩,rfl⟩ hX1 hlt1
end
theorem PG (n:Nat):tv (n:Int)=n:=by unfold tv;rw [Γ ω]
theorem De (n:Nat):tb (n:Int)=true:=by unfold tb;simp
section
variable {w:World} {B:LB} {F:List Nat} {gt ct:Nat} {A:NS} {st:Nat} {tr:Nat->BT} {S:TS} {rk:Nat->Nat} {ah:List Int}
def Yi (w':World) (B:LB) (F:List Nat) (gt ct:Nat) (A:NS) (st:Nat) (S:TS) (rk:Nat->Nat) (ah:List Int) (g x:Nat) (P:List Fr) (X:List Nat) (T:BT):Prop:=
 ∃S' nP iU,kW w' B F gt ct (aZ A x) st S' nP iU/\bV S' (-1) T.root T/\fK nP T/\(∀y,y∉X->S.at S' y/\nP y=rk y)/\(S'.l x=-1/\S'.r x=-1/\S'.u x=-1)/\
  ∀q,q<A.hs.length->iU.getD q 0=if P=[]/\q=g then T.root else ah.getD q 0
theorem fQ {S S' S'':TS} {x:Nat} (h:S.at S' x) (h':S'.at S'' x):S.at S'' x:=⟨h'.1.trans h.1,h'.2.1.trans h.2.1,h'.2.2.trans h.2.2⟩
theorem EI (hM:kW w B F gt ct A st S rk ah) {g x:Nat} {P:List Fr} {l r:BT} (hin:bQ A (x:Int)=true) (hg:(A.c x).i=g) (hgt:g<ah.length)
  (hT:bV S (-1) (af P (.node x l r)).root (af P (.node x l r))) (hn:(af P (.node x l r)).nodes.Nodup) (hR:fK rk (af P (.node x l r))) (hall:∀y,y∈(af P (.node x l r)).nodes->bQ A (y:Int)=true) :
  Calls Tryz.prog 238 #[.pointer (some ⟨B.n0,0,none⟩),.int .i64 (x:Int)] w fun e w'=>e=.returned (.bool true)/\aa (B.blk F gt) w w'/\
   Yi w' B F gt ct A (bR st (aG au A l r).2) S rk ah g x P (af P (.node x l r)).nodes (nD P (.node x l r) (aG au A l r).1):=by
 have hxl:=((ae A x).1 hin).1;have hlt:∀y,y∈(af P (.node x l r)).nodes->y<A.cs.length:=fun y hy=>((ae A y).1 (hall y hy)).1;have kh:=dK hM.cells x hin;rw [hg] at kh;have h0:=hM.h0;have HM:=χ hM;have Q5:=qH hn;have hrr:=(yz P (.node x l r)).1 hR;have mp:=(lT mV A _ l r (Θ _)).1;have hblk:=χ hM.lt;have pY:=χ hM.cF;have hsep:=χ (ψ hM.sep hM.bz);have HT:=χ (ψ hT (ψ hn (ψ hrr (ψ hall hlt))));have HP:=χ Q5;have hA:=hM.cells.ok.c1;obtain ⟨m,k,hmk⟩:∃m k,aG au A l r=(m,k):=⟨_,_,rfl⟩;rw [hmk] at mp;rw [hmk];have Uo:=χ mp;have HMK:=χ hmk;have MR:=χ hin;clear hM hT hn hR hall hlt Q5 hrr mp hmk hin hg
 go_enter Tryz.func238,Tryz.ntmps238
 go_wp2_with (first|((go_at_call 140;(with_reducible refine (kh).mono ?_));rintro e w1 ⟨rfl,jd,hu1⟩;(have g1:=(HM.out.bY hu1 jd (fun y hy=>Α hy) rfl rfl).h1)))
 have hM1:=HM.out.bY hu1 jd (fun y hy=>Α hy) rfl rfl;have q1:∀d,(w1.drewN d).cell? ⟨B.n0,1,none⟩=some (.pointer (some ⟨B.bt,0,none⟩)):=fun d=>hM1.h1;have kl:=fun d=>Cn (hM1.trees.drewN d) ((dL _ _).1 HT.out.1).1 hxl;have kr:=fun d=>uN (hM1.trees.drewN d) ((dL _ _).1 HT.out.1).1 hxl;have jI:=χ hM1;clear hM1 jd kh h0 g1
 go_quiet ((first
  | (go_at_call 248;exact Calls.quiet_of (kl _))
  | (go_at_call 249;exact Calls.quiet_of (kr _))
  | (go_at_call 247;exact Calls.quiet_of_same (nH _ _))))
 obtain ⟨w2,hw2⟩:∃w2,w2=w1.drewN nq:=⟨_,rfl⟩;have u2:aa F w w2:=by rw [hw2];exact hu1.drewN nq
 have hM2:kW w2 B F gt ct A st S rk ah:=by rw [hw2];exact jI.out.aj ((aa.refl [] w1).drewN nq)
 rw [←hw2];clear hw2 kl kr q1 jI hu1;have KY:=nE hM2.trees (f:=(x,false,r)) (P:=P) (t:=l) HT.out.1 HT.out.2.1 HT.out.2.2.2.2;have g2:=hM2.h1;have mU:=χ hM2;clear hM2
 go_wp2_with (first
  | ((go_at_call 244;(with_reducible refine (KY).mono ?_));rintro e w3 ⟨rfl,hu3,S3,A7,hl3,hp3,hs3⟩;(have g3:=(mU.out.iE hu3 A7).h1);clear g2)
  | fail)
 have jD:=mU.out.iE hu3 A7;have OV:bV S3 (-1) (af ((x,true,.nil)::P) r).root (af ((x,true,.nil)::P) r):=hp3;have Jm:(af ((x,true,.nil)::P) r).nodes.Nodup:=by
  have e:=(aM P (.node x .nil r));refine e.nodup_iff.2 ?_;obtain ⟨⟨a1,a2,a3⟩,a4,a5,a6,a7⟩:=HP.out;simp only [BT.nodes,Ϛ,θ] at a4 ⊢;refine ⟨List.nodup_cons.2 ⟨a2,a4.2.1⟩,a7,fun y hy z hz e=>?_⟩;subst e;rcases ρ.1 hy with e|hy
  ·exact a3 (by rw [←e];exact hz)
  ·exact a6 y hy hz
 have Cs:∀y,y∈(af ((x,true,.nil)::P) r).nodes->y∈(af P (.node x l r)).nodes:=fun y hy=>by
  have h':y∈(af P (.node x .nil r)).nodes:=hy;rw [aD] at h' ⊢;simp only [BT.nodes,Ϛ,ρ,τ] at h' ⊢;rcases h' with (h'|h')|h'
  ·exact Α (Α h')
  ·exact Α (Β (Β h'))
  ·exact Β h'
 have MO:=nE jD.trees (f:=(x,true,.nil)) (P:=P) (t:=r) OV Jm (fun y hy=>HT.out.2.2.2.2 y (Cs y hy));have QM:l.nodes.Nodup/\∀y,y∈l.nodes->y∉(af ((x,true,.nil)::P) r).nodes:=by
  obtain ⟨⟨a1,a2,a3⟩,a4,a5,a6,a7⟩:=HP.out;rw [θ] at a4;refine ⟨a4.1,fun y hy hm=>?_⟩;have h':y∈(af P (.node x .nil r)).nodes:=hm;rw [aD] at h';simp only [BT.nodes,Ϛ,ρ] at h';rcases h' with (h'|h')|h'
  ·exact a1 (by rw [←h'];exact hy)
  ·exact a4.2.2 y hy y h' rfl
  ·exact a5 y hy h'
 have JC:=χ jD;have H3:=χ (ψ hl3 (ψ hs3 (ψ Cs QM)));have u3:aa (B.ba::F) w w3:=(u2.mono (by simp;intro x hx;exact Β hx)).trans (hu3.mono σ);clear jD A7 hl3 hp3 OV hs3 Jm Cs QM KY hu3 u2
 go_wp2_with (first
  | ((go_at_call 244;(with_reducible refine (MO).mono ?_));rintro e w4 ⟨rfl,fZ,S4,Pv,hr4,hp4,hs4⟩)
  | fail)
 have rQ:=JC.out.iE fZ Pv;have hl4:bV S4 (-1) l.root l:=H3.out.1.frame (fun y hy=>hs4 y (H3.out.2.2.2.2 y hy));have km:=uL rQ hl4 hr4 HP.out.2.1 (fun y hy=>HT.out.2.2.2.1 y (aD.2 (Α (by simp only [BT.nodes];exact Λ _ hy)))) HT.out.2.2.1.1.2.1 HT.out.2.2.1.1.2.2;rw [HMK.out] at km;have hp4':bV S4 (-1) (af P (.node x .nil .nil)).root (af P (.node x .nil .nil)):=hp4;have u4:aa (B.ba::F) w w4:=u3.trans (fZ.mono σ);have f4:∀y,y∉(af P (.node x l r)).nodes->S.at S4 y:=fun y hy=>fQ (H3.out.2.1 y hy) (hs4 y (fun hm=>hy (H3.out.2.2.1 y hm)));have H4:=χ (ψ hp4' f4)
 clear rQ Pv hr4 hp4 hp4' hs4 hl4 MO fZ u3 f4 H3 JC mU g3
 go_wp2_with (first
  | ((go_at_call 246;(with_reducible refine (km).mono ?_));rintro e w5 ⟨rfl,bK,S5,Xm,wQ,II,M0,hs5⟩;(have g5:=wQ.h1))
  | fail)
 have TU:bV S5 (-1) (af P (.node x .nil .nil)).root (af P (.node x .nil .nil)):=H4.out.1.frame (fun y hy=>(hs5 y (fun hm=>by
  obtain ⟨⟨a1,a2,a3⟩,a4,a5,a6,a7⟩:=HP.out;rw [aD] at hy;simp only [BT.nodes,Ϛ,ρ,ς,or_false] at hy;rw [τ] at hm;rcases hy with e|hy
  ·subst e;rcases hm with hm|hm;exact a1 hm;exact a2 hm
  ·rcases hm with hm|hm;exact a5 y hm hy;exact a6 y hm hy)).1)
 have f5:∀y,y∉(af P (.node x l r)).nodes->S.at S5 y/\Xm y=rk y:=fun y hy=>by
  have h1:y∉l.nodes++r.nodes:=fun hm=>hy (aD.2 (Α (by simp only [BT.nodes];exact Λ _ hm)));exact ⟨fQ (H4.out.2 y hy) (hs5 y h1).1,(hs5 y h1).2⟩
 have LQ:Ra Xm P (BT.node x l r).rank:=HT.out.2.2.1.2.frame (fun y hy=>(hs5 y (fun hm=>by
  rw [τ] at hm;rcases hm with hm|hm
  ·exact HP.out.2.2.1 y hm hy
  ·exact HP.out.2.2.2.1 y hm hy)).2)
 have u5:aa (B.blk F gt) w w5:=(u4.mono (fun y hy=>by simp only [LB.blk,ρ] at hy ⊢;rcases hy with h|h<;>simp [h])).trans (bK.mono (fun y hy=>by
   have:=pY.out;simp only [ρ,ς,or_false] at hy;simp only [LB.blk,ρ];rcases hy with rfl|rfl|rfl
   ·simp [this]
   ·simp
   ·simp))
 have ku:=LF wQ.trees TU hxl;have uZ:=χ wQ;have H5:=χ (ψ TU (ψ f5 (ψ LQ (ψ II M0))));clear wQ II M0 hs5 km u4 H4 TU f5 LQ bK;have hmm:∀y,y∈m.nodes->y∉dE P/\y≠x:=fun y hy=>by
  obtain ⟨⟨a1,a2,a3⟩,a4,a5,a6,a7⟩:=HP.out;have h1:=Uo.out.mem_iff.1 hy;rw [τ] at h1;rcases h1 with h1|h1
  ·exact ⟨a5 y h1,fun e=>a1 (by rw [←e];exact h1)⟩
  ·exact ⟨a6 y h1,fun e=>a2 (by rw [←e];exact h1)⟩
 have hmx:∀y,y∈m.nodes->y∈(af P (.node x l r)).nodes:=fun y hy=>aD.2 (Α (by
  have h1:=Uo.out.mem_iff.1 hy
  simp only [BT.nodes,ρ];exact Β h1))
 have Ol:m.nodes.Nodup:=Uo.out.nodup_iff.2 HP.out.2.1;have HMM:=χ (ψ hmm (ψ hmx Ol));clear hmm hmx Ol;have sp:=hsep.out;have s1:B.n0≠gt:=sp.1.1.2.2.2;clear sp;cases P with
 | nil=>
  rw [show Cz ([]:List Fr)=-1 from rfl,show tv (-1)=0 from rfl,show tb (-1)=false from rfl] at ku
  go_wp2_with (first
   | ((go_at_call 250;(with_reducible refine (ku).mono ?_));rintro e w6 ⟨rfl,kk,GY⟩;(have u6:aa [] w5 w6:=by (rw [GY];exact (aa.refl _ _).drewN kk));clear GY;(have g60:=(uZ.out.aj u6).h0);(have g63:=(uZ.out.aj u6).h3);(have d6:=(uZ.out.aj u6).jv.cell g hgt);(have f6:=(uZ.out.aj u6).jv.free g);(have kd:=gP ((uZ.out.aj u6).qz g m.root).cells x MR.out))
   | ((go_at_call 151;(with_reducible refine (kd).mono ?_));rintro e w7 ⟨rfl,hC7,jC⟩)
   | fail)
  go_ret;obtain ⟨b1,b2,b3,b4,b5⟩:=H5.out;have bx:=((dL _ _).1 b1).1;refine ⟨rfl,((u5.trans (u6.mono σ)).setCell (Α (by simp [LB.blk])) _).trans (jC.mono (fun y hy=>by simp only [LB.blk,ρ];simp [hy])),S5,Xm,ah.set g m.root,((uZ.out.aj u6).qz g m.root).bY jC hC7 (fun y hy=>Α hy) (eU _ _) (by rw [iK]),b4,b5,b2,⟨bx.2.2.1.root,bx.2.2.2.root,bx.2.1⟩,fun q hq=>?_⟩
  by_cases e:q=g
  ·rw [Δ ⟨rfl,e⟩,e,φ,ύ,Δ rfl,Δ hgt];rfl
  ·rw [Γ (fun h=>e h.2),φ,ύ,Γ (fun h=>e h.symm),←φ]
 | cons f P2=>
  rw [show Cz (f::P2)=(f.1:Int) from rfl,PG,De] at ku;have hfl:f.1<A.cs.length:=HT.out.2.2.2.2 f.1 (aD.2 (Β (by simp [dE])));have MC:(af (f::P2) (.node x .nil .nil)).nodes.Nodup:=by
   refine (aM (f::P2) (.node x .nil .nil)).nodup_iff.2 ?_;obtain ⟨⟨a1,a2,a3⟩,a4,a5,a6,a7⟩:=HP.out;simp only [BT.nodes,Ϛ,List.singleton_append,Ζ];exact ⟨a3,a7⟩
  have Jt:∀y,y∈(af (f::P2) (.node x .nil .nil)).nodes->y∈(af (f::P2) (.node x l r)).nodes:=fun y hy=>by
   rw [aD] at hy ⊢;simp only [BT.nodes,Ϛ,ρ,ς,or_false] at hy;rcases hy with hy|hy
   ·exact Α (by simp [BT.nodes,hy])
   ·exact Β hy
  have ksd:∀W,aa [] w5 W->∃z:Int,(z == (x:Int))=f.2.1/\Calls Tryz.prog 249 #[.pointer (some ⟨B.bt,0,none⟩),.int .i64 (f.1:Int)] W fun e w'=>e=.returned (.tuple #[.int .i64 (tv z),.bool (tb z)])/\∃k,w'=W.drewN k:=fun W hW=>CL (uZ.out.aj hW).trees H5.out.1 MC hfl;have ER:=fun W (hW:aa [] w5 W)=>nE (uZ.out.aj hW).trees (f:=f) (P:=P2) (t:=.node x .nil .nil) H5.out.1 MC (fun y hy=>HT.out.2.2.2.2 y (Jt y hy));rw [show BT.root (.node x .nil .nil)=(x:Int) from rfl] at ER;generalize hcv:cutV f (.node x .nil .nil)=cv at ER;generalize hcb:tb (x:Int)=cb at ER;have IG:=χ (ψ MC Jt);clear MC Jt hcv hcb
  by_cases hmz:m=.nil
  ·have hmb:(m.root != -1)=false:=by rw [hmz];rfl
   have Yt:=χ hmz;clear hmz
   go_wp2_with (first
    | ((go_at_call 250;(with_reducible refine (ku).mono ?_));rintro e w6 ⟨rfl,kk,GY⟩;(have u6:aa [] w5 w6:=by (rw [GY];exact (aa.refl _ _).drewN kk));clear GY;(have g61:=(uZ.out.aj u6).h1);obtain ⟨z,hz,kr⟩:=ksd w6 u6)
    | ((go_at_call 249;(with_reducible refine (kr).mono ?_));rintro e w7 ⟨rfl,kk7,hw7⟩;(have u7:aa [] w5 w7:=by (rw [hw7];exact u6.drewN kk7));clear hw7;(have g71:=(uZ.out.aj u7).h1);(have kc:=ER w7 u7))
    | (go_at_call 247;(with_reducible refine (nH _ _).mono ?_);rintro e w9 ⟨rfl,aI⟩;rw [aI];clear aI w9)
    | ((go_at_call 244;(with_reducible refine (kc).mono ?_));rintro e w8 ⟨rfl,EF,S8,hT8,hx8,hp8,hs8⟩;(have kmd:=Ay ((uZ.out.aj u7).iE EF hT8) (old:=.node x l r) hp8 (by trivial) H5.out.2.2.1 (by first|(refine (aM (f::P2) .nil).nodup_iff.2 ?_;simpa [BT.nodes] using HP.out.2.2.2.2)) (by intro y hy;rw [aD] at hy;exact HT.out.2.2.2.2 y (aD.2 (Β (by simpa [BT.nodes] using hy))))))
    | ((go_at_call 245;(with_reducible refine (kmd).mono ?_));rintro e w9 ⟨rfl,sO,S9,rk9,YV,Vj⟩;(have g90:=YV.h0);(have kd:=gP YV.cells x MR.out))
    | ((go_at_call 151;(with_reducible refine (kd).mono ?_));rintro e w10 ⟨rfl,Ko,Aw⟩)
    | fail)
   go_ret;have hz:=Yt.out;subst hz;refine ⟨rfl,((((u5.trans (u7.mono σ)).trans (EF.mono (by simp [LB.blk]))).trans (sO.mono (by simp [LB.blk]))).trans (Aw.mono (fun y hy=>by simp only [LB.blk,ρ];simp [hy]))),S9,rk9,ah,YV.bY Aw Ko (fun y hy=>Α hy) (eU _ _) (by rw [iK]),Vj.Ex,Vj.isR,fun y hy=>?_,?_,fun q hq=>by rw [Γ σ]⟩
   ·have a1:=H5.out.2.1 y hy;have a2:=hs8 y (fun hm=>hy (IG.out.2 y hm));have a3:=Vj.far y (fun hm=>hy (aD.2 (Β (by rw [aD] at hm;simpa [BT.nodes] using hm))));exact ⟨fQ (fQ a1.1 a2) a3.1,a3.2.trans a1.2⟩
   ·have a3:=(Vj.far x (fun hm=>HP.out.1.2.2 (by rw [aD] at hm;simpa [BT.nodes] using hm))).1;have a4:=hx8;exact ⟨a3.1.trans a4.2.2.1.root,a3.2.1.trans a4.2.2.2.root,a3.2.2.trans a4.2.1⟩
  ·have hmb:(m.root != -1)=true:=by
    have:=(bH hmz).2;simp;omega
   have Yt:=χ hmz;have hxm:∀y,y∈m.nodes->y∉(af (f::P2) (.node x .nil .nil)).nodes:=fun y hy hm=>by
    have b1:=HMM.out.1 y hy;rw [aD] at hm;simp only [BT.nodes,Ϛ,ρ,ς,or_false] at hm;rcases hm with hm|hm
    ·exact b1.2 hm
    ·exact b1.1 hm
   have hnd:(m.nodes++dE (f::P2)).Nodup:=by
    rw [θ];exact ⟨HMM.out.2.2,HP.out.2.2.2.2,fun a ha b hb e=>(HMM.out.1 a ha).1 (by rw [e];exact hb)⟩
   have hsm:∀y,y∈m.nodes++dE (f::P2)->y∈(af (f::P2) (.node x l r)).nodes:=fun y hy=>by
    rw [τ] at hy;rcases hy with hy|hy
    ·exact HMM.out.2.1 y hy
    ·exact aD.2 (Β hy)
   have Px:=χ (ψ hxm (ψ hnd hsm));clear hmz hxm hnd hsm
   go_wp2_with (first
    | ((go_at_call 250;(with_reducible refine (ku).mono ?_));rintro e w6 ⟨rfl,kk,GY⟩;(have u6:aa [] w5 w6:=by (rw [GY];exact (aa.refl _ _).drewN kk));clear GY;(have g61:=(uZ.out.aj u6).h1);obtain ⟨z,hz,kr⟩:=ksd w6 u6)
    | ((go_at_call 249;(with_reducible refine (kr).mono ?_));rintro e w7 ⟨rfl,kk7,hw7⟩;(have u7:aa [] w5 w7:=by (rw [hw7];exact u6.drewN kk7));clear hw7;(have g71:=(uZ.out.aj u7).h1);(have kc:=ER w7 u7))
    | (go_at_call 247;(with_reducible refine (nH _ _).mono ?_);rintro e w9 ⟨rfl,aI⟩;rw [aI];clear aI w9)
    | ((go_at_call 244;(with_reducible refine (kc).mono ?_));rintro e w8 ⟨rfl,EF,S8,hT8,hx8,hp8,hs8⟩;(have g81:=((uZ.out.aj u7).iE EF hT8).h1);(have khg:=CO hT8 hp8 (H5.out.2.2.2.1.frame (fun y hy=>hs8 y (Px.out.1 y hy))) Yt.out Px.out.2.1 (fun y hy=>HT.out.2.2.2.2 y (Px.out.2.2 y hy))))
    | ((go_at_call 251;(with_reducible refine (khg).mono ?_));rintro e w8b ⟨rfl,hu8b,S8b,hT8b,hp8b,hs8b⟩;(have kmd:=Ay (((uZ.out.aj u7).iE EF hT8).iE hu8b hT8b) (old:=.node x l r) hp8b H5.out.2.2.2.2 H5.out.2.2.1 ((aM (f::P2) m).nodup_iff.2 Px.out.2.1) (fun y hy=>HT.out.2.2.2.2 y (Px.out.2.2 y ((aM (f::P2) m).mem_iff.1 hy)))))
    | ((go_at_call 245;(with_reducible refine (kmd).mono ?_));rintro e w9 ⟨rfl,sO,S9,rk9,YV,Vj⟩;(have g90:=YV.h0);(have kd:=gP YV.cells x MR.out))
    | ((go_at_call 151;(with_reducible refine (kd).mono ?_));rintro e w10 ⟨rfl,Ko,Aw⟩)
    | fail)
   go_ret;refine ⟨rfl,(((((u5.trans (u7.mono σ)).trans (EF.mono (by simp [LB.blk]))).trans (hu8b.mono (by simp [LB.blk]))).trans (sO.mono (by simp [LB.blk]))).trans (Aw.mono (fun y hy=>by simp only [LB.blk,ρ];simp [hy]))),S9,rk9,ah,YV.bY Aw Ko (fun y hy=>Α hy) (eU _ _) (by rw [iK]),Vj.Ex,Vj.isR,fun y hy=>?_,?_,fun q hq=>by rw [Γ σ]⟩
   ·have a1:=H5.out.2.1 y hy;have a2:=hs8 y (fun hm=>hy (IG.out.2 y hm));have a2b:=hs8b y (fun hm=>hy (Px.out.2.2 y hm));have a3:=Vj.far y (fun hm=>hy (Px.out.2.2 y ((aM (f::P2) m).mem_iff.1 hm)));exact ⟨fQ (fQ (fQ a1.1 a2) a2b) a3.1,a3.2.trans a1.2⟩
   ·have uJ:x∉m.nodes++dE (f::P2):=fun hm=>by
     rw [τ] at hm;rcases hm with hm|hm
     ·exact (HMM.out.1 x hm).2 rfl
     ·exact HP.out.1.2.2 hm
    have a3:=fQ (hs8b x uJ) (Vj.far x (fun hm=>uJ ((aM (f::P2) m).mem_iff.1 hm))).1;have a4:=hx8;exact ⟨a3.1.trans a4.2.2.1.root,a3.2.1.trans a4.2.2.2.root,a3.2.2.trans a4.2.1⟩
theorem H8 (h:lQ w B F gt ct A st tr) (g x:Nat) (hx:x∈(tr g).nodes) :
  Calls Tryz.prog 238 #[.pointer (some ⟨B.n0,0,none⟩),.int .i64 (x:Int)] w fun e w'=>e=.returned (.bool true)/\aa (B.blk F gt) w w'/\
   lQ w' B F gt ct (aZ A x) (bR st (Hq A (tr g) x).2) (fun q=>if q=g then (Hq A (tr g) x).1 else tr q):=by
 obtain ⟨S,rk,ah,hM,hI,hL,hR⟩:=h;have hm:=(hI.mem g x).1 hx;have hin:bQ A (x:Int)=true:=(ae A x).2 ⟨hm.2.1,ω⟩;have e:=mZ hx;unfold Hq;generalize (pathOf (tr g) x).1=P at *;generalize (pathOf (tr g) x).2.1=l at *;generalize (pathOf (tr g) x).2.2=r at *;have hgt:g<ah.length:=by rw [hM.jc];have:=(hM.cells.ok.nat x hm.2.1);omega
 have hgh:g<A.hs.length:=by rw [←hM.jc];exact hgt
 have hT:=hI.Ex g;have hn:=hI.nd g;have hH:=hI.heap g;have ZR:=hR g;have Ku:=hL g;rw [e] at hT hn hH ZR Ku;obtain ⟨d1,d2,d3⟩:=FN mV hn hH;obtain ⟨l1,l2⟩:=(tH _ _).1 Ku;have ml:=ve A _ l r (Θ _) l1.2.1 l1.2.2;refine (EI hM hin hm.2.2 hgt hT hn ZR (fun y hy=>?_)).mono ?_
 ·rw [←e] at hy;have:=(hI.mem g y).1 hy;exact (ae A y).2 ⟨this.2.1,ω⟩
 ·rintro e' w' ⟨rfl,hu,S',nP,iU,q1,q2,q3,q4,q5,q6⟩;refine ⟨rfl,hu,S',nP,iU,q1,hI.del hx q2 ?_ (Fj _ _ _ d2) (fun y hy=>(q4 y (by rw [←e];exact hy)).1) q5 (fun q hq=>?_),fun q=>?_,fun q=>?_⟩
  ·rw [e];exact ((tT _ _ _).cons x).trans d1
  ·rw [q6 q hq]
   by_cases hq':q=g
   ·rw [Δ hq']
    by_cases hp:P=[]
    ·rw [Δ ⟨hp,hq'⟩]
    ·rw [Γ (fun h=>hp h.1),hq',hI.top g hgh,e];cases P with
     | nil=>exact absurd rfl hp
     | cons f P2=>rw [GR];exact jP _ _ _ _
   ·rw [Γ hq',Γ (fun h=>hq' h.2)]
  ·show Lean (if q=g then _ else _)
   split
   ·exact FC _ _ _ ml l2
   ·exact hL q
  ·show fK nP (if q=g then _ else _)
   split
   ·exact q3
   ·rename_i hq
    refine (hR q).frame (fun y hy=>(q4 y (fun hm'=>?_)).2);rw [←e] at hm';have c1:=(hI.mem g y).1 hm';have c2:=(hI.mem q y).1 hy;omega
end
theorem H9 {A:NS} {P:List Fr} {x:Nat} {l r:BT} {k s:Int} (hB:iT A x k s=true) (hx:x<A.cs.length) (hn:(af P (.node x l r)).nodes.Nodup) (hH:Heap A (af P (.node x l r))) :
  Heap (ak A x k s) (af P .nil)/\Heap (ak A x k s) (.node x l r):=by
 have h1:=qH hn;have hs:=rV hH;refine ⟨(sK (t':=.nil) hH trivial (fun y hy=>by cases hy)).frame (fun y hy=>?_),Rp hB hx hs ?_⟩
 ·rw [qN hB hx,Γ];intro e;rw [e,aD] at hy;rcases hy with hy|hy
  ·cases hy
  ·exact h1.1.2.2 hy
 ·have:=(aM P (.node x l r)).nodup_iff.1 hn;rw [θ] at this;exact this.1
section
variable {w:World} {B:LB} {F:List Nat} {gt ct:Nat} {A:NS} {st:Nat} {tr:Nat->BT} {S:TS} {rk:Nat->Nat} {ah:List Int}
def Kg (w':World) (B:LB) (F:List Nat) (gt ct:Nat) (A':NS) (st:Nat) (S:TS) (rk:Nat->Nat) (ah:List Int) (g:Nat) (X:List Nat) (T:BT):Prop:=
 ∃S' nP iU,kW w' B F gt ct A' st S' nP iU/\bV S' (-1) T.root T/\fK nP T/\(∀y,y∉X->S.at S' y/\nP y=rk y)/\
  ∀q,q<A'.hs.length->iU.getD q 0=if q=g then T.root else ah.getD q 0
theorem SH (hM:kW w B F gt ct A st S rk ah) {g x:Nat} {l r:BT} {k s:Int} (hk:-9223372036854775808<=k/\k<=9223372036854775807/\0<=s/\s<=18446744073709551615) (hB:iT A x k s=true)
  (hg:(A.c x).i=g) (hg0:0<g) (htop:ah.getD g 0=x) (hxl:x<A.cs.length) (hT:bV S (-1) (BT.node x l r).root (.node x l r)) (hR:fK rk (.node x l r)) :
  Calls Tryz.prog 237 #[.pointer (some ⟨B.n0,0,none⟩),.int .i64 (x:Int),.agg #[.int .i64 k,.int .u64 s]] w fun e w'=>e=.returned (.bool true)/\aa (B.blk F gt) w w'/\
   Kg w' B F gt ct (ak A x k s) st S rk ah g (BT.node x l r).nodes (.node x l r):=by
 have hcs:=eB A x k s;have kY:=kV A x k s;have hin':bQ (ak A x k s) (x:Int)=true:=(ae _ x).2 ⟨by rw [hcs];exact hxl,by rw [iy hB hxl,hg];omega⟩;have hi':((ak A x k s).c x).i=g:=by rw [iy hB hxl,hg]
 have hux:S.u x=-1:=hT.2.1;have u1:aa [] w (w.alloc (.cells #[.int .i64 k,.int .u64 s] 129)):=(aa.refl _ _).alloc _;have kp:=fun W (hW:aa [] (w.alloc (.cells #[.int .i64 k,.int .u64 s] 129)) W)=>ig (hM.cells.aj (u1.trans hW)) x k s hk hB;have h0:=hM.h0;have uH:B.n0∉F:=hM.bz.1;have hlt:=hM.lt;have hsz:w.heap.size∉F:=fun hm=>by have:=hlt w.heap.size (by simp [LB.blk,hm]);omega
 have r0:∀W,aa F (w.alloc (.cells #[.int .i64 k,.int .u64 s] 129)) W->W.cell? ⟨B.n0,0,none⟩=some (.pointer (some ⟨B.c,0,none⟩)):=fun W hW=>hW.kept (u1.was h0) uH;have r1:∀W,aa F (w.alloc (.cells #[.int .i64 k,.int .u64 s] 129)) W->W.cell? ⟨w.heap.size,0,none⟩=some (.int .i64 k):=fun W h=>h.kept σ hsz;have r2:∀W,aa F (w.alloc (.cells #[.int .i64 k,.int .u64 s] 129)) W->W.cell? ⟨w.heap.size,1,none⟩=some (.int .u64 s):=fun W h=>h.kept σ hsz;have HM:=χ hM;have HG:=χ (ψ htop (ψ hT hR));clear hM hT hR htop hlt h0 hg;generalize hA':ak A x k s=A' at *
 go_enter Tryz.func237,Tryz.ntmps237
 go_wp2
 go_region_held3 (aa F (w.alloc (.cells #[.int .i64 k,.int .u64 s] 129))) (exact ν)
  ((go_at_call 147;(with_reducible refine (kp _ β).mono ?_);rintro e w1 ⟨rfl,jd,hu1⟩;(have hu2:aa F (w.alloc (.cells #[.int .i64 k,.int .u64 s] 129)) w1:=ν)))
 have uF:aa F w (w.alloc (.cells #[.int .i64 k,.int .u64 s] 129)):=u1.mono σ;have hM1:=HM.out.bY (uF.trans hu2) jd (fun y hy=>Α hy) hcs (by rw [kY]);have kh:=dK hM1.cells x hin';rw [hi'] at kh;have g10:=hM1.h0;have jI:=χ hM1;have G9:=χ (uF.trans hu2);clear r0 r1 r2 kp hu1 hu2 jd hM1 uF
 go_wp2_with (first
  | ((go_at_call 140;(with_reducible refine (kh).mono ?_));rintro e w2 ⟨rfl,hC2,hu2⟩;(have g21:=(jI.out.bY hu2 hC2 (fun y hy=>Α hy) rfl rfl).h1);(have kc:=D8 B.bt B.ba A'.cs.length S (x:Int) w2 (jI.out.bY hu2 hC2 (fun y hy=>Α hy) rfl rfl).trees (by unfold oq;rw [Δ ω,π];exact hux)))
  | (go_at_call 244;(with_reducible refine (kc).mono ?_);rintro e w9 ⟨rfl,aI⟩;rw [aI];clear aI w9)
  | fail)
 go_ret;refine ⟨rfl,(G9.out.trans hu2).mono (fun y hy=>by simp only [LB.blk,ρ];simp [hy]),S,rk,ah,jI.out.bY hu2 hC2 (fun y hy=>Α hy) rfl rfl,HG.out.2.1,HG.out.2.2,fun y _=>⟨⟨rfl,rfl,rfl⟩,rfl⟩,fun q hq=>?_⟩
 by_cases e:q=g
 ·rw [Δ e,e,HG.out.1];rfl
 ·rw [Γ e]
theorem UX (hM:kW w B F gt ct A st S rk ah) {g x:Nat} {f:Fr} {P:List Fr} {l r:BT} {k s:Int} (hk:-9223372036854775808<=k/\k<=9223372036854775807/\0<=s/\s<=18446744073709551615) (hB:iT A x k s=true)
  (hg:(A.c x).i=g) (hg0:0<g) (hgt:g<ah.length) (htop:ah.getD g 0=(af (f::P) (.node x l r)).root) (hT:bV S (-1) (af (f::P) (.node x l r)).root (af (f::P) (.node x l r))) (hn:(af (f::P) (.node x l r)).nodes.Nodup)
  (hR:fK rk (af (f::P) (.node x l r))) (hall:∀y,y∈(af (f::P) (.node x l r)).nodes->bQ A (y:Int)=true) :
  Calls Tryz.prog 237 #[.pointer (some ⟨B.n0,0,none⟩),.int .i64 (x:Int),.agg #[.int .i64 k,.int .u64 s]] w fun e w'=>e=.returned (.bool true)/\aa (B.blk F gt) w w'/\
   Kg w' B F gt ct (ak A x k s) (bR st (aG au (ak A x k s) (nD (f::P) (.node x l r) .nil) (.node x l r)).2) S rk ah g (af (f::P) (.node x l r)).nodes (aG au (ak A x k s) (nD (f::P) (.node x l r) .nil) (.node x l r)).1:=by
 have hcs:=eB A x k s;have kY:=kV A x k s;have hxl:x<A.cs.length:=by
  have:=hall x (aD.2 (Α (by simp [BT.nodes])));exact ((ae A x).1 this).1
 have hin':bQ (ak A x k s) (x:Int)=true:=(ae _ x).2 ⟨by rw [hcs];exact hxl,by rw [iy hB hxl,hg];omega⟩;have hi':((ak A x k s).c x).i=g:=by rw [iy hB hxl,hg]
 have rA:∀y,y∈(af (f::P) (.node x l r)).nodes->bQ (ak A x k s) (y:Int)=true:=fun y hy=>by
  have:=(ae A y).1 (hall y hy);exact (ae _ y).2 ⟨by rw [hcs];exact this.1,by rw [iy hB hxl];exact this.2⟩
 have hlt':∀y,y∈(af (f::P) (.node x l r)).nodes->y<(ak A x k s).cs.length:=fun y hy=>((ae _ y).1 (rA y hy)).1;have hpn:=(aM (f::P) (.node x l r)).nodup_iff.1 hn;have hrr:=(yz _ _).1 hR;rw [θ] at hpn;have hn0:(af (f::P) .nil).nodes.Nodup:=(aM (f::P) .nil).nodup_iff.2 (by simpa [BT.nodes] using hpn.2.1);have AL:∀y,y∈(af (f::P) .nil).nodes↔y∈dE (f::P):=fun y=>by rw [aD];simp [BT.nodes]
 have hfm:∀y,y∈(nD (f::P) (.node x l r) .nil).nodes↔y∈dE (f::P):=fun y=>by rw [(tT _ _ _).mem_iff];exact AL y
 have hfn:(nD (f::P) (.node x l r) .nil).nodes.Nodup:=(tT _ _ _).nodup_iff.2 hn0;have rZ:((nD (f::P) (.node x l r) .nil).nodes++(BT.node x l r).nodes).Nodup:=by
  rw [θ];exact ⟨hfn,hpn.1,fun a ha b hb e=>hpn.2.2 b hb a ((hfm a).1 ha) e.symm⟩
 have IB:∀y,y∈(nD (f::P) (.node x l r) .nil).nodes++(BT.node x l r).nodes->y∈(af (f::P) (.node x l r)).nodes:=fun y hy=>by
  rw [τ,hfm] at hy;rw [aD];exact hy.symm
 have hrt:(af (f::P) (.node x l r)).root=(nD (f::P) (.node x l r) .nil).root:=by rw [GR];exact jP _ _ _ _
 rw [hrt] at htop;have u1:aa [] w (w.alloc (.cells #[.int .i64 k,.int .u64 s] 129)):=(aa.refl _ _).alloc _;have kp:=fun W (hW:aa [] (w.alloc (.cells #[.int .i64 k,.int .u64 s] 129)) W)=>ig (hM.cells.aj (u1.trans hW)) x k s hk hB;have h0:=hM.h0;have uH:B.n0∉F:=hM.bz.1;have hlt:=hM.lt;have hsz:w.heap.size∉F:=fun hm=>by have:=hlt w.heap.size (by simp [LB.blk,hm]);omega
 have r0:∀W,aa F (w.alloc (.cells #[.int .i64 k,.int .u64 s] 129)) W->W.cell? ⟨B.n0,0,none⟩=some (.pointer (some ⟨B.c,0,none⟩)):=fun W hW=>hW.kept (u1.was h0) uH;have r1:∀W,aa F (w.alloc (.cells #[.int .i64 k,.int .u64 s] 129)) W->W.cell? ⟨w.heap.size,0,none⟩=some (.int .i64 k):=fun W h=>h.kept σ hsz;have r2:∀W,aa F (w.alloc (.cells #[.int .i64 k,.int .u64 s] 129)) W->W.cell? ⟨w.heap.size,1,none⟩=some (.int .u64 s):=fun W h=>h.kept σ hsz;have HM:=χ hM;have HSE:=χ (ψ hM.sep hM.bz);have HG:=χ (ψ hT (ψ hn (ψ hrr (ψ rA hlt'))));have HX:=χ (ψ rZ IB);have H0:=χ (ψ hn0 (ψ AL hfm))
 have WL:=hM.cells.ok.h1;have hA:=hM.cells.ok.c1;clear hM hT hR hn hall rA hlt' hpn hrr hlt h0 hg rZ IB hn0 AL hfm hfn hrt uH hsz;generalize hA':ak A x k s=A' at *
 go_enter Tryz.func237,Tryz.ntmps237
 go_wp2
 go_region_held3 (aa F (w.alloc (.cells #[.int .i64 k,.int .u64 s] 129))) (exact ν)
  ((go_at_call 147;(with_reducible refine (kp _ β).mono ?_);rintro e w1 ⟨rfl,jd,hu1⟩;(have hu2:aa F (w.alloc (.cells #[.int .i64 k,.int .u64 s] 129)) w1:=ν)))
 have uF:aa F w (w.alloc (.cells #[.int .i64 k,.int .u64 s] 129)):=u1.mono σ;have hM1:=HM.out.bY (uF.trans hu2) jd (fun y hy=>Α hy) hcs (by rw [kY]);have kh:=dK hM1.cells x hin';rw [hi'] at kh;have g10:=hM1.h0;have jI:=χ hM1;have G9:=χ (uF.trans hu2);clear r0 r1 r2 kp hu1 hu2 jd hM1 uF;have ER:∀w2,aa F w1 w2->aC w2 B.c F A' st->_:=fun w2 hu2 hC2=>nE (jI.out.bY hu2 hC2 (fun y hy=>Α hy) rfl rfl).trees (f:=f) (P:=P) (t:=.node x l r) HG.out.1 HG.out.2.1 HG.out.2.2.2.2
 rw [show BT.root (.node x l r)=(x:Int) from rfl,show cutV f (.node x l r)=(f.1:Int) by unfold cutV;rw [Γ (by show ¬ (x:Int)=-1;omega)],De] at ER
 go_wp2_with (first
  | ((go_at_call 140;(with_reducible refine (kh).mono ?_));rintro e w2 ⟨rfl,hC2,hu2⟩;(have g21:=(jI.out.bY hu2 hC2 (fun y hy=>Α hy) rfl rfl).h1);(have kc:=ER w2 hu2 hC2))
  | ((go_at_call 244;(with_reducible refine (kc).mono ?_));rintro e w3 ⟨rfl,hu3,S3,A7,hx3,hp3,hs3⟩;(have kmd:=Ay ((jI.out.bY hu2 hC2 (fun y hy=>Α hy) rfl rfl).iE hu3 A7) (old:=.node x l r) (m:=.nil) hp3 trivial HG.out.2.2.1.2 H0.out.1 (fun y hy=>HG.out.2.2.2.2 y (aD.2 (Β ((H0.out.2.1 y).1 hy))))))
  | ((go_at_call 245;(with_reducible refine (kmd).mono ?_));rintro e w4 ⟨rfl,fZ,S4,rk4,rQ,YP⟩)
  | fail)
 have hx4:bV S4 (-1) (x:Int) (.node x l r):=bV.frame hx3 (fun y hy=>(YP.far y (fun hm=>by
  have h1:=(H0.out.2.1 y).1 hm;have h2:=(aM (f::P) (.node x l r)).nodup_iff.1 HG.out.2.1;rw [θ] at h2
  exact h2.2.2 y hy y h1 rfl)).1)
 have hr4:fK rk4 (.node x l r):=HG.out.2.2.1.1.frame (fun y hy=>(YP.far y (fun hm=>by
  have h1:=(H0.out.2.1 y).1 hm;have h2:=(aM (f::P) (.node x l r)).nodup_iff.1 HG.out.2.1;rw [θ] at h2
  exact h2.2.2 y hy y h1 rfl)).2)
 have f4:∀y,y∉(af (f::P) (.node x l r)).nodes->S.at S4 y/\rk4 y=rk y:=fun y hy=>by
  have a1:=hs3 y hy;have a2:=YP.far y (fun hm=>hy (aD.2 (Β ((H0.out.2.1 y).1 hm))));exact ⟨fQ a1 a2.1,a2.2⟩
 have u4:aa (B.blk F gt) w w4:=(((G9.out.trans hu2).mono (fun y hy=>by simp only [LB.blk,ρ];simp [hy])).trans (hu3.mono (by simp [LB.blk]))).trans (fZ.mono (by simp [LB.blk]));have hE:=χ (ψ YP f4);have pY:=HM.out.cF;have km:=fun W (hW:aa [] w4 W)=>uL (rQ.aj hW) (tb:=.node x l r) YP.Ex hx4 HX.out.1 (fun y hy=>HG.out.2.2.2.1 y (HX.out.2 y hy)) YP.isR hr4;rw [show BT.root (.node x l r)=(x:Int) from rfl] at km;have d4:=rQ.jv.cell g hgt;rw [htop] at d4;have f4':=rQ.jv.free g;have h3:=rQ.h3;have hgl:=rQ.lt gt (by simp [LB.blk]);have Ea:B.n0∉[B.c,B.ba,B.br,gt]:=by
  have a1:=HSE.out;have a2:B.n0≠B.c:=fun e=>a1.2.1 (by rw [e];exact pY);simp;omega
 have hgc:gt∉[B.c,B.ba,B.br]:=by
  have a1:=HSE.out;have a2:gt≠B.c:=fun e=>a1.2.2.2.2.2 (by rw [e];exact pY);simp;omega
 have r3:∀W,aa [B.c,B.ba,B.br,gt] w4 W->W.cell? ⟨B.n0,3,none⟩=some (.slice (some ⟨gt,0,none⟩) ah.length ct):=fun W hW=>hW.kept h3 Ea;have r4:∀W,aa [B.c,B.ba,B.br] w4 W->W.cell? ⟨gt,g,none⟩=some (.int .i64 (nD (f::P) (.node x l r) .nil).root)/\W.frozen? ⟨gt,g,none⟩=false:=fun W hW=>⟨hW.kept d4 hgc,hW.aH d4 hgc f4'⟩
 have Bw:(0:Int)<=(g:Int):=ω;have FY:(g:Int)<(ah.length:Int):=ω;have HF:Hid (∀ (W:World) (S':TS) (nP:Nat->Nat) (st':Nat),(∀y,y∉(nD (f::P) (.node x l r) .nil).nodes++(BT.node x l r).nodes->S4.at S' y/\nP y=rk4 y)->∀y,y∉(af (f::P) (.node x l r)).nodes->S.at S' y/\nP y=rk y):=fun W S' nP st' a y hy=>by
  have b1:=hE.out.2 y hy;have b2:=a y (fun hm=>hy (HX.out.2 y hm));exact ⟨fQ b1.1 b2.1,b2.2.trans b1.2⟩
 clear hE f4 YP hx4 hr4 hs3 hp3 hx3 A7;generalize hmt:(aG au A' (nD (f::P) (.node x l r) .nil) (.node x l r)).1=mt at *;generalize hmk:(aG au A' (nD (f::P) (.node x l r) .nil) (.node x l r)).2=mk at *;generalize hth:nD (f::P) (.node x l r) .nil=th at *;clear rQ f4' h3;have q3:=r3 _ (aa.refl _ _);have q4:=(r4 _ (aa.refl _ _)).1
 go_region_law
  (first
   | (go_simp;go_at_call 246;(with_reducible refine (km _ β).mono ?_);rintro e w5 ⟨rfl,xw,S5,Xm,wQ,II,M0,hs5⟩;(have bK:aa [B.c,B.ba,B.br] w4 w5:=aa.trans β xw);(have gF:aa [B.c,B.ba,B.br,gt] w4 w5:=bK.mono σ);obtain ⟨d5,f5⟩:=r4 _ bK;(have q5:=r3 _ gF)))
 all_goals
  go_wp2;go_ret
  have v3:aa (B.blk F gt) w w5:=u4.trans (bK.mono (fun y hy=>by
   simp only [ρ,ς,or_false] at hy;simp only [LB.blk,ρ];rcases hy with rfl|rfl|rfl
   ·simp [pY]
   ·simp
   ·simp))
  subst hth hmt hmk;refine ⟨rfl,v3.setCell (Α (by simp [LB.blk])) _,S5,Xm,_,wQ.qz g _,II,M0,HF.out w5 S5 Xm 0 hs5,fun q hq=>?_⟩
  by_cases e:q=g
  ·rw [Δ e,e,φ,ύ,Δ rfl,Δ hgt];rfl
  ·rw [Γ e,φ,ύ,Γ (fun h=>e h.symm),←φ]
theorem Si (h:lQ w B F gt ct A st tr) (g x:Nat) (hx:x∈(tr g).nodes) (k s:Int) (hk:-9223372036854775808<=k/\k<=9223372036854775807/\0<=s/\s<=18446744073709551615) (hB:iT A x k s=true) :
  Calls Tryz.prog 237 #[.pointer (some ⟨B.n0,0,none⟩),.int .i64 (x:Int),.agg #[.int .i64 k,.int .u64 s]] w fun e w'=>e=.returned (.bool true)/\aa (B.blk F gt) w w'/\
   lQ w' B F gt ct (ak A x k s) (bR st (PE (ak A x k s) (tr g) x).2) (fun q=>if q=g then (PE (ak A x k s) (tr g) x).1 else tr q):=by
 obtain ⟨S,rk,ah,hM,hI,hL,hR⟩:=h;have hm:=(hI.mem g x).1 hx;have e:=mZ hx;unfold PE;generalize (pathOf (tr g) x).1=P at *;generalize (pathOf (tr g) x).2.1=l at *;generalize (pathOf (tr g) x).2.2=r at *;have hgt:g<ah.length:=by rw [hM.jc];have:=(hM.cells.ok.nat x hm.2.1);omega
 have hgh:g<A.hs.length:=by rw [←hM.jc];exact hgt
 have hT:=hI.Ex g;have hn:=hI.nd g;have hH:=hI.heap g;have ZR:=hR g;have Ku:=hL g;have htp:=hI.top g hgh;rw [e] at hT hn hH ZR Ku htp;obtain ⟨d1,d2⟩:=H9 hB hm.2.1 hn hH;obtain ⟨l1,l2⟩:=(tH _ _).1 Ku;have fin:∀w' T st',Kg w' B F gt ct (ak A x k s) st' S rk ah g (tr g).nodes T->T.nodes.Perm (tr g).nodes->Heap (ak A x k s) T->Lean T->lQ w' B F gt ct (ak A x k s) st' (fun q=>if q=g then T else tr q):=fun w' T st' hE hp hh hl=>by
  obtain ⟨S',nP,iU,q1,q2,q3,q4,q6⟩:=hE;refine ⟨S',nP,iU,q1,hI.low hB hx q2 hp hh (fun y hy=>(q4 y hy).1) (fun q hq=>q6 q (by rw [kV];exact hq)),fun q=>?_,fun q=>?_⟩
  ·show Lean (if q=g then _ else _)
   split
   ·exact hl
   ·exact hL q
  ·show fK nP (if q=g then _ else _)
   split
   ·exact q3
   ·rename_i hq
    refine (hR q).frame (fun y hy=>(q4 y (fun hm'=>?_)).2);have c1:=(hI.mem g y).1 hm';have c2:=(hI.mem q y).1 hy;omega
 cases P with
 | nil=>
  refine (SH hM hk hB hm.2.2 hm.1 htp hm.2.1 hT ZR).mono ?_;rintro e' w' ⟨rfl,hu,hE⟩;have e2:tr g=.node x l r:=e;refine ⟨rfl,hu,?_⟩
  show lQ w' B F gt ct (ak A x k s) (bR st 0) (fun q=>if q=g then tr g else tr q)
  rw [fO hM.cells.ou];refine fin w' _ st (by rw [e2];exact hE) (ό _) (by rw [e2];exact d2) (hL g)
 | cons f P2=>
  refine (UX hM hk hB hm.2.2 hm.1 hgt htp hT hn ZR (fun y hy=>?_)).mono ?_
  ·rw [←e] at hy;have:=(hI.mem g y).1 hy;exact (ae A y).2 ⟨this.2.1,ω⟩
  ·rintro e' w' ⟨rfl,hu,hE⟩;refine ⟨rfl,hu,?_⟩;have hpn:=(aM (f::P2) (.node x l r)).nodup_iff.1 hn;obtain ⟨mp,mh⟩:=lT mV (ak A x k s) _ (nD (f::P2) (.node x l r) .nil) (.node x l r) (Θ _);have pn:((nD (f::P2) (.node x l r) .nil).nodes++(BT.node x l r).nodes).Perm (tr g).nodes:=by
    rw [e];refine (((tT _ _ _).trans (aM (f::P2) .nil)).append_right _).trans ?_;refine List.perm_append_comm.trans ?_;simp only [BT.nodes,Ϛ];exact (aM (f::P2) (.node x l r)).symm
   refine fin w' _ _ (by rw [e];exact hE) (mp.trans pn) (mh (Fj _ _ _ d1) d2 (pn.nodup_iff.2 (hI.nd g))) (ve _ _ _ _ (Θ _) (FC _ _ _ trivial l2) l1)
end
section
variable {w:World} {B:LB} {F:List Nat} {gt ct:Nat} {A:NS} {st:Nat} {tr:Nat->BT} {S:TS} {rk:Nat->Nat} {ah:List Int}
theorem Br (h:lQ w B F gt ct A st tr) (g:Nat) (hn:0<dI A g) :
  Calls Tryz.prog 239 #[.pointer (some ⟨B.n0,0,none⟩),.int .i64 (g:Int)] w fun e w'=>∃m:Nat,dF A g=some m/\e=.returned (.tuple #[.int .i64 (m:Int),.bool true])/\aa (B.blk F gt) w w'/\
   lQ w' B F gt ct (aZ A m) (bR st (Hq A (tr g) m).2) (fun q=>if q=g then (Hq A (tr g) m).1 else tr q):=by
 have k:=Ch h g hn;have h':=h;obtain ⟨S,rk,ah,hM,hI,hL,hR⟩:=h';have kd:=fun m hm=>H8 h g m hm;have hroot:∀m:Nat,(tr g).root=m->m∈(tr g).nodes:=fun m hm=>by
  have hne:tr g≠.nil:=fun e=>by rw [e] at hm;have:(-1:Int)=m:=hm;omega
  have:=(bH hne).1;rw [hm] at this;simpa using this
 clear hM hI hL hR h
 go_enter Tryz.func239,Tryz.ntmps239
 go_wp2_with (first
  | ((go_at_call 243;(with_reducible refine (k).mono ?_));rintro e w1 ⟨m,hm1,hm2,rfl,rfl⟩;(have Xv:=kd m (hroot m hm2)))
  | ((go_at_call 238;(with_reducible refine (Xv).mono ?_));rintro e w2 ⟨rfl,hu2,hL2⟩)
  | fail)
 go_ret2;exact ⟨m,hm1,rfl,hu2,hL2⟩
end
theorem JL (p c:Nat):∀W:World,W.cell? ⟨p,0,none⟩=some (.pointer (some ⟨c,0,none⟩))->(method 429 186 (.pointer (some ⟨p,0,none⟩)) "Has").run Tryz.prog W=.ok (139,.pointer (some ⟨c,0,none⟩)) W:=(by intro W h;unfold method;have hm:∃m,(Array.find? (fun x=>x.name == "Has") Tryz.t186.methods)=some m/\m.path.toList=[⟨231,0,true⟩]/\m.func=some (139,true)/\m.path.isEmpty=false:=⟨(Array.find? (fun x=>x.name == "Has") Tryz.t186.methods).get!,by kernel_rfl,by kernel_rfl,by kernel_rfl,by kernel_rfl⟩;obtain ⟨m,h1,h2,h3,h4⟩:=hm;go_simp;simp only [follow,Place.get];go_simp;(try unfold receiverAt);(try simp only [Place.get]);(try go_simp))
theorem D6 (p c:Nat):∀W:World,W.cell? ⟨p,0,none⟩=some (.pointer (some ⟨c,0,none⟩))->(method 429 186 (.pointer (some ⟨p,0,none⟩)) "Entry").run Tryz.prog W=.ok (137,.pointer (some ⟨c,0,none⟩)) W:=(by intro W h;unfold method;have hm:∃m,(Array.find? (fun x=>x.name == "Entry") Tryz.t186.methods)=some m/\m.path.toList=[⟨231,0,true⟩]/\m.func=some (137,true)/\m.path.isEmpty=false:=⟨(Array.find? (fun x=>x.name == "Entry") Tryz.t186.methods).get!,by kernel_rfl,by kernel_rfl,by kernel_rfl,by kernel_rfl⟩;obtain ⟨m,h1,h2,h3,h4⟩:=hm;go_simp;simp only [follow,Place.get];go_simp;(try unfold receiverAt);(try simp only [Place.get]);(try go_simp))
theorem Ur (p:Nat):∀W:World,(method 429 186 (.pointer (some ⟨p,0,none⟩)) "Make").run Tryz.prog W=.ok (241,.pointer (some ⟨p,0,none⟩)) W:=fun _=>by kernel_rfl
theorem OU (p:Nat):∀W:World,(method 429 186 (.pointer (some ⟨p,0,none⟩)) "Insert").run Tryz.prog W=.ok (240,.pointer (some ⟨p,0,none⟩)) W:=fun _=>by kernel_rfl
theorem Ya (p:Nat):∀W:World,(method 429 186 (.pointer (some ⟨p,0,none⟩)) "Min").run Tryz.prog W=.ok (243,.pointer (some ⟨p,0,none⟩)) W:=fun _=>by kernel_rfl
theorem JI (p:Nat):∀W:World,(method 429 186 (.pointer (some ⟨p,0,none⟩)) "Extract").run Tryz.prog W=.ok (239,.pointer (some ⟨p,0,none⟩)) W:=fun _=>by kernel_rfl
theorem Iy (p:Nat):∀W:World,(method 429 186 (.pointer (some ⟨p,0,none⟩)) "Decrease").run Tryz.prog W=.ok (237,.pointer (some ⟨p,0,none⟩)) W:=fun _=>by kernel_rfl
def LfQ (w:World) (p:Nat) (F:List Nat) (A:NS):Prop:=∃B F1 gt ct st tr,p=B.n0/\F=B.blk F1 gt/\lQ w B F1 gt ct A st tr
def yM:gD where
 ty:=186
 at_:=LfQ
 upd:=fun h hu hS=>by
  obtain ⟨B,F1,gt,ct,st,tr,rfl,rfl,hL⟩:=h;exact ⟨B,F1,gt,ct,st,tr,rfl,rfl,hL.upd hu hS⟩
 lt:=fun h=>by
  obtain ⟨B,F1,gt,ct,st,tr,rfl,rfl,S,rk,ah,hM, -⟩:=h;exact hM.lt
 ok:=fun h=>by
  obtain ⟨B,F1,gt,ct,st,tr,rfl,rfl,S,rk,ah,hM, -⟩:=h;exact hM.cells.ok
 make:=fun {w p F A} h=>by
  obtain ⟨B,F1,gt,ct,st,tr,rfl,rfl,hL⟩:=h;refine aS 241 (fun _ _=>by kernel_rfl) (Ur _) (fun W hW=>?_);have lM:=hL.aj hW
  by_cases hl:65536<A.hs.length
  ·have e1:cu A=0:=by unfold cu;rw [Δ hl]
   have e2:aN A=A:=by unfold aN;rw [Δ hl]
   rw [e1,e2];refine (TI lM hl).mono ?_;rintro e w' ⟨rfl,F',⟨F2,rfl,hA⟩,hu,hf⟩;exact ⟨rfl,_,⟨B,F2,gt,ct,st,tr,rfl,rfl,hA⟩,hu,hf⟩
  ·have e1:cu A=A.hs.length:=by unfold cu;rw [Γ hl]
   rw [e1];refine (NM lM hl).mono ?_;rintro e w' ⟨rfl,F',⟨F2,gt2,ct2,rfl,hA⟩,hu,hf⟩;exact ⟨rfl,_,⟨B,F2,gt2,ct2,st,tr,rfl,rfl,hA⟩,hu,hf⟩
 insert:=fun {w p F A} g y k s hk hB h=>by
  obtain ⟨B,F1,gt,ct,st,tr,rfl,rfl,hL⟩:=h;refine aS 240 (fun _ _=>by kernel_rfl) (OU _) (fun W hW=>?_);refine (Ig (hL.aj hW) g y k s hk hB).mono ?_;rintro e w' ⟨rfl,hu,hL2⟩;exact ⟨rfl,Goes.stay ⟨B,F1,gt,ct,_,_,rfl,rfl,hL2⟩ hu⟩
 min:=fun {w p F A} y hB h=>by
  obtain ⟨B,F1,gt,ct,st,tr,rfl,rfl,hL⟩:=h;refine aS 243 (fun _ _=>by kernel_rfl) (Ya _) (fun W hW=>?_);have lM:=hL.aj hW;have hok:A.Ok:=by obtain ⟨S,rk,ah,hM, -⟩:=hL;exact hM.cells.ok
  by_cases hl:dI A (y:Int)=0
  ·rw [ic.2 hl];have h4:=(aO _ _).1 hB;have h5:=hok.h1;refine (MW lM y ω hl).mono ?_;rintro e w' ⟨rfl,rfl⟩;exact ⟨rfl,Goes.stay ⟨B,F1,gt,ct,st,tr,rfl,rfl,lM⟩ (aa.refl _ _)⟩
  ·refine (Ch lM y ω).mono ?_;rintro e w' ⟨m,hm, -,rfl,rfl⟩;rw [hm];exact ⟨rfl,Goes.stay ⟨B,F1,gt,ct,st,tr,rfl,rfl,lM⟩ (aa.refl _ _)⟩
 extract:=fun {w p F A} y m hm h=>by
  obtain ⟨B,F1,gt,ct,st,tr,rfl,rfl,hL⟩:=h;refine aS 239 (fun _ _=>by kernel_rfl) (JI _) (fun W hW=>?_);have hl:¬dI A (y:Int)=0:=fun e=>by rw [ic.2 e] at hm;cases hm
  refine (Br (hL.aj hW) y ω).mono ?_;rintro e w' ⟨m',hm',rfl,hu,hL2⟩;rw [hm] at hm';cases hm';exact ⟨rfl,Goes.stay ⟨B,F1,gt,ct,_,_,rfl,rfl,hL2⟩ hu⟩
 lS:=fun {w p F A} y k s hk hB h=>by
  obtain ⟨B,F1,gt,ct,st,tr,rfl,rfl,hL⟩:=h;refine aS 237 (fun _ _=>by kernel_rfl) (Iy _) (fun W hW=>?_);have lM:=hL.aj hW;have hin:=qw hB;have hx:y∈(tr (A.c y).i.toNat).nodes:=by
   obtain ⟨S,rk,ah,hM,hI, -⟩:=lM;have:=(ae _ _).1 hin;exact (hI.mem _ y).2 ⟨ω,this.1,ω⟩
  refine (Si lM _ y hx k s hk hB).mono ?_;rintro e w' ⟨rfl,hu,hL2⟩;exact ⟨rfl,Goes.stay ⟨B,F1,gt,ct,_,_,rfl,rfl,hL2⟩ hu⟩
 has:=fun x h=>by
  obtain ⟨B,F1,gt,ct,st,tr,rfl,rfl,S,rk,ah,hM, -⟩:=h;exact iA 139 (fun _ _=>by kernel_rfl) hM.h0 (JL _ _) (fun W hW=>jm (hM.aj hW).cells x)
 entry:=fun {w p F A} x h=>by
  obtain ⟨B,F1,gt,ct,st,tr,rfl,rfl,S,rk,ah,hM, -⟩:=h;refine iA 137 (fun _ _=>by kernel_rfl) hM.h0 (D6 _ _) (fun W hW=>?_);cases hin:bQ A x with
  | false=>simpa using lK (hM.aj hW).cells x hin
  | true=>
   obtain ⟨y,rfl⟩:=qj hin;simpa using jR (hM.aj hW).cells y hin
theorem Jg (p:Nat) (w:World):Calls Tryz.prog 99 #[.pointer (some ⟨p,0,none⟩),.int .i64 0] w fun e w'=>e=.returned (.tuple #[.iface 186 (.pointer (some ⟨p,0,none⟩)),.int .i64 0])/\w'=w:=by
 go_enter Tryz.func99,Tryz.ntmps99
 go_wp2;go_ret2;exact ⟨rfl,rfl⟩
theorem Qm (n:Nat) (hn:n<=65536):om yM 6 0 n:=by
 intro w;have kn:=fun W=>RQ n W hn;have km:=Jg;have hty:yM.ty=186:=rfl;have hat:∀w' B F gt,lQ w' B F gt 1 (NS.new n) 0 (fun _=>.nil)->yM.at_ w' B.n0 (B.blk F gt) (NS.new n):=fun w' B F gt h=>⟨B,F,gt,_,_,_,rfl,rfl,h⟩
 generalize yM=K at *;rw [hty]
 go_enter Tryz.func81,Tryz.ntmps81
 go_wp2_with (first
  | ((go_at_call 100;(with_reducible refine (kn _).mono ?_));rintro e w1 ⟨B,F,gt,rfl,hS,hu1,hf⟩)
  | ((go_at_call 99;(with_reducible refine (km _ _).mono ?_));rintro e w2 ⟨rfl,rfl⟩)
  | fail)
 go_ret2;exact ⟨B.n0,B.blk F gt,rfl,hat _ _ _ _ hS,aa.trans β hu1,fun x hx=>by have:=hf x hx;simp at this;omega⟩
def iE (tr:Nat->BT) (h:Nat) (t:BT):Nat->BT:=fun q=>if q=h then t else tr q
end Go.Proofs.YtklibcncmbofpaaGreat
