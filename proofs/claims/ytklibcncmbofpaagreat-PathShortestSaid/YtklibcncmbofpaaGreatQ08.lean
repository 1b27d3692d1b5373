/-
  Lemmas for PathShortest: Spine, Spine2, Bt, Bt2, Bt5. Conditions: those of each lemma.
-/
import Derived.Test.YtklibcncmbofpaaGreatQ01
set_option linter.all false
set_option maxHeartbeats 8000000
set_option maxRecDepth 10000
namespace Go.Proofs.YtklibcncmbofpaaGreat
open Go Go.RowKit
structure TS where
 l:Nat->Int
 r:Nat->Int
 u:Nat->Int
def TS.none:TS:=⟨fun _=>-1,fun _=>-1,fun _=>-1⟩
def TS.kid (S:TS) (s:Bool) (x:Nat):Int:=if s then S.r x else S.l x
def dU (S:TS) (j:Nat):Value:=.int .i64 (if j % 3=0 then S.l (j / 3) else if j % 3=1 then S.r (j / 3) else S.u (j / 3))
theorem pM (S:TS) (x:Nat):dU S (x*3)=.int .i64 (S.l x):=by unfold dU;rw [if_pos ω,show x*3 / 3=x by omega]
theorem qa (S:TS) (x:Nat):dU S (x*3+1)=.int .i64 (S.r x):=by unfold dU;rw [if_neg ω,if_pos ω,show (x*3+1) / 3=x by omega]
theorem ui (S:TS) (x:Nat):dU S (x*3+2)=.int .i64 (S.u x):=by unfold dU;rw [if_neg ω,if_neg ω,show (x*3+2) / 3=x by omega]
structure bC (w:World) (bt ba n:Nat) (S:TS):Prop where
 head:aP w bt 257 1 (fun _=>.slice (some ⟨ba,0,none⟩) n n)
 row:aP w ba 260 (n*3) (dU S)
 ne:bt≠ba
 le:n<=65536
theorem bC.upd {w w':World} {F:List Nat} {bt ba n:Nat} {S:TS} (h:bC w bt ba n S) (hu:aa F w w') (h1:bt∉F) (h2:ba∉F):bC w' bt ba n S:=
 ⟨h.head.upd hu h1,h.row.upd hu h2,h.ne,h.le⟩
theorem bC.drewN {w:World} {bt ba n:Nat} {S:TS} (h:bC w bt ba n S) (k:Nat):bC (w.drewN k) bt ba n S:=⟨h.head,h.row,h.ne,h.le⟩
theorem bC.drew {w:World} {bt ba n:Nat} {S:TS} (h:bC w bt ba n S):bC w.drew bt ba n S:=⟨h.head,h.row,h.ne,h.le⟩
theorem Mq:(Tryz.prog.info? 260).map (fun i=>(i.zero,i.size,i.bytes))=some (some (.agg #[.int .i64 0,.int .i64 0,.int .i64 0]),3,24):=by kernel_rfl
theorem vY (n:Nat) (w:World) (h:n<=65536) :
  Calls Tryz.prog 112 #[.int .i64 (n:Int)] w fun e w'=>∃bt ba,e=.returned (.tuple #[.pointer (some ⟨bt,0,none⟩),.int .i64 0])/\bC w' bt ba n TS.none/\aa [] w w'/\w.heap.size<=bt/\w.heap.size<=ba:=by
 go_enter Tryz.func112,Tryz.ntmps112
 go_wp2_with (at_make;refine wpList_make_row rfl _ 255 rfl 260 (.agg #[.int .i64 0,.int .i64 0,.int .i64 0]) 3 24 Tryz.underlying255 Mq n rfl ω μ ?_;intro w1 hr1 hu1)
 have hlt:=hr1.lt
 go_loopw [21] (fun i wr=>∃ (k:Nat) (f:Nat->Value),k<=n/\i=.int .i64 k/\aP wr w1.heap.size 257 1 (fun _=>.slice (some ⟨w.heap.size,0,none⟩) n n)/\aP wr w.heap.size 260 (n*3) f/\(∀j,j<k*3->f j=.int .i64 (-1))/\aa [] w wr) (fun i _=>n-(intOf i).toNat)
 case atStart=>exact ⟨0,_,ω,rfl,eO _ _ _ |>.ext (fun j hj=>by simp at hj;subst hj;rfl),hr1.alloc _,ω,hu1.alloc _⟩
 case round=>
  obtain ⟨k,f,hk,rfl,hH,hR,hf,hu⟩:=hrel
  by_cases hkn:k<n
  ·have c0:=hH.cell 0 ω;have d0:=hR.cell (k*3) ω;have d1:=hR.cell (k*3+1) ω;have d2:=hR.cell (k*3+2) ω;have e0:=hR.free (k*3);have e1:=hR.free (k*3+1);have e2:=hR.free (k*3+2);have HF:=χ hf;clear hf;go_wp2
   go_roundw
   case rel=>
    refine ⟨k+1,_,ω,by go_num,((hH.far _ _ ζ).far _ _ ζ).far _ _ ζ,((hR.set _ _).set _ _).set _ _,fun j hj=>?_,((hu.setCell (Or.inr σ) _).setCell (Or.inr σ) _).setCell (Or.inr σ) _⟩
    show (if j=k*3+2 then _ else if j=k*3+1 then _ else if j=k*3 then _ else f j)=_
    split
    ·rfl
    ·split
     ·rfl
     ·split
      ·rfl
      ·exact HF.out j ω
   case measure=>simp [intOf];omega
  ·obtain rfl:k=n:=ω;go_wp2;go_ret2;exact ⟨_,_,rfl,⟨hH,hR.ext (fun j hj=>by rw [hf j hj];unfold dU TS.none;simp),ω,h⟩,hu,hu1.size,Nat.le_refl _⟩
theorem qL (bt ba n:Nat) (S:TS) (x:Int) (w:World) (h:bC w bt ba n S) (b:Bool) (hb:b=decide (0<=x/\x<n)) :
  Calls Tryz.prog 257 #[.pointer (some ⟨bt,0,none⟩),.int .i64 x] w fun e w'=>e=.returned (.bool b)/\w'=w:=by
 have hle:=h.le;have c0:=h.head.cell 0 ω;clear h;subst hb
 by_cases h0:0<=x
 ·by_cases h1:x<n
  ·go_enter Tryz.func257,Tryz.ntmps257
   go_wp2;go_ret;exact ⟨aZ (by simp [h0,h1]),rfl⟩
  ·go_enter Tryz.func257,Tryz.ntmps257
   go_wp2;go_ret;exact ⟨aZ (by simp [h0,h1]),rfl⟩
 ·go_enter Tryz.func257,Tryz.ntmps257
  go_wp2;go_ret;exact ⟨aZ ζ,rfl⟩
theorem si (b:Bool) (w:World):Calls Tryz.prog 253 #[.bool b] w fun e w'=>e=.returned (.int .i64 (if b then 1 else 0))/\w'=w:=by
 cases b
 all_goals
  go_enter Tryz.func253,Tryz.ntmps253
  go_wp2;go_ret;exact ⟨rfl,rfl⟩
theorem told_none (w:World):Calls Tryz.prog 256 #[.int .i64 (-1)] w fun e w'=>e=.returned (.tuple #[.int .i64 0,.bool false])/\w'=w:=by
 go_enter Tryz.func256,Tryz.ntmps256
 go_wp2;go_ret2;exact ⟨rfl,rfl⟩
theorem MW (x:Int) (w:World) (h:x≠-1):Calls Tryz.prog 256 #[.int .i64 x] w fun e w'=>e=.returned (.tuple #[.int .i64 x,.bool true])/\w'=w:=by
 have h':(x == -1)=false:=by simpa using h
 go_enter Tryz.func256,Tryz.ntmps256
 go_wp2;go_ret2;exact ⟨rfl,rfl⟩
def ik (n:Nat) (S:TS) (x:Int) (r:Bool):Int:=if 0<=x/\x<n then S.kid r x.toNat else -1
def pg (n:Nat) (S:TS) (x:Int):Int:=if 0<=x/\x<n then S.u x.toNat else -1
theorem y7 (bt ba n:Nat) (S:TS) (x:Int) (r:Bool) (w:World) (h:bC w bt ba n S) :
  Calls Tryz.prog 254 #[.pointer (some ⟨bt,0,none⟩),.int .i64 x,.bool r] w fun e w'=>e=.returned (.int .i64 (ik n S x r))/\∃k,w'=w.drewN k:=by
 by_cases hx:0<=x/\x<n
 ·obtain ⟨k,rfl⟩:∃k:Nat,x=k:=⟨x.toNat,ω⟩;have hk:k<n:=ω;have e:ik n S k r=S.kid r k:=by unfold ik;rw [if_pos hx];simp
  have hle:=h.le;have c0:=h.head.cell 0 ω;have d0:=h.row.cellAt (k*3) ω (pM S k);have d1:=h.row.cellAt (k*3+1) ω (qa S k);rw [e];clear e;cases r
  all_goals
   unfold TS.kid;simp only [if_true,if_false,Bool.false_eq_true]
   go_enter Tryz.func254,Tryz.ntmps254
   go_wp2_with (go_at_call 257;refine (qL bt ba n S k _ h true (by simp [hk])).mono ?_;rintro e w' ⟨rfl,rfl⟩)
   go_quiet ((go_at_call 253;exact Calls.quiet_of_same (si _ _)))
   go_wp2;go_ret;exact ⟨rfl,_,rfl⟩
 ·have e:ik n S x r=-1:=by unfold ik;rw [if_neg hx]
  rw [e];clear e
  go_enter Tryz.func254,Tryz.ntmps254
  go_wp2_with (go_at_call 257;refine (qL bt ba n S x _ h false (by simp [hx])).mono ?_;rintro e w' ⟨rfl,rfl⟩)
  go_ret;exact ⟨rfl,0,rfl⟩
theorem uA (bt ba n:Nat) (S:TS) (x:Int) (w:World) (h:bC w bt ba n S) :
  Calls Tryz.prog 252 #[.pointer (some ⟨bt,0,none⟩),.int .i64 x] w fun e w'=>e=.returned (.int .i64 (pg n S x))/\w'=w:=by
 by_cases hx:0<=x/\x<n
 ·obtain ⟨k,rfl⟩:∃k:Nat,x=k:=⟨x.toNat,ω⟩;have hk:k<n:=ω;have e:pg n S k=S.u k:=by unfold pg;rw [if_pos hx];simp
  have hle:=h.le;have c0:=h.head.cell 0 ω;have d0:=h.row.cellAt (k*3+2) ω (ui S k);rw [e];clear e
  go_enter Tryz.func252,Tryz.ntmps252
  go_wp2_with (go_at_call 257;refine (qL bt ba n S k _ h true (by simp [hk])).mono ?_;rintro e w' ⟨rfl,rfl⟩)
  go_ret;exact ⟨rfl,rfl⟩
 ·have e:pg n S x=-1:=by unfold pg;rw [if_neg hx]
  rw [e];clear e
  go_enter Tryz.func252,Tryz.ntmps252
  go_wp2_with (go_at_call 257;refine (qL bt ba n S x _ h false (by simp [hx])).mono ?_;rintro e w' ⟨rfl,rfl⟩)
  go_ret;exact ⟨rfl,rfl⟩
def tv (x:Int):Int:=if x=-1 then 0 else x
def tb (x:Int):Bool:=decide (x≠-1)
theorem Ba (x:Int) (w:World):Calls Tryz.prog 256 #[.int .i64 x] w fun e w'=>e=.returned (.tuple #[.int .i64 (tv x),.bool (tb x)])/\w'=w:=by
 by_cases h:x=-1
 ·subst h;exact told_none w
 ·have e1:tv x=x:=by unfold tv;rw [if_neg h]
  have e2:tb x=true:=by unfold tb;simp [h]
  rw [e1,e2];exact MW x w h
theorem Bc (bt ba n:Nat) (S:TS) (x:Int) (w:World) (h:bC w bt ba n S) :
  Calls Tryz.prog 248 #[.pointer (some ⟨bt,0,none⟩),.int .i64 x] w fun e w'=>e=.returned (.tuple #[.int .i64 (tv (ik n S x false)),.bool (tb (ik n S x false))])/\∃k,w'=w.drewN k:=by
 generalize hy:ik n S x false=y;have c1:=y7 bt ba n S x false w h;rw [hy] at c1;have c2:=fun W=>Ba y W
 go_enter Tryz.func248,Tryz.ntmps248
 go_wp2_with (first|(go_at_call 254;refine c1.mono ?_;rintro e w' ⟨rfl,k,rfl⟩)|(go_at_call 256;refine (c2 _).mono ?_;rintro e w' ⟨rfl,rfl⟩))
 go_ret2;exact ⟨rfl,_,rfl⟩
theorem pV (bt ba n:Nat) (S:TS) (x:Int) (w:World) (h:bC w bt ba n S) :
  Calls Tryz.prog 249 #[.pointer (some ⟨bt,0,none⟩),.int .i64 x] w fun e w'=>e=.returned (.tuple #[.int .i64 (tv (ik n S x true)),.bool (tb (ik n S x true))])/\∃k,w'=w.drewN k:=by
 generalize hy:ik n S x true=y;have c1:=y7 bt ba n S x true w h;rw [hy] at c1;have c2:=fun W=>Ba y W
 go_enter Tryz.func249,Tryz.ntmps249
 go_wp2_with (first|(go_at_call 254;refine c1.mono ?_;rintro e w' ⟨rfl,k,rfl⟩)|(go_at_call 256;refine (c2 _).mono ?_;rintro e w' ⟨rfl,rfl⟩))
 go_ret2;exact ⟨rfl,_,rfl⟩
theorem SF (bt ba n:Nat) (S:TS) (x:Int) (w:World) (h:bC w bt ba n S) :
  Calls Tryz.prog 250 #[.pointer (some ⟨bt,0,none⟩),.int .i64 x] w fun e w'=>e=.returned (.tuple #[.int .i64 (tv (pg n S x)),.bool (tb (pg n S x))])/\∃k,w'=w.drewN k:=by
 generalize hy:pg n S x=y;have c1:=uA bt ba n S x w h;rw [hy] at c1;have c2:=fun W=>Ba y W
 go_enter Tryz.func250,Tryz.ntmps250
 go_wp2_with (first|(go_at_call 252;refine c1.mono ?_;rintro e w' ⟨rfl,rfl⟩)|(go_at_call 256;refine (c2 _).mono ?_;rintro e w' ⟨rfl,rfl⟩))
 go_ret2;exact ⟨rfl,0,rfl⟩
def TS.aJ (S:TS) (p:Nat) (s:Bool) (v:Int):TS:=if s then ⟨S.l,fun i=>if i=p then v else S.r i,S.u⟩ else ⟨fun i=>if i=p then v else S.l i,S.r,S.u⟩
def TS.bW (S:TS) (p:Nat) (v:Int):TS:=⟨S.l,S.r,fun i=>if i=p then v else S.u i⟩
theorem bC.aJ {w:World} {bt ba n:Nat} {S:TS} (h:bC w bt ba n S) (p:Nat) (s:Bool) (v:Int) :
  bC (w.setCell ⟨ba,p*3+(if s then 1 else 0),none⟩ (.int .i64 v)) bt ba n (S.aJ p s v):=by
 refine ⟨h.head.far _ _ h.ne,(h.row.set _ _).ext (fun j hj=>?_),h.ne,h.le⟩;cases s
 ·unfold dU TS.aJ
  by_cases hj2:j=p*3
  ·subst hj2;simp
  ·have:¬ (j % 3=0/\j / 3=p):=ω
   by_cases h0:j % 3=0
   ·simp [hj2,h0];intro hh;exfalso;omega
   ·simp [hj2,h0]
 ·unfold dU TS.aJ
  by_cases hj2:j=p*3+1
  ·subst hj2;simp;intro hh;exfalso;omega
  ·by_cases h0:j % 3=1
   ·simp [hj2,h0];intro hh;exfalso;omega
   ·simp [hj2,h0]
theorem bC.bW {w:World} {bt ba n:Nat} {S:TS} (h:bC w bt ba n S) (p:Nat) (v:Int) :
  bC (w.setCell ⟨ba,p*3+2,none⟩ (.int .i64 v)) bt ba n (S.bW p v):=by
 refine ⟨h.head.far _ _ h.ne,(h.row.set _ _).ext (fun j hj=>?_),h.ne,h.le⟩;unfold dU TS.bW
 by_cases hj2:j=p*3+2
 ·subst hj2;simp;intro hh;exfalso;omega
 ·by_cases h0:j % 3=0
  ·simp [hj2,h0]
  ·by_cases h1:j % 3=1
   ·simp [hj2,h1]
   ·simp [hj2,h0,h1];intro hh;exfalso;omega
def lL (S:TS) (p x:Int) (r:Bool):TS:=(S.aJ p.toNat r x).bW x.toNat p
theorem Ab (bt ba n:Nat) (S:TS) (i j:Nat) (r:Bool) (w:World) (h:bC w bt ba n S) (hi:i<n) (hj:j<n) (hne:i≠j) (hu:S.u j=-1) (hk:S.kid r i=-1) :
  Calls Tryz.prog 251 #[.pointer (some ⟨bt,0,none⟩),.int .i64 (i:Int),.int .i64 (j:Int),.bool r] w fun e w'=>e=.returned (.bool true)/\bC w' bt ba n (lL S i j r)/\aa [ba] w w':=by
 have hle:=h.le;have hbne:=h.ne;have hbne':ba≠bt:=fun e=>h.ne e.symm;have c0:=h.head.cell 0 ω;have d0:=h.row.cellAt (i*3) ω (pM S i);have d1:=h.row.cellAt (i*3+1) ω (qa S i);have d2:=h.row.cellAt (j*3+2) ω (ui S j);have e0:=h.row.free (i*3);have e1:=h.row.free (i*3+1);have e2:=h.row.free (j*3+2);have k1:=qL bt ba n S i w h true (by simp [hi]);have k2:=qL bt ba n S j w h true (by simp [hj]);have k3:=uA bt ba n S j w h;rw [show pg n S j=-1 by unfold pg;rw [if_pos ω];simpa using hu] at k3;have k4:=y7 bt ba n S i r w h;rw [show ik n S i r=-1 by unfold ik;rw [if_pos ω];simpa using hk] at k4
 have hij:((i:Int) == (j:Int))=false:=ζ;have H:=χ h;clear h hu hk;cases r
 ·go_enter Tryz.func251,Tryz.ntmps251
  go_wp2_with (first
   | (go_at_call 257;(with_reducible refine (k1).mono ?_);rintro e w' ⟨rfl,rfl⟩)
   | (go_at_call 257;(with_reducible refine (k2).mono ?_);rintro e w' ⟨rfl,rfl⟩)
   | (go_at_call 252;(with_reducible refine (k3).mono ?_);rintro e w' ⟨rfl,rfl⟩)
   | (go_at_call 254;(with_reducible refine (k4).mono ?_);rintro e w' ⟨rfl,kd,rfl⟩))
  go_region_held3 (fun W=>W.cell? ⟨bt,0,none⟩=some (.slice (some ⟨ba,0,none⟩) n n)) (go_keep) ((go_at_call 253;refine (si _ _).mono ?_;rintro e w' ⟨rfl,rfl⟩))
  go_wp2;go_ret;exact ⟨rfl,((H.out.drewN _).aJ i false j).bW j i,(((aa.refl _ _).drewN _).setCell (Or.inl σ) _).setCell (Or.inl σ) _⟩
 ·go_enter Tryz.func251,Tryz.ntmps251
  go_wp2_with (first
   | (go_at_call 257;(with_reducible refine (k1).mono ?_);rintro e w' ⟨rfl,rfl⟩)
   | (go_at_call 257;(with_reducible refine (k2).mono ?_);rintro e w' ⟨rfl,rfl⟩)
   | (go_at_call 252;(with_reducible refine (k3).mono ?_);rintro e w' ⟨rfl,rfl⟩)
   | (go_at_call 254;(with_reducible refine (k4).mono ?_);rintro e w' ⟨rfl,kd,rfl⟩))
  go_region_held3 (fun W=>W.cell? ⟨bt,0,none⟩=some (.slice (some ⟨ba,0,none⟩) n n)) (go_keep) ((go_at_call 253;refine (si _ _).mono ?_;rintro e w' ⟨rfl,rfl⟩))
  go_wp2;go_ret;exact ⟨rfl,((H.out.drewN _).aJ i true j).bW j i,(((aa.refl _ _).drewN _).setCell (Or.inl σ) _).setCell (Or.inl σ) _⟩
theorem EG (bt ba n:Nat) (S:TS) (x:Int) (w:World) (h:bC w bt ba n S) (hu:pg n S x=-1) :
  Calls Tryz.prog 244 #[.pointer (some ⟨bt,0,none⟩),.int .i64 x] w fun e w'=>e=.returned (.tuple #[.int .i64 0,.bool false])/\w'=w:=by
 have k3:=uA bt ba n S x w h;rw [hu] at k3;clear h hu
 go_enter Tryz.func244,Tryz.ntmps244
 go_wp2_with ((go_at_call 252;(with_reducible refine (k3).mono ?_);rintro e w' ⟨rfl,rfl⟩))
 go_ret2;exact ⟨rfl,rfl⟩
def mV (S:TS) (i j:Nat):TS:=(S.aJ i (decide (S.r i=j)) (-1)).bW j (-1)
theorem Ez (bt ba n:Nat) (S:TS) (i j:Nat) (w:World) (h:bC w bt ba n S) (hi:i<n) (hj:j<n) (hu:S.u j=i) :
  Calls Tryz.prog 244 #[.pointer (some ⟨bt,0,none⟩),.int .i64 (j:Int)] w fun e w'=>e=.returned (.tuple #[.int .i64 (i:Int),.bool true])/\bC w' bt ba n (mV S i j)/\aa [ba] w w':=by
 have hle:=h.le;have hbne:ba≠bt:=fun e=>h.ne e.symm;have c0:=h.head.cell 0 ω;have d0:=h.row.cellAt (i*3) ω (pM S i);have d1:=h.row.cellAt (i*3+1) ω (qa S i);have d2:=h.row.cellAt (j*3+2) ω (ui S j);have e0:=h.row.free (i*3);have e1:=h.row.free (i*3+1);have e2:=h.row.free (j*3+2);have k3:=uA bt ba n S j w h;rw [show pg n S j=i by unfold pg;rw [if_pos ω];simpa using hu] at k3;have k4:=fun W (hW:bC W bt ba n S)=>y7 bt ba n S i true W hW;rw [show ik n S i true=S.r i by unfold ik TS.kid;rw [if_pos ω];simp] at k4;have H:=χ h;have hi1:((i:Int) == -1)=false:=σ;clear h
 by_cases hr:S.r i=j
 ·have hb:(S.r i == (j:Int))=true:=by simpa using hr
  have ec:mV S i j=(S.aJ i true (-1)).bW j (-1):=by unfold mV;rw [decide_eq_true hr]
  have EC:=χ ec;clear hr ec hu
  go_enter Tryz.func244,Tryz.ntmps244
  go_wp2_with ((go_at_call 252;(with_reducible refine (k3).mono ?_);rintro e w' ⟨rfl,rfl⟩))
  go_region_held3 (fun W=>W.cell? ⟨bt,0,none⟩=some (.slice (some ⟨ba,0,none⟩) n n)) (go_keep)
   (first|((go_at_call 253;refine (si _ _).mono ?_;rintro e w' ⟨rfl,rfl⟩))|((go_at_call 254;refine (k4 _ (H.out.drew)).mono ?_;rintro e w' ⟨rfl,kd,rfl⟩)))
  go_wp2;go_ret2;exact ⟨rfl,by rw [EC.out];exact ((H.out.drewN _).aJ i true (-1)).bW j (-1),(((aa.refl _ _).drewN _).setCell (Or.inl σ) _).setCell (Or.inl σ) _⟩
 ·have hb:(S.r i == (j:Int))=false:=by simpa using hr
  have ec:mV S i j=(S.aJ i false (-1)).bW j (-1):=by unfold mV;rw [decide_eq_false hr]
  have EC:=χ ec;clear hr ec hu
  go_enter Tryz.func244,Tryz.ntmps244
  go_wp2_with ((go_at_call 252;(with_reducible refine (k3).mono ?_);rintro e w' ⟨rfl,rfl⟩))
  go_region_held3 (fun W=>W.cell? ⟨bt,0,none⟩=some (.slice (some ⟨ba,0,none⟩) n n)) (go_keep)
   (first|((go_at_call 253;refine (si _ _).mono ?_;rintro e w' ⟨rfl,rfl⟩))|((go_at_call 254;refine (k4 _ (H.out.drew)).mono ?_;rintro e w' ⟨rfl,kd,rfl⟩)))
  go_wp2;go_ret2;exact ⟨rfl,by rw [EC.out];exact ((H.out.drewN _).aJ i false (-1)).bW j (-1),(((aa.refl _ _).drewN _).setCell (Or.inl σ) _).setCell (Or.inl σ) _⟩
def jM (S:TS) (i:Nat):TS:=(S.aJ i false (S.r i)).aJ i true (S.l i)
theorem zO (bt ba n:Nat) (S:TS) (i:Nat) (w:World) (h:bC w bt ba n S) (hi:i<n) :
  Calls Tryz.prog 259 #[.pointer (some ⟨bt,0,none⟩),.int .i64 (i:Int)] w fun e w'=>e=.returned (.bool true)/\bC w' bt ba n (jM S i)/\aa [ba] w w':=by
 have hle:=h.le;have c0:=h.head.cell 0 ω;have d0:=h.row.cellAt (i*3) ω (pM S i);have d1:=h.row.cellAt (i*3+1) ω (qa S i);have e0:=h.row.free (i*3);have e1:=h.row.free (i*3+1);have k1:=qL bt ba n S i w h true (by simp [hi]);have H:=χ h;clear h
 go_enter Tryz.func259,Tryz.ntmps259
 go_wp2_with ((go_at_call 257;(with_reducible refine (k1).mono ?_);rintro e w' ⟨rfl,rfl⟩))
 go_region
 go_wp2;go_ret;exact ⟨rfl,((H.out.aJ i false (S.r i)).aJ i true (S.l i)).drew,(((aa.refl _ _).setCell (Or.inl σ) _).setCell (Or.inl σ) _).drew⟩
end Go.Proofs.YtklibcncmbofpaaGreat
namespace Go.Proofs.YtklibcncmbofpaaGreat
inductive BT where
 | nil:BT
 | node:Nat->BT->BT->BT
def BT.root:BT->Int | .nil=>-1 | .node x _ _=>x
def BT.nodes:BT->List Nat | .nil=>[] | .node x l r=>x::(l.nodes++r.nodes)
def BT.size:BT->Nat | .nil=>0 | .node _ l r=>l.size+r.size+1
theorem BT.lZ:∀t:BT,t.nodes.length=t.size
 | .nil=>rfl
 | .node x l r=>by simp [BT.nodes,BT.size,BT.lZ l,BT.lZ r]
def cO (S:TS):Int->Int->BT->Prop
 | _,z,.nil=>z=-1
 | p,z,.node x l r=>z=x/\S.u x=p/\cO S x (S.l x) l/\cO S x (S.r x) r
theorem cO.root {S:TS}:∀ {t:BT} {p z:Int},cO S p z t->z=t.root
 | .nil,_,_,h=>h
 | .node _ _ _,_,_,h=>h.1
def TS.at (S S':TS) (x:Nat):Prop:=S'.l x=S.l x/\S'.r x=S.r x/\S'.u x=S.u x
theorem cO.frame {S S':TS}:∀ {t:BT} {p z:Int},cO S p z t->(∀x,x∈t.nodes->S.at S' x)->cO S' p z t
 | .nil,_,_,h,_=>h
 | .node x l r,p,z,h,hs=>by
  have hx:=hs x (by simp [BT.nodes]);refine ⟨h.1,by rw [hx.2.2];exact h.2.1,?_,?_⟩
  ·rw [hx.1];exact cO.frame h.2.2.1 (fun y hy=>hs y (by simp [BT.nodes,hy]))
  ·rw [hx.2.1];exact cO.frame h.2.2.2 (fun y hy=>hs y (by simp [BT.nodes,hy]))
theorem cO.OA {S S':TS} {t:BT} {p p' z:Int} (h:cO S p z t) (hn:t.nodes.Nodup) (hs:∀x,x∈t.nodes->S'.l x=S.l x/\S'.r x=S.r x/\(x≠t.root.toNat->S'.u x=S.u x)) (hr:t≠.nil->S'.u t.root.toNat=p'):cO S' p' z t:=by
 cases t with
 | nil=>exact h
 | node x l r=>
  have hx:=hs x (by simp [BT.nodes]);simp only [BT.nodes,List.nodup_cons,τ,not_or] at hn;refine ⟨h.1,?_,?_,?_⟩
  ·have:=hr σ;simpa [BT.root] using this
  ·rw [hx.1];refine h.2.2.1.frame (fun y hy=>?_);have hy':=hs y (by simp [BT.nodes,hy]);exact ⟨hy'.1,hy'.2.1,hy'.2.2 (fun e=>by simp [BT.root] at e;rw [e] at hy;exact hn.1.1 hy)⟩
  ·rw [hx.2.1];refine h.2.2.2.frame (fun y hy=>?_);have hy':=hs y (by simp [BT.nodes,hy]);exact ⟨hy'.1,hy'.2.1,hy'.2.2 (fun e=>by simp [BT.root] at e;rw [e] at hy;exact hn.1.2 hy)⟩
theorem bN {t:BT} (h:t≠.nil):t.root.toNat∈t.nodes/\t.root=(t.root.toNat:Int):=by
 cases t with
 | nil=>exact absurd rfl h
 | node x l r=>simp [BT.root,BT.nodes]
/-! ### ranks; what a merge gives -/
def BT.rank:BT->Nat | .nil=>0 | .node _ _ r=>r.rank+1
def aD (x:Nat) (l r:BT):BT:=if l.rank<r.rank then .node x r l else .node x l r
def gL (rk:Nat->Nat):BT->Prop
 | .nil=>True
 | .node x l r=>rk x=r.rank+1/\gL rk l/\gL rk r
theorem gL.frame {rk ow:Nat->Nat}:∀ {t:BT},gL rk t->(∀x,x∈t.nodes->ow x=rk x)->gL ow t
 | .nil,_,_=>trivial
 | .node x l r,h,hs=>⟨by rw [hs x (by simp [BT.nodes])];exact h.1,h.2.1.frame (fun y hy=>hs y (by simp [BT.nodes,hy])),h.2.2.frame (fun y hy=>hs y (by simp [BT.nodes,hy]))⟩
theorem gL.root {rk:Nat->Nat} {t:BT} (h:gL rk t) (ht:t≠.nil):rk t.root.toNat=t.rank:=by
 cases t with
 | nil=>exact absurd rfl ht
 | node x l r=>simpa [BT.root,BT.rank] using h.1
def Lean:BT->Prop
 | .nil=>True
 | .node _ l r=>r.rank<=l.rank/\Lean l/\Lean r
theorem kW {x:Nat} {l r:BT} (hl:Lean l) (hr:Lean r):Lean (aD x l r):=by
 unfold aD;split
 ·exact ⟨ω,hr,hl⟩
 ·exact ⟨ω,hl,hr⟩
def Heap (A:NS):BT->Prop
 | .nil=>True
 | .node x l r=>(∀y,y∈l.nodes->cZ A x y)/\(∀y,y∈r.nodes->cZ A x y)/\Heap A l/\Heap A r
theorem lF (x:Nat) (l r:BT):(aD x l r).nodes.Perm (x::(l.nodes++r.nodes)):=by
 unfold aD;split
 ·simp only [BT.nodes];exact List.Perm.cons x List.perm_append_comm
 ·exact List.Perm.refl _
theorem r9 {A:NS} {x:Nat} {l r:BT} (h1:∀y,y∈l.nodes->cZ A x y) (h2:∀y,y∈r.nodes->cZ A x y) (hl:Heap A l) (hr:Heap A r):Heap A (aD x l r):=by
 unfold aD;split
 ·exact ⟨h2,h1,hr,hl⟩
 ·exact ⟨h1,h2,hl,hr⟩
theorem jJ (x:Nat) (l r:BT):(aD x l r).root=x:=by unfold aD;split<;>rfl
def aK (up:Nat->BT->BT->BT) (A:NS):BT->BT->BT×Nat
 | .nil,t=>(t,0)
 | .node x l r,.nil=>(.node x l r,0)
 | .node x l r,.node y l' r'=>
  if cZ A y x then (up y l' (aK up A r' (.node x l r)).1,(aK up A r' (.node x l r)).2+1)
  else (up x l (aK up A r (.node y l' r')).1,(aK up A r (.node y l' r')).2+1)
termination_by a b=>a.size+b.size
decreasing_by
 all_goals simp only [BT.size]
 all_goals omega
theorem mg (up:Nat->BT->BT->BT) (A:NS) (t:BT):aK up A .nil t=(t,0):=by rw [aK]
theorem oN (up:Nat->BT->BT->BT) (A:NS) (t:BT):aK up A t .nil=(t,0):=by cases t<;>rw [aK]
theorem oI (up:Nat->BT->BT->BT) (A:NS) (x y:Nat) (l r l' r':BT):aK up A (.node x l r) (.node y l' r')=
  if cZ A y x then (up y l' (aK up A r' (.node x l r)).1,(aK up A r' (.node x l r)).2+1)
  else (up x l (aK up A r (.node y l' r')).1,(aK up A r (.node y l' r')).2+1):=by rw [aK]
structure QE (up:Nat->BT->BT->BT):Prop where
 nodes:∀x l r,(up x l r).nodes.Perm (x::(l.nodes++r.nodes))
 heap:∀A x l r,(∀y,y∈l.nodes->cZ A x y)->(∀y,y∈r.nodes->cZ A x y)->Heap A l->Heap A r->Heap A (up x l r)
 root:∀x l r,(up x l r).root=x
theorem nH:QE aD:=⟨lF,fun _ _ _ _=>r9,jJ⟩
theorem mM {up:Nat->BT->BT->BT} (U:QE up) (A:NS) (k:Nat):∀ (a b:BT),a.size+b.size<=k->
  (aK up A a b).1.nodes.Perm (a.nodes++b.nodes)/\(Heap A a->Heap A b->(a.nodes++b.nodes).Nodup->Heap A (aK up A a b).1):=by
 induction k with
 | zero=>
  intro a b hk;cases a with
  | nil=>rw [mg];exact ⟨by simp [BT.nodes],fun _ h _=>h⟩
  | node x l r=>simp only [BT.size] at hk;omega
 | succ k ih=>
  intro a b hk;cases a with
  | nil=>rw [mg];exact ⟨by simp [BT.nodes],fun _ h _=>h⟩
  | node x l r=>
   cases b with
   | nil=>rw [oN];exact ⟨by simp [BT.nodes],fun h _ _=>h⟩
   | node y l' r'=>
    rw [oI];simp only [BT.size] at hk
    by_cases h:cZ A y x
    ·rw [if_pos h];obtain ⟨i1,i2⟩:=ih r' (.node x l r) (by simp only [BT.size];omega);have i3:=U.nodes y l' (aK up A r' (.node x l r)).1;have i4:(y::(l'.nodes++(aK up A r' (.node x l r)).1.nodes)).Perm ((BT.node x l r).nodes++(BT.node y l' r').nodes):=by
      refine List.Perm.trans (List.Perm.cons y (List.Perm.append_left _ i1)) ?_;rw [←List.append_assoc]
      show (y::(l'.nodes++r'.nodes++(BT.node x l r).nodes)).Perm ((BT.node x l r).nodes++(y::(l'.nodes++r'.nodes)))
      exact (List.perm_append_comm (l₁:=y::(l'.nodes++r'.nodes)))
     refine ⟨i3.trans i4,fun ha hb hn=>?_⟩;have hn2:(r'.nodes++(BT.node x l r).nodes).Nodup:=by
      rw [θ] at hn ⊢;simp only [BT.nodes,List.nodup_cons,θ] at hn;refine ⟨hn.2.1.2.2.1,by simp only [BT.nodes,List.nodup_cons,θ];exact hn.1,fun p hp q hq e=>hn.2.2 q hq p (by simp [hp]) e.symm⟩
     refine U.heap A y l' _ hb.1 (fun z hz=>?_) hb.2.2.1 (i2 hb.2.2.2 ha hn2);rcases τ.1 (i1.mem_iff.1 hz) with hz|hz
     ·exact hb.2.1 z hz
     ·simp only [BT.nodes,ρ,τ] at hz;rcases hz with rfl|hz|hz
      ·exact h
      ·exact cB h (ha.1 z hz)
      ·exact cB h (ha.2.1 z hz)
    ·rw [if_neg h];obtain ⟨i1,i2⟩:=ih r (.node y l' r') (by simp only [BT.size];omega);have i3:=U.nodes x l (aK up A r (.node y l' r')).1;have i4:(x::(l.nodes++(aK up A r (.node y l' r')).1.nodes)).Perm ((BT.node x l r).nodes++(BT.node y l' r').nodes):=by
      refine List.Perm.trans (List.Perm.cons x (List.Perm.append_left _ i1)) ?_;rw [←List.append_assoc];exact List.Perm.refl _
     refine ⟨i3.trans i4,fun ha hb hn=>?_⟩;have hn1:=hn;rw [θ] at hn;have hxy:x≠y:=hn.2.2 x (by simp [BT.nodes]) y (by simp [BT.nodes]);have hlt:cZ A x y:=by
      rcases jr (A:=A) hxy with h'|h'
      ·exact h'
      ·exact absurd h' h
     have hn2:(r.nodes++(BT.node y l' r').nodes).Nodup:=by
      rw [θ];simp only [BT.nodes,List.nodup_cons,θ] at hn;refine ⟨hn.1.2.2.1,by simp only [BT.nodes,List.nodup_cons,θ];exact hn.2.1,fun p hp q hq e=>hn.2.2 p (by simp [hp]) q hq e⟩
     refine U.heap A x l _ ha.1 (fun z hz=>?_) ha.2.2.1 (i2 ha.2.2.2 hb hn2);rcases τ.1 (i1.mem_iff.1 hz) with hz|hz
     ·exact ha.2.1 z hz
     ·simp only [BT.nodes,ρ,τ] at hz;rcases hz with rfl|hz|hz
      ·exact hlt
      ·exact cB hlt (hb.1 z hz)
      ·exact cB hlt (hb.2.1 z hz)
theorem vC (A:NS) (k:Nat):∀ (a b:BT),a.size+b.size<=k->Lean a->Lean b->Lean (aK aD A a b).1:=by
 induction k with
 | zero=>
  intro a b hk ha hb;cases a with
  | nil=>rw [mg];exact hb
  | node x l r=>simp only [BT.size] at hk;omega
 | succ k ih=>
  intro a b hk ha hb;cases a with
  | nil=>rw [mg];exact hb
  | node x l r=>
   cases b with
   | nil=>rw [oN];exact ha
   | node y l' r'=>
    rw [oI];simp only [BT.size] at hk
    split
    ·exact kW hb.2.1 (ih r' (.node x l r) (by simp only [BT.size];omega) hb.2.2 ha)
    ·exact kW ha.2.1 (ih r (.node y l' r') (by simp only [BT.size];omega) ha.2.2 hb)
def uU (up:Nat->BT->BT->BT):List (Nat×BT)->BT->BT
 | [],m=>m
 | (x,l)::t,m=>up x l (uU up t m)
theorem Ao (up:Nat->BT->BT->BT) (W:List (Nat×BT)) (x:Nat) (l m:BT):uU up (W++[(x,l)]) m=uU up W (up x l m):=by
 induction W with
 | nil=>rfl
 | cons p t ih=>obtain ⟨y,k⟩:=p;simp only [List.cons_append,uU,ih]
def uM (W:List (Nat×BT)):List Nat:=W.flatMap fun p=>p.1::p.2.nodes
abbrev Fr:=Nat×Bool×BT
def bD (f:Fr) (t:BT):BT:=if f.2.1 then .node f.1 f.2.2 t else .node f.1 t f.2.2
def aj:List Fr->BT->BT
 | [],t=>t
 | f::P,t=>aj P (bD f t)
def CY:List Fr->Int|[]=>-1|f::_=>f.1
def dV:List Fr->List Nat|[]=>[]|f::P=>f.1::(f.2.2.nodes++dV P)
def SN (S:TS):List Fr->Int->Prop
 | [],_=>True
 | f::P,z=>S.kid f.2.1 f.1=z/\cO S f.1 (S.kid (!f.2.1) f.1) f.2.2/\S.u f.1=CY P/\SN S P f.1
theorem nZ (f:Fr) (t:BT):(bD f t).root=f.1:=by unfold bD;split<;>rfl
theorem Qv (f:Fr) (t:BT):bD f t≠.nil:=by unfold bD;split<;>simp
theorem jH (f:Fr) (t:BT):(bD f t).nodes.Perm (f.1::(t.nodes++f.2.2.nodes)):=by
 unfold bD;split
 ·simp only [BT.nodes];exact List.Perm.cons _ List.perm_append_comm
 ·exact List.Perm.refl _
theorem aR:∀ (P:List Fr) (t:BT),(aj P t).nodes.Perm (t.nodes++dV P)
 | [],t=>by simp [aj,dV]
 | f::P,t=>by
  refine (aR P (bD f t)).trans ?_;refine ((jH f t).append_right (dV P)).trans ?_;simp only [dV,List.cons_append,List.append_assoc];exact (List.perm_middle (a:=f.1) (l₁:=t.nodes) (l₂:=f.2.2.nodes++dV P)).symm
theorem zk:∀ (P:List Fr) (t t':BT),t.root=t'.root->(aj P t).root=(aj P t').root
 | [],t,t',h=>h
 | f::P,t,t',h=>zk P _ _ (by rw [nZ,nZ])
theorem kg (f:Fr) (P:List Fr) (t t':BT):(aj (f::P) t).root=(aj (f::P) t').root:=zk P _ _ (by rw [nZ,nZ])
theorem sK:∀ (P Q:List Fr) (t:BT),aj (P++Q) t=aj Q (aj P t)
 | [],_,_=>rfl
 | f::P,Q,t=>sK P Q (bD f t)
theorem xZ:∀ {t:BT} {x:Nat},x∈t.nodes->∃P l r,t=aj P (.node x l r)
 | .nil,_,h=>by cases h
 | .node y a b,x,h=>by
  simp only [BT.nodes,ρ,τ] at h;rcases h with rfl|h|h
  ·exact ⟨[],a,b,rfl⟩
  ·obtain ⟨P,l,r,e⟩:=xZ h;exact ⟨P++[(y,false,b)],l,r,by rw [sK,←e];rfl⟩
  ·obtain ⟨P,l,r,e⟩:=xZ h;exact ⟨P++[(y,true,a)],l,r,by rw [sK,←e];rfl⟩
theorem OH {S:TS} {p:Int} (f:Fr) (t:BT):cO S p f.1 (bD f t)↔cO S f.1 t.root t/\S.kid f.2.1 f.1=t.root/\cO S f.1 (S.kid (!f.2.1) f.1) f.2.2/\S.u f.1=p:=by
 obtain ⟨x,s,o⟩:=f;cases s
 ·simp only [bD,Bool.false_eq_true,if_false,cO,TS.kid,Bool.not_false,if_true];constructor
  ·rintro ⟨_,h2,h3,h4⟩;have e:=h3.root;exact ⟨by rw [←e];exact h3,e,h4,h2⟩
  ·rintro ⟨h1,h2,h3,h4⟩;exact ⟨trivial,h4,by rw [h2];exact h1,h3⟩
 ·simp only [bD,if_true,cO,TS.kid,Bool.not_true,Bool.false_eq_true,if_false];constructor
  ·rintro ⟨_,h2,h3,h4⟩;have e:=h4.root;exact ⟨by rw [←e];exact h4,e,h3,h2⟩
  ·rintro ⟨h1,h2,h3,h4⟩;exact ⟨trivial,h4,h3,by rw [h2];exact h1⟩
theorem fq {S:TS}:∀ (P:List Fr) (t:BT),cO S (-1) (aj P t).root (aj P t)↔cO S (CY P) t.root t/\SN S P t.root
 | [],t=>by simp [aj,CY,SN]
 | f::P,t=>by
  have h:=fq (S:=S) P (bD f t);rw [nZ] at h
  show cO S (-1) (aj P (bD f t)).root (aj P (bD f t))↔_
  rw [h,OH];simp only [CY,SN];constructor
  ·rintro ⟨⟨h1,h2,h3,h4⟩,h5⟩;exact ⟨h1,h2,h3,h4,h5⟩
  ·rintro ⟨h1,h2,h3,h4,h5⟩;exact ⟨⟨h1,h2,h3,h4⟩,h5⟩
theorem SN.frame {S S':TS}:∀ {P:List Fr} {z:Int},SN S P z->(∀y,y∈dV P->S.at S' y)->SN S' P z
 | [],_,_,_=>trivial
 | f::P,z,h,hs=>by
  obtain ⟨h1,h2,h3,h4⟩:=h;have hf:=hs f.1 (by simp [dV]);have hk:∀s,S'.kid s f.1=S.kid s f.1:=fun s=>by unfold TS.kid;rw [hf.1,hf.2.1]
  exact ⟨by rw [hk];exact h1,by rw [hk];exact h2.frame (fun y hy=>hs y (by simp [dV,hy])),by rw [hf.2.2];exact h3,h4.frame (fun y hy=>hs y (by simp [dV,hy]))⟩
theorem SN.other {S S':TS} {f:Fr} {P:List Fr} {z z':Int} (h:SN S (f::P) z) (hn:(dV (f::P)).Nodup) (h1:S'.kid f.2.1 f.1=z') (h2:S'.kid (!f.2.1) f.1=S.kid (!f.2.1) f.1) (h3:S'.u f.1=S.u f.1)
  (hs:∀y,y≠f.1->y∈dV (f::P)->S.at S' y):SN S' (f::P) z':=by
 obtain ⟨_,g2,g3,g4⟩:=h;simp only [dV,List.nodup_cons,τ,not_or] at hn;exact ⟨h1,by rw [h2];exact g2.frame (fun y hy=>hs y (fun e=>hn.1.1 (by rw [←e];exact hy)) (by simp [dV,hy])),by rw [h3];exact g3,g4.frame (fun y hy=>hs y (fun e=>hn.1.2 (by rw [←e];exact hy)) (by simp [dV,hy]))⟩
theorem Vk {S:TS} {i j:Nat} {y:Nat} (h1:y≠i) (h2:y≠j):S.at (mV S i j) y:=by
 unfold mV TS.aJ TS.bW TS.at;refine ⟨?_,?_,?_⟩
 ·cases decide (S.r i=(j:Int))<;>simp [h1]
 ·cases decide (S.r i=(j:Int))<;>simp [h1]
 ·cases decide (S.r i=(j:Int))<;>simp [h2]
theorem Cs {S:TS} {i:Nat} {s:Bool} {v:Int}:∀y,(S.aJ i s v).u y=S.u y:=fun y=>by unfold TS.aJ;cases s<;>rfl
theorem Qz {S:TS} {f:Fr} {P:List Fr} {t:BT} (h:cO S (-1) (aj (f::P) t).root (aj (f::P) t)) (ht:t≠.nil) (hn:(aj (f::P) t).nodes.Nodup) :
  cO (mV S f.1 t.root.toNat) (-1) t.root t/\cO (mV S f.1 t.root.toNat) (-1) (aj (f::P) .nil).root (aj (f::P) .nil)/\∀y,y≠f.1->y≠t.root.toNat->S.at (mV S f.1 t.root.toNat) y:=by
 obtain ⟨h1,h2⟩:=(fq _ _).1 h;have Zh:=(aR (f::P) t).nodup_iff.1 hn;rw [θ] at Zh;obtain ⟨n1,n2,n3⟩:=Zh;obtain ⟨rm,rc⟩:=bN ht;generalize hx:t.root.toNat=x at *;have hfx:f.1≠x:=fun e=>n3 x rm f.1 (by simp [dV]) e.symm;have hat:∀y,y≠f.1->y≠x->S.at (mV S f.1 x) y:=fun y h1 h2=>Vk h1 h2;have hk:S.kid f.2.1 f.1=x:=by rw [h2.1,rc]
 have hside:decide (S.r f.1=(x:Int))=f.2.1:=by
  cases hs:f.2.1 with
  | true=>rw [hs] at hk;exact decide_eq_true (by simpa [TS.kid] using hk)
  | false=>
   refine decide_eq_false (fun e=>?_);have h3:=h2.2.1;rw [hs] at h3;have h4:=h3.root;have h5:f.2.2.root=(x:Int):=by rw [←h4];simpa [TS.kid] using e
   have h6:f.2.2≠.nil:=fun e=>by rw [e] at h5;simp [BT.root] at h5
   have h7:=(bN h6).1;rw [h5,π] at h7;exact n3 x rm x (by simp [dV,h7]) rfl
 have RS:∀s,(mV S f.1 x).kid s f.1=if s=f.2.1 then -1 else S.kid s f.1:=fun s=>by
  unfold mV;rw [hside];unfold TS.aJ TS.bW TS.kid;cases s<;>cases f.2.1<;>simp
 have hu:∀y,(mV S f.1 x).u y=if y=x then -1 else S.u y:=fun y=>by
  unfold mV TS.bW;simp only [Cs]
 refine ⟨h1.OA n1 (fun y hy=>?_) (fun _=>?_),(fq _ _).2 ⟨rfl,h2.other n2 ?_ ?_ ?_ (fun y g1 g2=>hat y g1 (fun e=>n3 x rm y g2 e.symm))⟩,hat⟩
 ·have hyf:y≠f.1:=fun e=>n3 y hy f.1 (by simp [dV]) e;refine ⟨?_,?_,fun hr=>?_⟩
  ·unfold mV TS.aJ TS.bW;cases decide (S.r f.1=(x:Int))<;>simp [hyf]
  ·unfold mV TS.aJ TS.bW;cases decide (S.r f.1=(x:Int))<;>simp [hyf]
  ·rw [hu,if_neg (by rw [hx] at hr;exact hr)]
 ·rw [hu,hx,if_pos rfl]
 ·rw [RS,if_pos rfl];rfl
 ·rw [RS,if_neg (by cases f.2.1<;>simp)]
 ·rw [hu,if_neg hfx]
theorem OG {S:TS} {f:Fr} {P:List Fr} {m:BT} (h:cO S (-1) (aj (f::P) .nil).root (aj (f::P) .nil)) (hM:cO S (-1) m.root m) (hm:m≠.nil) (hn:(m.nodes++dV (f::P)).Nodup) :
  cO (lL S f.1 m.root f.2.1) (-1) (aj (f::P) m).root (aj (f::P) m)/\∀y,y≠f.1->y≠m.root.toNat->S.at (lL S f.1 m.root f.2.1) y:=by
 obtain ⟨_,h2⟩:=(fq _ _).1 h;rw [θ] at hn;obtain ⟨n1,n2,n3⟩:=hn;obtain ⟨rm,rc⟩:=bN hm;have hfx:f.1≠m.root.toNat:=fun e=>n3 _ rm f.1 (by simp [dV]) e.symm;have RS:∀s,(lL S f.1 m.root f.2.1).kid s f.1=if s=f.2.1 then m.root else S.kid s f.1:=fun s=>by
  unfold lL TS.aJ TS.bW TS.kid;cases s<;>cases f.2.1<;>simp
 have hu:∀y,(lL S f.1 m.root f.2.1).u y=if y=m.root.toNat then (f.1:Int) else S.u y:=fun y=>by
  unfold lL TS.bW;simp only [Cs]
 have hl:∀y,y≠f.1->(lL S f.1 m.root f.2.1).l y=S.l y/\(lL S f.1 m.root f.2.1).r y=S.r y:=fun y hy=>by
  unfold lL TS.aJ TS.bW;cases f.2.1<;>simp [hy]
 have hat:∀y,y≠f.1->y≠m.root.toNat->S.at (lL S f.1 m.root f.2.1) y:=fun y g1 g2=>⟨(hl y g1).1,(hl y g1).2,by rw [hu,if_neg g2]⟩
 refine ⟨(fq _ _).2 ⟨hM.OA n1 (fun y hy=>?_) (fun _=>by rw [hu,if_pos rfl];rfl),h2.other n2 ?_ ?_ ?_ (fun y g1 g2=>hat y g1 (fun e=>n3 _ rm y g2 e.symm))⟩,hat⟩
 ·have hyf:y≠f.1:=fun e=>n3 y hy f.1 (by simp [dV]) e;exact ⟨(hl y hyf).1,(hl y hyf).2,fun hr=>by rw [hu,if_neg hr]⟩
 ·rw [RS,if_pos rfl]
 ·rw [RS,if_neg (by cases f.2.1<;>simp)]
 ·rw [hu,if_neg hfx]
/-! ### heaps, ranks -/
theorem vK {A:NS} {f:Fr} {t:BT}:Heap A (bD f t)↔(∀y,y∈t.nodes->cZ A f.1 y)/\(∀y,y∈f.2.2.nodes->cZ A f.1 y)/\Heap A t/\Heap A f.2.2:=by
 unfold bD
 split
 ·simp only [Heap];constructor
  ·rintro ⟨a,b,c,d⟩;exact ⟨b,a,d,c⟩
  ·rintro ⟨a,b,c,d⟩;exact ⟨b,a,d,c⟩
 ·simp only [Heap]
theorem sQ {A:NS}:∀ {P:List Fr} {t:BT},Heap A (aj P t)->Heap A t
 | [],_,h=>h
 | f::P,t,h=>(vK.1 (sQ (P:=P) h)).2.2.1
theorem ug {A:NS}:∀ {P:List Fr} {t t':BT},Heap A (aj P t)->Heap A t'->(∀y,y∈t'.nodes->y∈t.nodes)->Heap A (aj P t')
 | [],_,_,_,h,_=>h
 | f::P,t,t',h,h',hs=>by
  have h1:=vK.1 (sQ (P:=P) h);refine ug (P:=P) h (vK.2 ⟨fun y hy=>h1.1 y (hs y hy),h1.2.1,h',h1.2.2.2⟩) (fun y hy=>?_);have hy':=(jH f t').mem_iff.1 hy;refine (jH f t).mem_iff.2 ?_;simp only [ρ,τ] at hy' ⊢;rcases hy' with h|h|h
  ·exact Or.inl h
  ·exact Or.inr (Or.inl (hs y h))
  ·exact Or.inr (Or.inr h)
def lH (f:Fr) (n:Nat):Nat:=(if f.2.1 then n else f.2.2.rank)+1
theorem Ah (f:Fr) (t:BT):(bD f t).rank=lH f t.rank:=by unfold bD lH;split<;>rfl
def QO (rk:Nat->Nat):List Fr->Nat->Prop
 | [],_=>True
 | f::P,n=>gL rk f.2.2/\rk f.1=lH f n/\QO rk P (lH f n)
theorem Sn {rk:Nat->Nat} {f:Fr} {t:BT}:gL rk (bD f t)↔gL rk t/\gL rk f.2.2/\rk f.1=lH f t.rank:=by
 unfold bD lH
 split
 ·simp only [gL];constructor
  ·rintro ⟨a,b,c⟩;exact ⟨c,b,a⟩
  ·rintro ⟨a,b,c⟩;exact ⟨c,b,a⟩
 ·simp only [gL];constructor
  ·rintro ⟨a,b,c⟩;exact ⟨b,c,a⟩
  ·rintro ⟨a,b,c⟩;exact ⟨c,a,b⟩
theorem yM {rk:Nat->Nat}:∀ (P:List Fr) (t:BT),gL rk (aj P t)↔gL rk t/\QO rk P t.rank
 | [],t=>by simp [aj,QO]
 | f::P,t=>by
  show gL rk (aj P (bD f t))↔_
  rw [yM P,Sn,Ah];simp only [QO];constructor
  ·rintro ⟨⟨a,b,c⟩,d⟩;exact ⟨a,b,c,d⟩
  ·rintro ⟨a,b,c,d⟩;exact ⟨⟨a,b,c⟩,d⟩
theorem QO.frame {rk ow:Nat->Nat}:∀ {P:List Fr} {n:Nat},QO rk P n->(∀y,y∈dV P->ow y=rk y)->QO ow P n
 | [],_,_,_=>trivial
 | f::P,n,h,hs=>⟨h.1.frame (fun y hy=>hs y (by simp [dV,hy])),by rw [hs f.1 (by simp [dV])];exact h.2.1,h.2.2.frame (fun y hy=>hs y (by simp [dV,hy]))⟩
def Dg:List Fr->Nat->Prop
 | [],_=>True
 | f::P,n=>Lean f.2.2/\(if f.2.1 then n<=f.2.2.rank else f.2.2.rank<=n)/\Dg P (lH f n)
theorem IQ {f:Fr} {t:BT}:Lean (bD f t)↔Lean t/\Lean f.2.2/\(if f.2.1 then t.rank<=f.2.2.rank else f.2.2.rank<=t.rank):=by
 unfold bD
 split
 ·simp only [Lean];constructor
  ·rintro ⟨a,b,c⟩;exact ⟨c,b,a⟩
  ·rintro ⟨a,b,c⟩;exact ⟨c,b,a⟩
 ·simp only [Lean];constructor
  ·rintro ⟨a,b,c⟩;exact ⟨b,c,a⟩
  ·rintro ⟨a,b,c⟩;exact ⟨c,a,b⟩
theorem uK:∀ (P:List Fr) (t:BT),Lean (aj P t)↔Lean t/\Dg P t.rank
 | [],t=>by simp [aj,Dg]
 | f::P,t=>by
  show Lean (aj P (bD f t))↔_
  rw [uK P,IQ,Ah];simp only [Dg];constructor
  ·rintro ⟨⟨a,b,c⟩,d⟩;exact ⟨a,b,c,d⟩
  ·rintro ⟨a,b,c,d⟩;exact ⟨⟨a,b,c⟩,d⟩
def kZ:List Fr->Nat->Nat->BT->BT->BT
 | [],_,x,l,r=>aD x l r
 | f::P,was,x,l,r=>
  if (aD x l r).rank=was then aj (f::P) (aD x l r)
  else if f.2.1 then kZ P (lH f was) f.1 f.2.2 (aD x l r) else kZ P (lH f was) f.1 (aD x l r) f.2.2
theorem qG:∀ (P:List Fr) (was x:Nat) (l r:BT),(kZ P was x l r).nodes.Perm (aj P (.node x l r)).nodes
 | [],was,x,l,r=>lF x l r
 | f::P,was,x,l,r=>by
  have h0:(bD f (aD x l r)).nodes.Perm (bD f (.node x l r)).nodes:=
   (jH f _).trans ((List.Perm.cons _ ((lF x l r).append_right _)).trans (jH f (.node x l r)).symm)
  have h1:(aj P (bD f (aD x l r))).nodes.Perm (aj P (bD f (.node x l r))).nodes:=
   (aR P _).trans ((h0.append_right _).trans (aR P _).symm)
  unfold kZ
  split
  ·exact h1
  ·split
   ·rename_i hs
    have e:bD f (aD x l r)=.node f.1 f.2.2 (aD x l r):=by unfold bD;rw [if_pos hs]
    rw [e] at h1;exact (qG P _ _ _ _).trans h1
   ·rename_i hs
    have e:bD f (aD x l r)=.node f.1 (aD x l r) f.2.2:=by unfold bD;rw [if_neg hs]
    rw [e] at h1;exact (qG P _ _ _ _).trans h1
theorem tY:∀ (P:List Fr) (was x:Nat) (l r:BT),(kZ P was x l r).root=(aj P (.node x l r)).root
 | [],was,x,l,r=>jJ x l r
 | f::P,was,x,l,r=>by
  have h1:=kg f P (aD x l r) (.node x l r);unfold kZ
  split
  ·exact h1
  ·split
   ·rename_i hs
    have e:bD f (aD x l r)=.node f.1 f.2.2 (aD x l r):=by unfold bD;rw [if_pos hs]
    unfold aj at h1;rw [e] at h1;exact (tY P _ _ _ _).trans h1
   ·rename_i hs
    have e:bD f (aD x l r)=.node f.1 (aD x l r) f.2.2:=by unfold bD;rw [if_neg hs]
    unfold aj at h1;rw [e] at h1;exact (tY P _ _ _ _).trans h1
theorem tX {A:NS}:∀ (P:List Fr) (was x:Nat) (l r:BT),Heap A (aj P (.node x l r))->Heap A (kZ P was x l r)
 | [],was,x,l,r,h=>r9 h.1 h.2.1 h.2.2.1 h.2.2.2
 | f::P,was,x,l,r,h=>by
  have h0:=sQ h;have h1:Heap A (aj (f::P) (aD x l r)):=ug h (r9 h0.1 h0.2.1 h0.2.2.1 h0.2.2.2) (fun y hy=>(lF x l r).mem_iff.1 hy);unfold kZ
  split
  ·exact h1
  ·split
   ·rename_i hs
    have e:bD f (aD x l r)=.node f.1 f.2.2 (aD x l r):=by unfold bD;rw [if_pos hs]
    unfold aj at h1;rw [e] at h1;exact tX P _ _ _ _ h1
   ·rename_i hs
    have e:bD f (aD x l r)=.node f.1 (aD x l r) f.2.2:=by unfold bD;rw [if_neg hs]
    unfold aj at h1;rw [e] at h1;exact tX P _ _ _ _ h1
theorem uJ:∀ (P:List Fr) (was x:Nat) (l r:BT),Lean l->Lean r->Dg P was->Lean (kZ P was x l r)
 | [],was,x,l,r,hl,hr,_=>kW hl hr
 | f::P,was,x,l,r,hl,hr,h=>by
  unfold kZ
  split
  ·rename_i e
   exact (uK _ _).2 ⟨kW hl hr,by rw [e];exact h⟩
  ·split
   ·exact uJ P _ _ _ _ h.1 (kW hl hr) h.2.2
   ·exact uJ P _ _ _ _ (kW hl hr) h.1 h.2.2
end Go.Proofs.YtklibcncmbofpaaGreat
namespace Go.Proofs.YtklibcncmbofpaaGreat
open Go Go.RowKit
theorem aH {P:List Fr} {t:BT} {y:Nat}:y∈(aj P t).nodes↔y∈t.nodes\/y∈dV P:=by
 rw [(aR P t).mem_iff,τ]
def cutV (f:Fr) (t:BT):Int:=if t.root=-1 then 0 else (f.1:Int)
section
variable {w:World} {bt ba n:Nat} {S:TS}
theorem nY (h:bC w bt ba n S) {f:Fr} {P:List Fr} {t:BT} (hT:cO S (-1) (aj (f::P) t).root (aj (f::P) t)) (hn:(aj (f::P) t).nodes.Nodup) (hlt:∀y,y∈(aj (f::P) t).nodes->y<n) :
  Calls Tryz.prog 244 #[.pointer (some ⟨bt,0,none⟩),.int .i64 t.root] w fun e w'=>e=.returned (.tuple #[.int .i64 (cutV f t),.bool (tb t.root)])/\aa [ba] w w'/\
   ∃S',bC w' bt ba n S'/\cO S' (-1) t.root t/\cO S' (-1) (aj (f::P) .nil).root (aj (f::P) .nil)/\∀y,y∉(aj (f::P) t).nodes->S.at S' y:=by
 by_cases ht:t=.nil
 ·subst ht;refine (EG bt ba n S (-1) w h (by unfold pg;simp)).mono ?_;rintro e w' ⟨rfl,rfl⟩;exact ⟨by simp [cutV,BT.root,tb],aa.refl _ _,S,h,rfl,hT,fun y _=>⟨rfl,rfl,rfl⟩⟩
 ·obtain ⟨c1,c2,c3⟩:=Qz hT ht hn;obtain ⟨m1,m2⟩:=bN ht;have hp:=(fq _ _).1 hT;have hu:S.u t.root.toNat=(f.1:Int):=by
   cases t with
   | nil=>exact absurd rfl ht
   | node y a b=>exact hp.1.2.1
  have hf:f.1<n:=hlt _ (aH.2 (Or.inr (by simp [dV])));have hr:t.root.toNat<n:=hlt _ (aH.2 (Or.inl m1));have hne:t.root≠-1:=ω;have k:=Ez bt ba n S f.1 t.root.toNat w h hf hr hu;rw [←m2] at k;refine k.mono ?_;rintro e w' ⟨rfl,h',hu'⟩;refine ⟨by unfold cutV tb;rw [if_neg hne];simp [hne],hu',_,h',c1,c2,fun y hy=>c3 y (fun e=>hy ?_) (fun e=>hy ?_)⟩
  ·rw [e];exact aH.2 (Or.inr (by simp [dV]))
  ·rw [e];exact aH.2 (Or.inl m1)
theorem Db (h:bC w bt ba n S) {f:Fr} {P:List Fr} {m:BT} (hT:cO S (-1) (aj (f::P) .nil).root (aj (f::P) .nil)) (hM:cO S (-1) m.root m) (hm:m≠.nil) (hn:(m.nodes++dV (f::P)).Nodup) (hlt:∀y,y∈m.nodes++dV (f::P)->y<n) :
  Calls Tryz.prog 251 #[.pointer (some ⟨bt,0,none⟩),.int .i64 (f.1:Int),.int .i64 m.root,.bool f.2.1] w fun e w'=>e=.returned (.bool true)/\aa [ba] w w'/\
   ∃S',bC w' bt ba n S'/\cO S' (-1) (aj (f::P) m).root (aj (f::P) m)/\∀y,y∉m.nodes++dV (f::P)->S.at S' y:=by
 obtain ⟨c1,c2⟩:=OG hT hM hm hn;obtain ⟨m1,m2⟩:=bN hm;have hp:=(fq _ _).1 hT;have hk:S.kid f.2.1 f.1=-1:=hp.2.1;have hu:S.u m.root.toNat=-1:=by
  cases m with
  | nil=>exact absurd rfl hm
  | node y a b=>exact hM.2.1
 have hf:f.1<n:=hlt _ (by simp [dV]);have hr:m.root.toNat<n:=hlt _ (by simp [m1]);have hne:f.1≠m.root.toNat:=fun e=>by
  rw [θ] at hn;exact hn.2.2 _ m1 f.1 (by simp [dV]) e.symm
 have k:=Ab bt ba n S f.1 m.root.toNat f.2.1 w h hf hr hne hu hk;rw [←m2] at k;refine k.mono ?_;rintro e w' ⟨rfl,h',hu'⟩;refine ⟨rfl,hu',_,h',c1,fun y hy=>c2 y (fun e=>hy ?_) (fun e=>hy ?_)⟩
 ·rw [e];simp [dV]
 ·rw [e];simp [m1]
theorem KG (h:bC w bt ba n S) {P:List Fr} {x:Nat} {l r:BT} (hT:cO S (-1) (aj P (.node x l r)).root (aj P (.node x l r))) (hx:x<n) :
  Calls Tryz.prog 250 #[.pointer (some ⟨bt,0,none⟩),.int .i64 (x:Int)] w fun e w'=>e=.returned (.tuple #[.int .i64 (tv (CY P)),.bool (tb (CY P))])/\∃k,w'=w.drewN k:=by
 have k:=SF bt ba n S (x:Int) w h;have e:pg n S (x:Int)=CY P:=by
  unfold pg;rw [if_pos ω,π];exact ((fq _ _).1 hT).1.2.1
 rw [e] at k;exact k
theorem CW (h:bC w bt ba n S) {p:Int} {x:Nat} {l r:BT} (hT:cO S p x (.node x l r)) (hx:x<n) :
  Calls Tryz.prog 248 #[.pointer (some ⟨bt,0,none⟩),.int .i64 (x:Int)] w fun e w'=>e=.returned (.tuple #[.int .i64 (tv l.root),.bool (tb l.root)])/\∃k,w'=w.drewN k:=by
 have e:ik n S (x:Int) false=l.root:=by
  unfold ik TS.kid;rw [if_pos ω];simp only [π];exact hT.2.2.1.root
 have k:=Bc bt ba n S (x:Int) w h;rw [e] at k;exact k
theorem vJ (h:bC w bt ba n S) {p:Int} {x:Nat} {l r:BT} (hT:cO S p x (.node x l r)) (hx:x<n) :
  Calls Tryz.prog 249 #[.pointer (some ⟨bt,0,none⟩),.int .i64 (x:Int)] w fun e w'=>e=.returned (.tuple #[.int .i64 (tv r.root),.bool (tb r.root)])/\∃k,w'=w.drewN k:=by
 have e:ik n S (x:Int) true=r.root:=by
  unfold ik TS.kid;rw [if_pos ω];simp only [if_true,π];exact hT.2.2.2.root
 have k:=pV bt ba n S (x:Int) w h;rw [e] at k;exact k
theorem Co (h:bC w bt ba n S) {f:Fr} {P:List Fr} {x:Nat} {l r:BT} (hT:cO S (-1) (aj (f::P) (.node x l r)).root (aj (f::P) (.node x l r))) (hn:(aj (f::P) (.node x l r)).nodes.Nodup) (hf:f.1<n) :
  ∃z:Int,(z == (x:Int))=f.2.1/\Calls Tryz.prog 249 #[.pointer (some ⟨bt,0,none⟩),.int .i64 (f.1:Int)] w fun e w'=>e=.returned (.tuple #[.int .i64 (tv z),.bool (tb z)])/\∃k,w'=w.drewN k:=by
 refine ⟨S.r f.1,?_,?_⟩
 ·have hp:=(fq _ _).1 hT;obtain ⟨q1,q2,_,_⟩:=hp.2;unfold TS.kid at q1 q2;cases hs:f.2.1
  ·rw [hs] at q1 q2;simp only [Bool.not_false,if_true] at q2;have e2:=q2.root;have hx:x∉f.2.2.nodes:=fun hm=>by
    have h1:=(aR (f::P) (.node x l r)).nodup_iff.1 hn;rw [θ] at h1;exact h1.2.2 x (by simp [BT.nodes]) x (by simp [dV,hm]) rfl
   have:S.r f.1≠(x:Int):=fun e=>by
    rw [e2] at e
    by_cases hnil:f.2.2=.nil
    ·rw [hnil] at e;have e:(-1:Int)=x:=e;omega
    ·have:=(bN hnil).1;rw [e] at this;exact hx this
   simpa using this
  ·rw [hs] at q1;simp only [if_true] at q1;rw [q1];simp [BT.root]
 ·have k:=pV bt ba n S (f.1:Int) w h;have e:ik n S (f.1:Int) true=S.r f.1:=by unfold ik TS.kid;rw [if_pos ω];simp
  rw [e] at k;exact k
end
end Go.Proofs.YtklibcncmbofpaaGreat
