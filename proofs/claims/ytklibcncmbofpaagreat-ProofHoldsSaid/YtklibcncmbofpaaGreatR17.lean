/-
  Lemmas for ProofHolds: Spine, Spine2, Bt, Bt2, Bt3, Bt4. Conditions: those of each lemma.
-/
import Derived.Test.YtklibcncmbofpaaGreatR01
set_option linter.all false
set_option maxHeartbeats 8000000
set_option maxRecDepth 10000
namespace Go.Proofs.YtklibcncmbofpaaGreat
open Go Go.RowKit
structure TS where
 l:Nat->Int
 r:Nat->Int
 u:Nat->Int
def TS.none:TS:=⟨fun _=>-1,fun _=>-1,fun _=>-1⟩
def TS.kid(S:TS)(s:Bool)(x:Nat):Int:=if s then S.r x else S.l x
def dI(S:TS)(j:Nat):Value:=.int .i64 (if j % 3=0 then S.l (j / 3)else if j % 3=1 then S.r (j / 3)else S.u (j / 3))
theorem ql(S:TS)(x:Nat):dI S (x*3)=.int .i64 (S.l x):=by unfold dI;rw[if_pos ω,show x*3 / 3=x by omega]
theorem pQ(S:TS)(x:Nat):dI S (x*3+1)=.int .i64 (S.r x):=by unfold dI;rw[if_neg ω,if_pos ω,show(x*3+1) / 3=x by omega]
theorem tV(S:TS)(x:Nat):dI S (x*3+2)=.int .i64 (S.u x):=by unfold dI;rw[if_neg ω,if_neg ω,show(x*3+2) / 3=x by omega]
structure bA(w:World)(bt ba n:Nat)(S:TS):Prop where
 head:aL w bt 257 1 (fun _=>.slice (some ⟨ba,0,none⟩) n n)
 row:aL w ba 260 (n*3) (dI S)
 ne:bt≠ba
 le:n<=65536
theorem bA.upd{w w':World}{F:List Nat}{bt ba n:Nat}{S:TS}(h:bA w bt ba n S)(hu:aa F w w')(h1:bt∉F)(h2:ba∉F):bA w' bt ba n S:=
 ⟨h.head.upd hu h1,h.row.upd hu h2,h.ne,h.le⟩
theorem bA.drewN{w:World}{bt ba n:Nat}{S:TS}(h:bA w bt ba n S)(k:Nat):bA (w.drewN k) bt ba n S:=⟨h.head,h.row,h.ne,h.le⟩
theorem bA.drew{w:World}{bt ba n:Nat}{S:TS}(h:bA w bt ba n S):bA w.drew bt ba n S:=⟨h.head,h.row,h.ne,h.le⟩
theorem NP:(Tryz.prog.info? 260).map (fun i=>(i.zero,i.size,i.bytes))=some (some (.agg #[.int .i64 0,.int .i64 0,.int .i64 0]),3,24):=by kernel_rfl
theorem wQ(n:Nat)(w:World)(h:n<=65536) :
  Calls Tryz.prog 112 #[.int .i64 (n:Int)] w fun e w'=>∃bt ba,e=.returned (.tuple #[.pointer (some ⟨bt,0,none⟩),.int .i64 0])/\bA w' bt ba n TS.none/\aa [] w w'/\w.heap.size<=bt/\w.heap.size<=ba:=by
 go_enter Tryz.func112,Tryz.ntmps112
 go_wp2_with (at_make;refine wpList_make_row rfl _ 255 rfl 260 (.agg #[.int .i64 0,.int .i64 0,.int .i64 0]) 3 24 Tryz.underlying255 NP n rfl ω μ ?_;intro w1 hr1 hu1)
 have hlt:=hr1.lt
 go_loopw [21] (fun i wr=>∃ (k:Nat) (f:Nat->Value),k<=n/\i=.int .i64 k/\aL wr w1.heap.size 257 1 (fun _=>.slice (some ⟨w.heap.size,0,none⟩) n n)/\aL wr w.heap.size 260 (n*3) f/\(∀j,j<k*3->f j=.int .i64 (-1))/\aa [] w wr) (fun i _=>n-(intOf i).toNat)
 case atStart=>exact⟨0,_,ω,rfl,dP _ _ _ |>.ext (fun j hj=>by simp at hj;subst hj;rfl),hr1.alloc _,ω,hu1.alloc _⟩
 case round=>
  obtain⟨k,f,hk,rfl,hH,hR,hf,hu⟩:=hrel
  by_cases hkn:k<n
  ·have c0:=hH.cell 0 ω;have d0:=hR.cell (k*3) ω;have d1:=hR.cell (k*3+1) ω;have d2:=hR.cell (k*3+2) ω;have e0:=hR.free (k*3);have e1:=hR.free (k*3+1);have e2:=hR.free (k*3+2);have HF:=χ hf;clear hf;go_wp2
   go_roundw
   case rel=>
    refine⟨k+1,_,ω,by go_num,((hH.far _ _ ζ).far _ _ ζ).far _ _ ζ,((hR.set _ _).set _ _).set _ _,fun j hj=>?_,((hu.setCell (Or.inr σ) _).setCell (Or.inr σ) _).setCell (Or.inr σ) _⟩
    show(if j=k*3+2 then _ else if j=k*3+1 then _ else if j=k*3 then _ else f j)=_
    split
    ·rfl
    ·split
     ·rfl
     ·split
      ·rfl
      ·exact HF.out j ω
   case measure=>simp[intOf];omega
  ·obtain rfl:k=n:=ω;go_wp2;go_ret2;exact⟨_,_,rfl,⟨hH,hR.ext (fun j hj=>by rw[hf j hj];unfold dI TS.none;simp),ω,h⟩,hu,hu1.size,Nat.le_refl _⟩
theorem qK(bt ba n:Nat)(S:TS)(x:Int)(w:World)(h:bA w bt ba n S)(b:Bool)(hb:b=decide (0<=x/\x<n)) :
  Calls Tryz.prog 257 #[.pointer (some ⟨bt,0,none⟩),.int .i64 x] w fun e w'=>e=.returned (.bool b)/\w'=w:=by
 have hle:=h.le;have c0:=h.head.cell 0 ω;clear h;subst hb
 by_cases h0:0<=x
 ·by_cases h1:x<n
  ·go_enter Tryz.func257,Tryz.ntmps257
   go_wp2;go_ret;exact⟨aT (by simp[h0,h1]),rfl⟩
  ·go_enter Tryz.func257,Tryz.ntmps257
   go_wp2;go_ret;exact⟨aT (by simp[h0,h1]),rfl⟩
 ·go_enter Tryz.func257,Tryz.ntmps257
  go_wp2;go_ret;exact⟨aT ζ,rfl⟩
theorem sO(b:Bool)(w:World):Calls Tryz.prog 253 #[.bool b] w fun e w'=>e=.returned (.int .i64 (if b then 1 else 0))/\w'=w:=by
 cases b
 all_goals
  go_enter Tryz.func253,Tryz.ntmps253
  go_wp2;go_ret;exact⟨rfl,rfl⟩
theorem told_none(w:World):Calls Tryz.prog 256 #[.int .i64 (-1)] w fun e w'=>e=.returned (.tuple #[.int .i64 0,.bool false])/\w'=w:=by
 go_enter Tryz.func256,Tryz.ntmps256
 go_wp2;go_ret2;exact⟨rfl,rfl⟩
theorem NJ(x:Int)(w:World)(h:x≠-1):Calls Tryz.prog 256 #[.int .i64 x] w fun e w'=>e=.returned (.tuple #[.int .i64 x,.bool true])/\w'=w:=by
 have h':(x == -1)=false:=by simpa using h
 go_enter Tryz.func256,Tryz.ntmps256
 go_wp2;go_ret2;exact⟨rfl,rfl⟩
def gY(n:Nat)(S:TS)(x:Int)(r:Bool):Int:=if 0<=x/\x<n then S.kid r x.toNat else -1
def pE(n:Nat)(S:TS)(x:Int):Int:=if 0<=x/\x<n then S.u x.toNat else -1
theorem yZ(bt ba n:Nat)(S:TS)(x:Int)(r:Bool)(w:World)(h:bA w bt ba n S) :
  Calls Tryz.prog 254 #[.pointer (some ⟨bt,0,none⟩),.int .i64 x,.bool r] w fun e w'=>e=.returned (.int .i64 (gY n S x r))/\∃k,w'=w.drewN k:=by
 by_cases hx:0<=x/\x<n
 ·obtain⟨k,rfl⟩:∃k:Nat,x=k:=⟨x.toNat,ω⟩;have hk:k<n:=ω;have e:gY n S k r=S.kid r k:=by unfold gY;rw[if_pos hx];simp
  have hle:=h.le;have c0:=h.head.cell 0 ω;have d0:=h.row.cellAt (k*3) ω (ql S k);have d1:=h.row.cellAt (k*3+1) ω (pQ S k);rw[e];clear e;cases r
  all_goals
   unfold TS.kid;simp only[if_true,if_false,Bool.false_eq_true]
   go_enter Tryz.func254,Tryz.ntmps254
   go_wp2_with (go_at_call 257;refine(qK bt ba n S k _ h true (by simp[hk])).mono ?_;rintro e w' ⟨rfl,rfl⟩)
   go_quiet ((go_at_call 253;exact Calls.quiet_of_same (sO _ _)))
   go_wp2;go_ret;exact⟨rfl,_,rfl⟩
 ·have e:gY n S x r=-1:=by unfold gY;rw[if_neg hx]
  rw[e];clear e
  go_enter Tryz.func254,Tryz.ntmps254
  go_wp2_with (go_at_call 257;refine(qK bt ba n S x _ h false (by simp[hx])).mono ?_;rintro e w' ⟨rfl,rfl⟩)
  go_ret;exact⟨rfl,0,rfl⟩
theorem uB(bt ba n:Nat)(S:TS)(x:Int)(w:World)(h:bA w bt ba n S) :
  Calls Tryz.prog 252 #[.pointer (some ⟨bt,0,none⟩),.int .i64 x] w fun e w'=>e=.returned (.int .i64 (pE n S x))/\w'=w:=by
 by_cases hx:0<=x/\x<n
 ·obtain⟨k,rfl⟩:∃k:Nat,x=k:=⟨x.toNat,ω⟩;have hk:k<n:=ω;have e:pE n S k=S.u k:=by unfold pE;rw[if_pos hx];simp
  have hle:=h.le;have c0:=h.head.cell 0 ω;have d0:=h.row.cellAt (k*3+2) ω (tV S k);rw[e];clear e
  go_enter Tryz.func252,Tryz.ntmps252
  go_wp2_with (go_at_call 257;refine(qK bt ba n S k _ h true (by simp[hk])).mono ?_;rintro e w' ⟨rfl,rfl⟩)
  go_ret;exact⟨rfl,rfl⟩
 ·have e:pE n S x=-1:=by unfold pE;rw[if_neg hx]
  rw[e];clear e
  go_enter Tryz.func252,Tryz.ntmps252
  go_wp2_with (go_at_call 257;refine(qK bt ba n S x _ h false (by simp[hx])).mono ?_;rintro e w' ⟨rfl,rfl⟩)
  go_ret;exact⟨rfl,rfl⟩
def tv(x:Int):Int:=if x=-1 then 0 else x
def tb(x:Int):Bool:=decide (x≠-1)
theorem zU(x:Int)(w:World):Calls Tryz.prog 256 #[.int .i64 x] w fun e w'=>e=.returned (.tuple #[.int .i64 (tv x),.bool (tb x)])/\w'=w:=by
 by_cases h:x=-1
 ·subst h;exact told_none w
 ·have e1:tv x=x:=by unfold tv;rw[if_neg h]
  have e2:tb x=true:=by unfold tb;simp[h]
  rw[e1,e2];exact NJ x w h
theorem zy(bt ba n:Nat)(S:TS)(x:Int)(w:World)(h:bA w bt ba n S) :
  Calls Tryz.prog 248 #[.pointer (some ⟨bt,0,none⟩),.int .i64 x] w fun e w'=>e=.returned (.tuple #[.int .i64 (tv (gY n S x false)),.bool (tb (gY n S x false))])/\∃k,w'=w.drewN k:=by
 generalize hy:gY n S x false=y;have c1:=yZ bt ba n S x false w h;rw[hy]at c1;have c2:=fun W=>zU y W
 go_enter Tryz.func248,Tryz.ntmps248
 go_wp2_with (first|(go_at_call 254;refine c1.mono ?_;rintro e w' ⟨rfl,k,rfl⟩)|(go_at_call 256;refine(c2 _).mono ?_;rintro e w' ⟨rfl,rfl⟩))
 go_ret2;exact⟨rfl,_,rfl⟩
theorem qg(bt ba n:Nat)(S:TS)(x:Int)(w:World)(h:bA w bt ba n S) :
  Calls Tryz.prog 249 #[.pointer (some ⟨bt,0,none⟩),.int .i64 x] w fun e w'=>e=.returned (.tuple #[.int .i64 (tv (gY n S x true)),.bool (tb (gY n S x true))])/\∃k,w'=w.drewN k:=by
 generalize hy:gY n S x true=y;have c1:=yZ bt ba n S x true w h;rw[hy]at c1;have c2:=fun W=>zU y W
 go_enter Tryz.func249,Tryz.ntmps249
 go_wp2_with (first|(go_at_call 254;refine c1.mono ?_;rintro e w' ⟨rfl,k,rfl⟩)|(go_at_call 256;refine(c2 _).mono ?_;rintro e w' ⟨rfl,rfl⟩))
 go_ret2;exact⟨rfl,_,rfl⟩
theorem QT(bt ba n:Nat)(S:TS)(x:Int)(w:World)(h:bA w bt ba n S) :
  Calls Tryz.prog 250 #[.pointer (some ⟨bt,0,none⟩),.int .i64 x] w fun e w'=>e=.returned (.tuple #[.int .i64 (tv (pE n S x)),.bool (tb (pE n S x))])/\∃k,w'=w.drewN k:=by
 generalize hy:pE n S x=y;have c1:=uB bt ba n S x w h;rw[hy]at c1;have c2:=fun W=>zU y W
 go_enter Tryz.func250,Tryz.ntmps250
 go_wp2_with (first|(go_at_call 252;refine c1.mono ?_;rintro e w' ⟨rfl,rfl⟩)|(go_at_call 256;refine(c2 _).mono ?_;rintro e w' ⟨rfl,rfl⟩))
 go_ret2;exact⟨rfl,0,rfl⟩
def TS.aH(S:TS)(p:Nat)(s:Bool)(v:Int):TS:=if s then ⟨S.l,fun i=>if i=p then v else S.r i,S.u⟩else ⟨fun i=>if i=p then v else S.l i,S.r,S.u⟩
def TS.bR(S:TS)(p:Nat)(v:Int):TS:=⟨S.l,S.r,fun i=>if i=p then v else S.u i⟩
theorem bA.aH{w:World}{bt ba n:Nat}{S:TS}(h:bA w bt ba n S)(p:Nat)(s:Bool)(v:Int) :
  bA (w.setCell ⟨ba,p*3+(if s then 1 else 0),none⟩ (.int .i64 v)) bt ba n (S.aH p s v):=by
 refine⟨h.head.far _ _ h.ne,(h.row.set _ _).ext (fun j hj=>?_),h.ne,h.le⟩;cases s
 ·unfold dI TS.aH
  by_cases hj2:j=p*3
  ·subst hj2;simp
  ·have:¬ (j % 3=0/\j / 3=p):=ω
   by_cases h0:j % 3=0
   ·simp[hj2,h0];intro hh;exfalso;omega
   ·simp[hj2,h0]
 ·unfold dI TS.aH
  by_cases hj2:j=p*3+1
  ·subst hj2;simp;intro hh;exfalso;omega
  ·by_cases h0:j % 3=1
   ·simp[hj2,h0];intro hh;exfalso;omega
   ·simp[hj2,h0]
theorem bA.bR{w:World}{bt ba n:Nat}{S:TS}(h:bA w bt ba n S)(p:Nat)(v:Int) :
  bA (w.setCell ⟨ba,p*3+2,none⟩ (.int .i64 v)) bt ba n (S.bR p v):=by
 refine⟨h.head.far _ _ h.ne,(h.row.set _ _).ext (fun j hj=>?_),h.ne,h.le⟩;unfold dI TS.bR
 by_cases hj2:j=p*3+2
 ·subst hj2;simp;intro hh;exfalso;omega
 ·by_cases h0:j % 3=0
  ·simp[hj2,h0]
  ·by_cases h1:j % 3=1
   ·simp[hj2,h1]
   ·simp[hj2,h0,h1];intro hh;exfalso;omega
def lH(S:TS)(p x:Int)(r:Bool):TS:=(S.aH p.toNat r x).bR x.toNat p
theorem Ac(bt ba n:Nat)(S:TS)(i j:Nat)(r:Bool)(w:World)(h:bA w bt ba n S)(hi:i<n)(hj:j<n)(hne:i≠j)(hu:S.u j=-1)(hk:S.kid r i=-1) :
  Calls Tryz.prog 251 #[.pointer (some ⟨bt,0,none⟩),.int .i64 (i:Int),.int .i64 (j:Int),.bool r] w fun e w'=>e=.returned (.bool true)/\bA w' bt ba n (lH S i j r)/\aa [ba] w w':=by
 have hle:=h.le;have hbne:=h.ne;have hbne':ba≠bt:=fun e=>h.ne e.symm;have c0:=h.head.cell 0 ω;have d0:=h.row.cellAt (i*3) ω (ql S i);have d1:=h.row.cellAt (i*3+1) ω (pQ S i);have d2:=h.row.cellAt (j*3+2) ω (tV S j);have e0:=h.row.free (i*3);have e1:=h.row.free (i*3+1);have e2:=h.row.free (j*3+2);have k1:=qK bt ba n S i w h true (by simp[hi]);have k2:=qK bt ba n S j w h true (by simp[hj]);have k3:=uB bt ba n S j w h;rw[show pE n S j=-1 by unfold pE;rw[if_pos ω];simpa using hu]at k3;have k4:=yZ bt ba n S i r w h;rw[show gY n S i r=-1 by unfold gY;rw[if_pos ω];simpa using hk]at k4
 have hij:((i:Int) == (j:Int))=false:=ζ;have H:=χ h;clear h hu hk;cases r
 ·go_enter Tryz.func251,Tryz.ntmps251
  go_wp2_with (first
   | (go_at_call 257;(with_reducible refine(k1).mono ?_);rintro e w' ⟨rfl,rfl⟩)
   | (go_at_call 257;(with_reducible refine(k2).mono ?_);rintro e w' ⟨rfl,rfl⟩)
   | (go_at_call 252;(with_reducible refine(k3).mono ?_);rintro e w' ⟨rfl,rfl⟩)
   | (go_at_call 254;(with_reducible refine(k4).mono ?_);rintro e w' ⟨rfl,kd,rfl⟩))
  go_region_held3 (fun W=>W.cell? ⟨bt,0,none⟩=some (.slice (some ⟨ba,0,none⟩) n n)) (go_keep) ((go_at_call 253;refine(sO _ _).mono ?_;rintro e w' ⟨rfl,rfl⟩))
  go_wp2;go_ret;exact⟨rfl,((H.out.drewN _).aH i false j).bR j i,(((aa.refl _ _).drewN _).setCell (Or.inl σ) _).setCell (Or.inl σ) _⟩
 ·go_enter Tryz.func251,Tryz.ntmps251
  go_wp2_with (first
   | (go_at_call 257;(with_reducible refine(k1).mono ?_);rintro e w' ⟨rfl,rfl⟩)
   | (go_at_call 257;(with_reducible refine(k2).mono ?_);rintro e w' ⟨rfl,rfl⟩)
   | (go_at_call 252;(with_reducible refine(k3).mono ?_);rintro e w' ⟨rfl,rfl⟩)
   | (go_at_call 254;(with_reducible refine(k4).mono ?_);rintro e w' ⟨rfl,kd,rfl⟩))
  go_region_held3 (fun W=>W.cell? ⟨bt,0,none⟩=some (.slice (some ⟨ba,0,none⟩) n n)) (go_keep) ((go_at_call 253;refine(sO _ _).mono ?_;rintro e w' ⟨rfl,rfl⟩))
  go_wp2;go_ret;exact⟨rfl,((H.out.drewN _).aH i true j).bR j i,(((aa.refl _ _).drewN _).setCell (Or.inl σ) _).setCell (Or.inl σ) _⟩
theorem D9(bt ba n:Nat)(S:TS)(x:Int)(w:World)(h:bA w bt ba n S)(hu:pE n S x=-1) :
  Calls Tryz.prog 244 #[.pointer (some ⟨bt,0,none⟩),.int .i64 x] w fun e w'=>e=.returned (.tuple #[.int .i64 0,.bool false])/\w'=w:=by
 have k3:=uB bt ba n S x w h;rw[hu]at k3;clear h hu
 go_enter Tryz.func244,Tryz.ntmps244
 go_wp2_with ((go_at_call 252;(with_reducible refine(k3).mono ?_);rintro e w' ⟨rfl,rfl⟩))
 go_ret2;exact⟨rfl,rfl⟩
def mX(S:TS)(i j:Nat):TS:=(S.aH i (decide (S.r i=j)) (-1)).bR j (-1)
theorem DV(bt ba n:Nat)(S:TS)(i j:Nat)(w:World)(h:bA w bt ba n S)(hi:i<n)(hj:j<n)(hu:S.u j=i) :
  Calls Tryz.prog 244 #[.pointer (some ⟨bt,0,none⟩),.int .i64 (j:Int)] w fun e w'=>e=.returned (.tuple #[.int .i64 (i:Int),.bool true])/\bA w' bt ba n (mX S i j)/\aa [ba] w w':=by
 have hle:=h.le;have hbne:ba≠bt:=fun e=>h.ne e.symm;have c0:=h.head.cell 0 ω;have d0:=h.row.cellAt (i*3) ω (ql S i);have d1:=h.row.cellAt (i*3+1) ω (pQ S i);have d2:=h.row.cellAt (j*3+2) ω (tV S j);have e0:=h.row.free (i*3);have e1:=h.row.free (i*3+1);have e2:=h.row.free (j*3+2);have k3:=uB bt ba n S j w h;rw[show pE n S j=i by unfold pE;rw[if_pos ω];simpa using hu]at k3;have k4:=fun W (hW:bA W bt ba n S)=>yZ bt ba n S i true W hW;rw[show gY n S i true=S.r i by unfold gY TS.kid;rw[if_pos ω];simp]at k4;have H:=χ h;have hi1:((i:Int) == -1)=false:=σ;clear h
 by_cases hr:S.r i=j
 ·have hb:(S.r i == (j:Int))=true:=by simpa using hr
  have ec:mX S i j=(S.aH i true (-1)).bR j (-1):=by unfold mX;rw[decide_eq_true hr]
  have EC:=χ ec;clear hr ec hu
  go_enter Tryz.func244,Tryz.ntmps244
  go_wp2_with ((go_at_call 252;(with_reducible refine(k3).mono ?_);rintro e w' ⟨rfl,rfl⟩))
  go_region_held3 (fun W=>W.cell? ⟨bt,0,none⟩=some (.slice (some ⟨ba,0,none⟩) n n)) (go_keep)
   (first|((go_at_call 253;refine(sO _ _).mono ?_;rintro e w' ⟨rfl,rfl⟩))|((go_at_call 254;refine(k4 _ (H.out.drew)).mono ?_;rintro e w' ⟨rfl,kd,rfl⟩)))
  go_wp2;go_ret2;exact⟨rfl,by rw[EC.out];exact((H.out.drewN _).aH i true (-1)).bR j (-1),(((aa.refl _ _).drewN _).setCell (Or.inl σ) _).setCell (Or.inl σ) _⟩
 ·have hb:(S.r i == (j:Int))=false:=by simpa using hr
  have ec:mX S i j=(S.aH i false (-1)).bR j (-1):=by unfold mX;rw[decide_eq_false hr]
  have EC:=χ ec;clear hr ec hu
  go_enter Tryz.func244,Tryz.ntmps244
  go_wp2_with ((go_at_call 252;(with_reducible refine(k3).mono ?_);rintro e w' ⟨rfl,rfl⟩))
  go_region_held3 (fun W=>W.cell? ⟨bt,0,none⟩=some (.slice (some ⟨ba,0,none⟩) n n)) (go_keep)
   (first|((go_at_call 253;refine(sO _ _).mono ?_;rintro e w' ⟨rfl,rfl⟩))|((go_at_call 254;refine(k4 _ (H.out.drew)).mono ?_;rintro e w' ⟨rfl,kd,rfl⟩)))
  go_wp2;go_ret2;exact⟨rfl,by rw[EC.out];exact((H.out.drewN _).aH i false (-1)).bR j (-1),(((aa.refl _ _).drewN _).setCell (Or.inl σ) _).setCell (Or.inl σ) _⟩
def jC(S:TS)(i:Nat):TS:=(S.aH i false (S.r i)).aH i true (S.l i)
theorem zJ(bt ba n:Nat)(S:TS)(i:Nat)(w:World)(h:bA w bt ba n S)(hi:i<n) :
  Calls Tryz.prog 259 #[.pointer (some ⟨bt,0,none⟩),.int .i64 (i:Int)] w fun e w'=>e=.returned (.bool true)/\bA w' bt ba n (jC S i)/\aa [ba] w w':=by
 have hle:=h.le;have c0:=h.head.cell 0 ω;have d0:=h.row.cellAt (i*3) ω (ql S i);have d1:=h.row.cellAt (i*3+1) ω (pQ S i);have e0:=h.row.free (i*3);have e1:=h.row.free (i*3+1);have k1:=qK bt ba n S i w h true (by simp[hi]);have H:=χ h;clear h
 go_enter Tryz.func259,Tryz.ntmps259
 go_wp2_with ((go_at_call 257;(with_reducible refine(k1).mono ?_);rintro e w' ⟨rfl,rfl⟩))
 go_region
 go_wp2;go_ret;exact⟨rfl,((H.out.aH i false (S.r i)).aH i true (S.l i)).drew,(((aa.refl _ _).setCell (Or.inl σ) _).setCell (Or.inl σ) _).drew⟩
end Go.Proofs.YtklibcncmbofpaaGreat
namespace Go.Proofs.YtklibcncmbofpaaGreat
inductive BT where
 | nil:BT
 | node:Nat->BT->BT->BT
def BT.root:BT->Int | .nil=>-1 | .node x _ _=>x
def BT.nodes:BT->List Nat | .nil=>[] | .node x l r=>x::(l.nodes++r.nodes)
def BT.size:BT->Nat | .nil=>0 | .node _ l r=>l.size+r.size+1
theorem BT.mf:∀t:BT,t.nodes.length=t.size
 | .nil=>rfl
 | .node x l r=>by simp[BT.nodes,BT.size,BT.mf l,BT.mf r]
def bY(S:TS):Int->Int->BT->Prop
 | _,z,.nil=>z=-1
 | p,z,.node x l r=>z=x/\S.u x=p/\bY S x (S.l x) l/\bY S x (S.r x) r
theorem bY.root{S:TS}:∀ {t:BT} {p z:Int},bY S p z t->z=t.root
 | .nil,_,_,h=>h
 | .node _ _ _,_,_,h=>h.1
def TS.at(S S':TS)(x:Nat):Prop:=S'.l x=S.l x/\S'.r x=S.r x/\S'.u x=S.u x
theorem bY.frame{S S':TS}:∀ {t:BT} {p z:Int},bY S p z t->(∀x,x∈t.nodes->S.at S' x)->bY S' p z t
 | .nil,_,_,h,_=>h
 | .node x l r,p,z,h,hs=>by
  have hx:=hs x (by simp[BT.nodes]);refine⟨h.1,by rw[hx.2.2];exact h.2.1,?_,?_⟩
  ·rw[hx.1];exact bY.frame h.2.2.1 (fun y hy=>hs y (by simp[BT.nodes,hy]))
  ·rw[hx.2.1];exact bY.frame h.2.2.2 (fun y hy=>hs y (by simp[BT.nodes,hy]))
theorem bY.Ou{S S':TS}{t:BT}{p p' z:Int}(h:bY S p z t)(hn:t.nodes.Nodup)(hs:∀x,x∈t.nodes->S'.l x=S.l x/\S'.r x=S.r x/\(x≠t.root.toNat->S'.u x=S.u x))(hr:t≠.nil->S'.u t.root.toNat=p'):bY S' p' z t:=by
 cases t with
 | nil=>exact h
 | node x l r=>
  have hx:=hs x (by simp[BT.nodes]);simp only[BT.nodes,List.nodup_cons,τ,not_or]at hn;refine⟨h.1,?_,?_,?_⟩
  ·have:=hr σ;simpa[BT.root]using this
  ·rw[hx.1];refine h.2.2.1.frame (fun y hy=>?_);have hy':=hs y (by simp[BT.nodes,hy]);exact⟨hy'.1,hy'.2.1,hy'.2.2 (fun e=>by simp[BT.root]at e;rw[e]at hy;exact hn.1.1 hy)⟩
  ·rw[hx.2.1];refine h.2.2.2.frame (fun y hy=>?_);have hy':=hs y (by simp[BT.nodes,hy]);exact⟨hy'.1,hy'.2.1,hy'.2.2 (fun e=>by simp[BT.root]at e;rw[e]at hy;exact hn.1.2 hy)⟩
theorem bL{t:BT}(h:t≠.nil):t.root.toNat∈t.nodes/\t.root=(t.root.toNat:Int):=by
 cases t with
 | nil=>exact absurd rfl h
 | node x l r=>simp[BT.root,BT.nodes]
/-! ### ranks; what a merge gives -/
def BT.rank:BT->Nat | .nil=>0 | .node _ _ r=>r.rank+1
def aB(x:Nat)(l r:BT):BT:=if l.rank<r.rank then .node x r l else .node x l r
def gH(rk:Nat->Nat):BT->Prop
 | .nil=>True
 | .node x l r=>rk x=r.rank+1/\gH rk l/\gH rk r
theorem gH.frame{rk oF:Nat->Nat}:∀ {t:BT},gH rk t->(∀x,x∈t.nodes->oF x=rk x)->gH oF t
 | .nil,_,_=>trivial
 | .node x l r,h,hs=>⟨by rw[hs x (by simp[BT.nodes])];exact h.1,h.2.1.frame (fun y hy=>hs y (by simp[BT.nodes,hy])),h.2.2.frame (fun y hy=>hs y (by simp[BT.nodes,hy]))⟩
theorem gH.root{rk:Nat->Nat}{t:BT}(h:gH rk t)(ht:t≠.nil):rk t.root.toNat=t.rank:=by
 cases t with
 | nil=>exact absurd rfl ht
 | node x l r=>simpa[BT.root,BT.rank]using h.1
def Lean:BT->Prop
 | .nil=>True
 | .node _ l r=>r.rank<=l.rank/\Lean l/\Lean r
theorem lg{x:Nat}{l r:BT}(hl:Lean l)(hr:Lean r):Lean (aB x l r):=by
 unfold aB;split
 ·exact⟨ω,hr,hl⟩
 ·exact⟨ω,hl,hr⟩
def Heap(A:NS):BT->Prop
 | .nil=>True
 | .node x l r=>(∀y,y∈l.nodes->bZ A x y)/\(∀y,y∈r.nodes->bZ A x y)/\Heap A l/\Heap A r
theorem lF(x:Nat)(l r:BT):(aB x l r).nodes.Perm (x::(l.nodes++r.nodes)):=by
 unfold aB;split
 ·simp only[BT.nodes];exact List.Perm.cons x List.perm_append_comm
 ·exact List.Perm.refl _
theorem sV{A:NS}{x:Nat}{l r:BT}(h1:∀y,y∈l.nodes->bZ A x y)(h2:∀y,y∈r.nodes->bZ A x y)(hl:Heap A l)(hr:Heap A r):Heap A (aB x l r):=by
 unfold aB;split
 ·exact⟨h2,h1,hr,hl⟩
 ·exact⟨h1,h2,hl,hr⟩
theorem jE(x:Nat)(l r:BT):(aB x l r).root=x:=by unfold aB;split<;>rfl
def aI(up:Nat->BT->BT->BT)(A:NS):BT->BT->BT×Nat
 | .nil,t=>(t,0)
 | .node x l r,.nil=>(.node x l r,0)
 | .node x l r,.node y l' r'=>
  if bZ A y x then (up y l' (aI up A r' (.node x l r)).1,(aI up A r' (.node x l r)).2+1)
  else (up x l (aI up A r (.node y l' r')).1,(aI up A r (.node y l' r')).2+1)
termination_by a b=>a.size+b.size
decreasing_by
 all_goals simp only[BT.size]
 all_goals omega
theorem mg(up:Nat->BT->BT->BT)(A:NS)(t:BT):aI up A .nil t=(t,0):=by rw[aI]
theorem oP(up:Nat->BT->BT->BT)(A:NS)(t:BT):aI up A t .nil=(t,0):=by cases t<;>rw[aI]
theorem oU(up:Nat->BT->BT->BT)(A:NS)(x y:Nat)(l r l' r':BT):aI up A (.node x l r) (.node y l' r')=
  if bZ A y x then (up y l' (aI up A r' (.node x l r)).1,(aI up A r' (.node x l r)).2+1)
  else (up x l (aI up A r (.node y l' r')).1,(aI up A r (.node y l' r')).2+1):=by rw[aI]
structure Uc(up:Nat->BT->BT->BT):Prop where
 nodes:∀x l r,(up x l r).nodes.Perm (x::(l.nodes++r.nodes))
 heap:∀A x l r,(∀y,y∈l.nodes->bZ A x y)->(∀y,y∈r.nodes->bZ A x y)->Heap A l->Heap A r->Heap A (up x l r)
 root:∀x l r,(up x l r).root=x
theorem nQ:Uc aB:=⟨lF,fun _ _ _ _=>sV,jE⟩
theorem mM{up:Nat->BT->BT->BT}(U:Uc up)(A:NS)(k:Nat):∀ (a b:BT),a.size+b.size<=k->
  (aI up A a b).1.nodes.Perm (a.nodes++b.nodes)/\(Heap A a->Heap A b->(a.nodes++b.nodes).Nodup->Heap A (aI up A a b).1):=by
 induction k with
 | zero=>
  intro a b hk;cases a with
  | nil=>rw[mg];exact⟨by simp[BT.nodes],fun _ h _=>h⟩
  | node x l r=>simp only[BT.size]at hk;omega
 | succ k ih=>
  intro a b hk;cases a with
  | nil=>rw[mg];exact⟨by simp[BT.nodes],fun _ h _=>h⟩
  | node x l r=>
   cases b with
   | nil=>rw[oP];exact⟨by simp[BT.nodes],fun h _ _=>h⟩
   | node y l' r'=>
    rw[oU];simp only[BT.size]at hk
    by_cases h:bZ A y x
    ·rw[if_pos h];obtain⟨i1,i2⟩:=ih r' (.node x l r) (by simp only[BT.size];omega);have i3:=U.nodes y l' (aI up A r' (.node x l r)).1;have i4:(y::(l'.nodes++(aI up A r' (.node x l r)).1.nodes)).Perm ((BT.node x l r).nodes++(BT.node y l' r').nodes):=by
      refine List.Perm.trans (List.Perm.cons y (List.Perm.append_left _ i1)) ?_;rw[←List.append_assoc]
      show(y::(l'.nodes++r'.nodes++(BT.node x l r).nodes)).Perm ((BT.node x l r).nodes++(y::(l'.nodes++r'.nodes)))
      exact(List.perm_append_comm (l₁:=y::(l'.nodes++r'.nodes)))
     refine⟨i3.trans i4,fun ha hb hn=>?_⟩;have hn2:(r'.nodes++(BT.node x l r).nodes).Nodup:=by
      rw[θ]at hn⊢;simp only[BT.nodes,List.nodup_cons,θ]at hn;refine⟨hn.2.1.2.2.1,by simp only[BT.nodes,List.nodup_cons,θ];exact hn.1,fun p hp q hq e=>hn.2.2 q hq p (by simp[hp]) e.symm⟩
     refine U.heap A y l' _ hb.1 (fun z hz=>?_) hb.2.2.1 (i2 hb.2.2.2 ha hn2);rcases τ.1 (i1.mem_iff.1 hz)with hz|hz
     ·exact hb.2.1 z hz
     ·simp only[BT.nodes,ρ,τ]at hz;rcases hz with rfl|hz|hz
      ·exact h
      ·exact bV h (ha.1 z hz)
      ·exact bV h (ha.2.1 z hz)
    ·rw[if_neg h];obtain⟨i1,i2⟩:=ih r (.node y l' r') (by simp only[BT.size];omega);have i3:=U.nodes x l (aI up A r (.node y l' r')).1;have i4:(x::(l.nodes++(aI up A r (.node y l' r')).1.nodes)).Perm ((BT.node x l r).nodes++(BT.node y l' r').nodes):=by
      refine List.Perm.trans (List.Perm.cons x (List.Perm.append_left _ i1)) ?_;rw[←List.append_assoc];exact List.Perm.refl _
     refine⟨i3.trans i4,fun ha hb hn=>?_⟩;have hn1:=hn;rw[θ]at hn;have hxy:x≠y:=hn.2.2 x (by simp[BT.nodes]) y (by simp[BT.nodes]);have hlt:bZ A x y:=by
      rcases je (A:=A) hxy with h'|h'
      ·exact h'
      ·exact absurd h' h
     have hn2:(r.nodes++(BT.node y l' r').nodes).Nodup:=by
      rw[θ];simp only[BT.nodes,List.nodup_cons,θ]at hn;refine⟨hn.1.2.2.1,by simp only[BT.nodes,List.nodup_cons,θ];exact hn.2.1,fun p hp q hq e=>hn.2.2 p (by simp[hp]) q hq e⟩
     refine U.heap A x l _ ha.1 (fun z hz=>?_) ha.2.2.1 (i2 ha.2.2.2 hb hn2);rcases τ.1 (i1.mem_iff.1 hz)with hz|hz
     ·exact ha.2.1 z hz
     ·simp only[BT.nodes,ρ,τ]at hz;rcases hz with rfl|hz|hz
      ·exact hlt
      ·exact bV hlt (hb.1 z hz)
      ·exact bV hlt (hb.2.1 z hz)
theorem vD(A:NS)(k:Nat):∀ (a b:BT),a.size+b.size<=k->Lean a->Lean b->Lean (aI aB A a b).1:=by
 induction k with
 | zero=>
  intro a b hk ha hb;cases a with
  | nil=>rw[mg];exact hb
  | node x l r=>simp only[BT.size]at hk;omega
 | succ k ih=>
  intro a b hk ha hb;cases a with
  | nil=>rw[mg];exact hb
  | node x l r=>
   cases b with
   | nil=>rw[oP];exact ha
   | node y l' r'=>
    rw[oU];simp only[BT.size]at hk
    split
    ·exact lg hb.2.1 (ih r' (.node x l r) (by simp only[BT.size];omega) hb.2.2 ha)
    ·exact lg ha.2.1 (ih r (.node y l' r') (by simp only[BT.size];omega) ha.2.2 hb)
def ve(up:Nat->BT->BT->BT):List (Nat×BT)->BT->BT
 | [],m=>m
 | (x,l)::t,m=>up x l (ve up t m)
theorem AJ(up:Nat->BT->BT->BT)(W:List (Nat×BT))(x:Nat)(l m:BT):ve up (W++[(x,l)]) m=ve up W (up x l m):=by
 induction W with
 | nil=>rfl
 | cons p t ih=>obtain⟨y,k⟩:=p;simp only[List.cons_append,ve,ih]
def uQ(W:List (Nat×BT)):List Nat:=W.flatMap fun p=>p.1::p.2.nodes
abbrev Fr:=Nat×Bool×BT
def bB(f:Fr)(t:BT):BT:=if f.2.1 then .node f.1 f.2.2 t else .node f.1 t f.2.2
def ai:List Fr->BT->BT
 | [],t=>t
 | f::P,t=>ai P (bB f t)
def CR:List Fr->Int|[]=>-1|f::_=>f.1
def dJ:List Fr->List Nat|[]=>[]|f::P=>f.1::(f.2.2.nodes++dJ P)
def Ub(S:TS):List Fr->Int->Prop
 | [],_=>True
 | f::P,z=>S.kid f.2.1 f.1=z/\bY S f.1 (S.kid (!f.2.1) f.1) f.2.2/\S.u f.1=CR P/\Ub S P f.1
theorem nY(f:Fr)(t:BT):(bB f t).root=f.1:=by unfold bB;split<;>rfl
theorem SN(f:Fr)(t:BT):bB f t≠.nil:=by unfold bB;split<;>simp
theorem jM(f:Fr)(t:BT):(bB f t).nodes.Perm (f.1::(t.nodes++f.2.2.nodes)):=by
 unfold bB;split
 ·simp only[BT.nodes];exact List.Perm.cons _ List.perm_append_comm
 ·exact List.Perm.refl _
theorem aP:∀ (P:List Fr) (t:BT),(ai P t).nodes.Perm (t.nodes++dJ P)
 | [],t=>by simp[ai,dJ]
 | f::P,t=>by
  refine(aP P (bB f t)).trans ?_;refine((jM f t).append_right (dJ P)).trans ?_;simp only[dJ,List.cons_append,List.append_assoc];exact(List.perm_middle (a:=f.1) (l₁:=t.nodes) (l₂:=f.2.2.nodes++dJ P)).symm
theorem Ay:∀ (P:List Fr) (t t':BT),t.root=t'.root->(ai P t).root=(ai P t').root
 | [],t,t',h=>h
 | f::P,t,t',h=>Ay P _ _ (by rw[nY,nY])
theorem kQ(f:Fr)(P:List Fr)(t t':BT):(ai (f::P) t).root=(ai (f::P) t').root:=Ay P _ _ (by rw[nY,nY])
theorem sI:∀ (P Q:List Fr) (t:BT),ai (P++Q) t=ai Q (ai P t)
 | [],_,_=>rfl
 | f::P,Q,t=>sI P Q (bB f t)
theorem x8:∀ {t:BT} {x:Nat},x∈t.nodes->∃P l r,t=ai P (.node x l r)
 | .nil,_,h=>by cases h
 | .node y a b,x,h=>by
  simp only[BT.nodes,ρ,τ]at h;rcases h with rfl|h|h
  ·exact⟨[],a,b,rfl⟩
  ·obtain⟨P,l,r,e⟩:=x8 h;exact⟨P++[(y,false,b)],l,r,by rw[sI,←e];rfl⟩
  ·obtain⟨P,l,r,e⟩:=x8 h;exact⟨P++[(y,true,a)],l,r,by rw[sI,←e];rfl⟩
theorem NV{S:TS}{p:Int}(f:Fr)(t:BT):bY S p f.1 (bB f t)↔bY S f.1 t.root t/\S.kid f.2.1 f.1=t.root/\bY S f.1 (S.kid (!f.2.1) f.1) f.2.2/\S.u f.1=p:=by
 obtain⟨x,s,o⟩:=f;cases s
 ·simp only[bB,Bool.false_eq_true,if_false,bY,TS.kid,Bool.not_false,if_true];constructor
  ·rintro⟨_,h2,h3,h4⟩;have e:=h3.root;exact⟨by rw[←e];exact h3,e,h4,h2⟩
  ·rintro⟨h1,h2,h3,h4⟩;exact⟨trivial,h4,by rw[h2];exact h1,h3⟩
 ·simp only[bB,if_true,bY,TS.kid,Bool.not_true,Bool.false_eq_true,if_false];constructor
  ·rintro⟨_,h2,h3,h4⟩;have e:=h4.root;exact⟨by rw[←e];exact h4,e,h3,h2⟩
  ·rintro⟨h1,h2,h3,h4⟩;exact⟨trivial,h4,h3,by rw[h2];exact h1⟩
theorem dZ{S:TS}:∀ (P:List Fr) (t:BT),bY S (-1) (ai P t).root (ai P t)↔bY S (CR P) t.root t/\Ub S P t.root
 | [],t=>by simp[ai,CR,Ub]
 | f::P,t=>by
  have h:=dZ (S:=S) P (bB f t);rw[nY]at h
  show bY S (-1) (ai P (bB f t)).root (ai P (bB f t))↔_
  rw[h,NV];simp only[CR,Ub];constructor
  ·rintro⟨⟨h1,h2,h3,h4⟩,h5⟩;exact⟨h1,h2,h3,h4,h5⟩
  ·rintro⟨h1,h2,h3,h4,h5⟩;exact⟨⟨h1,h2,h3,h4⟩,h5⟩
theorem Ub.frame{S S':TS}:∀ {P:List Fr} {z:Int},Ub S P z->(∀y,y∈dJ P->S.at S' y)->Ub S' P z
 | [],_,_,_=>trivial
 | f::P,z,h,hs=>by
  obtain⟨h1,h2,h3,h4⟩:=h;have hf:=hs f.1 (by simp[dJ]);have hk:∀s,S'.kid s f.1=S.kid s f.1:=fun s=>by unfold TS.kid;rw[hf.1,hf.2.1]
  exact⟨by rw[hk];exact h1,by rw[hk];exact h2.frame (fun y hy=>hs y (by simp[dJ,hy])),by rw[hf.2.2];exact h3,h4.frame (fun y hy=>hs y (by simp[dJ,hy]))⟩
theorem Ub.other{S S':TS}{f:Fr}{P:List Fr}{z z':Int}(h:Ub S (f::P) z)(hn:(dJ (f::P)).Nodup)(h1:S'.kid f.2.1 f.1=z')(h2:S'.kid (!f.2.1) f.1=S.kid (!f.2.1) f.1)(h3:S'.u f.1=S.u f.1)
  (hs:∀y,y≠f.1->y∈dJ (f::P)->S.at S' y):Ub S' (f::P) z':=by
 obtain⟨_,g2,g3,g4⟩:=h;simp only[dJ,List.nodup_cons,τ,not_or]at hn;exact⟨h1,by rw[h2];exact g2.frame (fun y hy=>hs y (fun e=>hn.1.1 (by rw[←e];exact hy)) (by simp[dJ,hy])),by rw[h3];exact g3,g4.frame (fun y hy=>hs y (fun e=>hn.1.2 (by rw[←e];exact hy)) (by simp[dJ,hy]))⟩
theorem VR{S:TS}{i j:Nat}{y:Nat}(h1:y≠i)(h2:y≠j):S.at (mX S i j) y:=by
 unfold mX TS.aH TS.bR TS.at;refine⟨?_,?_,?_⟩
 ·cases decide (S.r i=(j:Int))<;>simp[h1]
 ·cases decide (S.r i=(j:Int))<;>simp[h1]
 ·cases decide (S.r i=(j:Int))<;>simp[h2]
theorem Cu{S:TS}{i:Nat}{s:Bool}{v:Int}:∀y,(S.aH i s v).u y=S.u y:=fun y=>by unfold TS.aH;cases s<;>rfl
theorem TG{S:TS}{f:Fr}{P:List Fr}{t:BT}(h:bY S (-1) (ai (f::P) t).root (ai (f::P) t))(ht:t≠.nil)(hn:(ai (f::P) t).nodes.Nodup) :
  bY (mX S f.1 t.root.toNat) (-1) t.root t/\bY (mX S f.1 t.root.toNat) (-1) (ai (f::P) .nil).root (ai (f::P) .nil)/\∀y,y≠f.1->y≠t.root.toNat->S.at (mX S f.1 t.root.toNat) y:=by
 obtain⟨h1,h2⟩:=(dZ _ _).1 h;have Yr:=(aP (f::P) t).nodup_iff.1 hn;rw[θ]at Yr;obtain⟨n1,n2,n3⟩:=Yr;obtain⟨rm,rc⟩:=bL ht;generalize hx:t.root.toNat=x at *;have hfx:f.1≠x:=fun e=>n3 x rm f.1 (by simp[dJ]) e.symm;have hat:∀y,y≠f.1->y≠x->S.at (mX S f.1 x) y:=fun y h1 h2=>VR h1 h2;have hk:S.kid f.2.1 f.1=x:=by rw[h2.1,rc]
 have hside:decide (S.r f.1=(x:Int))=f.2.1:=by
  cases hs:f.2.1 with
  | true=>rw[hs]at hk;exact decide_eq_true (by simpa[TS.kid]using hk)
  | false=>
   refine decide_eq_false (fun e=>?_);have h3:=h2.2.1;rw[hs]at h3;have h4:=h3.root;have h5:f.2.2.root=(x:Int):=by rw[←h4];simpa[TS.kid]using e
   have h6:f.2.2≠.nil:=fun e=>by rw[e]at h5;simp[BT.root]at h5
   have h7:=(bL h6).1;rw[h5,π]at h7;exact n3 x rm x (by simp[dJ,h7]) rfl
 have Rc:∀s,(mX S f.1 x).kid s f.1=if s=f.2.1 then -1 else S.kid s f.1:=fun s=>by
  unfold mX;rw[hside];unfold TS.aH TS.bR TS.kid;cases s<;>cases f.2.1<;>simp
 have hu:∀y,(mX S f.1 x).u y=if y=x then -1 else S.u y:=fun y=>by
  unfold mX TS.bR;simp only[Cu]
 refine⟨h1.Ou n1 (fun y hy=>?_) (fun _=>?_),(dZ _ _).2 ⟨rfl,h2.other n2 ?_ ?_ ?_ (fun y g1 g2=>hat y g1 (fun e=>n3 x rm y g2 e.symm))⟩,hat⟩
 ·have hyf:y≠f.1:=fun e=>n3 y hy f.1 (by simp[dJ]) e;refine⟨?_,?_,fun hr=>?_⟩
  ·unfold mX TS.aH TS.bR;cases decide (S.r f.1=(x:Int))<;>simp[hyf]
  ·unfold mX TS.aH TS.bR;cases decide (S.r f.1=(x:Int))<;>simp[hyf]
  ·rw[hu,if_neg (by rw[hx]at hr;exact hr)]
 ·rw[hu,hx,if_pos rfl]
 ·rw[Rc,if_pos rfl];rfl
 ·rw[Rc,if_neg (by cases f.2.1<;>simp)]
 ·rw[hu,if_neg hfx]
theorem M8{S:TS}{f:Fr}{P:List Fr}{m:BT}(h:bY S (-1) (ai (f::P) .nil).root (ai (f::P) .nil))(hM:bY S (-1) m.root m)(hm:m≠.nil)(hn:(m.nodes++dJ (f::P)).Nodup) :
  bY (lH S f.1 m.root f.2.1) (-1) (ai (f::P) m).root (ai (f::P) m)/\∀y,y≠f.1->y≠m.root.toNat->S.at (lH S f.1 m.root f.2.1) y:=by
 obtain⟨_,h2⟩:=(dZ _ _).1 h;rw[θ]at hn;obtain⟨n1,n2,n3⟩:=hn;obtain⟨rm,rc⟩:=bL hm;have hfx:f.1≠m.root.toNat:=fun e=>n3 _ rm f.1 (by simp[dJ]) e.symm;have Rc:∀s,(lH S f.1 m.root f.2.1).kid s f.1=if s=f.2.1 then m.root else S.kid s f.1:=fun s=>by
  unfold lH TS.aH TS.bR TS.kid;cases s<;>cases f.2.1<;>simp
 have hu:∀y,(lH S f.1 m.root f.2.1).u y=if y=m.root.toNat then (f.1:Int)else S.u y:=fun y=>by
  unfold lH TS.bR;simp only[Cu]
 have hl:∀y,y≠f.1->(lH S f.1 m.root f.2.1).l y=S.l y/\(lH S f.1 m.root f.2.1).r y=S.r y:=fun y hy=>by
  unfold lH TS.aH TS.bR;cases f.2.1<;>simp[hy]
 have hat:∀y,y≠f.1->y≠m.root.toNat->S.at (lH S f.1 m.root f.2.1) y:=fun y g1 g2=>⟨(hl y g1).1,(hl y g1).2,by rw[hu,if_neg g2]⟩
 refine⟨(dZ _ _).2 ⟨hM.Ou n1 (fun y hy=>?_) (fun _=>by rw[hu,if_pos rfl];rfl),h2.other n2 ?_ ?_ ?_ (fun y g1 g2=>hat y g1 (fun e=>n3 _ rm y g2 e.symm))⟩,hat⟩
 ·have hyf:y≠f.1:=fun e=>n3 y hy f.1 (by simp[dJ]) e;exact⟨(hl y hyf).1,(hl y hyf).2,fun hr=>by rw[hu,if_neg hr]⟩
 ·rw[Rc,if_pos rfl]
 ·rw[Rc,if_neg (by cases f.2.1<;>simp)]
 ·rw[hu,if_neg hfx]
/-! ### heaps, ranks -/
theorem vU{A:NS}{f:Fr}{t:BT}:Heap A (bB f t)↔(∀y,y∈t.nodes->bZ A f.1 y)/\(∀y,y∈f.2.2.nodes->bZ A f.1 y)/\Heap A t/\Heap A f.2.2:=by
 unfold bB
 split
 ·simp only[Heap];constructor
  ·rintro⟨a,b,c,d⟩;exact⟨b,a,d,c⟩
  ·rintro⟨a,b,c,d⟩;exact⟨b,a,d,c⟩
 ·simp only[Heap]
theorem sK{A:NS}:∀ {P:List Fr} {t:BT},Heap A (ai P t)->Heap A t
 | [],_,h=>h
 | f::P,t,h=>(vU.1 (sK (P:=P) h)).2.2.1
theorem uK{A:NS}:∀ {P:List Fr} {t t':BT},Heap A (ai P t)->Heap A t'->(∀y,y∈t'.nodes->y∈t.nodes)->Heap A (ai P t')
 | [],_,_,_,h,_=>h
 | f::P,t,t',h,h',hs=>by
  have h1:=vU.1 (sK (P:=P) h);refine uK (P:=P) h (vU.2 ⟨fun y hy=>h1.1 y (hs y hy),h1.2.1,h',h1.2.2.2⟩) (fun y hy=>?_);have hy':=(jM f t').mem_iff.1 hy;refine(jM f t).mem_iff.2 ?_;simp only[ρ,τ]at hy' ⊢;rcases hy' with h|h|h
  ·exact Or.inl h
  ·exact Or.inr (Or.inl (hs y h))
  ·exact Or.inr (Or.inr h)
def lG(f:Fr)(n:Nat):Nat:=(if f.2.1 then n else f.2.2.rank)+1
theorem zT(f:Fr)(t:BT):(bB f t).rank=lG f t.rank:=by unfold bB lG;split<;>rfl
def Ro(rk:Nat->Nat):List Fr->Nat->Prop
 | [],_=>True
 | f::P,n=>gH rk f.2.2/\rk f.1=lG f n/\Ro rk P (lG f n)
theorem QA{rk:Nat->Nat}{f:Fr}{t:BT}:gH rk (bB f t)↔gH rk t/\gH rk f.2.2/\rk f.1=lG f t.rank:=by
 unfold bB lG
 split
 ·simp only[gH];constructor
  ·rintro⟨a,b,c⟩;exact⟨c,b,a⟩
  ·rintro⟨a,b,c⟩;exact⟨c,b,a⟩
 ·simp only[gH];constructor
  ·rintro⟨a,b,c⟩;exact⟨b,c,a⟩
  ·rintro⟨a,b,c⟩;exact⟨c,a,b⟩
theorem yX{rk:Nat->Nat}:∀ (P:List Fr) (t:BT),gH rk (ai P t)↔gH rk t/\Ro rk P t.rank
 | [],t=>by simp[ai,Ro]
 | f::P,t=>by
  show gH rk (ai P (bB f t))↔_
  rw[yX P,QA,zT];simp only[Ro];constructor
  ·rintro⟨⟨a,b,c⟩,d⟩;exact⟨a,b,c,d⟩
  ·rintro⟨a,b,c,d⟩;exact⟨⟨a,b,c⟩,d⟩
theorem Ro.frame{rk oF:Nat->Nat}:∀ {P:List Fr} {n:Nat},Ro rk P n->(∀y,y∈dJ P->oF y=rk y)->Ro oF P n
 | [],_,_,_=>trivial
 | f::P,n,h,hs=>⟨h.1.frame (fun y hy=>hs y (by simp[dJ,hy])),by rw[hs f.1 (by simp[dJ])];exact h.2.1,h.2.2.frame (fun y hy=>hs y (by simp[dJ,hy]))⟩
def Dq:List Fr->Nat->Prop
 | [],_=>True
 | f::P,n=>Lean f.2.2/\(if f.2.1 then n<=f.2.2.rank else f.2.2.rank<=n)/\Dq P (lG f n)
theorem K4{f:Fr}{t:BT}:Lean (bB f t)↔Lean t/\Lean f.2.2/\(if f.2.1 then t.rank<=f.2.2.rank else f.2.2.rank<=t.rank):=by
 unfold bB
 split
 ·simp only[Lean];constructor
  ·rintro⟨a,b,c⟩;exact⟨c,b,a⟩
  ·rintro⟨a,b,c⟩;exact⟨c,b,a⟩
 ·simp only[Lean];constructor
  ·rintro⟨a,b,c⟩;exact⟨b,c,a⟩
  ·rintro⟨a,b,c⟩;exact⟨c,a,b⟩
theorem uD:∀ (P:List Fr) (t:BT),Lean (ai P t)↔Lean t/\Dq P t.rank
 | [],t=>by simp[ai,Dq]
 | f::P,t=>by
  show Lean (ai P (bB f t))↔_
  rw[uD P,K4,zT];simp only[Dq];constructor
  ·rintro⟨⟨a,b,c⟩,d⟩;exact⟨a,b,c,d⟩
  ·rintro⟨a,b,c,d⟩;exact⟨⟨a,b,c⟩,d⟩
def lq:List Fr->Nat->Nat->BT->BT->BT
 | [],_,x,l,r=>aB x l r
 | f::P,was,x,l,r=>
  if (aB x l r).rank=was then ai (f::P) (aB x l r)
  else if f.2.1 then lq P (lG f was) f.1 f.2.2 (aB x l r)else lq P (lG f was) f.1 (aB x l r) f.2.2
theorem qR:∀ (P:List Fr) (was x:Nat) (l r:BT),(lq P was x l r).nodes.Perm (ai P (.node x l r)).nodes
 | [],was,x,l,r=>lF x l r
 | f::P,was,x,l,r=>by
  have h0:(bB f (aB x l r)).nodes.Perm (bB f (.node x l r)).nodes:=
   (jM f _).trans ((List.Perm.cons _ ((lF x l r).append_right _)).trans (jM f (.node x l r)).symm)
  have h1:(ai P (bB f (aB x l r))).nodes.Perm (ai P (bB f (.node x l r))).nodes:=
   (aP P _).trans ((h0.append_right _).trans (aP P _).symm)
  unfold lq
  split
  ·exact h1
  ·split
   ·rename_i hs
    have e:bB f (aB x l r)=.node f.1 f.2.2 (aB x l r):=by unfold bB;rw[if_pos hs]
    rw[e]at h1;exact(qR P _ _ _ _).trans h1
   ·rename_i hs
    have e:bB f (aB x l r)=.node f.1 (aB x l r) f.2.2:=by unfold bB;rw[if_neg hs]
    rw[e]at h1;exact(qR P _ _ _ _).trans h1
theorem uP:∀ (P:List Fr) (was x:Nat) (l r:BT),(lq P was x l r).root=(ai P (.node x l r)).root
 | [],was,x,l,r=>jE x l r
 | f::P,was,x,l,r=>by
  have h1:=kQ f P (aB x l r) (.node x l r);unfold lq
  split
  ·exact h1
  ·split
   ·rename_i hs
    have e:bB f (aB x l r)=.node f.1 f.2.2 (aB x l r):=by unfold bB;rw[if_pos hs]
    unfold ai at h1;rw[e]at h1;exact(uP P _ _ _ _).trans h1
   ·rename_i hs
    have e:bB f (aB x l r)=.node f.1 (aB x l r) f.2.2:=by unfold bB;rw[if_neg hs]
    unfold ai at h1;rw[e]at h1;exact(uP P _ _ _ _).trans h1
theorem uM{A:NS}:∀ (P:List Fr) (was x:Nat) (l r:BT),Heap A (ai P (.node x l r))->Heap A (lq P was x l r)
 | [],was,x,l,r,h=>sV h.1 h.2.1 h.2.2.1 h.2.2.2
 | f::P,was,x,l,r,h=>by
  have h0:=sK h;have h1:Heap A (ai (f::P) (aB x l r)):=uK h (sV h0.1 h0.2.1 h0.2.2.1 h0.2.2.2) (fun y hy=>(lF x l r).mem_iff.1 hy);unfold lq
  split
  ·exact h1
  ·split
   ·rename_i hs
    have e:bB f (aB x l r)=.node f.1 f.2.2 (aB x l r):=by unfold bB;rw[if_pos hs]
    unfold ai at h1;rw[e]at h1;exact uM P _ _ _ _ h1
   ·rename_i hs
    have e:bB f (aB x l r)=.node f.1 (aB x l r) f.2.2:=by unfold bB;rw[if_neg hs]
    unfold ai at h1;rw[e]at h1;exact uM P _ _ _ _ h1
theorem tX:∀ (P:List Fr) (was x:Nat) (l r:BT),Lean l->Lean r->Dq P was->Lean (lq P was x l r)
 | [],was,x,l,r,hl,hr,_=>lg hl hr
 | f::P,was,x,l,r,hl,hr,h=>by
  unfold lq
  split
  ·rename_i e
   exact(uD _ _).2 ⟨lg hl hr,by rw[e];exact h⟩
  ·split
   ·exact tX P _ _ _ _ h.1 (lg hl hr) h.2.2
   ·exact tX P _ _ _ _ (lg hl hr) h.1 h.2.2
theorem Heap.frame{A A':NS}:∀ {t:BT},Heap A t->(∀x,x∈t.nodes->A'.c x=A.c x)->Heap A' t
 | .nil,_,_=>trivial
 | .node x l r,h,hs=>by
  have hx:=hs x (by simp[BT.nodes]);refine⟨fun y hy=>(fJ hx (hs y (by simp[BT.nodes,hy]))).2 (h.1 y hy),fun y hy=>(fJ hx (hs y (by simp[BT.nodes,hy]))).2 (h.2.1 y hy),h.2.2.1.frame (fun y hy=>hs y (by simp[BT.nodes,hy])),h.2.2.2.frame (fun y hy=>hs y (by simp[BT.nodes,hy]))⟩
structure TJ where
 H:NS->BT->Prop
 frame:∀ {A A':NS} {t:BT},H A t->(∀x,x∈t.nodes->A'.c x=A.c x)->H A' t
 nil:∀A,H A .nil
abbrev heapK:TJ:=⟨Heap,Heap.frame,fun _=>trivial⟩
structure xA(K:TJ)(A:NS)(S:TS)(aj:List Int)(tr:Nat->BT):Prop where
 top:∀h,h<A.hs.length->aj.getD h 0=(tr h).root
 Ec:∀h,bY S (-1) (tr h).root (tr h)
 mem:∀h x,x∈(tr h).nodes↔0<h/\x<A.cs.length/\(A.c x).i=h
 nd:∀h,(tr h).nodes.Nodup
 heap:∀h,K.H A (tr h)
 free:∀x,x<A.cs.length->(A.c x).i=0->S.l x=-1/\S.r x=-1/\S.u x=-1
abbrev TrI:=xA heapK
theorem xA.next{K:TJ}{A A':NS}{S S':TS}{aj ji:List Int}{tr I6:Nat->BT}(h:xA K A S aj tr)(hc:A'.cs.length=A.cs.length)(keep:Nat->Prop)
  (k1:∀g,keep g->I6 g=tr g/\∀x,x∈(tr g).nodes->S.at S' x/\A'.c x=A.c x)
  (k2:∀g,keep g->∀x,x<A.cs.length->0<g->((A'.c x).i=g↔(A.c x).i=g))
  (n1:∀g,¬keep g->bY S' (-1) (I6 g).root (I6 g)/\(I6 g).nodes.Nodup/\K.H A' (I6 g)/\∀x,x∈(I6 g).nodes↔0<g/\x<A.cs.length/\(A'.c x).i=g)
  (tp:∀g,g<A'.hs.length->ji.getD g 0=(I6 g).root)
  (fr:∀x,x<A.cs.length->(A'.c x).i=0->S'.l x=-1/\S'.r x=-1/\S'.u x=-1):xA K A' S' ji I6:=by
 refine⟨tp,fun g=>?_,fun g x=>?_,fun g=>?_,fun g=>?_,fun x hx=>fr x ω⟩
 ·by_cases hk:keep g
  ·obtain⟨e,hs⟩:=k1 g hk;rw[e];exact(h.Ec g).frame (fun y hy=>(hs y hy).1)
  ·exact(n1 g hk).1
 ·rw[hc]
  by_cases hk:keep g
  ·rw[(k1 g hk).1,h.mem g x];constructor
   ·rintro⟨a,b,c⟩;exact⟨a,b,(k2 g hk x b a).2 c⟩
   ·rintro⟨a,b,c⟩;exact⟨a,b,(k2 g hk x b a).1 c⟩
  ·exact(n1 g hk).2.2.2 x
 ·by_cases hk:keep g
  ·rw[(k1 g hk).1];exact h.nd g
  ·exact(n1 g hk).2.1
 ·by_cases hk:keep g
  ·obtain⟨e,hs⟩:=k1 g hk;rw[e];exact K.frame (h.heap g) (fun y hy=>(hs y hy).2)
  ·exact(n1 g hk).2.2.1
def single(x:Nat):BT:=.node x .nil .nil
theorem vM{S:TS}{x:Nat}(h:S.l x=-1/\S.r x=-1/\S.u x=-1):bY S (-1) (single x).root (single x):=⟨rfl,h.2.2,h.1,h.2.1⟩
theorem xA.out{K:TJ}{A:NS}{S:TS}{aj:List Int}{tr:Nat->BT}(h:xA K A S aj tr){x g:Nat}(hx:(A.c x).i=0):x∉(tr g).nodes:=fun hm=>by
 have:=(h.mem g x).1 hm;omega
theorem xA.put{K:TJ}{A:NS}{S S':TS}{aj:List Int}{tr:Nat->BT}(h:xA K A S aj tr)(ok:A.Ok)(hn:aj.length=A.hs.length){g x:Nat}{k s:Int}(hB:oG A g x=true){t':BT}
  (hT:bY S' (-1) t'.root t') (hp:t'.nodes.Perm ((tr g).nodes++[x])) (hH:K.H (aK A g x k s) t') (hs:∀y,y∉(tr g).nodes++[x]->S.at S' y) :
  xA K (aK A g x k s) S' (aj.set g t'.root) (fun q=>if q=g then t' else tr q):=by
 obtain⟨b1,b2,b3⟩:=(fB _ _ _).1 hB;have b4:=(aV _ _).1 b1;have hx:x<A.cs.length:=by have:=(gU _ _).1 b2;omega
 have h0:(A.c x).i=0:=by
  have:=(ok.nat x hx).1;have h3:¬ (0<(A.c x).i):=fun h'=>by rw[(ah A x).2 ⟨hx,h'⟩]at b3;cases b3
  omega
 have hc:∀y,(aK A g x k s).c y=if y=x then ⟨g,k,s⟩else A.c y:=fun y=>by
  unfold aK;rw[if_pos hB,π,kH]
  by_cases e:y=x
  ·rw[if_pos ⟨e,hx⟩,if_pos e]
  ·rw[if_neg (fun h=>e h.1),if_neg e]
 have hl:(aK A g x k s).cs.length=A.cs.length:=by unfold aK;rw[if_pos hB,fI]
 have hh:(aK A g x k s).hs=A.hs:=by unfold aK;rw[if_pos hB];rfl
 have hgn:g<A.hs.length:=ω;refine h.next hl (fun q=>q≠g) (fun q hq=>⟨if_neg hq,fun y hy=>?_⟩) (fun q hq y hy hq0=>?_) (fun q hq=>?_) (fun q hq=>?_) (fun y hy hy0=>?_)
 ·have hyx:y≠x:=fun e=>h.out (g:=q) h0 (by rw[←e];exact hy);have hyg:y∉(tr g).nodes:=fun hm=>by
   have a1:=(h.mem g y).1 hm;have a2:=(h.mem q y).1 hy;omega
  exact⟨hs y (by simp[hyx,hyg]),by rw[hc,if_neg hyx]⟩
 ·rw[hc]
  by_cases e:y=x
  ·rw[if_pos e,e];simp only;omega
  ·rw[if_neg e]
 ·have hq':q=g:=Classical.not_not.1 hq;subst hq';rw[if_pos rfl];refine⟨hT,hp.nodup_iff.2 ?_,hH,fun y=>?_⟩
  ·rw[θ];refine⟨h.nd q,σ,fun a ha b hb e=>?_⟩;simp only[List.mem_singleton]at hb;exact h.out (g:=q) h0 (by rw[←hb,←e];exact ha)
  ·rw[hp.mem_iff,τ,List.mem_singleton,h.mem q y,hc]
   by_cases e:y=x
   ·rw[if_pos e];simp only[e,or_true,true_iff];exact⟨ω,hx,trivial⟩
   ·rw[if_neg e];simp only[e,or_false]
 ·rw[hh]at hq
  by_cases e:q=g
  ·rw[if_pos e,e,φ,List.getElem?_set,if_pos rfl,if_pos ω];rfl
  ·rw[if_neg e,φ,List.getElem?_set,if_neg (fun h=>e h.symm),←φ];exact h.top q hq
 ·rw[hc]at hy0
  by_cases e:y=x
  ·rw[if_pos e]at hy0;simp only at hy0;omega
  ·rw[if_neg e]at hy0;have hyn:y∉(tr g).nodes++[x]:=by
    simp only[τ,List.mem_singleton,e,or_false];exact h.out hy0
   have a1:=h.free y hy hy0;have a2:=hs y hyn;exact⟨a2.1.trans a1.1,a2.2.1.trans a1.2.1,a2.2.2.trans a1.2.2⟩
theorem ED{K:TJ}(n:Nat):xA K (NS.new n) TS.none [-1] (fun _=>BT.nil):=by
 refine⟨fun h hh=>?_,fun h=>rfl,fun h x=>?_,fun h=>List.nodup_nil,fun h=>K.nil _,fun x hx _=>⟨rfl,rfl,rfl⟩⟩
 ·have:h=0:=by simp[NS.new]at hh;exact hh
  subst this;rfl
 ·rw[NS.yM];simp only[BT.nodes,ς,false_iff,Cl.z];omega
theorem xA.make{K:TJ}{A:NS}{S:TS}{aj:List Int}{tr:Nat->BT}(h:xA K A S aj tr)(ok:A.Ok)(hn:aj.length=A.hs.length)(hl:¬65536<A.hs.length)  :xA K (aR A) S (aj++[-1]) tr:=by
 have hc:(aR A).cs=A.cs:=by unfold aR;rw[if_neg hl]
 have hh:(aR A).hs=A.hs++[true]:=by unfold aR;rw[if_neg hl]
 have hcc:∀x,(aR A).c x=A.c x:=fun x=>by unfold NS.c;rw[hc]
 refine h.next (by rw[hc]) (fun _=>True) (fun g _=>⟨rfl,fun x _=>⟨⟨rfl,rfl,rfl⟩,hcc x⟩⟩) (fun g _ x _ _=>by rw[hcc]) (fun g hg=>absurd trivial hg) (fun g hg=>?_) (fun x hx h0=>h.free x hx (by rw[hcc]at h0;exact h0));rw[hh,υ,List.length_singleton]at hg
 by_cases e:g<A.hs.length
 ·rw[φ,List.getElem?_append_left ω,←φ];exact h.top g e
 ·have e2:g=aj.length:=ω;have hnil:tr g=.nil:=by
   cases ht:tr g with
   | nil=>rfl
   | node x l r=>
    have hm:=(h.mem g x).1 (by rw[ht];simp[BT.nodes]);have:=(ok.nat x hm.2.1).2;omega
  rw[φ,e2,List.getElem?_append_right (Nat.le_refl _)];rw[←e2,hnil];simp[BT.root]
end Go.Proofs.YtklibcncmbofpaaGreat
namespace Go.Proofs.YtklibcncmbofpaaGreat
open Go Go.RowKit
theorem QK{A:NS}{x:Nat}{k s:Int}(hB:jg A x k s=true)(hx:x<A.cs.length){l r:BT}(h:Heap A (.node x l r))(hn:(BT.node x l r).nodes.Nodup):Heap (ay A x k s) (.node x l r):=by
 simp only[BT.nodes,List.nodup_cons,τ,not_or]at hn;have hle:=uu hB;rw[π]at hle;have hc:=rD hB hx;have hy:∀y,y≠x->(ay A x k s).c y=A.c y:=fun y e=>by rw[hc,if_neg e]
 have Dv:(ay A x k s).c x=⟨(A.c x).i,k,s⟩:=by rw[hc,if_pos rfl]
 refine⟨fun y m=>l9 (h.1 y m) (hy y (fun e=>hn.1.1 (by rw[←e];exact m))) ?_,fun y m=>l9 (h.2.1 y m) (hy y (fun e=>hn.1.2 (by rw[←e];exact m))) ?_,h.2.2.1.frame (fun y m=>hy y (fun e=>hn.1.1 (by rw[←e];exact m))),h.2.2.2.frame (fun y m=>hy y (fun e=>hn.1.2 (by rw[←e];exact m)))⟩
 ·rw[Dv];exact hle
 ·rw[Dv];exact hle
theorem xA.low{K:TJ}{A:NS}{S S':TS}{aj ji:List Int}{tr:Nat->BT}(h:xA K A S aj tr){g x:Nat}{k s:Int}(hB:jg A x k s=true)(hx:x∈(tr g).nodes){t':BT}
  (hT:bY S' (-1) t'.root t') (hp:t'.nodes.Perm (tr g).nodes) (hH:K.H (ay A x k s) t') (hs:∀y,y∉(tr g).nodes->S.at S' y)
  (htp:∀q,q<A.hs.length->ji.getD q 0=if q=g then t'.root else aj.getD q 0) :
  xA K (ay A x k s) S' ji (fun q=>if q=g then t' else tr q):=by
 have hm:=(h.mem g x).1 hx;have hc:=rD hB hm.2.1;have hi:=iM hB hm.2.1;refine h.next (fE _ _ _ _) (fun q=>q≠g) (fun q hq=>⟨if_neg hq,fun y hy=>?_⟩) (fun q hq y hy hq0=>?_) (fun q hq=>?_) (fun q hq=>?_) (fun y hy hy0=>?_)
 ·have hyg:y∉(tr g).nodes:=fun hm=>by
   have a1:=(h.mem g y).1 hm;have a2:=(h.mem q y).1 hy;omega
  exact⟨hs y hyg,by rw[hc,if_neg (fun e=>hyg (by rw[e];exact hx))]⟩
 ·rw[hi]
 ·have hq':q=g:=Classical.not_not.1 hq;subst hq';rw[if_pos rfl];refine⟨hT,hp.nodup_iff.2 (h.nd q),hH,fun y=>?_⟩;rw[hp.mem_iff,h.mem q y,hi]
 ·rw[lJ]at hq;rw[htp q hq]
  by_cases e:q=g
  ·rw[if_pos e,if_pos e]
  ·rw[if_neg e,if_neg e];exact h.top q hq
 ·rw[hi]at hy0;have a1:=h.free y hy hy0;have a2:=hs y (h.out hy0);exact⟨a2.1.trans a1.1,a2.2.1.trans a1.2.1,a2.2.2.trans a1.2.2⟩
theorem xA.del{K:TJ}{A:NS}{S S':TS}{aj ji:List Int}{tr:Nat->BT}(h:xA K A S aj tr){g x:Nat}(hx:x∈(tr g).nodes){t':BT}
  (hT:bY S' (-1) t'.root t') (hp:(x::t'.nodes).Perm (tr g).nodes) (hH:K.H A t') (hs:∀y,y∉(tr g).nodes->S.at S' y) (hf:S'.l x=-1/\S'.r x=-1/\S'.u x=-1)
  (htp:∀q,q<A.hs.length->ji.getD q 0=if q=g then t'.root else aj.getD q 0) :
  xA K (bz A x) S' ji (fun q=>if q=g then t' else tr q):=by
 have hm:=(h.mem g x).1 hx;have hin:bS A (x:Int)=true:=(ah A x).2 ⟨hm.2.1,ω⟩;have hc:=x9 hin;have hnd:(x::t'.nodes).Nodup:=hp.nodup_iff.2 (h.nd g);have hxt:x∉t'.nodes:=(List.nodup_cons.1 hnd).1;refine h.next (fG _ _) (fun q=>q≠g) (fun q hq=>⟨if_neg hq,fun y hy=>?_⟩) (fun q hq y hy hq0=>?_) (fun q hq=>?_) (fun q hq=>?_) (fun y hy hy0=>?_)
 ·have hyg:y∉(tr g).nodes:=fun hm=>by
   have a1:=(h.mem g y).1 hm;have a2:=(h.mem q y).1 hy;omega
  exact⟨hs y hyg,by rw[hc,if_neg (fun e=>hyg (by rw[e];exact hx))]⟩
 ·rw[hc]
  by_cases e:y=x
  ·rw[if_pos e,e]
   show(0:Int)=(q:Int)↔_
   omega
  ·rw[if_neg e]
 ·have hq':q=g:=Classical.not_not.1 hq;subst hq';rw[if_pos rfl];refine⟨hT,(List.nodup_cons.1 hnd).2,K.frame hH (fun y hy=>by rw[hc,if_neg (fun e=>hxt (by rw[←e];exact hy))]),fun y=>?_⟩;have e1:=hp.mem_iff (a:=y);rw[ρ,h.mem q y]at e1;rw[hc]
  by_cases e:y=x
  ·rw[if_pos e,e];refine⟨fun hh=>absurd hh hxt,fun hh=>?_⟩;have:(0:Int)=(q:Int):=hh.2.2;omega
  ·rw[if_neg e,←e1];simp[e]
 ·rw[iW]at hq;rw[htp q hq]
  by_cases e:q=g
  ·rw[if_pos e,if_pos e]
  ·rw[if_neg e,if_neg e];exact h.top q hq
 ·rw[hc]at hy0
  by_cases e:y=x
  ·rw[e];exact hf
  ·rw[if_neg e]at hy0;have a1:=h.free y hy hy0;have a2:=hs y (h.out hy0);exact⟨a2.1.trans a1.1,a2.2.1.trans a1.2.1,a2.2.2.trans a1.2.2⟩
instance:Nonempty (List Fr×BT×BT):=⟨([],.nil,.nil)⟩
noncomputable def pathOf(t:BT)(x:Nat):List Fr×BT×BT:=Classical.epsilon fun q:List Fr×BT×BT=>t=ai q.1 (.node x q.2.1 q.2.2)
theorem nM{t:BT}{x:Nat}(h:x∈t.nodes):t=ai (pathOf t x).1 (.node x (pathOf t x).2.1 (pathOf t x).2.2):=by
 obtain⟨P,l,r,e⟩:=x8 h;unfold pathOf;exact Classical.epsilon_spec (p:=fun q:List Fr×BT×BT=>t=ai q.1 (.node x q.2.1 q.2.2)) ⟨(P,l,r),e⟩
end Go.Proofs.YtklibcncmbofpaaGreat
