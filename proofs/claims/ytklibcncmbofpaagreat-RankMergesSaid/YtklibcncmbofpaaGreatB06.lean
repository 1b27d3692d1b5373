/-
  Lemmas for RankMerges: Spine, Spine2, Bt, Lf, Lf2, Lf3, Lf4, Bt2, Lf5, Bt3, Lf6, Lf7, Lf8, Lf9, Bt4, Bt5, Lf13, Lf14, Lf16, LfQ, TOps. Conditions: those of each lemma.
-/
import Derived.Test.YtklibcncmbofpaaGreatB02
import Derived.Test.YtklibcncmbofpaaGreatB05
set_option linter.all false
set_option maxHeartbeats 8000000
set_option maxRecDepth 10000
namespace Go.Proofs.YtklibcncmbofpaaGreat
open Go Go.RowKit
structure TS where
 l:Nat->Int
 r:Nat->Int
 u:Nat->Int
def TS.none:TS:=⟨fun _=>-1,fun _=>-1,fun _=>-1⟩
def TS.kid (S:TS) (s:Bool) (x:Nat):Int:=if s then S.r x else S.l x
def bU (S:TS) (j:Nat):Value:=.int .i64 (if j % 3=0 then S.l (j / 3) else if j % 3=1 then S.r (j / 3) else S.u (j / 3))
theorem nZ (S:TS) (x:Nat):bU S (x*3)=.int .i64 (S.l x):=by unfold bU;rw [Δ ω,show x*3 / 3=x by omega]
theorem nK (S:TS) (x:Nat):bU S (x*3+1)=.int .i64 (S.r x):=by unfold bU;rw [Γ ω,Δ ω,show (x*3+1) / 3=x by omega]
theorem qX (S:TS) (x:Nat):bU S (x*3+2)=.int .i64 (S.u x):=by unfold bU;rw [Γ ω,Γ ω,show (x*3+2) / 3=x by omega]
structure aY (w:World) (bt ba n:Nat) (S:TS):Prop where
 head:aF w bt 257 1 (fun _=>.slice (some ⟨ba,0,none⟩) n n)
 row:aF w ba 260 (n*3) (bU S)
 ne:bt≠ba
 le:n<=65536
theorem aY.upd {w w':World} {F:List Nat} {bt ba n:Nat} {S:TS} (h:aY w bt ba n S) (hu:aa F w w') (h1:bt∉F) (h2:ba∉F):aY w' bt ba n S:=
 ⟨h.head.upd hu h1,h.row.upd hu h2,h.ne,h.le⟩
theorem aY.drewN {w:World} {bt ba n:Nat} {S:TS} (h:aY w bt ba n S) (k:Nat):aY (w.drewN k) bt ba n S:=⟨h.head,h.row,h.ne,h.le⟩
theorem aY.drew {w:World} {bt ba n:Nat} {S:TS} (h:aY w bt ba n S):aY w.drew bt ba n S:=⟨h.head,h.row,h.ne,h.le⟩
theorem J6:(Tryz.prog.info? 260).map (fun i=>(i.zero,i.size,i.bytes))=some (some (.agg #[.int .i64 0,.int .i64 0,.int .i64 0]),3,24):=by kernel_rfl
theorem uE (n:Nat) (w:World) (h:n<=65536) :
  Calls Tryz.prog 112 #[.int .i64 (n:Int)] w fun e w'=>∃bt ba,e=.returned (.tuple #[.pointer (some ⟨bt,0,none⟩),.int .i64 0])/\aY w' bt ba n TS.none/\aa [] w w'/\w.heap.size<=bt/\w.heap.size<=ba:=by
 go_enter Tryz.func112,Tryz.ntmps112
 go_wp2_with (at_make;refine wpList_make_row rfl _ 255 rfl 260 (.agg #[.int .i64 0,.int .i64 0,.int .i64 0]) 3 24 Tryz.underlying255 J6 n rfl ω μ ?_;intro w1 hr1 hu1)
 have hlt:=hr1.lt
 go_loopw [21] (fun i wr=>∃ (k:Nat) (f:Nat->Value),k<=n/\i=.int .i64 k/\aF wr w1.heap.size 257 1 (fun _=>.slice (some ⟨w.heap.size,0,none⟩) n n)/\aF wr w.heap.size 260 (n*3) f/\(∀j,j<k*3->f j=.int .i64 (-1))/\aa [] w wr) (fun i _=>n-(intOf i).toNat)
 case atStart=>exact ⟨0,_,ω,rfl,dC _ _ _ |>.ext (fun j hj=>by simp at hj;subst hj;rfl),hr1.alloc _,ω,hu1.alloc _⟩
 case round=>
  obtain ⟨k,f,hk,rfl,hH,hR,hf,hu⟩:=hrel
  by_cases hkn:k<n
  ·have c0:=hH.cell 0 ω;have d0:=hR.cell (k*3) ω;have d1:=hR.cell (k*3+1) ω;have d2:=hR.cell (k*3+2) ω;have e0:=hR.free (k*3);have e1:=hR.free (k*3+1);have e2:=hR.free (k*3+2);have HF:=χ hf;clear hf;go_wp2
   go_roundw
   case rel=>
    refine ⟨k+1,_,ω,by go_num,((hH.far _ _ ζ).far _ _ ζ).far _ _ ζ,((hR.set _ _).set _ _).set _ _,fun j hj=>?_,((hu.setCell (Β σ) _).setCell (Β σ) _).setCell (Β σ) _⟩
    show (if j=k*3+2 then _ else if j=k*3+1 then _ else if j=k*3 then _ else f j)=_
    split
    ·rfl
    ·split
     ·rfl
     ·split
      ·rfl
      ·exact HF.out j ω
   case measure=>simp [intOf];omega
  ·obtain rfl:k=n:=ω;go_wp2;go_ret2;exact ⟨_,_,rfl,⟨hH,hR.ext (fun j hj=>by rw [hf j hj];unfold bU TS.none;simp),ω,h⟩,hu,hu1.size,Θ _⟩
theorem oq (bt ba n:Nat) (S:TS) (x:Int) (w:World) (h:aY w bt ba n S) (b:Bool) (hb:b=decide (0<=x/\x<n)) :
  Calls Tryz.prog 257 #[.pointer (some ⟨bt,0,none⟩),.int .i64 x] w fun e w'=>e=.returned (.bool b)/\w'=w:=by
 have hle:=h.le;have c0:=h.head.cell 0 ω;clear h;subst hb
 by_cases h0:0<=x
 ·by_cases h1:x<n
  ·go_enter Tryz.func257,Tryz.ntmps257
   go_wp2;go_ret;exact ⟨bg (by simp [h0,h1]),rfl⟩
  ·go_enter Tryz.func257,Tryz.ntmps257
   go_wp2;go_ret;exact ⟨bg (by simp [h0,h1]),rfl⟩
 ·go_enter Tryz.func257,Tryz.ntmps257
  go_wp2;go_ret;exact ⟨bg ζ,rfl⟩
theorem qm (b:Bool) (w:World):Calls Tryz.prog 253 #[.bool b] w fun e w'=>e=.returned (.int .i64 (if b then 1 else 0))/\w'=w:=by
 cases b
 all_goals
  go_enter Tryz.func253,Tryz.ntmps253
  go_wp2;go_ret;exact ⟨rfl,rfl⟩
theorem told_none (w:World):Calls Tryz.prog 256 #[.int .i64 (-1)] w fun e w'=>e=.returned (.tuple #[.int .i64 0,.bool false])/\w'=w:=by
 go_enter Tryz.func256,Tryz.ntmps256
 go_wp2;go_ret2;exact ⟨rfl,rfl⟩
theorem Kz (x:Int) (w:World) (h:x≠-1):Calls Tryz.prog 256 #[.int .i64 x] w fun e w'=>e=.returned (.tuple #[.int .i64 x,.bool true])/\w'=w:=by
 have h':(x == -1)=false:=by simpa using h
 go_enter Tryz.func256,Tryz.ntmps256
 go_wp2;go_ret2;exact ⟨rfl,rfl⟩
def fD (n:Nat) (S:TS) (x:Int) (r:Bool):Int:=if 0<=x/\x<n then S.kid r x.toNat else -1
def oK (n:Nat) (S:TS) (x:Int):Int:=if 0<=x/\x<n then S.u x.toNat else -1
theorem xk (bt ba n:Nat) (S:TS) (x:Int) (r:Bool) (w:World) (h:aY w bt ba n S) :
  Calls Tryz.prog 254 #[.pointer (some ⟨bt,0,none⟩),.int .i64 x,.bool r] w fun e w'=>e=.returned (.int .i64 (fD n S x r))/\∃k,w'=w.drewN k:=by
 by_cases hx:0<=x/\x<n
 ·obtain ⟨k,rfl⟩:∃k:Nat,x=k:=⟨x.toNat,ω⟩;have hk:k<n:=ω;have e:fD n S k r=S.kid r k:=by unfold fD;rw [Δ hx];simp
  have hle:=h.le;have c0:=h.head.cell 0 ω;have d0:=h.row.cellAt (k*3) ω (nZ S k);have d1:=h.row.cellAt (k*3+1) ω (nK S k);rw [e];clear e;cases r
  all_goals
   unfold TS.kid;simp only [if_true,if_false,Ϥ]
   go_enter Tryz.func254,Tryz.ntmps254
   go_wp2_with (go_at_call 257;refine (oq bt ba n S k _ h true (by simp [hk])).mono ?_;rintro e w' ⟨rfl,rfl⟩)
   go_quiet ((go_at_call 253;exact Calls.quiet_of_same (qm _ _)))
   go_wp2;go_ret;exact ⟨rfl,_,rfl⟩
 ·have e:fD n S x r=-1:=by unfold fD;rw [Γ hx]
  rw [e];clear e
  go_enter Tryz.func254,Tryz.ntmps254
  go_wp2_with (go_at_call 257;refine (oq bt ba n S x _ h false (by simp [hx])).mono ?_;rintro e w' ⟨rfl,rfl⟩)
  go_ret;exact ⟨rfl,0,rfl⟩
theorem qO (bt ba n:Nat) (S:TS) (x:Int) (w:World) (h:aY w bt ba n S) :
  Calls Tryz.prog 252 #[.pointer (some ⟨bt,0,none⟩),.int .i64 x] w fun e w'=>e=.returned (.int .i64 (oK n S x))/\w'=w:=by
 by_cases hx:0<=x/\x<n
 ·obtain ⟨k,rfl⟩:∃k:Nat,x=k:=⟨x.toNat,ω⟩;have hk:k<n:=ω;have e:oK n S k=S.u k:=by unfold oK;rw [Δ hx];simp
  have hle:=h.le;have c0:=h.head.cell 0 ω;have d0:=h.row.cellAt (k*3+2) ω (qX S k);rw [e];clear e
  go_enter Tryz.func252,Tryz.ntmps252
  go_wp2_with (go_at_call 257;refine (oq bt ba n S k _ h true (by simp [hk])).mono ?_;rintro e w' ⟨rfl,rfl⟩)
  go_ret;exact ⟨rfl,rfl⟩
 ·have e:oK n S x=-1:=by unfold oK;rw [Γ hx]
  rw [e];clear e
  go_enter Tryz.func252,Tryz.ntmps252
  go_wp2_with (go_at_call 257;refine (oq bt ba n S x _ h false (by simp [hx])).mono ?_;rintro e w' ⟨rfl,rfl⟩)
  go_ret;exact ⟨rfl,rfl⟩
def tv (x:Int):Int:=if x=-1 then 0 else x
def tb (x:Int):Bool:=decide (x≠-1)
theorem yO (x:Int) (w:World):Calls Tryz.prog 256 #[.int .i64 x] w fun e w'=>e=.returned (.tuple #[.int .i64 (tv x),.bool (tb x)])/\w'=w:=by
 by_cases h:x=-1
 ·subst h;exact told_none w
 ·have e1:tv x=x:=by unfold tv;rw [Γ h]
  have e2:tb x=true:=by unfold tb;simp [h]
  rw [e1,e2];exact Kz x w h
theorem xJ (bt ba n:Nat) (S:TS) (x:Int) (w:World) (h:aY w bt ba n S) :
  Calls Tryz.prog 248 #[.pointer (some ⟨bt,0,none⟩),.int .i64 x] w fun e w'=>e=.returned (.tuple #[.int .i64 (tv (fD n S x false)),.bool (tb (fD n S x false))])/\∃k,w'=w.drewN k:=by
 generalize hy:fD n S x false=y;have c1:=xk bt ba n S x false w h;rw [hy] at c1;have c2:=fun W=>yO y W
 go_enter Tryz.func248,Tryz.ntmps248
 go_wp2_with (first|(go_at_call 254;refine c1.mono ?_;rintro e w' ⟨rfl,k,rfl⟩)|(go_at_call 256;refine (c2 _).mono ?_;rintro e w' ⟨rfl,rfl⟩))
 go_ret2;exact ⟨rfl,_,rfl⟩
theorem nP (bt ba n:Nat) (S:TS) (x:Int) (w:World) (h:aY w bt ba n S) :
  Calls Tryz.prog 249 #[.pointer (some ⟨bt,0,none⟩),.int .i64 x] w fun e w'=>e=.returned (.tuple #[.int .i64 (tv (fD n S x true)),.bool (tb (fD n S x true))])/\∃k,w'=w.drewN k:=by
 generalize hy:fD n S x true=y;have c1:=xk bt ba n S x true w h;rw [hy] at c1;have c2:=fun W=>yO y W
 go_enter Tryz.func249,Tryz.ntmps249
 go_wp2_with (first|(go_at_call 254;refine c1.mono ?_;rintro e w' ⟨rfl,k,rfl⟩)|(go_at_call 256;refine (c2 _).mono ?_;rintro e w' ⟨rfl,rfl⟩))
 go_ret2;exact ⟨rfl,_,rfl⟩
theorem Oh (bt ba n:Nat) (S:TS) (x:Int) (w:World) (h:aY w bt ba n S) :
  Calls Tryz.prog 250 #[.pointer (some ⟨bt,0,none⟩),.int .i64 x] w fun e w'=>e=.returned (.tuple #[.int .i64 (tv (oK n S x)),.bool (tb (oK n S x))])/\∃k,w'=w.drewN k:=by
 generalize hy:oK n S x=y;have c1:=qO bt ba n S x w h;rw [hy] at c1;have c2:=fun W=>yO y W
 go_enter Tryz.func250,Tryz.ntmps250
 go_wp2_with (first|(go_at_call 252;refine c1.mono ?_;rintro e w' ⟨rfl,rfl⟩)|(go_at_call 256;refine (c2 _).mono ?_;rintro e w' ⟨rfl,rfl⟩))
 go_ret2;exact ⟨rfl,0,rfl⟩
def TS.aC (S:TS) (p:Nat) (s:Bool) (v:Int):TS:=if s then ⟨S.l,fun i=>if i=p then v else S.r i,S.u⟩ else ⟨fun i=>if i=p then v else S.l i,S.r,S.u⟩
def TS.bG (S:TS) (p:Nat) (v:Int):TS:=⟨S.l,S.r,fun i=>if i=p then v else S.u i⟩
theorem aY.aC {w:World} {bt ba n:Nat} {S:TS} (h:aY w bt ba n S) (p:Nat) (s:Bool) (v:Int) :
  aY (w.setCell ⟨ba,p*3+(if s then 1 else 0),none⟩ (.int .i64 v)) bt ba n (S.aC p s v):=by
 refine ⟨h.head.far _ _ h.ne,(h.row.set _ _).ext (fun j hj=>?_),h.ne,h.le⟩;cases s
 ·unfold bU TS.aC
  by_cases hj2:j=p*3
  ·subst hj2;simp
  ·have:¬ (j % 3=0/\j / 3=p):=ω
   by_cases h0:j % 3=0
   ·simp [hj2,h0];intro hh;exfalso;omega
   ·simp [hj2,h0]
 ·unfold bU TS.aC
  by_cases hj2:j=p*3+1
  ·subst hj2;simp;intro hh;exfalso;omega
  ·by_cases h0:j % 3=1
   ·simp [hj2,h0];intro hh;exfalso;omega
   ·simp [hj2,h0]
theorem aY.bG {w:World} {bt ba n:Nat} {S:TS} (h:aY w bt ba n S) (p:Nat) (v:Int) :
  aY (w.setCell ⟨ba,p*3+2,none⟩ (.int .i64 v)) bt ba n (S.bG p v):=by
 refine ⟨h.head.far _ _ h.ne,(h.row.set _ _).ext (fun j hj=>?_),h.ne,h.le⟩;unfold bU TS.bG
 by_cases hj2:j=p*3+2
 ·subst hj2;simp;intro hh;exfalso;omega
 ·by_cases h0:j % 3=0
  ·simp [hj2,h0]
  ·by_cases h1:j % 3=1
   ·simp [hj2,h1]
   ·simp [hj2,h0,h1];intro hh;exfalso;omega
def jB (S:TS) (p x:Int) (r:Bool):TS:=(S.aC p.toNat r x).bG x.toNat p
theorem xE (bt ba n:Nat) (S:TS) (i j:Nat) (r:Bool) (w:World) (h:aY w bt ba n S) (hi:i<n) (hj:j<n) (hne:i≠j) (hu:S.u j=-1) (hk:S.kid r i=-1) :
  Calls Tryz.prog 251 #[.pointer (some ⟨bt,0,none⟩),.int .i64 (i:Int),.int .i64 (j:Int),.bool r] w fun e w'=>e=.returned (.bool true)/\aY w' bt ba n (jB S i j r)/\aa [ba] w w':=by
 have hle:=h.le;have hbne:=h.ne;have hbne':ba≠bt:=fun e=>h.ne e.symm;have c0:=h.head.cell 0 ω;have d0:=h.row.cellAt (i*3) ω (nZ S i);have d1:=h.row.cellAt (i*3+1) ω (nK S i);have d2:=h.row.cellAt (j*3+2) ω (qX S j);have e0:=h.row.free (i*3);have e1:=h.row.free (i*3+1);have e2:=h.row.free (j*3+2);have k1:=oq bt ba n S i w h true (by simp [hi]);have k2:=oq bt ba n S j w h true (by simp [hj]);have k3:=qO bt ba n S j w h;rw [show oK n S j=-1 by unfold oK;rw [Δ ω];simpa using hu] at k3;have k4:=xk bt ba n S i r w h;rw [show fD n S i r=-1 by unfold fD;rw [Δ ω];simpa using hk] at k4
 have hij:((i:Int) == (j:Int))=false:=ζ;have H:=χ h;clear h hu hk;cases r
 ·go_enter Tryz.func251,Tryz.ntmps251
  go_wp2_with (first
   | (go_at_call 257;(with_reducible refine (k1).mono ?_);rintro e w' ⟨rfl,rfl⟩)
   | (go_at_call 257;(with_reducible refine (k2).mono ?_);rintro e w' ⟨rfl,rfl⟩)
   | (go_at_call 252;(with_reducible refine (k3).mono ?_);rintro e w' ⟨rfl,rfl⟩)
   | (go_at_call 254;(with_reducible refine (k4).mono ?_);rintro e w' ⟨rfl,kd,rfl⟩))
  go_region_held3 (fun W=>W.cell? ⟨bt,0,none⟩=some (.slice (some ⟨ba,0,none⟩) n n)) (go_keep) ((go_at_call 253;refine (qm _ _).mono ?_;rintro e w' ⟨rfl,rfl⟩))
  go_wp2;go_ret;exact ⟨rfl,((H.out.drewN _).aC i false j).bG j i,(((aa.refl _ _).drewN _).setCell (Α σ) _).setCell (Α σ) _⟩
 ·go_enter Tryz.func251,Tryz.ntmps251
  go_wp2_with (first
   | (go_at_call 257;(with_reducible refine (k1).mono ?_);rintro e w' ⟨rfl,rfl⟩)
   | (go_at_call 257;(with_reducible refine (k2).mono ?_);rintro e w' ⟨rfl,rfl⟩)
   | (go_at_call 252;(with_reducible refine (k3).mono ?_);rintro e w' ⟨rfl,rfl⟩)
   | (go_at_call 254;(with_reducible refine (k4).mono ?_);rintro e w' ⟨rfl,kd,rfl⟩))
  go_region_held3 (fun W=>W.cell? ⟨bt,0,none⟩=some (.slice (some ⟨ba,0,none⟩) n n)) (go_keep) ((go_at_call 253;refine (qm _ _).mono ?_;rintro e w' ⟨rfl,rfl⟩))
  go_wp2;go_ret;exact ⟨rfl,((H.out.drewN _).aC i true j).bG j i,(((aa.refl _ _).drewN _).setCell (Α σ) _).setCell (Α σ) _⟩
theorem Ni (bt ba n:Nat) (S:TS) (x:Int) (w:World) (h:aY w bt ba n S) (hu:oK n S x=-1) :
  Calls Tryz.prog 244 #[.pointer (some ⟨bt,0,none⟩),.int .i64 x] w fun e w'=>e=.returned (.tuple #[.int .i64 0,.bool false])/\w'=w:=by
 have k3:=qO bt ba n S x w h;rw [hu] at k3;clear h hu
 go_enter Tryz.func244,Tryz.ntmps244
 go_wp2_with ((go_at_call 252;(with_reducible refine (k3).mono ?_);rintro e w' ⟨rfl,rfl⟩))
 go_ret2;exact ⟨rfl,rfl⟩
def kZ (S:TS) (i j:Nat):TS:=(S.aC i (decide (S.r i=j)) (-1)).bG j (-1)
theorem Bh (bt ba n:Nat) (S:TS) (i j:Nat) (w:World) (h:aY w bt ba n S) (hi:i<n) (hj:j<n) (hu:S.u j=i) :
  Calls Tryz.prog 244 #[.pointer (some ⟨bt,0,none⟩),.int .i64 (j:Int)] w fun e w'=>e=.returned (.tuple #[.int .i64 (i:Int),.bool true])/\aY w' bt ba n (kZ S i j)/\aa [ba] w w':=by
 have hle:=h.le;have hbne:ba≠bt:=fun e=>h.ne e.symm;have c0:=h.head.cell 0 ω;have d0:=h.row.cellAt (i*3) ω (nZ S i);have d1:=h.row.cellAt (i*3+1) ω (nK S i);have d2:=h.row.cellAt (j*3+2) ω (qX S j);have e0:=h.row.free (i*3);have e1:=h.row.free (i*3+1);have e2:=h.row.free (j*3+2);have k3:=qO bt ba n S j w h;rw [show oK n S j=i by unfold oK;rw [Δ ω];simpa using hu] at k3;have k4:=fun W (hW:aY W bt ba n S)=>xk bt ba n S i true W hW;rw [show fD n S i true=S.r i by unfold fD TS.kid;rw [Δ ω];simp] at k4;have H:=χ h;have hi1:((i:Int) == -1)=false:=σ;clear h
 by_cases hr:S.r i=j
 ·have hb:(S.r i == (j:Int))=true:=by simpa using hr
  have ec:kZ S i j=(S.aC i true (-1)).bG j (-1):=by unfold kZ;rw [Ν hr]
  have EC:=χ ec;clear hr ec hu
  go_enter Tryz.func244,Tryz.ntmps244
  go_wp2_with ((go_at_call 252;(with_reducible refine (k3).mono ?_);rintro e w' ⟨rfl,rfl⟩))
  go_region_held3 (fun W=>W.cell? ⟨bt,0,none⟩=some (.slice (some ⟨ba,0,none⟩) n n)) (go_keep)
   (first|((go_at_call 253;refine (qm _ _).mono ?_;rintro e w' ⟨rfl,rfl⟩))|((go_at_call 254;refine (k4 _ (H.out.drew)).mono ?_;rintro e w' ⟨rfl,kd,rfl⟩)))
  go_wp2;go_ret2;exact ⟨rfl,by rw [EC.out];exact ((H.out.drewN _).aC i true (-1)).bG j (-1),(((aa.refl _ _).drewN _).setCell (Α σ) _).setCell (Α σ) _⟩
 ·have hb:(S.r i == (j:Int))=false:=by simpa using hr
  have ec:kZ S i j=(S.aC i false (-1)).bG j (-1):=by unfold kZ;rw [Ξ hr]
  have EC:=χ ec;clear hr ec hu
  go_enter Tryz.func244,Tryz.ntmps244
  go_wp2_with ((go_at_call 252;(with_reducible refine (k3).mono ?_);rintro e w' ⟨rfl,rfl⟩))
  go_region_held3 (fun W=>W.cell? ⟨bt,0,none⟩=some (.slice (some ⟨ba,0,none⟩) n n)) (go_keep)
   (first|((go_at_call 253;refine (qm _ _).mono ?_;rintro e w' ⟨rfl,rfl⟩))|((go_at_call 254;refine (k4 _ (H.out.drew)).mono ?_;rintro e w' ⟨rfl,kd,rfl⟩)))
  go_wp2;go_ret2;exact ⟨rfl,by rw [EC.out];exact ((H.out.drewN _).aC i false (-1)).bG j (-1),(((aa.refl _ _).drewN _).setCell (Α σ) _).setCell (Α σ) _⟩
def iB (S:TS) (i:Nat):TS:=(S.aC i false (S.r i)).aC i true (S.l i)
theorem yt (bt ba n:Nat) (S:TS) (i:Nat) (w:World) (h:aY w bt ba n S) (hi:i<n) :
  Calls Tryz.prog 259 #[.pointer (some ⟨bt,0,none⟩),.int .i64 (i:Int)] w fun e w'=>e=.returned (.bool true)/\aY w' bt ba n (iB S i)/\aa [ba] w w':=by
 have hle:=h.le;have c0:=h.head.cell 0 ω;have d0:=h.row.cellAt (i*3) ω (nZ S i);have d1:=h.row.cellAt (i*3+1) ω (nK S i);have e0:=h.row.free (i*3);have e1:=h.row.free (i*3+1);have k1:=oq bt ba n S i w h true (by simp [hi]);have H:=χ h;clear h
 go_enter Tryz.func259,Tryz.ntmps259
 go_wp2_with ((go_at_call 257;(with_reducible refine (k1).mono ?_);rintro e w' ⟨rfl,rfl⟩))
 go_region
 go_wp2;go_ret;exact ⟨rfl,((H.out.aC i false (S.r i)).aC i true (S.l i)).drew,(((aa.refl _ _).setCell (Α σ) _).setCell (Α σ) _).drew⟩
end Go.Proofs.YtklibcncmbofpaaGreat
namespace Go.Proofs.YtklibcncmbofpaaGreat
inductive BT where
 | nil:BT
 | node:Nat->BT->BT->BT
def BT.root:BT->Int | .nil=>-1 | .node x _ _=>x
def BT.nodes:BT->List Nat | .nil=>[] | .node x l r=>x::(l.nodes++r.nodes)
def BT.size:BT->Nat | .nil=>0 | .node _ l r=>l.size+r.size+1
theorem BT.jT:∀t:BT,t.nodes.length=t.size
 | .nil=>rfl
 | .node x l r=>by simp [BT.nodes,BT.size,BT.jT l,BT.jT r]
def bS (S:TS):Int->Int->BT->Prop
 | _,z,.nil=>z=-1
 | p,z,.node x l r=>z=x/\S.u x=p/\bS S x (S.l x) l/\bS S x (S.r x) r
theorem bS.root {S:TS}:∀ {t:BT} {p z:Int},bS S p z t->z=t.root
 | .nil,_,_,h=>h
 | .node _ _ _,_,_,h=>h.1
def TS.at (S S':TS) (x:Nat):Prop:=S'.l x=S.l x/\S'.r x=S.r x/\S'.u x=S.u x
theorem bS.frame {S S':TS}:∀ {t:BT} {p z:Int},bS S p z t->(∀x,x∈t.nodes->S.at S' x)->bS S' p z t
 | .nil,_,_,h,_=>h
 | .node x l r,p,z,h,hs=>by
  have hx:=hs x (by simp [BT.nodes]);refine ⟨h.1,by rw [hx.2.2];exact h.2.1,?_,?_⟩
  ·rw [hx.1];exact bS.frame h.2.2.1 (fun y hy=>hs y (by simp [BT.nodes,hy]))
  ·rw [hx.2.1];exact bS.frame h.2.2.2 (fun y hy=>hs y (by simp [BT.nodes,hy]))
theorem bS.LX {S S':TS} {t:BT} {p p' z:Int} (h:bS S p z t) (hn:t.nodes.Nodup) (hs:∀x,x∈t.nodes->S'.l x=S.l x/\S'.r x=S.r x/\(x≠t.root.toNat->S'.u x=S.u x)) (hr:t≠.nil->S'.u t.root.toNat=p'):bS S' p' z t:=by
 cases t with
 | nil=>exact h
 | node x l r=>
  have hx:=hs x (by simp [BT.nodes]);simp only [BT.nodes,Ζ,τ,not_or] at hn;refine ⟨h.1,?_,?_,?_⟩
  ·have:=hr σ;simpa [BT.root] using this
  ·rw [hx.1];refine h.2.2.1.frame (fun y hy=>?_);have hy':=hs y (by simp [BT.nodes,hy]);exact ⟨hy'.1,hy'.2.1,hy'.2.2 (fun e=>by simp [BT.root] at e;rw [e] at hy;exact hn.1.1 hy)⟩
  ·rw [hx.2.1];refine h.2.2.2.frame (fun y hy=>?_);have hy':=hs y (by simp [BT.nodes,hy]);exact ⟨hy'.1,hy'.2.1,hy'.2.2 (fun e=>by simp [BT.root] at e;rw [e] at hy;exact hn.1.2 hy)⟩
theorem bD {t:BT} (h:t≠.nil):t.root.toNat∈t.nodes/\t.root=(t.root.toNat:Int):=by
 cases t with
 | nil=>exact absurd rfl h
 | node x l r=>simp [BT.root,BT.nodes]
/-! ### ranks; what a merge gives -/
def BT.rank:BT->Nat | .nil=>0 | .node _ _ r=>r.rank+1
def ai (x:Nat) (l r:BT):BT:=if l.rank<r.rank then .node x r l else .node x l r
def fG (rk:Nat->Nat):BT->Prop
 | .nil=>True
 | .node x l r=>rk x=r.rank+1/\fG rk l/\fG rk r
theorem fG.frame {rk pM:Nat->Nat}:∀ {t:BT},fG rk t->(∀x,x∈t.nodes->pM x=rk x)->fG pM t
 | .nil,_,_=>trivial
 | .node x l r,h,hs=>⟨by rw [hs x (by simp [BT.nodes])];exact h.1,h.2.1.frame (fun y hy=>hs y (by simp [BT.nodes,hy])),h.2.2.frame (fun y hy=>hs y (by simp [BT.nodes,hy]))⟩
theorem fG.root {rk:Nat->Nat} {t:BT} (h:fG rk t) (ht:t≠.nil):rk t.root.toNat=t.rank:=by
 cases t with
 | nil=>exact absurd rfl ht
 | node x l r=>simpa [BT.root,BT.rank] using h.1
def Lean:BT->Prop
 | .nil=>True
 | .node _ l r=>r.rank<=l.rank/\Lean l/\Lean r
theorem jg {x:Nat} {l r:BT} (hl:Lean l) (hr:Lean r):Lean (ai x l r):=by
 unfold ai;split
 ·exact ⟨ω,hr,hl⟩
 ·exact ⟨ω,hl,hr⟩
def Heap (A:NS):BT->Prop
 | .nil=>True
 | .node x l r=>(∀y,y∈l.nodes->eB A x y)/\(∀y,y∈r.nodes->eB A x y)/\Heap A l/\Heap A r
theorem jA (x:Nat) (l r:BT):(ai x l r).nodes.Perm (x::(l.nodes++r.nodes)):=by
 unfold ai;split
 ·simp only [BT.nodes];exact List.Perm.cons x Φ
 ·exact ό _
theorem pV {A:NS} {x:Nat} {l r:BT} (h1:∀y,y∈l.nodes->eB A x y) (h2:∀y,y∈r.nodes->eB A x y) (hl:Heap A l) (hr:Heap A r):Heap A (ai x l r):=by
 unfold ai;split
 ·exact ⟨h2,h1,hr,hl⟩
 ·exact ⟨h1,h2,hl,hr⟩
theorem il (x:Nat) (l r:BT):(ai x l r).root=x:=by unfold ai;split<;>rfl
def aH (up:Nat->BT->BT->BT) (A:NS):BT->BT->BT×Nat
 | .nil,t=>(t,0)
 | .node x l r,.nil=>(.node x l r,0)
 | .node x l r,.node y l' r'=>
  if eB A y x then (up y l' (aH up A r' (.node x l r)).1,(aH up A r' (.node x l r)).2+1)
  else (up x l (aH up A r (.node y l' r')).1,(aH up A r (.node y l' r')).2+1)
termination_by a b=>a.size+b.size
decreasing_by
 all_goals simp only [BT.size]
 all_goals omega
theorem jV (up:Nat->BT->BT->BT) (A:NS) (t:BT):aH up A .nil t=(t,0):=by rw [aH]
theorem mQ (up:Nat->BT->BT->BT) (A:NS) (t:BT):aH up A t .nil=(t,0):=by cases t<;>rw [aH]
theorem mU (up:Nat->BT->BT->BT) (A:NS) (x y:Nat) (l r l' r':BT):aH up A (.node x l r) (.node y l' r')=
  if eB A y x then (up y l' (aH up A r' (.node x l r)).1,(aH up A r' (.node x l r)).2+1)
  else (up x l (aH up A r (.node y l' r')).1,(aH up A r (.node y l' r')).2+1):=by rw [aH]
structure OG (up:Nat->BT->BT->BT):Prop where
 nodes:∀x l r,(up x l r).nodes.Perm (x::(l.nodes++r.nodes))
 heap:∀A x l r,(∀y,y∈l.nodes->eB A x y)->(∀y,y∈r.nodes->eB A x y)->Heap A l->Heap A r->Heap A (up x l r)
 root:∀x l r,(up x l r).root=x
theorem nW:OG ai:=⟨jA,fun _ _ _ _=>pV,il⟩
theorem pW {up:Nat->BT->BT->BT} (U:OG up) (A:NS) (k:Nat):∀ (a b:BT),a.size+b.size<=k->
  (aH up A a b).1.nodes.Perm (a.nodes++b.nodes)/\(Heap A a->Heap A b->(a.nodes++b.nodes).Nodup->Heap A (aH up A a b).1):=by
 induction k with
 | zero=>
  intro a b hk;cases a with
  | nil=>rw [jV];exact ⟨by simp [BT.nodes],fun _ h _=>h⟩
  | node x l r=>simp only [BT.size] at hk;omega
 | succ k ih=>
  intro a b hk;cases a with
  | nil=>rw [jV];exact ⟨by simp [BT.nodes],fun _ h _=>h⟩
  | node x l r=>
   cases b with
   | nil=>rw [mQ];exact ⟨by simp [BT.nodes],fun h _ _=>h⟩
   | node y l' r'=>
    rw [mU];simp only [BT.size] at hk
    by_cases h:eB A y x
    ·rw [Δ h];obtain ⟨i1,i2⟩:=ih r' (.node x l r) (by simp only [BT.size];omega);have i3:=U.nodes y l' (aH up A r' (.node x l r)).1;have i4:(y::(l'.nodes++(aH up A r' (.node x l r)).1.nodes)).Perm ((BT.node x l r).nodes++(BT.node y l' r').nodes):=by
      refine Ϣ (List.Perm.cons y (List.Perm.append_left _ i1)) ?_;rw [←ϋ]
      show (y::(l'.nodes++r'.nodes++(BT.node x l r).nodes)).Perm ((BT.node x l r).nodes++(y::(l'.nodes++r'.nodes)))
      exact (Φ (l₁:=y::(l'.nodes++r'.nodes)))
     refine ⟨i3.trans i4,fun ha hb hn=>?_⟩;have hn2:(r'.nodes++(BT.node x l r).nodes).Nodup:=by
      rw [θ] at hn ⊢;simp only [BT.nodes,Ζ,θ] at hn;refine ⟨hn.2.1.2.2.1,by simp only [BT.nodes,Ζ,θ];exact hn.1,fun p hp q hq e=>hn.2.2 q hq p (by simp [hp]) e.symm⟩
     refine U.heap A y l' _ hb.1 (fun z hz=>?_) hb.2.2.1 (i2 hb.2.2.2 ha hn2);rcases τ.1 (i1.mem_iff.1 hz) with hz|hz
     ·exact hb.2.1 z hz
     ·simp only [BT.nodes,ρ,τ] at hz;rcases hz with rfl|hz|hz
      ·exact h
      ·exact dE h (ha.1 z hz)
      ·exact dE h (ha.2.1 z hz)
    ·rw [Γ h];obtain ⟨i1,i2⟩:=ih r (.node y l' r') (by simp only [BT.size];omega);have i3:=U.nodes x l (aH up A r (.node y l' r')).1;have i4:(x::(l.nodes++(aH up A r (.node y l' r')).1.nodes)).Perm ((BT.node x l r).nodes++(BT.node y l' r').nodes):=by
      refine Ϣ (List.Perm.cons x (List.Perm.append_left _ i1)) ?_;rw [←ϋ];exact ό _
     refine ⟨i3.trans i4,fun ha hb hn=>?_⟩;have hn1:=hn;rw [θ] at hn;have hxy:x≠y:=hn.2.2 x (by simp [BT.nodes]) y (by simp [BT.nodes]);have hlt:eB A x y:=by
      rcases jM (A:=A) hxy with h'|h'
      ·exact h'
      ·exact absurd h' h
     have hn2:(r.nodes++(BT.node y l' r').nodes).Nodup:=by
      rw [θ];simp only [BT.nodes,Ζ,θ] at hn;refine ⟨hn.1.2.2.1,by simp only [BT.nodes,Ζ,θ];exact hn.2.1,fun p hp q hq e=>hn.2.2 p (by simp [hp]) q hq e⟩
     refine U.heap A x l _ ha.1 (fun z hz=>?_) ha.2.2.1 (i2 ha.2.2.2 hb hn2);rcases τ.1 (i1.mem_iff.1 hz) with hz|hz
     ·exact ha.2.1 z hz
     ·simp only [BT.nodes,ρ,τ] at hz;rcases hz with rfl|hz|hz
      ·exact hlt
      ·exact dE hlt (hb.1 z hz)
      ·exact dE hlt (hb.2.1 z hz)
theorem xV (A:NS) (k:Nat):∀ (a b:BT),a.size+b.size<=k->Lean a->Lean b->Lean (aH ai A a b).1:=by
 induction k with
 | zero=>
  intro a b hk ha hb;cases a with
  | nil=>rw [jV];exact hb
  | node x l r=>simp only [BT.size] at hk;omega
 | succ k ih=>
  intro a b hk ha hb;cases a with
  | nil=>rw [jV];exact hb
  | node x l r=>
   cases b with
   | nil=>rw [mQ];exact ha
   | node y l' r'=>
    rw [mU];simp only [BT.size] at hk
    split
    ·exact jg hb.2.1 (ih r' (.node x l r) (by simp only [BT.size];omega) hb.2.2 ha)
    ·exact jg ha.2.1 (ih r (.node y l' r') (by simp only [BT.size];omega) ha.2.2 hb)
def sj (up:Nat->BT->BT->BT):List (Nat×BT)->BT->BT
 | [],m=>m
 | (x,l)::t,m=>up x l (sj up t m)
theorem yI (up:Nat->BT->BT->BT) (W:List (Nat×BT)) (x:Nat) (l m:BT):sj up (W++[(x,l)]) m=sj up W (up x l m):=by
 induction W with
 | nil=>rfl
 | cons p t ih=>obtain ⟨y,k⟩:=p;simp only [List.cons_append,sj,ih]
def rH (W:List (Nat×BT)):List Nat:=W.flatMap fun p=>p.1::p.2.nodes
end Go.Proofs.YtklibcncmbofpaaGreat
namespace Go.Proofs.YtklibcncmbofpaaGreat
open Go Go.RowKit
structure LB where
 n0:Nat
 c:Nat
 bt:Nat
 ba:Nat
 br:Nat
structure jP (w:World) (B:LB) (F:List Nat) (gt ct:Nat) (A:NS) (st:Nat) (S:TS) (rk:Nat->Nat) (af:List Int):Prop where
 head:aF w B.n0 231 4 (fun j=>[Value.pointer (some ⟨B.c,0,none⟩),.pointer (some ⟨B.bt,0,none⟩),.slice (some ⟨B.br,0,none⟩) A.cs.length A.cs.length,.slice (some ⟨gt,0,none⟩) af.length ct].getD j undef)
 cells:aB w B.c F A st
 trees:aY w B.bt B.ba A.cs.length S
 ranks:aF w B.br 3 A.cs.length (fun j=>.int .i64 (rk j:Int))
 jC:IZ w gt ct af
 jk:af.length=A.hs.length
 bA:B.n0∉F/\B.bt∉F/\B.ba∉F/\B.br∉F/\gt∉F
 sep:(B.n0≠B.bt/\B.n0≠B.ba/\B.n0≠B.br/\B.n0≠gt)/\(B.bt≠B.br/\B.bt≠gt/\B.ba≠B.br/\B.ba≠gt/\B.br≠gt)
section
variable {w:World} {B:LB} {F:List Nat} {gt ct:Nat} {A:NS} {st:Nat} {S:TS} {rk:Nat->Nat} {af:List Int}
def LB.blk (B:LB) (F:List Nat) (gt:Nat):List Nat:=B.n0::B.bt::B.ba::B.br::gt::F
theorem jP.upd {w':World} {G:List Nat} (h:jP w B F gt ct A st S rk af) (hu:aa G w w') (hG:∀x,x∈G->x∉B.blk F gt):jP w' B F gt ct A st S rk af:=by
 have h1:∀x,x∈B.blk F gt->x∉G:=fun x hx hg=>hG x hg hx;exact ⟨h.head.upd hu (h1 _ (by simp [LB.blk])),h.cells.upd hu (fun x hx=>fun hm=>hG x hx (by simp [LB.blk,hm])),h.trees.upd hu (h1 _ (by simp [LB.blk])) (h1 _ (by simp [LB.blk])),h.ranks.upd hu (h1 _ (by simp [LB.blk])),h.jC.upd hu (h1 _ (by simp [LB.blk])),h.jk,h.bA,h.sep⟩
theorem jP.ae {w':World} (h:jP w B F gt ct A st S rk af) (hu:aa [] w w'):jP w' B F gt ct A st S rk af:=h.upd hu σ
theorem jP.lt (h:jP w B F gt ct A st S rk af):∀x,x∈B.blk F gt->x<w.heap.size:=by
 intro x hx;have:=h.head.lt;have:=h.trees.head.lt;have:=h.trees.row.lt;have:=h.ranks.lt;have:=h.jC.lt;simp only [LB.blk,ρ] at hx;rcases hx with rfl|rfl|rfl|rfl|rfl|hx
 ·assumption
 ·assumption
 ·assumption
 ·assumption
 ·assumption
 ·exact h.cells.lt x hx
theorem jP.cF (h:jP w B F gt ct A st S rk af):B.c∈F:=h.cells.mem
theorem jP.h0 (h:jP w B F gt ct A st S rk af):w.cell? ⟨B.n0,0,none⟩=some (.pointer (some ⟨B.c,0,none⟩)):=h.head.cellAt 0 ω rfl
theorem jP.h1 (h:jP w B F gt ct A st S rk af):w.cell? ⟨B.n0,1,none⟩=some (.pointer (some ⟨B.bt,0,none⟩)):=h.head.cellAt 1 ω rfl
theorem jP.h2 (h:jP w B F gt ct A st S rk af):w.cell? ⟨B.n0,2,none⟩=some (.slice (some ⟨B.br,0,none⟩) A.cs.length A.cs.length):=h.head.cellAt 2 ω rfl
theorem jP.h3 (h:jP w B F gt ct A st S rk af):w.cell? ⟨B.n0,3,none⟩=some (.slice (some ⟨gt,0,none⟩) af.length ct):=h.head.cellAt 3 ω rfl
theorem jP.gY {w':World} {S':TS} (h:jP w B F gt ct A st S rk af) (hu:aa [B.ba] w w') (hT:aY w' B.bt B.ba A.cs.length S'):jP w' B F gt ct A st S' rk af:=by
 have s:=h.sep;have f:=h.bA;have hne:=h.trees.ne;exact ⟨h.head.upd hu ζ,h.cells.upd hu (fun x hx=>by simp at hx;rw [hx];exact f.2.2.1),hT,h.ranks.upd hu ζ,h.jC.upd hu ζ,h.jk,f,s⟩
theorem jP.cZ (h:jP w B F gt ct A st S rk af) (x:Nat) (k:Nat):jP (w.setCell ⟨B.br,x,none⟩ (.int .i64 (k:Int))) B F gt ct A st S (fun y=>if y=x then k else rk y) af:=by
 have s:=h.sep;have f:=h.bA;have hu:aa [B.br] w (w.setCell ⟨B.br,x,none⟩ (.int .i64 (k:Int))):=β;refine ⟨h.head.upd hu ζ,h.cells.upd hu (fun x hx=>by simp at hx;rw [hx];exact f.2.2.2.1),h.trees.upd hu ζ ζ,(h.ranks.set x _).ext (fun j hj=>?_),h.jC.upd hu ζ,h.jk,f,s⟩
 by_cases e:j=x
 ·simp only [e,if_true]
 ·simp only [e,if_false]
theorem jP.sZ (h:jP w B F gt ct A st S rk af) (x:Nat) (k:Int):jP (w.setCell ⟨gt,x,none⟩ (.int .i64 k)) B F gt ct A st S rk (af.set x k):=by
 have s:=h.sep;have f:=h.bA;have hu:aa [gt] w (w.setCell ⟨gt,x,none⟩ (.int .i64 k)):=β;refine ⟨by rw [Ι];exact h.head.upd hu ζ,h.cells.upd hu (fun x hx=>by simp at hx;rw [hx];exact f.2.2.2.2),h.trees.upd hu ζ ζ,h.ranks.upd hu ζ,h.jC.set x k,by rw [Ι];exact h.jk,f,s⟩
theorem jP.fe {w':World} {F':List Nat} {A':NS} {st':Nat} (h:jP w B F gt ct A st S rk af) (hu:aa F w w') (hC:aB w' B.c F' A' st') (hF:∀x,x∈F'->x∈F\/w.heap.size<=x) (h1:A'.cs.length=A.cs.length) (h2:A'.hs.length=A.hs.length):jP w' B F' gt ct A' st' S rk af:=by
 have f:=h.bA;have g:=h.lt;have hf:∀x,x<w.heap.size->x∉F->x∉F':=fun x hx hn hm=>by rcases hF x hm with h'|h';exact hn h';omega
 have l0:=g B.n0 (by simp [LB.blk]);have l1:=g B.bt (by simp [LB.blk]);have l2:=g B.ba (by simp [LB.blk]);have l3:=g B.br (by simp [LB.blk]);have l4:=g gt (by simp [LB.blk]);exact ⟨by rw [h1];exact h.head.upd hu f.1,hC,by rw [h1];exact h.trees.upd hu f.2.1 f.2.2.1,by rw [h1];exact h.ranks.upd hu f.2.2.2.1,h.jC.upd hu f.2.2.2.2,by rw [h2];exact h.jk,⟨hf _ l0 f.1,hf _ l1 f.2.1,hf _ l2 f.2.2.1,hf _ l3 f.2.2.2.1,hf _ l4 f.2.2.2.2⟩,h.sep⟩
end
theorem l8 (z:Int) (w:World):Calls Tryz.prog 247 #[.int .i64 (tv z),.bool (tb z)] w fun e w'=>e=.returned (.int .i64 z)/\w'=w:=by
 unfold tv tb
 by_cases h:z=-1
 ·subst h;simp only [if_true,ne_eq,not_true,decide_false]
  go_enter Tryz.func247,Tryz.ntmps247
  go_wp2;go_ret;exact ⟨rfl,rfl⟩
 ·rw [Γ h,Ν h]
  go_enter Tryz.func247,Tryz.ntmps247
  go_wp2;go_ret;exact ⟨rfl,rfl⟩
def fK (rk:Nat->Nat) (z:Int):Int:=if z=-1 then 0 else (rk z.toNat:Int)
section
variable {w:World} {B:LB} {F:List Nat} {gt ct:Nat} {A:NS} {st:Nat} {S:TS} {rk:Nat->Nat} {af:List Int}
theorem je (h:jP w B F gt ct A st S rk af) (z:Int) (hz:z=-1\/(0<=z/\z<A.cs.length)) :
  Calls Tryz.prog 258 #[.pointer (some ⟨B.n0,0,none⟩),.int .i64 z] w fun e w'=>e=.returned (.int .i64 (fK rk z))/\w'=w:=by
 unfold fK;have h2:=h.h2;have hA:=h.cells.ok.c1
 by_cases e:z=-1
 ·subst e;clear h
  go_enter Tryz.func258,Tryz.ntmps258
  go_wp2;go_ret;exact ⟨rfl,rfl⟩
 ·obtain ⟨i,rfl⟩:∃i:Nat,z=i:=⟨z.toNat,ω⟩;have hi:i<A.cs.length:=ω;have d:=h.ranks.cell i hi;have hb:((i:Int) == -1)=false:=σ;rw [Γ e];simp only [π];clear h e hz
  go_enter Tryz.func258,Tryz.ntmps258
  go_wp2;go_ret;exact ⟨rfl,rfl⟩
theorem qC (rk:Nat->Nat) (z:Int):0<=fK rk z:=by unfold fK;split<;>omega
theorem BH (h:jP w B F gt ct A st S rk af) (x:Nat) (hx:x<A.cs.length) (hl:S.l x=-1\/(0<=S.l x/\S.l x<A.cs.length)) (hr:S.r x=-1\/(0<=S.r x/\S.r x<A.cs.length)) (wM:fK rk (S.l x)<=65536) (hbb:fK rk (S.r x)<=65536) (hab:fK rk (S.l x)<fK rk (S.r x)) :
  Calls Tryz.prog 255 #[.pointer (some ⟨B.n0,0,none⟩),.int .i64 (x:Int)] w fun e w'=>e=.returned (.tuple #[])/\aa [B.ba,B.br] w w'/\jP w' B F gt ct A st (iB S x) (fun y=>if y=x then (fK rk (S.l x)).toNat + 1 else rk y) af:=by
 have kl:=fun d=>xJ B.bt B.ba A.cs.length S (x:Int) (w.drewN d) (h.trees.drewN d);have kr:=fun d=>nP B.bt B.ba A.cs.length S (x:Int) (w.drewN d) (h.trees.drewN d);rw [show fD A.cs.length S (x:Int) false=S.l x by unfold fD TS.kid;rw [Δ ω];simp] at kl;rw [show fD A.cs.length S (x:Int) true=S.r x by unfold fD TS.kid;rw [Δ ω];simp] at kr;have q1:∀d,(w.drewN d).cell? ⟨B.n0,1,none⟩=some (.pointer (some ⟨B.bt,0,none⟩)):=fun d=>h.h1;have H:=χ h;have rl:=fun d=>je (h.ae ((aa.refl [] w).drewN d)) (S.l x) hl;have rr:=fun d=>je (h.ae ((aa.refl [] w).drewN d)) (S.r x) hr
 have ba1:0<=fK rk (S.l x)/\fK rk (S.l x)<=65536:=⟨qC _ _,wM⟩;have bb1:0<=fK rk (S.r x)/\fK rk (S.r x)<=65536:=⟨qC _ _,hbb⟩;clear wM hbb;have HL:=χ (ψ hl hr);generalize hzl:S.l x=zl at *;generalize Jp:S.r x=zr at *;generalize hra:fK rk zl=a at *;generalize hrb:fK rk zr=b at *;have HZ:=χ (ψ hzl (ψ Jp (ψ hra hrb)));have hn0:=h.lt B.n0 (by simp [LB.blk]);have hbr:=h.lt B.br (by simp [LB.blk]);have hs:=h.sep;have hA:=h.cells.ok.c1;clear h hzl Jp hra hrb hl hr
 go_enter Tryz.func255,Tryz.ntmps255
 go_wp2
 go_quiet ((first
  | (go_at_call 248;exact Calls.quiet_of (kl _))
  | (go_at_call 249;exact Calls.quiet_of (kr _))
  | (go_at_call 247;exact Calls.quiet_of_same (l8 _ _))))
 have H2:=χ (H.out.ae ((aa.refl [] w).drewN nq));have rln:=rl nq;have ZP:=rr nq;have h1:=q1 nq;clear kl kr q1 rl rr;have kt:=yt B.bt B.ba A.cs.length S x (w.drewN nq) H2.out.trees hx
 go_wp2_with (first
  | (go_at_call 258;(with_reducible refine (rln).mono ?_);rintro e w9 ⟨rfl,aO⟩;rw [aO];clear aO w9)
  | (go_at_call 258;(with_reducible refine (ZP).mono ?_);rintro e w9 ⟨rfl,aO⟩;rw [aO];clear aO w9)
  | (go_at_call 259;(with_reducible refine (kt).mono ?_);rintro e w2 ⟨rfl,hT,hu2⟩))
 have h3:=χ (H2.out.gY hu2 hT);have hw2:aa [B.ba,B.br] w w2:=((aa.refl _ w).drewN nq).trans (hu2.mono σ);have kq:=fun W (hW:aa [] w2 W)=>je (h3.out.ae hW) zl HL.out.1;rw [HZ.out.2.2.1] at kq;have r0:∀W,aa [B.br] w2 W->W.cell? ⟨B.n0,2,none⟩=some (.slice (some ⟨B.br,0,none⟩) A.cs.length A.cs.length):=fun W hW=>hW.kept h3.out.h2 ζ;have d0:=h3.out.ranks.cell x hx;have d1:=h3.out.ranks.free x;have hwr:IntKind.i64.wrap (a+1)=a+1:=Μ _ ω
 go_region_held3 (aa [B.br] w2) (exact ν) ((go_at_call 258;(with_reducible refine ((kq _ β)).mono ?_);rintro e w9 ⟨rfl,aO⟩;rw [aO];clear aO w9))
 go_wp2;go_end0;clear hwr;obtain ⟨an,rfl⟩:∃an:Nat,a=an:=⟨a.toNat,ω⟩;have hR:=h3.out.cZ x (an+1);rw [show ((an+1:Nat):Int)=(an:Int)+1 by omega] at hR;exact ⟨rfl,((hw2.setCell (Α σ) _)).drew,hR.ae ((aa.refl _ _).drew)⟩
theorem CE (h:jP w B F gt ct A st S rk af) (x:Nat) (hx:x<A.cs.length) (hl:S.l x=-1\/(0<=S.l x/\S.l x<A.cs.length)) (hr:S.r x=-1\/(0<=S.r x/\S.r x<A.cs.length)) (wM:fK rk (S.l x)<=65536) (hbb:fK rk (S.r x)<=65536) (hab:¬fK rk (S.l x)<fK rk (S.r x)) :
  Calls Tryz.prog 255 #[.pointer (some ⟨B.n0,0,none⟩),.int .i64 (x:Int)] w fun e w'=>e=.returned (.tuple #[])/\aa [B.ba,B.br] w w'/\jP w' B F gt ct A st S (fun y=>if y=x then (fK rk (S.r x)).toNat + 1 else rk y) af:=by
 have kl:=fun d=>xJ B.bt B.ba A.cs.length S (x:Int) (w.drewN d) (h.trees.drewN d);have kr:=fun d=>nP B.bt B.ba A.cs.length S (x:Int) (w.drewN d) (h.trees.drewN d);rw [show fD A.cs.length S (x:Int) false=S.l x by unfold fD TS.kid;rw [Δ ω];simp] at kl;rw [show fD A.cs.length S (x:Int) true=S.r x by unfold fD TS.kid;rw [Δ ω];simp] at kr;have q1:∀d,(w.drewN d).cell? ⟨B.n0,1,none⟩=some (.pointer (some ⟨B.bt,0,none⟩)):=fun d=>h.h1;have H:=χ h;have rl:=fun d=>je (h.ae ((aa.refl [] w).drewN d)) (S.l x) hl;have rr:=fun d=>je (h.ae ((aa.refl [] w).drewN d)) (S.r x) hr
 have ba1:0<=fK rk (S.l x)/\fK rk (S.l x)<=65536:=⟨qC _ _,wM⟩;have bb1:0<=fK rk (S.r x)/\fK rk (S.r x)<=65536:=⟨qC _ _,hbb⟩;clear wM hbb;have HL:=χ (ψ hl hr);generalize hzl:S.l x=zl at *;generalize Jp:S.r x=zr at *;generalize hra:fK rk zl=a at *;generalize hrb:fK rk zr=b at *;have HZ:=χ (ψ hzl (ψ Jp (ψ hra hrb)));have hn0:=h.lt B.n0 (by simp [LB.blk]);have hbr:=h.lt B.br (by simp [LB.blk]);have hs:=h.sep;have hA:=h.cells.ok.c1;clear h hzl Jp hra hrb hl hr
 go_enter Tryz.func255,Tryz.ntmps255
 go_wp2
 go_quiet ((first
  | (go_at_call 248;exact Calls.quiet_of (kl _))
  | (go_at_call 249;exact Calls.quiet_of (kr _))
  | (go_at_call 247;exact Calls.quiet_of_same (l8 _ _))))
 have H2:=χ (H.out.ae ((aa.refl [] w).drewN nq));have rln:=rl nq;have ZP:=rr nq;have h1:=q1 nq;clear kl kr q1 rl rr
 go_wp2_with (first
  | (go_at_call 258;(with_reducible refine (rln).mono ?_);rintro e w9 ⟨rfl,aO⟩;rw [aO];clear aO w9)
  | (go_at_call 258;(with_reducible refine (ZP).mono ?_);rintro e w9 ⟨rfl,aO⟩;rw [aO];clear aO w9))
 obtain ⟨w2,hw2⟩:∃w2,w2=w.drewN nq:=⟨_,rfl⟩;have hu2:aa [B.ba,B.br] w w2:=by rw [hw2];exact (aa.refl _ w).drewN nq
 rw [←hw2] at H2 ⊢;clear hw2 h1 rln ZP;have kq:=fun W (hW:aa [] w2 W)=>je (H2.out.ae hW) zr HL.out.2;rw [HZ.out.2.2.2] at kq;have r0:∀W,aa [B.br] w2 W->W.cell? ⟨B.n0,2,none⟩=some (.slice (some ⟨B.br,0,none⟩) A.cs.length A.cs.length):=fun W hW=>hW.kept H2.out.h2 ζ;have d0:=H2.out.ranks.cell x hx;have d1:=H2.out.ranks.free x;have hwr:IntKind.i64.wrap (b+1)=b+1:=Μ _ ω
 go_region_held3 (aa [B.br] w2) (exact ν) ((go_at_call 258;(with_reducible refine ((kq _ β)).mono ?_);rintro e w9 ⟨rfl,aO⟩;rw [aO];clear aO w9))
 go_wp2;go_end0;clear hwr;obtain ⟨bn,rfl⟩:∃bn:Nat,b=bn:=⟨b.toNat,ω⟩;have hR:=H2.out.cZ x (bn+1);rw [show ((bn+1:Nat):Int)=(bn:Int)+1 by omega] at hR;exact ⟨rfl,((hu2.setCell (Α σ) _)).drew,hR.ae ((aa.refl _ _).drew)⟩
end
theorem CQ:∀t:BT,t.rank<=t.size
 | .nil=>Θ _
 | .node x l r=>by have:=CQ r;simp only [BT.rank,BT.size];omega
theorem lD {n:Nat} {l:List Nat} (hn:l.Nodup) (hl:∀x,x∈l->x<n):l.length<=n:=by
 have:=nodup_range n (l.map fun (x:Nat)=>(x:Int)) (by
  unfold List.Nodup;rw [List.pairwise_map];exact hn.imp (fun {a b} h e=>h ω)) (fun y hy=>by
  obtain ⟨x,hx,rfl⟩:=List.mem_map.1 hy;have:=hl x hx
  exact ⟨ω,ω⟩)
 simpa using this
theorem y5 {rk:Nat->Nat} {t:BT} (h:fG rk t):fK rk t.root=t.rank:=by
 unfold fK
 by_cases e:t=.nil
 ·subst e;simp [BT.root,BT.rank]
 ·have:=bD e;rw [Γ ω];rw [h.root e]
theorem tQ {n:Nat} {t:BT} (h:∀x,x∈t.nodes->x<n):t.root=-1\/(0<=t.root/\t.root<n):=by
 by_cases e:t=.nil
 ·subst e;exact Α rfl
 ·have h1:=bD e;have:=h _ h1.1;exact Β ⟨ω,ω⟩
theorem M8 {S:TS} {p:Int} {x:Nat} {l r:BT} (hu:S.u x=p) (hl:bS S x (S.l x) l) (hr:bS S x (S.r x) r):bS S p x (.node x l r):=⟨rfl,hu,hl,hr⟩
section
variable {w:World} {B:LB} {F:List Nat} {gt ct:Nat} {A:NS} {st:Nat} {S:TS} {rk:Nat->Nat} {af:List Int}
theorem oo (h:jP w B F gt ct A st S rk af) {p:Int} {x:Nat} {l r:BT} (hT:bS S p x (.node x l r)) (hl:fG rk l) (hr:fG rk r) (hn:(BT.node x l r).nodes.Nodup) (hlt:∀y,y∈(BT.node x l r).nodes->y<A.cs.length) :
  Calls Tryz.prog 255 #[.pointer (some ⟨B.n0,0,none⟩),.int .i64 (x:Int)] w fun e w'=>e=.returned (.tuple #[])/\aa [B.ba,B.br] w w'/\
   ∃S' pM,jP w' B F gt ct A st S' pM af/\bS S' p x (ai x l r)/\fG pM (ai x l r)/\(∀y,y≠x->S.at S' y)/\S'.u x=S.u x/\(∀y,y≠x->pM y=rk y):=by
 obtain ⟨_,hu,KR,hTr⟩:=hT;have hx:=hlt x (by simp [BT.nodes]);have hll:∀y,y∈l.nodes->y<A.cs.length:=fun y hy=>hlt y (by simp [BT.nodes,hy]);have hlr:∀y,y∈r.nodes->y<A.cs.length:=fun y hy=>hlt y (by simp [BT.nodes,hy]);have hA:=h.cells.ok.c1;have hn2:=hn;simp only [BT.nodes,Ζ,τ,not_or,θ] at hn2;have sl:=lD hn2.2.1 hll;have sr:=lD hn2.2.2.1 hlr;rw [BT.jT] at sl sr;have rl:=CQ l;have rr:=CQ r;have el:=KR.root;have er:=hTr.root;have fr:∀ {S':TS},(∀y,y≠x->S.at S' y)->(∀z,bS S x z l->bS S' x z l)/\(∀z,bS S x z r->bS S' x z r):=fun hS=>
  ⟨fun z hz=>hz.frame (fun y hy=>hS y (fun e=>hn2.1.1 (by rw [←e];exact hy))),fun z hz=>hz.frame (fun y hy=>hS y (fun e=>hn2.1.2 (by rw [←e];exact hy)))⟩
 have zl:fK rk (S.l x)=l.rank:=by rw [el];exact y5 hl
 have zr:fK rk (S.r x)=r.rank:=by rw [er];exact y5 hr
 by_cases hab:l.rank<r.rank
 ·refine (BH h x hx (by rw [el];exact tQ hll) (by rw [er];exact tQ hlr) (by rw [zl];omega) (by rw [zr];omega) (by rw [zl,zr];omega)).mono ?_;rintro e w' ⟨rfl,hU,hM⟩;have hat:∀y,y≠x->S.at (iB S x) y:=fun y hy=>⟨by unfold iB TS.aC;simp [hy],by unfold iB TS.aC;simp [hy],by unfold iB TS.aC;simp⟩
  have e1:(iB S x).l x=S.r x:=by unfold iB TS.aC;simp
  have e2:(iB S x).r x=S.l x:=by unfold iB TS.aC;simp
  have e3:(iB S x).u x=S.u x:=by unfold iB TS.aC;simp
  refine ⟨rfl,hU,_,_,hM,?_,?_,hat,e3,fun y hy=>by rw [Γ hy]⟩
  ·unfold ai;rw [Δ hab];exact ⟨rfl,by rw [e3];exact hu,by rw [e1];exact (fr hat).2 _ hTr,by rw [e2];exact (fr hat).1 _ KR⟩
  ·unfold ai;rw [Δ hab];refine ⟨by simp [zl],hr.frame (fun y hy=>by rw [Γ (fun e=>hn2.1.2 (by rw [←e];exact hy))]),hl.frame (fun y hy=>by rw [Γ (fun e=>hn2.1.1 (by rw [←e];exact hy))])⟩
 ·refine (CE h x hx (by rw [el];exact tQ hll) (by rw [er];exact tQ hlr) (by rw [zl];omega) (by rw [zr];omega) (by rw [zl,zr];omega)).mono ?_;rintro e w' ⟨rfl,hU,hM⟩;refine ⟨rfl,hU,_,_,hM,?_,?_,fun y _=>⟨rfl,rfl,rfl⟩,rfl,fun y hy=>by rw [Γ hy]⟩
  ·unfold ai;rw [Γ hab];exact ⟨rfl,hu,KR,hTr⟩
  ·unfold ai;rw [Γ hab];refine ⟨by simp [zr],hl.frame (fun y hy=>by rw [Γ (fun e=>hn2.1.1 (by rw [←e];exact hy))]),hr.frame (fun y hy=>by rw [Γ (fun e=>hn2.1.2 (by rw [←e];exact hy))])⟩
end
theorem BT.vz {t:BT} (h:t≠.nil):t.root=(t.root.toNat:Int):=(bD h).2
def xD (S:TS) (x:Nat) (r:BT):TS:=match r with | .nil=>S | .node y _ _=>kZ S x y
theorem Kv {S:TS} {p:Int} {x:Nat} {l r:BT} (h:bS S p x (.node x l r)) (hn:(BT.node x l r).nodes.Nodup) :
  bS (xD S x r) p x (.node x l .nil)/\bS (xD S x r) (-1) r.root r/\∀y,y≠x->y∉r.nodes->S.at (xD S x r) y:=by
 obtain ⟨_,hu,hl,hr⟩:=h;simp only [BT.nodes,Ζ,τ,not_or,θ] at hn;cases r with
 | nil=>exact ⟨⟨rfl,hu,hl,hr⟩,rfl,fun y _ _=>⟨rfl,rfl,rfl⟩⟩
 | node y a b=>
  have hxy:x≠y:=fun e=>hn.1.2 (by rw [e];simp [BT.nodes]);have Zx:S.r x=y:=hr.1;have e:xD S x (.node y a b)=kZ S x y:=rfl;rw [e];have hl':∀z,(kZ S x y).l z=S.l z:=fun z=>by unfold kZ TS.aC TS.bG;rw [Ν Zx];rfl
  have hr':∀z,(kZ S x y).r z=if z=x then -1 else S.r z:=fun z=>by unfold kZ TS.aC TS.bG;rw [Ν Zx];rfl
  have hu':∀z,(kZ S x y).u z=if z=y then -1 else S.u z:=fun z=>by unfold kZ TS.aC TS.bG;rw [Ν Zx];rfl
  refine ⟨⟨rfl,by rw [hu',Γ hxy];exact hu,?_,by rw [hr',Δ rfl];rfl⟩,?_,fun z h1 h2=>⟨hl' z,by rw [hr',Γ h1],by rw [hu',Γ (fun e=>h2 (by rw [e];simp [BT.nodes]))]⟩⟩
  ·rw [hl'];refine hl.frame (fun z hz=>⟨hl' z,by rw [hr',Γ (fun e=>hn.1.1 (by rw [←e];exact hz))],by rw [hu',Γ (fun e=>hn.2.2.2 z hz y (by simp [BT.nodes]) e)]⟩)
  ·have h0:bS S x ((BT.node y a b).root) (.node y a b):=by rw [←hr.root];exact hr
   refine h0.LX (p':=-1) hn.2.2.1 (fun z hz=>⟨hl' z,by rw [hr',Γ (fun e=>hn.1.2 (by rw [←e];exact hz))],fun Jp=>by rw [hu',Γ (fun e=>Jp (by rw [e];simp [BT.root]))]⟩) (fun _=>by rw [hu'];simp [BT.root])
theorem Bf {S:TS} {p:Int} {x:Nat} {l m:BT} (h:bS S p x (.node x l .nil)) (hm:bS S (-1) m.root m) (hne:m≠.nil) (hn:(BT.node x l m).nodes.Nodup) :
  bS (jB S x m.root true) p x (.node x l m)/\∀y,y≠x->y∉m.nodes->S.at (jB S x m.root true) y:=by
 obtain ⟨_,hu,hl,_⟩:=h;simp only [BT.nodes,Ζ,τ,not_or,θ] at hn;obtain ⟨r1,r2⟩:=bD hne;have hl':∀z,(jB S x m.root true).l z=S.l z:=fun z=>by unfold jB TS.aC TS.bG;rfl
 have hr':∀z,(jB S x m.root true).r z=if z=x then m.root else S.r z:=fun z=>by unfold jB TS.aC TS.bG;simp
 have hu':∀z,(jB S x m.root true).u z=if z=m.root.toNat then (x:Int) else S.u z:=fun z=>by unfold jB TS.aC TS.bG;simp
 have hxm:x≠m.root.toNat:=fun e=>hn.1.2 (by rw [e];exact r1);refine ⟨⟨rfl,by rw [hu',Γ hxm];exact hu,?_,?_⟩,fun z h1 h2=>⟨hl' z,by rw [hr',Γ h1],by rw [hu',Γ (fun e=>h2 (by rw [e];exact r1))]⟩⟩
 ·rw [hl'];exact hl.frame (fun z hz=>⟨hl' z,by rw [hr',Γ (fun e=>hn.1.1 (by rw [←e];exact hz))],by rw [hu',Γ (fun e=>hn.2.2.2 z hz _ r1 e)]⟩)
 ·rw [hr',Δ rfl];exact hm.LX (p':=(x:Int)) hn.2.2.1 (fun z hz=>⟨hl' z,by rw [hr',Γ (fun e=>hn.1.2 (by rw [←e];exact hz))],fun Jp=>by rw [hu',Γ Jp]⟩) (fun _=>by rw [hu',Δ rfl])
structure Down (up:Nat->BT->BT->BT) (A:NS) (S0:TS) (ta tb:BT) (S:TS) (W:List (Nat×BT)) (a b:BT):Prop where
 XK:bS S (-1) a.root a
 Zk:bS S (-1) b.root b
 way:∀p,p∈W->bS S (-1) (p.1:Int) (.node p.1 p.2 .nil)
 far:∀y,y∉ta.nodes++tb.nodes->S0.at S y
 perm:(rH W++(a.nodes++b.nodes)).Perm (ta.nodes++tb.nodes)
 res:aH up A ta tb=(sj up W (aH up A a b).1,W.length+(aH up A a b).2)
theorem Down.start (up:Nat->BT->BT->BT) (A:NS) {S0:TS} {ta tb:BT} (ha:bS S0 (-1) ta.root ta) (hb:bS S0 (-1) tb.root tb):Down up A S0 ta tb S0 [] ta tb:=
 ⟨ha,hb,fun p hp=>(by cases hp),fun y _=>⟨rfl,rfl,rfl⟩,by simp [rH],by simp [sj]⟩
theorem nY (W:List (Nat×BT)) (x:Nat) (l:BT):rH (W++[(x,l)])=rH W++(x::l.nodes):=by unfold rH;simp
theorem Cg {W:List (Nat×BT)} {p:Nat×BT} (hp:p∈W):p.1∈rH W/\∀y,y∈p.2.nodes->y∈rH W:=by
 unfold rH;exact ⟨List.mem_flatMap.2 ⟨p,hp,σ⟩,fun y hy=>List.mem_flatMap.2 ⟨p,hp,by simp [hy]⟩⟩
theorem Down.take {up:Nat->BT->BT->BT} {A:NS} {S0 S:TS} {ta tb b l r:BT} {x:Nat} {W:List (Nat×BT)} (hX:(ta.nodes++tb.nodes).Nodup)
  (h1:bS S (-1) (x:Int) (.node x l r)) (h2:bS S (-1) b.root b) (h3:∀p,p∈W->bS S (-1) (p.1:Int) (.node p.1 p.2 .nil)) (h4:∀y,y∉ta.nodes++tb.nodes->S0.at S y)
  (h5:(rH W++((BT.node x l r).nodes++b.nodes)).Perm (ta.nodes++tb.nodes)) (h6:aH up A ta tb=(sj up W (up x l (aH up A r b).1),W.length+((aH up A r b).2+1))) :
  Down up A S0 ta tb (xD S x r) (W++[(x,l)]) r b:=by
 have hnd:=h5.nodup_iff.2 hX;rw [θ] at hnd;obtain ⟨n1,n2,n3⟩:=hnd;rw [θ] at n2;obtain ⟨n4,n5,n6⟩:=n2;obtain ⟨c1,c2,c3⟩:=Kv h1 n4;have hout:∀y,y∉ta.nodes++tb.nodes->y≠x/\y∉r.nodes:=fun y hy=>
  ⟨fun e=>hy (h5.mem_iff.1 (by rw [e];simp [BT.nodes])),fun hm=>hy (h5.mem_iff.1 (by simp [BT.nodes,hm]))⟩
 refine ⟨c2,h2.frame (fun y hy=>c3 y (fun e=>n6 x (by simp [BT.nodes]) y hy e.symm) (fun hm=>n6 y (by simp [BT.nodes,hm]) y hy rfl)),fun p hp=>?_,fun y hy=>?_,?_,?_⟩
 ·rcases τ.1 hp with hp|hp
  ·have hw:=Cg hp;refine (h3 p hp).frame (fun y hy=>?_);have Wl:y∈rH W:=by
    simp only [BT.nodes,Υ,ρ] at hy;rcases hy with rfl|hy
    ·exact hw.1
    ·exact hw.2 y hy
   exact c3 y (fun e=>n3 y Wl x (by simp [BT.nodes]) e) (fun hm=>n3 y Wl y (by simp [BT.nodes,hm]) rfl)
  ·simp only [ϔ] at hp;subst hp;exact c1
 ·obtain ⟨k1,k2⟩:=hout y hy;have a1:=h4 y hy;have a2:=c3 y k1 k2;exact ⟨a2.1.trans a1.1,a2.2.1.trans a1.2.1,a2.2.2.trans a1.2.2⟩
 ·rw [nY];refine Ϣ ?_ h5;simp only [BT.nodes,ϋ,List.cons_append];exact ό _
 ·rw [h6,yI];simp only [υ,Ω,List.length_nil];exact Prod.ext rfl (by simp only;omega)
theorem Down.takeA {up:Nat->BT->BT->BT} {A:NS} {S0 S:TS} {ta tb l r l' r':BT} {x y:Nat} {W:List (Nat×BT)} (h:Down up A S0 ta tb S W (.node x l r) (.node y l' r')) (hX:(ta.nodes++tb.nodes).Nodup) (hlt:¬eB A y x) :
  Down up A S0 ta tb (xD S x r) (W++[(x,l)]) r (.node y l' r'):=by
 refine Down.take hX h.XK h.Zk h.way h.far h.perm ?_;rw [h.res,mU,Γ hlt]
theorem Down.takeB {up:Nat->BT->BT->BT} {A:NS} {S0 S:TS} {ta tb l r l' r':BT} {x y:Nat} {W:List (Nat×BT)} (h:Down up A S0 ta tb S W (.node x l r) (.node y l' r')) (hX:(ta.nodes++tb.nodes).Nodup) (hlt:eB A y x) :
  Down up A S0 ta tb (xD S y r') (W++[(y,l')]) r' (.node x l r):=by
 refine Down.take hX h.Zk h.XK h.way h.far ?_ ?_
 ·refine Ϣ ?_ h.perm;exact List.Perm.append_left _ Φ
 ·rw [h.res,mU,Δ hlt]
structure Rj (up:Nat->BT->BT->BT) (S0:TS) (X:List Nat) (t:BT) (S:TS) (W:List (Nat×BT)) (m:BT):Prop where
 isM:bS S (-1) m.root m
 way:∀p,p∈W->bS S (-1) (p.1:Int) (.node p.1 p.2 .nil)
 far:∀y,y∉X->S0.at S y
 perm:(rH W++m.nodes).Perm X
 res:t=sj up W m
theorem Down.turn {up:Nat->BT->BT->BT} {A:NS} {S0 S:TS} {ta tb a b:BT} {W:List (Nat×BT)} (h:Down up A S0 ta tb S W a b) (he:a=.nil\/b=.nil) :
  ∃m,m.root=(if a.root=-1 then b.root else a.root)/\Rj up S0 (ta.nodes++tb.nodes) (aH up A ta tb).1 S W m/\(aH up A ta tb).2=W.length/\(m=a\/m=b):=by
 rcases he with rfl|rfl
 ·refine ⟨b,by simp [BT.root],⟨h.Zk,h.way,h.far,by simpa [BT.nodes] using h.perm,by rw [h.res,jV]⟩,by rw [h.res,jV];simp,Β rfl⟩
 ·refine ⟨a,?_,⟨h.XK,h.way,h.far,by simpa [BT.nodes] using h.perm,by rw [h.res,mQ]⟩,by rw [h.res,mQ];simp,Α rfl⟩
  split
  ·rename_i e;rw [e];rfl
  ·rfl
theorem Rj.turn {up:Nat->BT->BT->BT} {S0 S2 S3:TS} {X:List Nat} {t m l:BT} {x:Nat} {W:List (Nat×BT)} (U:Rj up S0 X t S2 (W++[(x,l)]) m) (K:OG up) (hX:X.Nodup)
  (hT:bS S3 (-1) x (up x l m)) (BA:∀y,y≠x->y∉l.nodes->y∉m.nodes->S2.at S3 y):Rj up S0 X t S3 W (up x l m):=by
 have hp:=U.perm;rw [nY,ϋ] at hp;have hnd:=hp.nodup_iff.2 hX;rw [θ] at hnd;obtain ⟨n1,n2,n3⟩:=hnd;refine ⟨by rw [K.root];exact hT,fun p hpW=>?_,fun y hy=>?_,?_,by rw [U.res,yI]⟩
 ·have hw:=Cg hpW;refine (U.way p (List.mem_append_left _ hpW)).frame (fun y hy=>?_);have Wl:y∈rH W:=by
   simp only [BT.nodes,Υ,ρ] at hy;rcases hy with rfl|hy
   ·exact hw.1
   ·exact hw.2 y hy
  exact BA y (fun e=>n3 y Wl x σ e) (fun hm=>n3 y Wl y (by simp [hm]) rfl) (fun hm=>n3 y Wl y (by simp [hm]) rfl)
 ·have h1:=U.far y hy;have h2:=BA y (fun e=>hy (hp.mem_iff.1 (by rw [e];simp))) (fun hm=>hy (hp.mem_iff.1 (by simp [hm]))) (fun hm=>hy (hp.mem_iff.1 (by simp [hm])));exact ⟨h2.1.trans h1.1,h2.2.1.trans h1.2.1,h2.2.2.trans h1.2.2⟩
 ·refine Ϣ (List.Perm.append_left _ (K.nodes x l m)) ?_;simpa using hp
theorem Rj.len {up:Nat->BT->BT->BT} {S0 S:TS} {X:List Nat} {t m:BT} {W:List (Nat×BT)} (U:Rj up S0 X t S W m):W.length<=X.length:=by
 have:=U.perm.length_eq;rw [υ] at this;have h2:W.length<=(rH W).length:=by
  clear this U
  induction W with
  | nil=>simp
  | cons p t ih=>unfold rH at *;simp only [List.flatMap_cons,υ,Ω];omega
 omega
theorem Down.len {up:Nat->BT->BT->BT} {A:NS} {S0 S:TS} {ta tb a b:BT} {W:List (Nat×BT)} (U:Down up A S0 ta tb S W a b):W.length+a.nodes.length+b.nodes.length<=(ta.nodes++tb.nodes).length:=by
 have:=U.perm.length_eq;rw [υ,υ] at this;have h2:W.length<=(rH W).length:=by
  clear this U
  induction W with
  | nil=>simp
  | cons p t ih=>unfold rH at *;simp only [List.flatMap_cons,υ,Ω];omega
 omega
theorem AU {S0 S2:TS} {X:List Nat} {t m l:BT} {x:Nat} {W:List (Nat×BT)} {zi MR:Nat->Nat} {up:Nat->BT->BT->BT} (U:Rj up S0 X t S2 (W++[(x,l)]) m) (hX:X.Nodup)
  (hk:∀y,y≠x->MR y=zi y) (hr:∀p,p∈W->fG zi p.2):∀p,p∈W->fG MR p.2:=fun p hp=>by
 have hpx:=U.perm;rw [nY,ϋ] at hpx;have hnd:=hpx.nodup_iff.2 hX;rw [θ] at hnd;exact (hr p hp).frame (fun y hy=>hk y (fun e=>hnd.2.2 y ((Cg hp).2 y hy) x σ e))
section
variable {w:World} {B:LB} {F:List Nat} {gt ct:Nat} {A:NS} {st:Nat} {S:TS} {rk:Nat->Nat} {af:List Int}
theorem KA (h:jP w B F gt ct A st S rk af) {p:Int} {x:Nat} {l r:BT} (hT:bS S p x (.node x l r)) (hx:x<A.cs.length) (hr:∀y,y∈r.nodes->y<A.cs.length) :
  Calls Tryz.prog 244 #[.pointer (some ⟨B.bt,0,none⟩),.int .i64 r.root] w fun e w'=>(∃v,e=.returned v)/\jP w' B F gt ct A st (xD S x r) rk af/\aa [B.ba] w w':=by
 cases r with
 | nil=>
  refine (Ni B.bt B.ba A.cs.length S (-1) w h.trees (by unfold oK;simp)).mono ?_;rintro e w' ⟨rfl,rfl⟩;exact ⟨⟨_,rfl⟩,h,aa.refl _ _⟩
 | node y a b=>
  obtain ⟨_,_,_,hr'⟩:=hT;have e1:S.r x=y:=hr'.1;have e2:S.u y=x:=hr'.2.1;refine (Bh B.bt B.ba A.cs.length S x y w h.trees hx (hr y (by simp [BT.nodes])) e2).mono ?_;rintro e w' ⟨rfl,hT,hu⟩;exact ⟨⟨_,rfl⟩,h.gY hu hT,hu⟩
theorem Hz (h:jP w B F gt ct A st S rk af) {p:Int} {x:Nat} {l r:BT} (hT:bS S p x (.node x l r)) (hx:x<A.cs.length) :
  Calls Tryz.prog 249 #[.pointer (some ⟨B.bt,0,none⟩),.int .i64 (x:Int)] w fun e w'=>e=.returned (.tuple #[.int .i64 (tv r.root),.bool (tb r.root)])/\aa [] w w':=by
 have e:fD A.cs.length S (x:Int) true=r.root:=by
  unfold fD TS.kid;rw [Δ ω];simp only [if_true,π];exact hT.2.2.2.root
 refine (nP B.bt B.ba A.cs.length S (x:Int) w h.trees).mono ?_;rw [e];rintro e w' ⟨rfl,k,rfl⟩;exact ⟨rfl,(aa.refl _ _).drewN k⟩
def Hg (W:List (Nat×BT)):List Value:=aM (W.map fun p=>(p.1:Int))
theorem AB (W:List (Nat×BT)) (x:Nat) (l:BT):Hg (W++[(x,l)])=Hg W++[.int .i64 (x:Int)]:=by unfold Hg aM;simp
theorem xL (h:jP w B F gt ct A st S rk af) {ta tb:BT} (ha:bS S (-1) ta.root ta) (hb:bS S (-1) tb.root tb) (hX:(ta.nodes++tb.nodes).Nodup) (hin:∀y,y∈ta.nodes++tb.nodes->bP A (y:Int)=true) (ra:fG rk ta) (rb:fG rk tb) :
  Calls Tryz.prog 246 #[.pointer (some ⟨B.n0,0,none⟩),.int .i64 ta.root,.int .i64 tb.root] w fun e w'=>e=.returned (.int .i64 (aH ai A ta tb).1.root)/\aa [B.c,B.ba,B.br] w w'/\
   ∃S' pM,jP w' B F gt ct A (dG st (aH ai A ta tb).2) S' pM af/\bS S' (-1) (aH ai A ta tb).1.root (aH ai A ta tb).1/\fG pM (aH ai A ta tb).1/\∀y,y∉ta.nodes++tb.nodes->S.at S' y/\pM y=rk y:=by
 have hblk:=h.lt;have r9:=h.cF;have hbl0:=hblk B.n0 (by simp [LB.blk]);have hbl1:=hblk B.bt (by simp [LB.blk]);have hbl2:=hblk B.ba (by simp [LB.blk]);have hbl3:=hblk B.br (by simp [LB.blk]);have hbl4:=hblk B.c (by simp [LB.blk,r9]);have hs:=χ h.sep;have hA:=h.cells.ok.c1;have hlt:Hid (∀y,y∈ta.nodes++tb.nodes->y<A.cs.length):=fun y hy=>((aj A y).1 (hin y hy)).1;have hXl:(ta.nodes++tb.nodes).length<=A.cs.length:=lD hX hlt.out;have VX:=χ h;have HBL:=χ hblk;have D0:=χ (Down.start ai A ha hb);have Lx:=χ hin;have HX:=χ hX;have RA:=χ (ψ ra rb);have hst:=h.cells.qd;clear h ha hb hblk r9 hin hX ra rb
 go_enter Tryz.func246,Tryz.ntmps246
 go_wp2
 go_loopw [1,2,7] (fun a b way wr=>∃ (S1:TS) (W:List (Nat×BT)) (a1 b1:BT),a=.int .i64 a1.root/\b=.int .i64 b1.root/\wr.ownsRow w.heap.size 3 1 way W.length (Hg W)/\jP wr B F gt ct A (dG st W.length) S1 rk af/\Down ai A S ta tb S1 W a1 b1/\fG rk a1/\fG rk b1/\(∀p,p∈W->fG rk p.2)/\aa [B.c,B.ba] w wr) (fun _ _ way _=>(ta.nodes++tb.nodes).length-lenOf way)
 case atStart=>
  exact ⟨S,[],ta,tb,rfl,rfl,⟨by simp [Hg,aM],Α ⟨rfl,rfl⟩⟩,by rw [List.length_nil,gV hst];exact VX.out.ae β,D0.out,RA.out.1,RA.out.2,(fun p hp=>by cases hp),β⟩
 case round=>
  obtain ⟨S1,W,a1,b1,rfl,rfl,ho,hM,hD,r1,r2,r3,hu⟩:=hrel;have HM:=χ hM;have HD:=χ hD;have HR:=χ (ψ r1 (ψ r2 r3));have HO:=χ ho;have hlen:=hD.len;have h0:=hM.h0;have h1:=hM.h1;clear hM hD r1 r2 r3;obtain ⟨a5,c5,rfl,ZT⟩:=aR ho;have E8:∀g,(Value.slice a5 W.length c5).ownBlock=some g->w.heap.size<=g:=fun g hg=>(ho.lt g hg).1;have Sw:=χ E8;clear ho E8
  by_cases hne:a1=.nil\/b1=.nil
  ·obtain ⟨m0,e0,U0,hcnt,hor⟩:=HD.out.turn hne;have hm0:fG rk m0:=by rcases hor with rfl|rfl;exact HR.out.1;exact HR.out.2.1
   have hz:a1.root=-1\/(a1.root≠-1/\b1.root=-1):=by
    rcases hne with rfl|rfl
    ·exact Α rfl
    ·by_cases e:a1.root=-1
     ·exact Α e
     ·exact Β ⟨e,rfl⟩
   have HU:=χ (ψ U0 (ψ hm0 (ψ hcnt HR.out.2.2)));have hWl:=U0.len;have HUP:=χ hu;rw [←hcnt] at HM;clear hne hor U0 hm0 HR HD hcnt hu hlen h0;generalize a1.root=za at *;generalize b1.root=zb at *;have HEX:Hid (∃W2 U2:List (Nat×BT),W=W2++U2):=⟨W,[],σ⟩;have e9:∃z9,m0.root=z9:=⟨_,rfl⟩;obtain ⟨z9,e9⟩:=e9;rw [e9] at e0;generalize hn0:W.length=n0 at *;have QZ:=χ hn0;clear hn0;rcases hz with rfl|⟨hz1,rfl⟩
   all_goals
    first|rw [Δ rfl] at e0|rw [Γ hz1] at e0
    subst e0
    try (have hz2:(z9 != -1)=true:=by simpa using hz1)
    try (have hz3:(z9 == -1)=false:=by simpa using hz1)
    go_wp2
    go_loopw [9,10] (fun top i w5=>∃ (S2:TS) (W2 U2:List (Nat×BT)) (m:BT) (zi:Nat->Nat),W=W2++U2/\top=.int .i64 m.root/\i=.int .i64 ((W2.length:Int)-1)/\jP w5 B F gt ct A (dG st (aH ai A ta tb).2) S2 zi af/\Rj ai S (ta.nodes++tb.nodes) (aH ai A ta tb).1 S2 W2 m/\fG zi m/\(∀p,p∈W2->fG zi p.2)/\(∀y,y∉ta.nodes++tb.nodes->zi y=rk y)/\aa [B.ba,B.br] wr w5) (fun _ i _=>(intOf i+1).toNat)
    case atStart=>exact ⟨S1,W,[],m0,rk,σ,by rw [e9],by rw [QZ.out],HM.out,HU.out.1,HU.out.2.1,HU.out.2.2.2,fun _ _=>rfl,aa.refl _ _⟩
    case round=>
     obtain ⟨S2,W2,U2,m,zi,rfl,rfl,rfl,hM,hU,r1,r2,r3,hu⟩:=hrel;rename World=>w5;rcases List.eq_nil_or_concat W2 with rfl|⟨W3,⟨x,l⟩,rfl⟩
     ·have e0:=hU.res;simp only [sj] at e0;simp only [List.length_nil];go_wp2;go_ret;rw [e0];exact ⟨rfl,(HUP.out.mono σ).trans (hu.mono σ),S2,zi,hM,hU.isM,r1,fun y hy=>⟨hU.far y hy,r3 y hy⟩⟩
     ·have hpx:=hU.perm;simp only [List.concat_eq_append] at *;rw [nY,ϋ] at hpx;have zF:∀q,q∈(x::l.nodes)++m.nodes->q<A.cs.length:=fun q hq=>hlt.out q (hpx.mem_iff.1 (List.mem_append_right _ hq));have hnd:((x::l.nodes)++m.nodes).Nodup:=(θ.1 (hpx.nodup_iff.2 HX.out)).2.1;have XI:=zF x σ;obtain ⟨g,cap,ee,hI,hg⟩:=IZ.fE (l:=(W3++[(x,l)]++U2).map fun p=>(p.1:Int)) (by rw [ϒ,QZ.out];exact aA HO.out hu (fun k hk=>by have:=Sw.out k hk;simp;omega)) ζ;rw [ϒ,QZ.out] at ee
      injection ee with ee1 ee2 ee3
      subst ee1 ee3;have dz:=hI.cell W3.length σ;rw [show (((W3++[(x,l)]++U2).map fun p=>(p.1:Int)).getD W3.length 0)=(x:Int) by simp [φ]] at dz;have h0:=hM.h0;have h1:=hM.h1;have tK:=χ hM;have La:=χ hU;have Ud:=χ (ψ r1 (ψ r2 r3));have FK:=χ (ψ zF hnd);have hTx:=hU.way (x,l) σ;have Vj:=χ hTx;have HPX:=χ hpx;have hil:((W3++[(x,l)]).length:Int)-1=W3.length:=σ;rw [hil];have hi0:((W3.length:Int)≥0):=ω;have hWn:W3.length+1+U2.length=n0:=by have:=QZ.out;simp at this;omega
      have hW3:W3.length<=65536:=ω;clear hM hU r1 r2 r3 zF hnd hTx hpx hil hI ee2
      by_cases hm:m=.nil
      ·subst hm;simp only [BT.root]
       go_wp2_with fail
       have rE:bS S2 (-1) x (.node x l .nil):=Vj.out;refine (oo tK.out rE (Ud.out.2.1 (x,l) σ) Ud.out.1 (by simpa [BT.nodes] using FK.out.2) (fun q hq=>FK.out.1 q (by simpa [BT.nodes] using hq))).mono ?_;rintro e w7 ⟨rfl,qN,S3,MR,Fz,QC,RV,hs7,_,TV⟩;have U8:=χ Fz;have wT:=χ (ψ QC (ψ RV (ψ hs7 TV)));have V8:=χ (hu.trans qN);clear Fz QC RV hs7 TV hu qN Vj h0 h1 dz;go_wp2
       go_roundw
       case rel=>
        refine ⟨S3,W3,(x,l)::U2,ai x l .nil,MR,σ,congrArg (Value.int .i64) (il x l .nil).symm,by go_num,U8.out,La.out.turn nW HX.out wT.out.1 (fun y h1 _ _=>wT.out.2.2.1 y h1),wT.out.2.1,?_,?_,V8.out⟩
        ·exact AU La.out HX.out wT.out.2.2.2 (fun p hp=>Ud.out.2.1 p (List.mem_append_left _ hp))
        ·exact fun y hy=>(wT.out.2.2.2 y (fun e=>hy (by rw [e];exact HPX.out.mem_iff.1 σ))).trans (Ud.out.2.2 y hy)
       case measure=>simp [intOf]
      ·obtain ⟨mr,hmr⟩:∃mr:Nat,m.root=mr:=⟨_,BT.vz hm⟩;have hmm:=(bD hm).1;rw [hmr,π] at hmm;have rE:bS S2 (-1) x (.node x l .nil):=Vj.out;have Vn:=La.out.isM;have hur:S2.u mr=-1:=by
        cases m with
        | nil=>exact absurd rfl hm
        | node q a b=>
         have e:q=mr:=by have e':(q:Int)=mr:=hmr;omega
         subst e;exact Vn.2.1
       have hnd:=FK.out.2;have hxm:x≠mr:=fun e=>by
        rw [θ] at hnd;exact hnd.2.2 x σ mr hmm e
       obtain ⟨Ba,CZ⟩:=Bf (m:=m) rE Vn hm (by simpa [BT.nodes] using hnd);rw [hmr] at Ba CZ;have HT3:=χ (ψ Ba (ψ hm CZ));have kh:=fun W (hW:aa [] w5 W)=>xE B.bt B.ba A.cs.length S2 x mr true W ((tK.out.ae hW).trees) XI (FK.out.1 mr (List.mem_append_right _ hmm)) hxm hur rE.2.2.2;have HMR:=χ hmr;rw [hmr];have hz4:((mr:Int) != -1)=true:=σ;have rr1:∀W,aa [B.ba] w5 W->W.cell? ⟨B.n0,1,none⟩=some (.pointer (some ⟨B.bt,0,none⟩)):=fun W hW=>hW.kept h1 (by have:=hs.out;simp;omega);have rr2:∀W,aa [B.ba] w5 W->W.cell? ⟨g,W3.length,none⟩=some (.int .i64 (x:Int)):=fun W hW=>hW.kept dz ζ
       clear rE Vn hur hnd Ba CZ hm hmr h0 h1 dz hmm
       go_wp2_with fail
       have Gp:(0:Int)<=(W3.length:Int):=ω;have JQ:(W3.length:Int)<(n0:Int):=ω
       go_region_held3 (aa [B.ba] w5) (exact ν)
        ((go_at_call 251;(with_reducible refine (kh _ β).mono ?_);rintro e w6 ⟨rfl,J8,fq⟩;(have SG:aa [B.ba] w5 w6:=ν)))
       have dz6:=rr2 w6 SG;have uu:=χ (tK.out.gY SG J8);clear rr1 rr2 kh fq J8
       go_wp2_with fail
       refine (oo uu.out HT3.out.1 (Ud.out.2.1 (x,l) σ) Ud.out.1 (by simpa [BT.nodes] using FK.out.2) (fun q hq=>FK.out.1 q (by simpa [BT.nodes] using hq))).mono ?_;rintro e w7 ⟨rfl,qN,S3,MR,Fz,QC,RV,hs7,_,TV⟩;have U8:=χ Fz;have wT:=χ (ψ QC (ψ RV (ψ hs7 TV)));have V8:=χ (hu.trans ((SG.mono σ).trans qN));clear Fz QC RV hs7 TV hu qN Vj dz6 SG;go_wp2
       go_roundw
       case rel=>
        refine ⟨S3,W3,(x,l)::U2,ai x l m,MR,σ,by rw [il],by go_num,U8.out,La.out.turn nW HX.out wT.out.1 (fun y h1 _ h3=>?_),wT.out.2.1,?_,?_,V8.out⟩
        ·have a1:=HT3.out.2.2 y h1 h3;have a2:=wT.out.2.2.1 y h1;exact ⟨a2.1.trans a1.1,a2.2.1.trans a1.2.1,a2.2.2.trans a1.2.2⟩
        ·exact AU La.out HX.out wT.out.2.2.2 (fun p hp=>Ud.out.2.1 p (List.mem_append_left _ hp))
        ·exact fun y hy=>(wT.out.2.2.2 y (fun e=>hy (by rw [e];exact HPX.out.mem_iff.1 σ))).trans (Ud.out.2.2 y hy)
       case measure=>simp [intOf]
  ·obtain ⟨x,l,r,rfl⟩:∃x l r,a1=.node x l r:=by
    cases a1 with
    | nil=>exact absurd (Α rfl) hne
    | node x l r=>exact ⟨x,l,r,rfl⟩
   obtain ⟨y,l',r',rfl⟩:∃x l r,b1=.node x l r:=by
    cases b1 with
    | nil=>exact absurd (Β rfl) hne
    | node x l r=>exact ⟨x,l,r,rfl⟩
   clear hne;have hmx:∀z,z∈(BT.node x l r).nodes++(BT.node y l' r').nodes->z∈ta.nodes++tb.nodes:=fun z hz=>HD.out.perm.mem_iff.1 (List.mem_append_right _ hz);have hxm:=hmx x (by simp [BT.nodes]);have hym:=hmx y (by simp [BT.nodes]);have hWl:W.length+2<=(ta.nodes++tb.nodes).length:=by simp only [BT.nodes,Ω,υ] at hlen ⊢;omega
   have Ya:=χ hmx;have hxb:((x:Int) != -1)=true:=σ;have hyb:((y:Int) != -1)=true:=σ;clear hmx hlen;have kA:=gP HM.out.cells y x (Lx.out y hym) (Lx.out x hxm);obtain ⟨sw,hsw⟩:∃sw,decide (eB A y x)=sw:=⟨_,rfl⟩;rw [hsw] at kA;have KEY:∃ (z:Nat) (lz rz o:BT),z=(if sw then y else x)/\Down ai A S ta tb (xD S1 z rz) (W++[(z,lz)]) rz o/\bS S1 (-1) z (.node z lz rz)/\fG rk lz/\fG rk rz/\fG rk o/\z<A.cs.length/\(∀q,q∈rz.nodes->q<A.cs.length)/\o.root=(if sw then (x:Int) else (y:Int)):=by
    cases sw with
    | true=>
     exact ⟨y,l',r',.node x l r,rfl,HD.out.takeB HX.out (ϥ hsw),HD.out.Zk,HR.out.2.1.2.1,HR.out.2.1.2.2,HR.out.1,hlt.out y hym,fun q hq=>hlt.out q (Ya.out q (by simp [BT.nodes,hq])),rfl⟩
    | false=>
     exact ⟨x,l,r,.node y l' r',rfl,HD.out.takeA HX.out (Ϧ hsw),HD.out.XK,HR.out.1.2.1,HR.out.1.2.2,HR.out.2.1,hlt.out x hxm,fun q hq=>hlt.out q (Ya.out q (by simp [BT.nodes,hq])),rfl⟩
   obtain ⟨z,lz,rz,o,ez,hD2,YN,q1,q2,q3,hz,hrz,eo⟩:=KEY;have HD2:=χ hD2;have HT:=χ YN;have HQ:=χ (ψ q1 (ψ q2 (ψ q3 hrz)));clear hD2 YN q1 q2 q3 hrz hsw;simp only [BT.root];cases sw
   all_goals
    simp only [if_true,if_false,Ϥ] at ez eo;subst ez
    go_wp2_with fail
    refine kA.mono ?_;rintro e w1 ⟨rfl,jH,hu1⟩;have hM1:=χ (HM.out.fe (hu1.mono (by simp [HM.out.cF])) jH (fun x hx=>Α hx) rfl rfl);have hss:dG (dG st W.length) 1=dG st (W.length+1):=kg _ _ _;rw [hss] at hM1;have ho1:=aA HO.out hu1 (fun k hk=>by have:=Sw.out k hk;simp;omega);have h01:=hM1.out.h0;have h11:=hM1.out.h1;clear h0 h1 kA hss;have SH:=χ (ψ hu hu1);clear hu hu1 jH;have HGB:Hid (∀g,g∈(Value.slice a5 W.length c5).ownBlock.toList->g∉B.blk F gt):=fun g hg hb=>by
     have h1:=Sw.out g (Option.mem_toList.1 hg);have h2:=HBL.out g hb;omega
    have hsz1:w.heap.size<=w1.heap.size:=(SH.out.1.trans (SH.out.2.mono σ)).size
    go_wp2_with (first
     | ((at_builtin;refine ak rfl _ _ 26 rfl w.heap.size 3 (.int .i64 0) 1 8 Tryz.underlying26 cO rfl δ _ _ _ rfl (ho1) [.int .i64 (z:Int)] rfl (by simp [Value.oneCell']) (by first|rfl|(rw [Κ];rfl)) μ ω (ω) ?_;intro v2 w2 ho2 hu2 lq);(have hM2:=χ (hM1.out.upd hu2 HGB.out));(have k12:=hM2.out.h1);(have kr:=Hz hM2.out HT.out hz))
     | (go_at_call 249;(with_reducible refine (kr).mono ?_);rintro e w3 ⟨rfl,hu3⟩;(have k13:=hu3.was k12);(have mE:=χ (hM2.out.ae hu3));(have kc:=KA mE.out HT.out hz HQ.out.2.2.2))
     | (go_at_call 247;(with_reducible refine (l8 _ _).mono ?_);rintro e w9 ⟨rfl,aO⟩;rw [aO];clear aO w9)
     | (go_at_call 244;(with_reducible refine (kc).mono ?_);rintro e w4 ⟨⟨v4,rfl⟩,xu,jN⟩)
     | fail)
    obtain ⟨a6,c6,rfl,hc6⟩:=aR ho2;have V7:∀k,(Value.slice a6 (W.length+1) c6).ownBlock=some k->w.heap.size<=k:=fun k hk=>(ho2.lt k hk).1;refine ⟨⟨_,W++[(z,lz)],rz,o,rfl,congrArg (Value.int .i64) eo.symm,?_,?_,HD2.out,HQ.out.2.1,HQ.out.2.2.1,?_,?_⟩,?_⟩
    ·rw [AB,υ,List.length_singleton];exact aA (aA ho2 hu3 σ) jN (fun k hk=>by have:=V7 k hk;simp;omega)
    ·rw [υ,List.length_singleton];exact xu
    ·intro p hp;rcases τ.1 hp with hp|hp
     ·exact HR.out.2.2 p hp
     ·simp only [ϔ] at hp;subst hp;exact HQ.out.1
    ·have v1:aa [B.c,B.ba] w w1:=SH.out.1.trans (SH.out.2.mono σ);have v2:aa [B.c,B.ba] w w2:=v1.joined hu2 (fun g hg=>Β (Sw.out g (Option.mem_toList.1 hg)));exact (v2.trans (hu3.mono σ)).trans (jN.mono σ)
    ·show (ta.nodes++tb.nodes).length-(W.length+1)<(ta.nodes++tb.nodes).length-W.length
     omega
end
end Go.Proofs.YtklibcncmbofpaaGreat
namespace Go.Proofs.YtklibcncmbofpaaGreat
abbrev Fr:=Nat×Bool×BT
def aZ (f:Fr) (t:BT):BT:=if f.2.1 then .node f.1 f.2.2 t else .node f.1 t f.2.2
def ah:List Fr->BT->BT
 | [],t=>t
 | f::P,t=>ah P (aZ f t)
def zT:List Fr->Int|[]=>-1|f::_=>f.1
def bZ:List Fr->List Nat|[]=>[]|f::P=>f.1::(f.2.2.nodes++bZ P)
def N7 (S:TS):List Fr->Int->Prop
 | [],_=>True
 | f::P,z=>S.kid f.2.1 f.1=z/\bS S f.1 (S.kid (!f.2.1) f.1) f.2.2/\S.u f.1=zT P/\N7 S P f.1
theorem lQ (f:Fr) (t:BT):(aZ f t).root=f.1:=by unfold aZ;split<;>rfl
theorem Pp (f:Fr) (t:BT):aZ f t≠.nil:=by unfold aZ;split<;>simp
theorem iq (f:Fr) (t:BT):(aZ f t).nodes.Perm (f.1::(t.nodes++f.2.2.nodes)):=by
 unfold aZ;split
 ·simp only [BT.nodes];exact List.Perm.cons _ Φ
 ·exact ό _
theorem aW:∀ (P:List Fr) (t:BT),(ah P t).nodes.Perm (t.nodes++bZ P)
 | [],t=>by simp [ah,bZ]
 | f::P,t=>by
  refine (aW P (aZ f t)).trans ?_;refine ((iq f t).append_right (bZ P)).trans ?_;simp only [bZ,List.cons_append,ϋ];exact (ϣ (a:=f.1) (l₁:=t.nodes) (l₂:=f.2.2.nodes++bZ P)).symm
theorem yx:∀ (P:List Fr) (t t':BT),t.root=t'.root->(ah P t).root=(ah P t').root
 | [],t,t',h=>h
 | f::P,t,t',h=>yx P _ _ (by rw [lQ,lQ])
theorem oz (f:Fr) (P:List Fr) (t t':BT):(ah (f::P) t).root=(ah (f::P) t').root:=yx P _ _ (by rw [lQ,lQ])
theorem qg:∀ (P Q:List Fr) (t:BT),ah (P++Q) t=ah Q (ah P t)
 | [],_,_=>rfl
 | f::P,Q,t=>qg P Q (aZ f t)
theorem vH:∀ {t:BT} {x:Nat},x∈t.nodes->∃P l r,t=ah P (.node x l r)
 | .nil,_,h=>by cases h
 | .node y a b,x,h=>by
  simp only [BT.nodes,ρ,τ] at h;rcases h with rfl|h|h
  ·exact ⟨[],a,b,rfl⟩
  ·obtain ⟨P,l,r,e⟩:=vH h;exact ⟨P++[(y,false,b)],l,r,by rw [qg,←e];rfl⟩
  ·obtain ⟨P,l,r,e⟩:=vH h;exact ⟨P++[(y,true,a)],l,r,by rw [qg,←e];rfl⟩
theorem KV {S:TS} {p:Int} (f:Fr) (t:BT):bS S p f.1 (aZ f t)↔bS S f.1 t.root t/\S.kid f.2.1 f.1=t.root/\bS S f.1 (S.kid (!f.2.1) f.1) f.2.2/\S.u f.1=p:=by
 obtain ⟨x,s,o⟩:=f;cases s
 ·simp only [aZ,Ϥ,if_false,bS,TS.kid,Bool.not_false,if_true];constructor
  ·rintro ⟨_,h2,h3,h4⟩;have e:=h3.root;exact ⟨by rw [←e];exact h3,e,h4,h2⟩
  ·rintro ⟨h1,h2,h3,h4⟩;exact ⟨trivial,h4,by rw [h2];exact h1,h3⟩
 ·simp only [aZ,if_true,bS,TS.kid,Bool.not_true,Ϥ,if_false];constructor
  ·rintro ⟨_,h2,h3,h4⟩;have e:=h4.root;exact ⟨by rw [←e];exact h4,e,h3,h2⟩
  ·rintro ⟨h1,h2,h3,h4⟩;exact ⟨trivial,h4,h3,by rw [h2];exact h1⟩
theorem cB {S:TS}:∀ (P:List Fr) (t:BT),bS S (-1) (ah P t).root (ah P t)↔bS S (zT P) t.root t/\N7 S P t.root
 | [],t=>by simp [ah,zT,N7]
 | f::P,t=>by
  have h:=cB (S:=S) P (aZ f t);rw [lQ] at h
  show bS S (-1) (ah P (aZ f t)).root (ah P (aZ f t))↔_
  rw [h,KV];simp only [zT,N7];constructor
  ·rintro ⟨⟨h1,h2,h3,h4⟩,h5⟩;exact ⟨h1,h2,h3,h4,h5⟩
  ·rintro ⟨h1,h2,h3,h4,h5⟩;exact ⟨⟨h1,h2,h3,h4⟩,h5⟩
theorem N7.frame {S S':TS}:∀ {P:List Fr} {z:Int},N7 S P z->(∀y,y∈bZ P->S.at S' y)->N7 S' P z
 | [],_,_,_=>trivial
 | f::P,z,h,hs=>by
  obtain ⟨h1,h2,h3,h4⟩:=h;have hf:=hs f.1 (by simp [bZ]);have hk:∀s,S'.kid s f.1=S.kid s f.1:=fun s=>by unfold TS.kid;rw [hf.1,hf.2.1]
  exact ⟨by rw [hk];exact h1,by rw [hk];exact h2.frame (fun y hy=>hs y (by simp [bZ,hy])),by rw [hf.2.2];exact h3,h4.frame (fun y hy=>hs y (by simp [bZ,hy]))⟩
theorem N7.other {S S':TS} {f:Fr} {P:List Fr} {z z':Int} (h:N7 S (f::P) z) (hn:(bZ (f::P)).Nodup) (h1:S'.kid f.2.1 f.1=z') (h2:S'.kid (!f.2.1) f.1=S.kid (!f.2.1) f.1) (h3:S'.u f.1=S.u f.1)
  (hs:∀y,y≠f.1->y∈bZ (f::P)->S.at S' y):N7 S' (f::P) z':=by
 obtain ⟨_,g2,g3,g4⟩:=h;simp only [bZ,Ζ,τ,not_or] at hn;exact ⟨h1,by rw [h2];exact g2.frame (fun y hy=>hs y (fun e=>hn.1.1 (by rw [←e];exact hy)) (by simp [bZ,hy])),by rw [h3];exact g3,g4.frame (fun y hy=>hs y (fun e=>hn.1.2 (by rw [←e];exact hy)) (by simp [bZ,hy]))⟩
theorem SL {S:TS} {i j:Nat} {y:Nat} (h1:y≠i) (h2:y≠j):S.at (kZ S i j) y:=by
 unfold kZ TS.aC TS.bG TS.at;refine ⟨?_,?_,?_⟩
 ·cases decide (S.r i=(j:Int))<;>simp [h1]
 ·cases decide (S.r i=(j:Int))<;>simp [h1]
 ·cases decide (S.r i=(j:Int))<;>simp [h2]
theorem Ao {S:TS} {i:Nat} {s:Bool} {v:Int}:∀y,(S.aC i s v).u y=S.u y:=fun y=>by unfold TS.aC;cases s<;>rfl
theorem PH {S:TS} {f:Fr} {P:List Fr} {t:BT} (h:bS S (-1) (ah (f::P) t).root (ah (f::P) t)) (ht:t≠.nil) (hn:(ah (f::P) t).nodes.Nodup) :
  bS (kZ S f.1 t.root.toNat) (-1) t.root t/\bS (kZ S f.1 t.root.toNat) (-1) (ah (f::P) .nil).root (ah (f::P) .nil)/\∀y,y≠f.1->y≠t.root.toNat->S.at (kZ S f.1 t.root.toNat) y:=by
 obtain ⟨h1,h2⟩:=(cB _ _).1 h;have VM:=(aW (f::P) t).nodup_iff.1 hn;rw [θ] at VM;obtain ⟨n1,n2,n3⟩:=VM;obtain ⟨rm,rc⟩:=bD ht;generalize hx:t.root.toNat=x at *;have hfx:f.1≠x:=fun e=>n3 x rm f.1 (by simp [bZ]) e.symm;have hat:∀y,y≠f.1->y≠x->S.at (kZ S f.1 x) y:=fun y h1 h2=>SL h1 h2;have hk:S.kid f.2.1 f.1=x:=by rw [h2.1,rc]
 have hside:decide (S.r f.1=(x:Int))=f.2.1:=by
  cases hs:f.2.1 with
  | true=>rw [hs] at hk;exact Ν (by simpa [TS.kid] using hk)
  | false=>
   refine Ξ (fun e=>?_);have h3:=h2.2.1;rw [hs] at h3;have h4:=h3.root;have h5:f.2.2.root=(x:Int):=by rw [←h4];simpa [TS.kid] using e
   have h6:f.2.2≠.nil:=fun e=>by rw [e] at h5;simp [BT.root] at h5
   have h7:=(bD h6).1;rw [h5,π] at h7;exact n3 x rm x (by simp [bZ,h7]) rfl
 have OC:∀s,(kZ S f.1 x).kid s f.1=if s=f.2.1 then -1 else S.kid s f.1:=fun s=>by
  unfold kZ;rw [hside];unfold TS.aC TS.bG TS.kid;cases s<;>cases f.2.1<;>simp
 have hu:∀y,(kZ S f.1 x).u y=if y=x then -1 else S.u y:=fun y=>by
  unfold kZ TS.bG;simp only [Ao]
 refine ⟨h1.LX n1 (fun y hy=>?_) (fun _=>?_),(cB _ _).2 ⟨rfl,h2.other n2 ?_ ?_ ?_ (fun y g1 g2=>hat y g1 (fun e=>n3 x rm y g2 e.symm))⟩,hat⟩
 ·have Yf:y≠f.1:=fun e=>n3 y hy f.1 (by simp [bZ]) e;refine ⟨?_,?_,fun hr=>?_⟩
  ·unfold kZ TS.aC TS.bG;cases decide (S.r f.1=(x:Int))<;>simp [Yf]
  ·unfold kZ TS.aC TS.bG;cases decide (S.r f.1=(x:Int))<;>simp [Yf]
  ·rw [hu,Γ (by rw [hx] at hr;exact hr)]
 ·rw [hu,hx,Δ rfl]
 ·rw [OC,Δ rfl];rfl
 ·rw [OC,Γ (by cases f.2.1<;>simp)]
 ·rw [hu,Γ hfx]
theorem KL {S:TS} {f:Fr} {P:List Fr} {m:BT} (h:bS S (-1) (ah (f::P) .nil).root (ah (f::P) .nil)) (hM:bS S (-1) m.root m) (hm:m≠.nil) (hn:(m.nodes++bZ (f::P)).Nodup) :
  bS (jB S f.1 m.root f.2.1) (-1) (ah (f::P) m).root (ah (f::P) m)/\∀y,y≠f.1->y≠m.root.toNat->S.at (jB S f.1 m.root f.2.1) y:=by
 obtain ⟨_,h2⟩:=(cB _ _).1 h;rw [θ] at hn;obtain ⟨n1,n2,n3⟩:=hn;obtain ⟨rm,rc⟩:=bD hm;have hfx:f.1≠m.root.toNat:=fun e=>n3 _ rm f.1 (by simp [bZ]) e.symm;have OC:∀s,(jB S f.1 m.root f.2.1).kid s f.1=if s=f.2.1 then m.root else S.kid s f.1:=fun s=>by
  unfold jB TS.aC TS.bG TS.kid;cases s<;>cases f.2.1<;>simp
 have hu:∀y,(jB S f.1 m.root f.2.1).u y=if y=m.root.toNat then (f.1:Int) else S.u y:=fun y=>by
  unfold jB TS.bG;simp only [Ao]
 have hl:∀y,y≠f.1->(jB S f.1 m.root f.2.1).l y=S.l y/\(jB S f.1 m.root f.2.1).r y=S.r y:=fun y hy=>by
  unfold jB TS.aC TS.bG;cases f.2.1<;>simp [hy]
 have hat:∀y,y≠f.1->y≠m.root.toNat->S.at (jB S f.1 m.root f.2.1) y:=fun y g1 g2=>⟨(hl y g1).1,(hl y g1).2,by rw [hu,Γ g2]⟩
 refine ⟨(cB _ _).2 ⟨hM.LX n1 (fun y hy=>?_) (fun _=>by rw [hu,Δ rfl];rfl),h2.other n2 ?_ ?_ ?_ (fun y g1 g2=>hat y g1 (fun e=>n3 _ rm y g2 e.symm))⟩,hat⟩
 ·have Yf:y≠f.1:=fun e=>n3 y hy f.1 (by simp [bZ]) e;exact ⟨(hl y Yf).1,(hl y Yf).2,fun hr=>by rw [hu,Γ hr]⟩
 ·rw [OC,Δ rfl]
 ·rw [OC,Γ (by cases f.2.1<;>simp)]
 ·rw [hu,Γ hfx]
/-! ### heaps, ranks -/
theorem sP {A:NS} {f:Fr} {t:BT}:Heap A (aZ f t)↔(∀y,y∈t.nodes->eB A f.1 y)/\(∀y,y∈f.2.2.nodes->eB A f.1 y)/\Heap A t/\Heap A f.2.2:=by
 unfold aZ
 split
 ·simp only [Heap];constructor
  ·rintro ⟨a,b,c,d⟩;exact ⟨b,a,d,c⟩
  ·rintro ⟨a,b,c,d⟩;exact ⟨b,a,d,c⟩
 ·simp only [Heap]
theorem uD {A:NS}:∀ {P:List Fr} {t:BT},Heap A (ah P t)->Heap A t
 | [],_,h=>h
 | f::P,t,h=>(sP.1 (uD (P:=P) h)).2.2.1
theorem vF {A:NS}:∀ {P:List Fr} {t t':BT},Heap A (ah P t)->Heap A t'->(∀y,y∈t'.nodes->y∈t.nodes)->Heap A (ah P t')
 | [],_,_,_,h,_=>h
 | f::P,t,t',h,h',hs=>by
  have h1:=sP.1 (uD (P:=P) h);refine vF (P:=P) h (sP.2 ⟨fun y hy=>h1.1 y (hs y hy),h1.2.1,h',h1.2.2.2⟩) (fun y hy=>?_);have hy':=(iq f t').mem_iff.1 hy;refine (iq f t).mem_iff.2 ?_;simp only [ρ,τ] at hy' ⊢;rcases hy' with h|h|h
  ·exact Α h
  ·exact Β (Α (hs y h))
  ·exact Β (Β h)
def jy (f:Fr) (n:Nat):Nat:=(if f.2.1 then n else f.2.2.rank)+1
theorem xG (f:Fr) (t:BT):(aZ f t).rank=jy f t.rank:=by unfold aZ jy;split<;>rfl
def MC (rk:Nat->Nat):List Fr->Nat->Prop
 | [],_=>True
 | f::P,n=>fG rk f.2.2/\rk f.1=jy f n/\MC rk P (jy f n)
theorem Oi {rk:Nat->Nat} {f:Fr} {t:BT}:fG rk (aZ f t)↔fG rk t/\fG rk f.2.2/\rk f.1=jy f t.rank:=by
 unfold aZ jy
 split
 ·simp only [fG];constructor
  ·rintro ⟨a,b,c⟩;exact ⟨c,b,a⟩
  ·rintro ⟨a,b,c⟩;exact ⟨c,b,a⟩
 ·simp only [fG];constructor
  ·rintro ⟨a,b,c⟩;exact ⟨b,c,a⟩
  ·rintro ⟨a,b,c⟩;exact ⟨c,a,b⟩
theorem Cz {rk:Nat->Nat}:∀ (P:List Fr) (t:BT),fG rk (ah P t)↔fG rk t/\MC rk P t.rank
 | [],t=>by simp [ah,MC]
 | f::P,t=>by
  show fG rk (ah P (aZ f t))↔_
  rw [Cz P,Oi,xG];simp only [MC];constructor
  ·rintro ⟨⟨a,b,c⟩,d⟩;exact ⟨a,b,c,d⟩
  ·rintro ⟨a,b,c,d⟩;exact ⟨⟨a,b,c⟩,d⟩
theorem MC.frame {rk pM:Nat->Nat}:∀ {P:List Fr} {n:Nat},MC rk P n->(∀y,y∈bZ P->pM y=rk y)->MC pM P n
 | [],_,_,_=>trivial
 | f::P,n,h,hs=>⟨h.1.frame (fun y hy=>hs y (by simp [bZ,hy])),by rw [hs f.1 (by simp [bZ])];exact h.2.1,h.2.2.frame (fun y hy=>hs y (by simp [bZ,hy]))⟩
def AO:List Fr->Nat->Prop
 | [],_=>True
 | f::P,n=>Lean f.2.2/\(if f.2.1 then n<=f.2.2.rank else f.2.2.rank<=n)/\AO P (jy f n)
theorem GK {f:Fr} {t:BT}:Lean (aZ f t)↔Lean t/\Lean f.2.2/\(if f.2.1 then t.rank<=f.2.2.rank else f.2.2.rank<=t.rank):=by
 unfold aZ
 split
 ·simp only [Lean];constructor
  ·rintro ⟨a,b,c⟩;exact ⟨c,b,a⟩
  ·rintro ⟨a,b,c⟩;exact ⟨c,b,a⟩
 ·simp only [Lean];constructor
  ·rintro ⟨a,b,c⟩;exact ⟨b,c,a⟩
  ·rintro ⟨a,b,c⟩;exact ⟨c,a,b⟩
theorem vE:∀ (P:List Fr) (t:BT),Lean (ah P t)↔Lean t/\AO P t.rank
 | [],t=>by simp [ah,AO]
 | f::P,t=>by
  show Lean (ah P (aZ f t))↔_
  rw [vE P,GK,xG];simp only [AO];constructor
  ·rintro ⟨⟨a,b,c⟩,d⟩;exact ⟨a,b,c,d⟩
  ·rintro ⟨a,b,c,d⟩;exact ⟨⟨a,b,c⟩,d⟩
def ji:List Fr->Nat->Nat->BT->BT->BT
 | [],_,x,l,r=>ai x l r
 | f::P,was,x,l,r=>
  if (ai x l r).rank=was then ah (f::P) (ai x l r)
  else if f.2.1 then ji P (jy f was) f.1 f.2.2 (ai x l r) else ji P (jy f was) f.1 (ai x l r) f.2.2
theorem oL:∀ (P:List Fr) (was x:Nat) (l r:BT),(ji P was x l r).nodes.Perm (ah P (.node x l r)).nodes
 | [],was,x,l,r=>jA x l r
 | f::P,was,x,l,r=>by
  have h0:(aZ f (ai x l r)).nodes.Perm (aZ f (.node x l r)).nodes:=
   (iq f _).trans ((List.Perm.cons _ ((jA x l r).append_right _)).trans (iq f (.node x l r)).symm)
  have h1:(ah P (aZ f (ai x l r))).nodes.Perm (ah P (aZ f (.node x l r))).nodes:=
   (aW P _).trans ((h0.append_right _).trans (aW P _).symm)
  unfold ji
  split
  ·exact h1
  ·split
   ·rename_i hs
    have e:aZ f (ai x l r)=.node f.1 f.2.2 (ai x l r):=by unfold aZ;rw [Δ hs]
    rw [e] at h1;exact (oL P _ _ _ _).trans h1
   ·rename_i hs
    have e:aZ f (ai x l r)=.node f.1 (ai x l r) f.2.2:=by unfold aZ;rw [Γ hs]
    rw [e] at h1;exact (oL P _ _ _ _).trans h1
theorem qH:∀ (P:List Fr) (was x:Nat) (l r:BT),(ji P was x l r).root=(ah P (.node x l r)).root
 | [],was,x,l,r=>il x l r
 | f::P,was,x,l,r=>by
  have h1:=oz f P (ai x l r) (.node x l r);unfold ji
  split
  ·exact h1
  ·split
   ·rename_i hs
    have e:aZ f (ai x l r)=.node f.1 f.2.2 (ai x l r):=by unfold aZ;rw [Δ hs]
    unfold ah at h1;rw [e] at h1;exact (qH P _ _ _ _).trans h1
   ·rename_i hs
    have e:aZ f (ai x l r)=.node f.1 (ai x l r) f.2.2:=by unfold aZ;rw [Γ hs]
    unfold ah at h1;rw [e] at h1;exact (qH P _ _ _ _).trans h1
theorem rf {A:NS}:∀ (P:List Fr) (was x:Nat) (l r:BT),Heap A (ah P (.node x l r))->Heap A (ji P was x l r)
 | [],was,x,l,r,h=>pV h.1 h.2.1 h.2.2.1 h.2.2.2
 | f::P,was,x,l,r,h=>by
  have h0:=uD h;have h1:Heap A (ah (f::P) (ai x l r)):=vF h (pV h0.1 h0.2.1 h0.2.2.1 h0.2.2.2) (fun y hy=>(jA x l r).mem_iff.1 hy);unfold ji
  split
  ·exact h1
  ·split
   ·rename_i hs
    have e:aZ f (ai x l r)=.node f.1 f.2.2 (ai x l r):=by unfold aZ;rw [Δ hs]
    unfold ah at h1;rw [e] at h1;exact rf P _ _ _ _ h1
   ·rename_i hs
    have e:aZ f (ai x l r)=.node f.1 (ai x l r) f.2.2:=by unfold aZ;rw [Γ hs]
    unfold ah at h1;rw [e] at h1;exact rf P _ _ _ _ h1
theorem qQ:∀ (P:List Fr) (was x:Nat) (l r:BT),Lean l->Lean r->AO P was->Lean (ji P was x l r)
 | [],was,x,l,r,hl,hr,_=>jg hl hr
 | f::P,was,x,l,r,hl,hr,h=>by
  unfold ji
  split
  ·rename_i e
   exact (vE _ _).2 ⟨jg hl hr,by rw [e];exact h⟩
  ·split
   ·exact qQ P _ _ _ _ h.1 (jg hl hr) h.2.2
   ·exact qQ P _ _ _ _ (jg hl hr) h.1 h.2.2
end Go.Proofs.YtklibcncmbofpaaGreat
namespace Go.Proofs.YtklibcncmbofpaaGreat
open Go Go.RowKit
structure vN (S0:TS) (KN:Nat->Nat) (T:BT) (X:List Nat) (S:TS) (rk:Nat->Nat) (P:List Fr) (was x:Nat) (l r:BT):Prop where
 IE:bS S (-1) (ah P (.node x l r)).root (ah P (.node x l r))
 perm:(ah P (.node x l r)).nodes.Perm X
 rl:fG rk l
 rr:fG rk r
 rx:rk x=was
 rP:MC rk P was
 far:∀y,y∉X->S0.at S y/\rk y=KN y
 res:ji P was x l r=T
structure rC (S0:TS) (KN:Nat->Nat) (T:BT) (X:List Nat) (S:TS) (rk:Nat->Nat):Prop where
 IE:bS S (-1) T.root T
 isR:fG rk T
 far:∀y,y∉X->S0.at S y/\rk y=KN y
section
variable {S0 S S2:TS} {KN rk zi:Nat->Nat} {T:BT} {X:List Nat} {P:List Fr} {was x:Nat} {l r:BT}
theorem vN.parts (h:vN S0 KN T X S rk P was x l r) (hX:X.Nodup):x∈X/\(BT.node x l r).nodes.Nodup/\(∀y,y∈(BT.node x l r).nodes->y∈X)/\(∀y,y∈bZ P->y≠x/\y∈X)/\(bZ P).Nodup:=by
 have hp:=(aW P (.node x l r)).symm.trans h.perm;have hn:=hp.nodup_iff.2 hX;rw [θ] at hn;refine ⟨hp.mem_iff.1 (by simp [BT.nodes]),hn.1,fun y hy=>hp.mem_iff.1 (List.mem_append_left _ hy),fun y hy=>⟨fun e=>hn.2.2 x (by simp [BT.nodes]) y hy e.symm,hp.mem_iff.1 (List.mem_append_right _ hy)⟩,hn.2.1⟩
theorem vN.settled (h:vN S0 KN T X S rk P was x l r) (hX:X.Nodup) (rE:bS S2 (zT P) x (ai x l r)) (hs:∀y,y≠x->S.at S2 y) (hk:∀y,y≠x->zi y=rk y) :
  bS S2 (-1) (ah P (ai x l r)).root (ah P (ai x l r))/\MC zi P was/\(∀y,y∉X->S0.at S2 y/\zi y=KN y)/\(ah P (ai x l r)).nodes.Perm X:=by
 obtain ⟨p1,p2,p3,p4,p5⟩:=h.parts hX;refine ⟨(cB _ _).2 ⟨by rw [il];exact rE,?_⟩,h.rP.frame (fun y hy=>hk y (p4 y hy).1),fun y hy=>?_,?_⟩
 ·have:=((cB _ _).1 h.IE).2;rw [il];exact this.frame (fun y hy=>hs y (p4 y hy).1)
 ·have hne:y≠x:=fun e=>hy (by rw [e];exact p1);have a1:=h.far y hy;have a2:=hs y hne;exact ⟨⟨a2.1.trans a1.1.1,a2.2.1.trans a1.1.2.1,a2.2.2.trans a1.1.2.2⟩,(hk y hne).trans a1.2⟩
 ·exact (aW P _).trans (((jA x l r).append_right _).trans ((aW P (.node x l r)).symm.trans h.perm))
theorem vN.stay (h:vN S0 KN T X S rk P was x l r) (hX:X.Nodup) (rE:bS S2 (zT P) x (ai x l r)) (hr2:fG zi (ai x l r)) (hs:∀y,y≠x->S.at S2 y) (hk:∀y,y≠x->zi y=rk y)
  (e:(ai x l r).rank=was):rC S0 KN T X S2 zi:=by
 obtain ⟨a1,a2,a3,a4⟩:=h.settled hX rE hs hk;have hT:T=ah P (ai x l r):=by
  rw [←h.res];cases P with
  | nil=>rfl
  | cons f P=>unfold ji;rw [Δ e]
 rw [hT];exact ⟨a1,(Cz _ _).2 ⟨hr2,by rw [e];exact a2⟩,a3⟩
theorem vN.top (h:vN S0 KN T X S rk [] was x l r) (hX:X.Nodup) (rE:bS S2 (zT []) x (ai x l r)) (hr2:fG zi (ai x l r)) (hs:∀y,y≠x->S.at S2 y) (hk:∀y,y≠x->zi y=rk y) :
  rC S0 KN T X S2 zi:=by
 obtain ⟨a1,a2,a3,a4⟩:=h.settled hX rE hs hk;have hT:T=ah [] (ai x l r):=by rw [←h.res];rfl
 rw [hT];exact ⟨a1,hr2,a3⟩
theorem vN.up {f:Fr} (h:vN S0 KN T X S rk (f::P) was x l r) (hX:X.Nodup) (rE:bS S2 (zT (f::P)) x (ai x l r)) (hr2:fG zi (ai x l r)) (hs:∀y,y≠x->S.at S2 y) (hk:∀y,y≠x->zi y=rk y)
  (e:(ai x l r).rank≠was):∃l' r',vN S0 KN T X S2 zi P (jy f was) f.1 l' r':=by
 obtain ⟨a1,a2,a3,a4⟩:=h.settled hX rE hs hk;have hres:=h.res;unfold ji at hres;rw [Γ e] at hres;unfold ah at a1 a4
 by_cases hsd:f.2.1=true
 ·rw [Δ hsd] at hres;have e1:aZ f (ai x l r)=.node f.1 f.2.2 (ai x l r):=by unfold aZ;rw [Δ hsd]
  rw [e1] at a1 a4;exact ⟨_,_,a1,a4,a2.1,hr2,a2.2.1,a2.2.2,a3,hres⟩
 ·rw [Γ hsd] at hres;have e1:aZ f (ai x l r)=.node f.1 (ai x l r) f.2.2:=by unfold aZ;rw [Γ hsd]
  rw [e1] at a1 a4;exact ⟨_,_,a1,a4,hr2,a2.1,a2.2.1,a2.2.2,a3,hres⟩
end
theorem Iz:∀ {P:List Fr},(bZ P).Nodup->(P.map (·.1)).Nodup/\∀y,y∈P.map (·.1)->y∈bZ P
 | [],_=>⟨ϧ,fun y hy=>by cases hy⟩
 | f::P,h=>by
  simp only [bZ,Ζ,τ,not_or,θ] at h;obtain ⟨h1,h2⟩:=Iz (P:=P) h.2.2.1;refine ⟨List.nodup_cons.2 ⟨fun hm=>h.1.2 (h2 _ hm),h1⟩,fun y hy=>?_⟩;simp only [List.map_cons,ρ] at hy;rcases hy with rfl|hy
  ·simp [bZ]
  ·simp [bZ,h2 y hy]
theorem Gi {L done rest:List Nat} {x:Nat} (hL:L.Nodup) (e:L=done++x::rest):L.idxOf x=done.length/\done.length<L.length:=by
 subst e;have hx:x∉done:=fun hm=>by
  rw [θ] at hL;exact hL.2.2 x hm x σ rfl
 refine ⟨by rw [List.idxOf_append,Γ hx];simp,σ⟩
section
variable {w:World} {B:LB} {F:List Nat} {gt ct:Nat} {A:NS} {st:Nat} {S:TS} {rk:Nat->Nat} {af:List Int}
theorem zZ (h:jP w B F gt ct A st S rk af) {P:List Fr} {was x:Nat} {l r:BT} (hM:vN S rk (ji P was x l r) (ah P (.node x l r)).nodes S rk P was x l r) (hX:(ah P (.node x l r)).nodes.Nodup)
  (hlt:∀y,y∈(ah P (.node x l r)).nodes->y<A.cs.length) :
  Calls Tryz.prog 245 #[.pointer (some ⟨B.n0,0,none⟩),.int .i64 (x:Int)] w fun e w'=>e=.returned (.tuple #[])/\aa [B.ba,B.br] w w'/\
   ∃S' pM,jP w' B F gt ct A st S' pM af/\rC S rk (ji P was x l r) (ah P (.node x l r)).nodes S' pM:=by
 generalize hT:ji P was x l r=T at *;generalize hXX:(ah P (.node x l r)).nodes=X at *;have hL:(x::P.map (·.1)).Nodup:=by
  obtain ⟨p1,p2,p3,p4,p5⟩:=hM.parts hX;obtain ⟨q1,q2⟩:=Iz p5;exact List.nodup_cons.2 ⟨fun hm=>(p4 x (q2 x hm)).1 rfl,q1⟩
 generalize hLL:x::P.map (·.1)=L at *;have hblk:=h.lt;have r9:=h.cF;have hs:=χ h.sep;have hA:=h.cells.ok.c1;have VX:=χ h;have MM:=χ hM;have HX:=χ hX;have HL:=χ hL;have HLL:=χ hLL;have Tz:=χ hlt;clear h hM hX hL hlt hT hXX hblk hLL
 go_enter Tryz.func245,Tryz.ntmps245
 go_wp2
 go_loopw [1] (fun a wr=>∃ (S1:TS) (Zf:Nat->Nat),jP wr B F gt ct A st S1 Zf af/\aa [B.ba,B.br] w wr/\((∃ (P1:List Fr) (Lg x1:Nat) (l1 r1:BT) (dn:List Nat),a=.int .i64 (x1:Int)/\L=dn++x1::P1.map (·.1)/\vN S rk T X S1 Zf P1 Lg x1 l1 r1)\/(a=.int .i64 (-1)/\rC S rk T X S1 Zf))) (fun a _=>if intOf a=-1 then 0 else L.length-L.idxOf (intOf a).toNat)
 case atStart=>exact ⟨S,rk,VX.out,aa.refl _ _,Α ⟨P,was,x,l,r,[],rfl,HLL.out.symm,MM.out⟩⟩
 case round=>
  obtain ⟨S1,Zf,hM,hu,hor⟩:=hrel;rename World=>w5;rcases hor with ⟨P1,Lg,x1,l1,r1,dn,rfl,hLe,hMe⟩|⟨rfl,hE⟩
  ·have hxb:((x1:Int) != -1)=true:=σ;obtain ⟨p1,p2,p3,p4,p5⟩:=hMe.parts HX.out;have hx1:=Tz.out x1 p1;have h0:=hM.h0;have h2:=hM.h2;have d0:=hM.ranks.cell x1 hx1;have ex:=hMe.rx;rw [ex] at d0;have hT1:=((cB _ _).1 hMe.IE).1;have ks:=oo hM (p:=zT P1) hT1 hMe.rl hMe.rr p2 (fun y hy=>Tz.out y (p3 y hy));have ME:=χ hMe;have ZH:=χ hLe;have hu1:S1.u x1=zT P1:=hT1.2.1;have HPU:=χ hu1;clear hMe p1 p2 p3 p4 p5 hT1 hM ex hLe hu1
   go_wp2_with fail
   refine ks.mono ?_;rintro e w7 ⟨rfl,qN,S3,MR,Fz,QC,RV,hs7,hsu,TV⟩;have e7:MR x1=(ai x1 l1 r1).rank:=by
    have:=RV.root (by unfold ai;split<;>simp);rw [il] at this;simpa using this
   have g2:=Fz.h2;have g1:=Fz.h1;have d7:=Fz.ranks.cell x1 hx1;rw [e7] at d7;have Zp:S3.u x1=zT P1:=hsu.trans HPU.out;have ku:=Oh B.bt B.ba A.cs.length S3 (x1:Int) w7 Fz.trees;rw [show oK A.cs.length S3 (x1:Int)=zT P1 by unfold oK;rw [Δ ω];simpa using Zp] at ku;have U8:=χ Fz;have wT:=χ (ψ QC (ψ RV (ψ hs7 TV)));have V8:=χ (hu.trans qN);have Yl:∃k3,(ai x1 l1 r1).rank=k3:=⟨_,rfl⟩;obtain ⟨k3,Yl⟩:=Yl;rw [Yl] at d7;have HRK:=χ Yl;clear Fz QC RV hs7 TV hu qN hsu Zp e7 ks h0 h2 d0 Yl HPU
   by_cases he:k3=Lg
   ·have hb:((k3:Int) == (Lg:Int))=true:=by rw [he];simp
    go_wp2;exact bodyPost_ret (v:=.tuple #[]) (by simp [results,Tryz.results245,go_sem]) rfl ⟨rfl,V8.out,S3,MR,U8.out,ME.out.stay HX.out wT.out.1 wT.out.2.1 wT.out.2.2.1 wT.out.2.2.2 (HRK.out.trans he)⟩
   ·have hb:((k3:Int) == (Lg:Int))=false:=ζ;have HNE:=χ (show (ai x1 l1 r1).rank≠Lg from fun e=>he (HRK.out.symm.trans e));generalize hz:zT P1=z at *;clear he
    go_wp2_with (first
     | (go_at_call 250;(with_reducible refine (ku).mono ?_);rintro e w8 ⟨rfl,kk,rfl⟩)
     | (go_at_call 247;(with_reducible refine (l8 _ _).mono ?_);rintro e w9 ⟨rfl,aO⟩;rw [aO];clear aO w9)
     | fail)
    cases P1 with
    | nil=>
     subst hz;refine ⟨⟨S3,MR,U8.out.ae ((aa.refl _ _).drewN kk),V8.out.drewN kk,Β ⟨rfl,ME.out.top HX.out wT.out.1 wT.out.2.1 wT.out.2.2.1 wT.out.2.2.2⟩⟩,?_⟩;have hi:=Gi HL.out ZH.out
     show (if ((-1:Int))=-1 then 0 else _)<(if ((x1:Int))=-1 then 0 else L.length-L.idxOf ((x1:Int)).toNat)
     rw [Δ rfl,Γ ω,π,hi.1];omega
    | cons f P2=>
     subst hz;obtain ⟨l2,r2,hM2⟩:=ME.out.up HX.out wT.out.1 wT.out.2.1 wT.out.2.2.1 wT.out.2.2.2 HNE.out;refine ⟨⟨S3,MR,U8.out.ae ((aa.refl _ _).drewN kk),V8.out.drewN kk,Α ⟨P2,_,f.1,l2,r2,dn++[x1],rfl,by rw [ZH.out];simp,hM2⟩⟩,?_⟩;have hi:=Gi HL.out ZH.out;have hi2:=Gi (done:=dn++[x1]) (x:=f.1) (rest:=P2.map (·.1)) HL.out (by rw [ZH.out];simp)
     show (if ((f.1:Int))=-1 then 0 else L.length-L.idxOf ((f.1:Int)).toNat)<(if ((x1:Int))=-1 then 0 else L.length-L.idxOf ((x1:Int)).toNat)
     rw [Γ ω,Γ ω,π,π,hi.1,hi2.1];rw [υ,List.length_singleton] at hi2 ⊢;omega
  ·go_wp2
   (first|go_end0|go_ret)
   exact ⟨rfl,hu,S1,Zf,hM,hE⟩
end
end Go.Proofs.YtklibcncmbofpaaGreat
namespace Go.Proofs.YtklibcncmbofpaaGreat
theorem Heap.frame {A A':NS}:∀ {t:BT},Heap A t->(∀x,x∈t.nodes->A'.c x=A.c x)->Heap A' t
 | .nil,_,_=>trivial
 | .node x l r,h,hs=>by
  have hx:=hs x (by simp [BT.nodes]);refine ⟨fun y hy=>(fV hx (hs y (by simp [BT.nodes,hy]))).2 (h.1 y hy),fun y hy=>(fV hx (hs y (by simp [BT.nodes,hy]))).2 (h.2.1 y hy),h.2.2.1.frame (fun y hy=>hs y (by simp [BT.nodes,hy])),h.2.2.2.frame (fun y hy=>hs y (by simp [BT.nodes,hy]))⟩
structure QF where
 H:NS->BT->Prop
 frame:∀ {A A':NS} {t:BT},H A t->(∀x,x∈t.nodes->A'.c x=A.c x)->H A' t
 nil:∀A,H A .nil
abbrev heapK:QF:=⟨Heap,Heap.frame,fun _=>trivial⟩
structure wK (K:QF) (A:NS) (S:TS) (af:List Int) (tr:Nat->BT):Prop where
 top:∀h,h<A.hs.length->af.getD h 0=(tr h).root
 IE:∀h,bS S (-1) (tr h).root (tr h)
 mem:∀h x,x∈(tr h).nodes↔0<h/\x<A.cs.length/\(A.c x).i=h
 nd:∀h,(tr h).nodes.Nodup
 heap:∀h,K.H A (tr h)
 free:∀x,x<A.cs.length->(A.c x).i=0->S.l x=-1/\S.r x=-1/\S.u x=-1
abbrev ZC:=wK heapK
theorem wK.next {K:QF} {A A':NS} {S S':TS} {af nU:List Int} {tr Kb:Nat->BT} (h:wK K A S af tr) (hc:A'.cs.length=A.cs.length) (keep:Nat->Prop)
  (k1:∀g,keep g->Kb g=tr g/\∀x,x∈(tr g).nodes->S.at S' x/\A'.c x=A.c x)
  (k2:∀g,keep g->∀x,x<A.cs.length->0<g->((A'.c x).i=g↔(A.c x).i=g))
  (n1:∀g,¬keep g->bS S' (-1) (Kb g).root (Kb g)/\(Kb g).nodes.Nodup/\K.H A' (Kb g)/\∀x,x∈(Kb g).nodes↔0<g/\x<A.cs.length/\(A'.c x).i=g)
  (tp:∀g,g<A'.hs.length->nU.getD g 0=(Kb g).root)
  (fr:∀x,x<A.cs.length->(A'.c x).i=0->S'.l x=-1/\S'.r x=-1/\S'.u x=-1):wK K A' S' nU Kb:=by
 refine ⟨tp,fun g=>?_,fun g x=>?_,fun g=>?_,fun g=>?_,fun x hx=>fr x ω⟩
 ·by_cases hk:keep g
  ·obtain ⟨e,hs⟩:=k1 g hk;rw [e];exact (h.IE g).frame (fun y hy=>(hs y hy).1)
  ·exact (n1 g hk).1
 ·rw [hc]
  by_cases hk:keep g
  ·rw [(k1 g hk).1,h.mem g x];constructor
   ·rintro ⟨a,b,c⟩;exact ⟨a,b,(k2 g hk x b a).2 c⟩
   ·rintro ⟨a,b,c⟩;exact ⟨a,b,(k2 g hk x b a).1 c⟩
  ·exact (n1 g hk).2.2.2 x
 ·by_cases hk:keep g
  ·rw [(k1 g hk).1];exact h.nd g
  ·exact (n1 g hk).2.1
 ·by_cases hk:keep g
  ·obtain ⟨e,hs⟩:=k1 g hk;rw [e];exact K.frame (h.heap g) (fun y hy=>(hs y hy).2)
  ·exact (n1 g hk).2.2.1
def single (x:Nat):BT:=.node x .nil .nil
theorem tC {S:TS} {x:Nat} (h:S.l x=-1/\S.r x=-1/\S.u x=-1):bS S (-1) (single x).root (single x):=⟨rfl,h.2.2,h.1,h.2.1⟩
theorem wK.out {K:QF} {A:NS} {S:TS} {af:List Int} {tr:Nat->BT} (h:wK K A S af tr) {x g:Nat} (hx:(A.c x).i=0):x∉(tr g).nodes:=fun hm=>by
 have:=(h.mem g x).1 hm;omega
theorem wK.put {K:QF} {A:NS} {S S':TS} {af:List Int} {tr:Nat->BT} (h:wK K A S af tr) (ok:A.Ok) (hn:af.length=A.hs.length) {g x:Nat} {k s:Int} (hB:iX A g x=true) {t':BT}
  (hT:bS S' (-1) t'.root t') (hp:t'.nodes.Perm ((tr g).nodes++[x])) (hH:K.H (au A g x k s) t') (hs:∀y,y∉(tr g).nodes++[x]->S.at S' y) :
  wK K (au A g x k s) S' (af.set g t'.root) (fun q=>if q=g then t' else tr q):=by
 obtain ⟨b1,b2,b3⟩:=(bV _ _ _).1 hB;have b4:=(aK _ _).1 b1;have hx:x<A.cs.length:=by have:=(dB _ _).1 b2;omega
 have h0:(A.c x).i=0:=by
  have:=(ok.nat x hx).1;have h3:¬ (0<(A.c x).i):=fun h'=>by rw [(aj A x).2 ⟨hx,h'⟩] at b3;cases b3
  omega
 have hc:∀y,(au A g x k s).c y=if y=x then ⟨g,k,s⟩ else A.c y:=fun y=>by
  unfold au;rw [Δ hB,π,iy]
  by_cases e:y=x
  ·rw [Δ ⟨e,hx⟩,Δ e]
  ·rw [Γ (fun h=>e h.1),Γ e]
 have hl:(au A g x k s).cs.length=A.cs.length:=by unfold au;rw [Δ hB,dK]
 have hh:(au A g x k s).hs=A.hs:=by unfold au;rw [Δ hB];rfl
 have hgn:g<A.hs.length:=ω;refine h.next hl (fun q=>q≠g) (fun q hq=>⟨Γ hq,fun y hy=>?_⟩) (fun q hq y hy hq0=>?_) (fun q hq=>?_) (fun q hq=>?_) (fun y hy hy0=>?_)
 ·have hyx:y≠x:=fun e=>h.out (g:=q) h0 (by rw [←e];exact hy);have hyg:y∉(tr g).nodes:=fun hm=>by
   have a1:=(h.mem g y).1 hm;have a2:=(h.mem q y).1 hy;omega
  exact ⟨hs y (by simp [hyx,hyg]),by rw [hc,Γ hyx]⟩
 ·rw [hc]
  by_cases e:y=x
  ·rw [Δ e,e];simp only;omega
  ·rw [Γ e]
 ·have hq':q=g:=Classical.not_not.1 hq;subst hq';rw [Δ rfl];refine ⟨hT,hp.nodup_iff.2 ?_,hH,fun y=>?_⟩
  ·rw [θ];refine ⟨h.nd q,σ,fun a ha b hb e=>?_⟩;simp only [ϔ] at hb;exact h.out (g:=q) h0 (by rw [←hb,←e];exact ha)
  ·rw [hp.mem_iff,τ,ϔ,h.mem q y,hc]
   by_cases e:y=x
   ·rw [Δ e];simp only [e,or_true,true_iff];exact ⟨ω,hx,trivial⟩
   ·rw [Γ e];simp only [e,or_false]
 ·rw [hh] at hq
  by_cases e:q=g
  ·rw [Δ e,e,φ,ύ,Δ rfl,Δ ω];rfl
  ·rw [Γ e,φ,ύ,Γ (fun h=>e h.symm),←φ];exact h.top q hq
 ·rw [hc] at hy0
  by_cases e:y=x
  ·rw [Δ e] at hy0;simp only at hy0;omega
  ·rw [Γ e] at hy0;have hyn:y∉(tr g).nodes++[x]:=by
    simp only [τ,ϔ,e,or_false];exact h.out hy0
   have a1:=h.free y hy hy0;have a2:=hs y hyn;exact ⟨a2.1.trans a1.1,a2.2.1.trans a1.2.1,a2.2.2.trans a1.2.2⟩
theorem CB {K:QF} (n:Nat):wK K (NS.new n) TS.none [-1] (fun _=>BT.nil):=by
 refine ⟨fun h hh=>?_,fun h=>rfl,fun h x=>?_,fun h=>ϧ,fun h=>K.nil _,fun x hx _=>⟨rfl,rfl,rfl⟩⟩
 ·have:h=0:=by simp [NS.new] at hh;exact hh
  subst this;rfl
 ·rw [NS.vX];simp only [BT.nodes,ς,false_iff,Cl.z];omega
theorem wK.make {K:QF} {A:NS} {S:TS} {af:List Int} {tr:Nat->BT} (h:wK K A S af tr) (ok:A.Ok) (hn:af.length=A.hs.length) (hl:¬65536<A.hs.length)  :wK K (aD A) S (af++[-1]) tr:=by
 have hc:(aD A).cs=A.cs:=by unfold aD;rw [Γ hl]
 have hh:(aD A).hs=A.hs++[true]:=by unfold aD;rw [Γ hl]
 have hcc:∀x,(aD A).c x=A.c x:=fun x=>by unfold NS.c;rw [hc]
 refine h.next (by rw [hc]) (fun _=>True) (fun g _=>⟨rfl,fun x _=>⟨⟨rfl,rfl,rfl⟩,hcc x⟩⟩) (fun g _ x _ _=>by rw [hcc]) (fun g hg=>absurd trivial hg) (fun g hg=>?_) (fun x hx h0=>h.free x hx (by rw [hcc] at h0;exact h0));rw [hh,υ,List.length_singleton] at hg
 by_cases e:g<A.hs.length
 ·rw [φ,Ρ ω,←φ];exact h.top g e
 ·have e2:g=af.length:=ω;have hnil:tr g=.nil:=by
   cases ht:tr g with
   | nil=>rfl
   | node x l r=>
    have hm:=(h.mem g x).1 (by rw [ht];simp [BT.nodes]);have:=(ok.nat x hm.2.1).2;omega
  rw [φ,e2,ϊ (Θ _)];rw [←e2,hnil];simp [BT.root]
end Go.Proofs.YtklibcncmbofpaaGreat
namespace Go.Proofs.YtklibcncmbofpaaGreat
open Go Go.RowKit
def mD (w:World) (B:LB) (F:List Nat) (gt ct:Nat) (A:NS) (st:Nat) (tr:Nat->BT):Prop:=
 ∃S rk af,jP w B F gt ct A st S rk af/\ZC A S af tr/\(∀h,Lean (tr h))/\(∀h,fG rk (tr h))
theorem mD.upd {w w':World} {B:LB} {F:List Nat} {gt ct:Nat} {A:NS} {st:Nat} {tr:Nat->BT} {G:List Nat} (h:mD w B F gt ct A st tr) (hu:aa G w w') (hG:∀x,x∈G->x∉B.blk F gt):mD w' B F gt ct A st tr:=by
 obtain ⟨S,rk,af,hM,h1,h2,h3⟩:=h;exact ⟨S,rk,af,hM.upd hu hG,h1,h2,h3⟩
theorem mD.ae {w w':World} {B:LB} {F:List Nat} {gt ct:Nat} {A:NS} {st:Nat} {tr:Nat->BT} (h:mD w B F gt ct A st tr) (hu:aa [] w w'):mD w' B F gt ct A st tr:=h.upd hu σ
section
variable {w:World} {B:LB} {F:List Nat} {gt ct:Nat} {A:NS} {st:Nat} {tr:Nat->BT}
theorem D9 (h:mD w B F gt ct A st tr) (hh x:Nat) (k s:Int) (hk:-9223372036854775808<=k/\k<=9223372036854775807/\0<=s/\s<=18446744073709551615) (hB:iX A hh x=true) :
  Calls Tryz.prog 240 #[.pointer (some ⟨B.n0,0,none⟩),.int .i64 (hh:Int),.int .i64 (x:Int),.agg #[.int .i64 k,.int .u64 s]] w fun e w'=>e=.returned (.bool true)/\aa (B.blk F gt) w w'/\
   mD w' B F gt ct (au A hh x k s) (dG st (aH ai (au A hh x k s) (tr hh) (single x)).2) (fun q=>if q=hh then (aH ai (au A hh x k s) (tr hh) (single x)).1 else tr q):=by
 obtain ⟨S,rk,af,hM,hI,hL,hR⟩:=h;have hlt:=hM.lt;have ok:=hM.cells.ok;have ok':=qR ok hh x k s hk;obtain ⟨b1,b2,b3⟩:=(bV _ _ _).1 hB;have b4:=(aK _ _).1 b1;have hx:x<A.cs.length:=by have:=(dB _ _).1 b2;omega
 have MN:(A.c x).i=0:=by
  have:=(ok.nat x hx).1;have h3:¬ (0<(A.c x).i):=fun h'=>by rw [(aj A x).2 ⟨hx,h'⟩] at b3;cases b3
  omega
 have hcs:(au A hh x k s).cs.length=A.cs.length:=by unfold au;rw [Δ hB,dK]
 have nC:(au A hh x k s).hs.length=A.hs.length:=by unfold au;rw [Δ hB];rfl
 have hcx:∀y,(au A hh x k s).c y=if y=x then ⟨hh,k,s⟩ else A.c y:=fun y=>by
  unfold au;rw [Δ hB,π,iy]
  by_cases e:y=x
  ·rw [Δ ⟨e,hx⟩,Δ e]
  ·rw [Γ (fun h=>e h.1),Γ e]
 have su:x∉(tr hh).nodes:=hI.out MN;have hX:((tr hh).nodes++(single x).nodes).Nodup:=by
  rw [θ];refine ⟨hI.nd hh,by simp [single,BT.nodes],fun a ha b hb e=>?_⟩;simp only [single,BT.nodes,Υ,ϔ] at hb;exact su (by rw [←hb,←e];exact ha)
 have hin:∀y,y∈(tr hh).nodes++(single x).nodes->bP (au A hh x k s) (y:Int)=true:=fun y hy=>by
  rw [aj,hcs,hcx];simp only [single,BT.nodes,Υ,τ,ϔ] at hy
  by_cases e:y=x
  ·rw [Δ e,e];exact ⟨hx,by show (0:Int)<(hh:Int);omega⟩
  ·rw [Γ e];have:=(hI.mem hh y).1 (hy.resolve_right e);exact ⟨this.2.1,ω⟩
 have Ug:Heap (au A hh x k s) (tr hh):=(hI.heap hh).frame (fun y hy=>by rw [hcx,Γ (fun e=>su (by rw [←e];exact hy))]);obtain ⟨mp,mh⟩:=pW nW (au A hh x k s) _ (tr hh) (single x) (Θ _);have Vo:=mh Ug ⟨by simp [BT.nodes],by simp [BT.nodes],trivial,trivial⟩ hX;have ml:=xV (au A hh x k s) _ (tr hh) (single x) (Θ _) (hL hh) ⟨Θ _,trivial,trivial⟩;have hfr:=hI.free x hx MN
 have FI:Hid (∀ (W:World) (S':TS) (pM:Nat->Nat) (st':Nat),jP W B F gt ct (au A hh x k s) st' S' pM (af.set hh (aH ai (au A hh x k s) (tr hh) (single x)).1.root)->bS S' (-1) (aH ai (au A hh x k s) (tr hh) (single x)).1.root (aH ai (au A hh x k s) (tr hh) (single x)).1->fG pM (aH ai (au A hh x k s) (tr hh) (single x)).1->
   (∀y,y∉(tr hh).nodes++(single x).nodes->S.at S' y/\pM y=rk y)->mD W B F gt ct (au A hh x k s) st' (fun q=>if q=hh then (aH ai (au A hh x k s) (tr hh) (single x)).1 else tr q)):=fun W S' pM st' a1 a2 a3 a4=>by
  refine ⟨S',pM,_,a1,hI.put ok hM.jk hB a2 mp Vo (fun y hy=>(a4 y hy).1),fun q=>?_,fun q=>?_⟩
  ·show Lean (if q=hh then _ else _)
   split
   ·exact ml
   ·exact hL q
  ·show fG pM (if q=hh then _ else _)
   split
   ·exact a3
   ·rename_i hq
    refine (hR q).frame (fun y hy=>(a4 y (fun hm=>?_)).2);simp only [single,BT.nodes,Υ,τ,ϔ] at hm;rcases hm with hm|hm
    ·have c1:=(hI.mem hh y).1 hm;have c2:=(hI.mem q y).1 hy;omega
    ·exact hI.out (g:=q) MN (by rw [←hm];exact hy)
 have Tw:=hI.IE hh;have hRh:=hR hh;have htop:=hI.top hh ω;have hgn:hh<af.length:=by rw [hM.jk];omega
 have u1:aa [] w (w.alloc (.cells #[.int .i64 k,.int .u64 s] 129)):=(aa.refl _ _).alloc _;have kp:=fun W (hW:aa [] (w.alloc (.cells #[.int .i64 k,.int .u64 s] 129)) W)=>lX (hM.cells.ae (u1.trans hW)) hh x k s hk hB;have h0:=hM.h0;have vY:B.n0∉F:=hM.bA.1;have hsz:w.heap.size∉F:=fun hm=>by have:=hlt w.heap.size (by simp [LB.blk,hm]);omega
 have r0:∀W,aa F (w.alloc (.cells #[.int .i64 k,.int .u64 s] 129)) W->W.cell? ⟨B.n0,0,none⟩=some (.pointer (some ⟨B.c,0,none⟩)):=fun W hW=>hW.kept (u1.was h0) vY;have r1:∀W,aa F (w.alloc (.cells #[.int .i64 k,.int .u64 s] 129)) W->W.cell? ⟨w.heap.size,0,none⟩=some (.int .i64 k):=fun W h=>h.kept σ hsz;have r2:∀W,aa F (w.alloc (.cells #[.int .i64 k,.int .u64 s] 129)) W->W.cell? ⟨w.heap.size,1,none⟩=some (.int .u64 s):=fun W h=>h.kept σ hsz;have HM:=χ hM;have HH:=χ (ψ hX (ψ hin (ψ Tw (ψ hRh hfr))));have Tz:=χ hlt;have HSE:=χ (ψ hM.sep hM.bA);have hA:=ok.c1;have YV:=ok.h1;have HXN:=χ su
 clear hM hI hL hR ok ok' b1 b2 b3 MN hcx su hX hin Ug mp mh Vo ml hfr h0 hlt Tw hRh;generalize hA':au A hh x k s=A' at *;generalize htr:tr hh=th at *
 go_enter Tryz.func240,Tryz.ntmps240
 go_wp2
 go_region_held3 (aa F (w.alloc (.cells #[.int .i64 k,.int .u64 s] 129))) (exact ν)
  ((go_at_call 154;(with_reducible refine (kp _ β).mono ?_);rintro e w1 ⟨rfl,jH,hu1⟩;(have hu2:aa F (w.alloc (.cells #[.int .i64 k,.int .u64 s] 129)) w1:=ν)))
 have uF:aa F w (w.alloc (.cells #[.int .i64 k,.int .u64 s] 129)):=u1.mono σ;have hM1:=HM.out.fe (uF.trans hu2) jH (fun y hy=>Α hy) hcs nC;have h2:=hM1.h2;have dR:=hM1.ranks.cell x (by rw [hcs];exact hx);have fR:=hM1.ranks.free x;have hw1:aa F w w1:=uF.trans hu2;have pG:=χ hM1;clear r0 r1 r2 kp hu1 hu2 jH hM1 uF;rw [hcs] at h2;go_wp2;obtain ⟨w2,hw2⟩:∃w2,w2=w1.setCell ⟨B.br,x,none⟩ (.int .i64 1):=⟨_,rfl⟩;have u2:aa [B.br] w1 w2:=by rw [hw2];exact β
 have hM2:jP w2 B F gt ct A' st S (fun y=>if y=x then 1 else rk y) af:=by rw [hw2];exact pG.out.cZ x 1
 rw [←hw2];clear hw2 pG h2 dR fR;have km:=fun W (hW:aa [] w2 W)=>xL (hM2.ae hW) HH.out.2.2.1 (tC HH.out.2.2.2.2) HH.out.1 HH.out.2.1 (HH.out.2.2.2.1.frame (fun y hy=>Γ (fun e=>HXN.out (by rw [←e];exact hy)))) ⟨by simp [BT.rank],trivial,trivial⟩;rw [show (single x).root=(x:Int) from rfl] at km;have d4:=hM2.jC.cell hh hgn;rw [htop] at d4;have f4:=hM2.jC.free hh;have h3:=hM2.h3;have hg:=hM2.lt gt (by simp [LB.blk]);have uV:=χ hM2;have RP:B.n0∉[B.c,B.ba,B.br,gt]:=by
  have a1:=HSE.out;have a2:B.n0≠B.c:=fun e=>a1.2.1 (by rw [e];exact HM.out.cF);simp;omega
 have hgc:gt∉[B.c,B.ba,B.br]:=by
  have a1:=HSE.out;have a2:gt≠B.c:=fun e=>a1.2.2.2.2.2 (by rw [e];exact HM.out.cF);simp;omega
 have r3:∀W,aa [B.c,B.ba,B.br,gt] w2 W->W.cell? ⟨B.n0,3,none⟩=some (.slice (some ⟨gt,0,none⟩) af.length ct):=fun W hW=>hW.kept h3 RP;have r4:∀W,aa [B.c,B.ba,B.br] w2 W->W.cell? ⟨gt,hh,none⟩=some (.int .i64 th.root)/\W.frozen? ⟨gt,hh,none⟩=false:=fun W hW=>⟨hW.kept d4 hgc,hW.aP d4 hgc f4⟩
 have Gp:(0:Int)<=(hh:Int):=ω;have JQ:(hh:Int)<(af.length:Int):=ω;have MG:Hid (aH ai A' th (single x)=aH ai A' th (single x)):=rfl;generalize hmt:(aH ai A' th (single x)).1=mt at *;generalize hmk:(aH ai A' th (single x)).2=mk at *;clear hM2 f4 h3 MG;have q3:=r3 _ (aa.refl _ _);have q4:=(r4 _ (aa.refl _ _)).1
 go_region_law
  (first
   | (go_simp;go_at_call 246;(with_reducible refine (km _ β).mono ?_);rintro e w5 ⟨rfl,Br,S5,XB,Bj,ML,Om,hs5⟩;(have dF:aa [B.c,B.ba,B.br] w2 w5:=aa.trans β Br);(have fq:aa [B.c,B.ba,B.br,gt] w2 w5:=dF.mono σ);obtain ⟨d5,f5⟩:=r4 _ dF;(have q5:=r3 _ fq)))
 all_goals
  go_wp2;go_ret;have r9:=HM.out.cF;have v1:aa (B.blk F gt) w w1:=hw1.mono (fun y hy=>by simp only [LB.blk,ρ];simp [hy]);have v2:aa (B.blk F gt) w w2:=v1.trans (u2.mono (fun y hy=>by simp at hy;simp [LB.blk,hy]))
  have v3:aa (B.blk F gt) w w5:=v2.trans (dF.mono (fun y hy=>by
   simp only [ρ,ς,or_false] at hy;simp only [LB.blk,ρ];rcases hy with rfl|rfl|rfl
   ·simp [r9]
   ·simp
   ·simp))
  subst hmt hmk;refine ⟨rfl,v3.setCell (Α (by simp [LB.blk])) _,FI.out _ S5 XB _ (Bj.sZ hh _) ML Om (fun y hy=>⟨(hs5 y hy).1,?_⟩)⟩;rw [(hs5 y hy).2,Γ (fun e=>hy (by rw [e];simp [single,BT.nodes]))]
end
theorem Pw (n j:Nat) (hj:j<n):(madeCells #[Value.int .i64 0] (n*1)).toList.getD j undef=.int .i64 0:=by
 rw [φ,ε (by simp [madeCells];omega)];simp [madeCells,Nat.mod_one]
theorem M0 (n:Nat) (w:World) (h:n<=65536) :
  Calls Tryz.prog 100 #[.int .i64 (n:Int)] w fun e w'=>∃B F gt,e=.returned (.tuple #[.pointer (some ⟨B.n0,0,none⟩),.int .i64 0])/\mD w' B F gt 1 (NS.new n) 0 (fun _=>.nil)/\aa [] w w'/\∀x,x∈B.blk F gt->w.heap.size<=x:=by
 go_enter Tryz.func100,Tryz.ntmps100
 go_wp2_with (first
  | ((go_at_call 107;(with_reducible refine (mi n _ h).mono ?_));rintro e w1 ⟨c,F,rfl,hC,hu1,hF⟩)
  | ((go_at_call 112;(with_reducible refine (uE n _ h).mono ?_));rintro e w2 ⟨bt,ba,rfl,hT,hu2,hb1,hb2⟩)
  | (at_make;refine wpList_make_row rfl _ 26 rfl 3 (.int .i64 0) 1 8 Tryz.underlying26 cO n rfl ω μ ?_;intro w3 hr3 hu3))
 go_ret2;have hcs:(NS.new n).cs.length=n:=by simp [NS.new]
 have l1:=hu1.size;have l2:=hu2.size;have l3:=hu3.size;have l4:=hr3.lt;have l5:=hT.head.lt;have l6:=hT.row.lt;have l7:=hC.lt;have lc:=l7 c hC.mem;have e3:((w3.alloc (.cells #[.int .i64 (-1)] 3)).heap.size)=w3.heap.size+1:=by rw [Κ]
 have hv:aa [] w3 (w3.alloc (.cells #[.int .i64 (-1)] 3)):=(aa.refl _ _).alloc _;have hw:aa [] w3 ((w3.alloc (.cells #[.int .i64 (-1)] 3)).alloc (.cells #[.pointer (some ⟨c,0,none⟩),.pointer (some ⟨bt,0,none⟩),.slice (some ⟨w2.heap.size,0,none⟩) n n,.slice (some ⟨w3.heap.size,0,none⟩) 1 1] 231)):=hv.alloc _;have hh:=dC (w3.alloc (.cells #[.int .i64 (-1)] 3)) [.pointer (some ⟨c,0,none⟩),.pointer (some ⟨bt,0,none⟩),.slice (some ⟨w2.heap.size,0,none⟩) n n,.slice (some ⟨w3.heap.size,0,none⟩) 1 1] 231;rw [e3] at hh
 have hi:IZ (w3.alloc (.cells #[.int .i64 (-1)] 3)) w3.heap.size 1 [-1]:=IZ.lit w3 [-1] σ;have hF':∀x,x∈F->x<w1.heap.size:=l7;have hnF:∀x,w1.heap.size<=x->x∉F:=fun x hx hm=>by have:=hF' x hm;omega
 refine ⟨⟨w3.heap.size+1,c,bt,ba,w2.heap.size⟩,F,w3.heap.size,rfl,⟨TS.none,fun _=>0,[-1],⟨by rw [hcs];exact hh,((hC.ae hu2).ae hu3).ae hw,by rw [hcs];exact (hT.upd hu3 σ σ).upd hw σ σ,?_,hi.upd ((aa.refl [] _).alloc _) σ,rfl,⟨hnF _ (by first|omega|(simp only;omega)),hnF _ (by first|omega|(simp only;omega)),hnF _ (by first|omega|(simp only;omega)),hnF _ (by first|omega|(simp only;omega)),hnF _ (by first|omega|(simp only;omega))⟩,⟨⟨by simp only;omega,by simp only;omega,by simp only;omega,by simp only;omega⟩,by simp only;omega,by simp only;omega,by simp only;omega,by simp only;omega,by simp only;omega⟩⟩,CB n,fun _=>trivial,fun _=>trivial⟩,((hu1.trans hu2).trans hu3).trans hw,fun x hx=>?_⟩
 ·rw [hcs];have:=hr3.upd hw σ;rw [Nat.mul_one] at this;refine this.ext (fun j hj=>?_);have hz:(Value.int .i64 0).cells=#[.int .i64 0]:=rfl;have e:=Pw n j hj;rw [Nat.mul_one] at e;rw [hz,e];rfl
 ·simp only [LB.blk,ρ] at hx;rcases hx with rfl|rfl|rfl|rfl|rfl|hx
  ·omega
  ·omega
  ·omega
  ·omega
  ·omega
  ·exact hF x hx
section
variable {w:World} {B:LB} {F:List Nat} {gt ct:Nat} {A:NS} {st:Nat} {tr:Nat->BT}
theorem P9 (h:mD w B F gt ct A st tr) (hl:65536<A.hs.length) :
  Calls Tryz.prog 241 #[.pointer (some ⟨B.n0,0,none⟩)] w fun e w'=>e=.returned (.int .i64 0)/\Goes (B.blk F gt) w w' (fun F'=>∃F1,F'=B.blk F1 gt/\mD w' B F1 gt ct A st tr):=by
 obtain ⟨S,rk,af,hM,hI⟩:=h;have k:=gL hM.cells;have e1:bR A=0:=by unfold bR;rw [Δ hl]
 have e2:aD A=A:=by unfold aD;rw [Δ hl]
 rw [e1,e2] at k;have h0:=hM.h0;have HM:=χ hM;have HI:=χ hI;clear hM hI e1 e2
 go_enter Tryz.func241,Tryz.ntmps241
 go_wp2_with (first|((go_at_call 156;(with_reducible refine (k).mono ?_));rintro e w1 ⟨rfl,F1,hC,hu,hF⟩))
 go_ret
 exact ⟨rfl,B.blk F1 gt,⟨F1,rfl,S,rk,af,HM.out.fe hu hC hF rfl rfl,HI.out⟩,hu.mono (fun y hy=>by simp [LB.blk,hy]),fun x hx=>by
  simp only [LB.blk,ρ] at hx ⊢;rcases hx with rfl|rfl|rfl|rfl|rfl|hx
  ·simp
  ·simp
  ·simp
  ·simp
  ·simp
  ·rcases hF x hx with h|h
   ·simp [h]
   ·exact Β h⟩
theorem KE (h:mD w B F gt ct A st tr) (hl:¬65536<A.hs.length) :
  Calls Tryz.prog 241 #[.pointer (some ⟨B.n0,0,none⟩)] w fun e w'=>e=.returned (.int .i64 (A.hs.length:Int))/\Goes (B.blk F gt) w w' (fun F'=>∃F1 nD Fh,F'=B.blk F1 nD/\mD w' B F1 nD Fh (aD A) st tr):=by
 obtain ⟨S,rk,af,hM,hI,hL,hR⟩:=h;have k:=gL hM.cells;have e1:bR A=A.hs.length:=by unfold bR;rw [Γ hl]
 rw [e1] at k;have hcs:(aD A).cs.length=A.cs.length:=by unfold aD;rw [Γ hl]
 have nC:(aD A).hs.length=A.hs.length+1:=by unfold aD;rw [Γ hl];simp
 have hI2:=hI.make hM.cells.ok hM.jk hl;have h0:=hM.h0;have hh0:=hM.cells.ok.h0;have HTN:=χ hM.jk;have htb:af.length<=65536:=by rw [hM.jk];omega
 have HM:=χ hM;have HI:=χ (ψ hI2 (ψ hL hR));clear hM hI hL hR e1 hI2
 go_enter Tryz.func241,Tryz.ntmps241
 go_wp2_with (first
  | ((go_at_call 156;(with_reducible refine (k).mono ?_));rintro e w1 ⟨rfl,F1,hC,hu,hF⟩;(have d3:=hu.kept HM.out.h3 HM.out.bA.1);(have f3:=hu.aP HM.out.h3 HM.out.bA.1 (HM.out.head.free 3));(have ho1:=(HM.out.jC.upd hu HM.out.bA.2.2.2.2).own);(have g0:B.n0≠gt:=HM.out.sep.1.2.2.2);(have gl:=(HM.out.jC.upd hu HM.out.bA.2.2.2.2).lt))
  | ((at_builtin;refine ak rfl _ _ 26 rfl 0 3 (.int .i64 0) 1 8 Tryz.underlying26 cO rfl δ _ _ _ rfl (ho1) [.int .i64 (-1)] rfl (by simp [Value.oneCell']) (by first|rfl|(rw [Κ];rfl)) μ ω (ω) ?_;intro v2 w2 ho2 hu2 lq);(have hu2:aa [gt] w1 w2:=hu2);obtain ⟨nD,Fh,ev,hI2, -⟩:=IZ.fE (l:=af++[-1]) (by rw [aT,υ];exact ho2) σ;rw [υ,List.length_singleton] at ev;subst ev;(have d4:=hu2.kept d3 ζ);(have f4:=hu2.aP d3 ζ f3)))
 go_ret;have hM:=HM.out;have hlt:=hM.lt;have f:=hM.bA;have q:=hM.sep;have hw3:aa [B.n0] w2 (w2.setCell ⟨B.n0,3,none⟩ (.slice (some ⟨nD,0,none⟩) (af.length+1) Fh)):=β;have hg1:nD=gt\/w1.heap.size<nD:=by
  rcases lq with h|h
  ·exact Α (Option.some.inj h)
  ·exact Β (h nD rfl)
 have hws:=hu.size;have jH:=hC.lt;have l0:=hlt B.n0 (by simp [LB.blk]);have l1:=hlt B.bt (by simp [LB.blk]);have l2:=hlt B.ba (by simp [LB.blk]);have l3:=hlt B.br (by simp [LB.blk]);have l4:=hlt gt (by simp [LB.blk]);have hnF:∀y,y<w.heap.size->y∉F->y∉F1:=fun y hy hn hm=>by rcases hF y hm with h'|h';exact hn h';omega
 have wY:nD∉F1:=by
  rcases hg1 with e|e
  ·rw [e];exact hnF gt l4 f.2.2.2.2
  ·exact fun hm=>by have:=jH nD hm;omega
 have hb:w.heap.size<=nD\/nD=gt:=ω;have hhd:=((hM.head.upd hu f.1).upd hu2 ζ).set 3 (.slice (some ⟨nD,0,none⟩) (af.length+1) Fh);refine ⟨rfl,B.blk F1 nD,⟨F1,nD,Fh,rfl,S,rk,af++[-1],⟨?_,?_,?_,?_,hI2.upd hw3 ζ,?_,⟨hnF _ l0 f.1,hnF _ l1 f.2.1,hnF _ l2 f.2.2.1,hnF _ l3 f.2.2.2.1,wY⟩,⟨⟨q.1.1,q.1.2.1,q.1.2.2.1,ω⟩,q.2.1,ω,q.2.2.2.1,ω,ω⟩⟩,HI.out⟩,?_,fun y hy=>?_⟩
 ·rw [hcs,υ,List.length_singleton];refine hhd.ext (fun j hj=>?_);rcases (ω:j=0\/j=1\/j=2\/j=3) with rfl|rfl|rfl|rfl<;>rfl
 ·exact (hC.upd hu2 (fun y hy=>by simp at hy;rw [hy];exact hnF gt l4 f.2.2.2.2)).upd hw3 (fun y hy=>by simp at hy;rw [hy];exact hnF _ l0 f.1)
 ·rw [hcs];exact ((hM.trees.upd hu f.2.1 f.2.2.1).upd hu2 ζ ζ).upd hw3 ζ ζ
 ·rw [hcs];exact ((hM.ranks.upd hu f.2.2.2.1).upd hu2 ζ).upd hw3 ζ
 ·rw [υ,List.length_singleton,nC,HTN.out]
 ·have u1:aa (B.blk F gt) w w1:=hu.mono (fun y hy=>by simp [LB.blk,hy]);exact (u1.trans (hu2.mono (fun y hy=>by simp at hy;simp [LB.blk,hy]))).trans (hw3.mono (fun y hy=>by simp at hy;simp [LB.blk,hy]))
 ·simp only [LB.blk,ρ] at hy ⊢;rcases hy with rfl|rfl|rfl|rfl|rfl|hy
  ·simp
  ·simp
  ·simp
  ·simp
  ·rcases hb with h|h
   ·exact Β h
   ·exact Α (by simp [h])
  ·rcases hF y hy with h|h
   ·simp [h]
   ·exact Β h
end
theorem wK.first {A:NS} {S:TS} {af:List Int} {tr:Nat->BT} (h:ZC A S af tr) {g:Nat} (hg:0<dA A g):∃m:Nat,(tr g).root=m/\bu A g=some m:=by
 obtain ⟨x,hx,hi,h0⟩:=dL.1 hg;have hxm:x∈(tr g).nodes:=(h.mem g x).2 ⟨ω,hx,hi⟩;cases ht:tr g with
 | nil=>rw [ht] at hxm;cases hxm
 | node m l r=>
  have hm:=(h.mem g m).1 (by rw [ht];simp [BT.nodes]);have hH:=h.heap g;rw [ht] at hH;refine ⟨m,rfl,(dD h0).2 ⟨hm.2.1,hm.2.2,fun y hy hyi=>?_⟩⟩;have hym:=(h.mem g y).2 ⟨ω,hy,hyi⟩;rw [ht] at hym;simp only [BT.nodes,ρ,τ] at hym;rcases hym with e|e|e
  ·exact Α e
  ·exact Β (hH.1 y e)
  ·exact Β (hH.2.1 y e)
section
variable {w:World} {B:LB} {F:List Nat} {gt ct:Nat} {A:NS} {st:Nat} {tr:Nat->BT}
theorem JP (h:mD w B F gt ct A st tr) (x:Int) (hx:-9223372036854775808<=x/\x<=9223372036854775807) (hn:dA A x=0) :
  Calls Tryz.prog 243 #[.pointer (some ⟨B.n0,0,none⟩),.int .i64 x] w fun e w'=>e=.returned (.tuple #[.int .i64 0,.bool false])/\w'=w:=by
 obtain ⟨S,rk,af,hM, -, -, -⟩:=h;have k:=nE hM.cells x hx;rw [hn] at k;have h0:=hM.h0;clear hM hn
 go_enter Tryz.func243,Tryz.ntmps243
 go_wp2_with (first|(go_at_call 142;(with_reducible refine (k).mono ?_);rintro e w9 ⟨rfl,aO⟩;rw [aO];clear aO w9))
 go_ret2;exact ⟨rfl,rfl⟩
theorem Ae (h:mD w B F gt ct A st tr) (g:Nat) (hn:0<dA A g) :
  Calls Tryz.prog 243 #[.pointer (some ⟨B.n0,0,none⟩),.int .i64 (g:Int)] w fun e w'=>∃m:Nat,bu A g=some m/\(tr g).root=m/\e=.returned (.tuple #[.int .i64 (m:Int),.bool true])/\w'=w:=by
 obtain ⟨S,rk,af,hM,hI, -, -⟩:=h;obtain ⟨m,hm,hf⟩:=hI.first hn;obtain ⟨x,hx,hi,h0⟩:=dL.1 hn;have ok:=hM.cells.ok;have hgl:g<A.hs.length:=by have:=(ok.nat x hx).2;omega
 have YV:=ok.h1;have k:=nE hM.cells (g:Int) ω;have hh0:=hM.h0;have h3:=hM.h3;have d:=hM.jC.cell g (by rw [hM.jk];exact hgl);rw [hI.top g hgl,hm] at d;have htl:g<af.length:=by rw [hM.jk];exact hgl
 generalize hl:dA A (g:Int)=n at *;have hb:((n:Int) == 0)=false:=ζ;have HF:=χ (ψ hf hm);clear hM hI hm hf hx hi h0 ok hl
 go_enter Tryz.func243,Tryz.ntmps243
 go_wp2_with (first|(go_at_call 142;(with_reducible refine (k).mono ?_);rintro e w9 ⟨rfl,aO⟩;rw [aO];clear aO w9))
 go_ret2;exact ⟨m,HF.out.1,HF.out.2,rfl,rfl⟩
end
theorem wK.del {K:QF} {A:NS} {S S':TS} {af nU:List Int} {tr:Nat->BT} (h:wK K A S af tr) {g x:Nat} (hx:x∈(tr g).nodes) {t':BT}
  (hT:bS S' (-1) t'.root t') (hp:(x::t'.nodes).Perm (tr g).nodes) (hH:K.H A t') (hs:∀y,y∉(tr g).nodes->S.at S' y) (hf:S'.l x=-1/\S'.r x=-1/\S'.u x=-1)
  (htp:∀q,q<A.hs.length->nU.getD q 0=if q=g then t'.root else af.getD q 0) :
  wK K (aL A x) S' nU (fun q=>if q=g then t' else tr q):=by
 have hm:=(h.mem g x).1 hx;have hin:bP A (x:Int)=true:=(aj A x).2 ⟨hm.2.1,ω⟩;have hc:=pO hin;have hnd:(x::t'.nodes).Nodup:=hp.nodup_iff.2 (h.nd g);have hxt:x∉t'.nodes:=(List.nodup_cons.1 hnd).1;refine h.next (cK _ _) (fun q=>q≠g) (fun q hq=>⟨Γ hq,fun y hy=>?_⟩) (fun q hq y hy hq0=>?_) (fun q hq=>?_) (fun q hq=>?_) (fun y hy hy0=>?_)
 ·have hyg:y∉(tr g).nodes:=fun hm=>by
   have a1:=(h.mem g y).1 hm;have a2:=(h.mem q y).1 hy;omega
  exact ⟨hs y hyg,by rw [hc,Γ (fun e=>hyg (by rw [e];exact hx))]⟩
 ·rw [hc]
  by_cases e:y=x
  ·rw [Δ e,e]
   show (0:Int)=(q:Int)↔_
   omega
  ·rw [Γ e]
 ·have hq':q=g:=Classical.not_not.1 hq;subst hq';rw [Δ rfl];refine ⟨hT,(List.nodup_cons.1 hnd).2,K.frame hH (fun y hy=>by rw [hc,Γ (fun e=>hxt (by rw [←e];exact hy))]),fun y=>?_⟩;have e1:=hp.mem_iff (a:=y);rw [ρ,h.mem q y] at e1;rw [hc]
  by_cases e:y=x
  ·rw [Δ e,e];refine ⟨fun hh=>absurd hh hxt,fun hh=>?_⟩;have:(0:Int)=(q:Int):=hh.2.2;omega
  ·rw [Γ e,←e1];simp [e]
 ·rw [fJ] at hq;rw [htp q hq]
  by_cases e:q=g
  ·rw [Δ e,Δ e]
  ·rw [Γ e,Γ e];exact h.top q hq
 ·rw [hc] at hy0
  by_cases e:y=x
  ·rw [e];exact hf
  ·rw [Γ e] at hy0;have a1:=h.free y hy hy0;have a2:=hs y (h.out hy0);exact ⟨a2.1.trans a1.1,a2.2.1.trans a1.2.1,a2.2.2.trans a1.2.2⟩
instance:Nonempty (List Fr×BT×BT):=⟨([],.nil,.nil)⟩
noncomputable def pathOf (t:BT) (x:Nat):List Fr×BT×BT:=Classical.epsilon fun q:List Fr×BT×BT=>t=ah q.1 (.node x q.2.1 q.2.2)
theorem vT {t:BT} {x:Nat} (h:x∈t.nodes):t=ah (pathOf t x).1 (.node x (pathOf t x).2.1 (pathOf t x).2.2):=by
 obtain ⟨P,l,r,e⟩:=vH h;unfold pathOf;exact Classical.epsilon_spec (p:=fun q:List Fr×BT×BT=>t=ah q.1 (.node x q.2.1 q.2.2)) ⟨(P,l,r),e⟩
theorem aI {P:List Fr} {t:BT} {y:Nat}:y∈(ah P t).nodes↔y∈t.nodes\/y∈bZ P:=by
 rw [(aW P t).mem_iff,τ]
def cutV (f:Fr) (t:BT):Int:=if t.root=-1 then 0 else (f.1:Int)
section
variable {w:World} {bt ba n:Nat} {S:TS}
theorem qp (h:aY w bt ba n S) {f:Fr} {P:List Fr} {t:BT} (hT:bS S (-1) (ah (f::P) t).root (ah (f::P) t)) (hn:(ah (f::P) t).nodes.Nodup) (hlt:∀y,y∈(ah (f::P) t).nodes->y<n) :
  Calls Tryz.prog 244 #[.pointer (some ⟨bt,0,none⟩),.int .i64 t.root] w fun e w'=>e=.returned (.tuple #[.int .i64 (cutV f t),.bool (tb t.root)])/\aa [ba] w w'/\
   ∃S',aY w' bt ba n S'/\bS S' (-1) t.root t/\bS S' (-1) (ah (f::P) .nil).root (ah (f::P) .nil)/\∀y,y∉(ah (f::P) t).nodes->S.at S' y:=by
 by_cases ht:t=.nil
 ·subst ht;refine (Ni bt ba n S (-1) w h (by unfold oK;simp)).mono ?_;rintro e w' ⟨rfl,rfl⟩;exact ⟨by simp [cutV,BT.root,tb],aa.refl _ _,S,h,rfl,hT,fun y _=>⟨rfl,rfl,rfl⟩⟩
 ·obtain ⟨c1,c2,c3⟩:=PH hT ht hn;obtain ⟨m1,m2⟩:=bD ht;have hp:=(cB _ _).1 hT;have hu:S.u t.root.toNat=(f.1:Int):=by
   cases t with
   | nil=>exact absurd rfl ht
   | node y a b=>exact hp.1.2.1
  have hf:f.1<n:=hlt _ (aI.2 (Β (by simp [bZ])));have hr:t.root.toNat<n:=hlt _ (aI.2 (Α m1));have hne:t.root≠-1:=ω;have k:=Bh bt ba n S f.1 t.root.toNat w h hf hr hu;rw [←m2] at k;refine k.mono ?_;rintro e w' ⟨rfl,h',hu'⟩;refine ⟨by unfold cutV tb;rw [Γ hne];simp [hne],hu',_,h',c1,c2,fun y hy=>c3 y (fun e=>hy ?_) (fun e=>hy ?_)⟩
  ·rw [e];exact aI.2 (Β (by simp [bZ]))
  ·rw [e];exact aI.2 (Α m1)
theorem Ah (h:aY w bt ba n S) {f:Fr} {P:List Fr} {m:BT} (hT:bS S (-1) (ah (f::P) .nil).root (ah (f::P) .nil)) (hM:bS S (-1) m.root m) (hm:m≠.nil) (hn:(m.nodes++bZ (f::P)).Nodup) (hlt:∀y,y∈m.nodes++bZ (f::P)->y<n) :
  Calls Tryz.prog 251 #[.pointer (some ⟨bt,0,none⟩),.int .i64 (f.1:Int),.int .i64 m.root,.bool f.2.1] w fun e w'=>e=.returned (.bool true)/\aa [ba] w w'/\
   ∃S',aY w' bt ba n S'/\bS S' (-1) (ah (f::P) m).root (ah (f::P) m)/\∀y,y∉m.nodes++bZ (f::P)->S.at S' y:=by
 obtain ⟨c1,c2⟩:=KL hT hM hm hn;obtain ⟨m1,m2⟩:=bD hm;have hp:=(cB _ _).1 hT;have hk:S.kid f.2.1 f.1=-1:=hp.2.1;have hu:S.u m.root.toNat=-1:=by
  cases m with
  | nil=>exact absurd rfl hm
  | node y a b=>exact hM.2.1
 have hf:f.1<n:=hlt _ (by simp [bZ]);have hr:m.root.toNat<n:=hlt _ (by simp [m1]);have hne:f.1≠m.root.toNat:=fun e=>by
  rw [θ] at hn;exact hn.2.2 _ m1 f.1 (by simp [bZ]) e.symm
 have k:=xE bt ba n S f.1 m.root.toNat f.2.1 w h hf hr hne hu hk;rw [←m2] at k;refine k.mono ?_;rintro e w' ⟨rfl,h',hu'⟩;refine ⟨rfl,hu',_,h',c1,fun y hy=>c2 y (fun e=>hy ?_) (fun e=>hy ?_)⟩
 ·rw [e];simp [bZ]
 ·rw [e];simp [m1]
theorem Jo (h:aY w bt ba n S) {P:List Fr} {x:Nat} {l r:BT} (hT:bS S (-1) (ah P (.node x l r)).root (ah P (.node x l r))) (hx:x<n) :
  Calls Tryz.prog 250 #[.pointer (some ⟨bt,0,none⟩),.int .i64 (x:Int)] w fun e w'=>e=.returned (.tuple #[.int .i64 (tv (zT P)),.bool (tb (zT P))])/\∃k,w'=w.drewN k:=by
 have k:=Oh bt ba n S (x:Int) w h;have e:oK n S (x:Int)=zT P:=by
  unfold oK;rw [Δ ω,π];exact ((cB _ _).1 hT).1.2.1
 rw [e] at k;exact k
theorem AP (h:aY w bt ba n S) {p:Int} {x:Nat} {l r:BT} (hT:bS S p x (.node x l r)) (hx:x<n) :
  Calls Tryz.prog 248 #[.pointer (some ⟨bt,0,none⟩),.int .i64 (x:Int)] w fun e w'=>e=.returned (.tuple #[.int .i64 (tv l.root),.bool (tb l.root)])/\∃k,w'=w.drewN k:=by
 have e:fD n S (x:Int) false=l.root:=by
  unfold fD TS.kid;rw [Δ ω];simp only [π];exact hT.2.2.1.root
 have k:=xJ bt ba n S (x:Int) w h;rw [e] at k;exact k
theorem sS (h:aY w bt ba n S) {p:Int} {x:Nat} {l r:BT} (hT:bS S p x (.node x l r)) (hx:x<n) :
  Calls Tryz.prog 249 #[.pointer (some ⟨bt,0,none⟩),.int .i64 (x:Int)] w fun e w'=>e=.returned (.tuple #[.int .i64 (tv r.root),.bool (tb r.root)])/\∃k,w'=w.drewN k:=by
 have e:fD n S (x:Int) true=r.root:=by
  unfold fD TS.kid;rw [Δ ω];simp only [if_true,π];exact hT.2.2.2.root
 have k:=nP bt ba n S (x:Int) w h;rw [e] at k;exact k
theorem Az (h:aY w bt ba n S) {f:Fr} {P:List Fr} {x:Nat} {l r:BT} (hT:bS S (-1) (ah (f::P) (.node x l r)).root (ah (f::P) (.node x l r))) (hn:(ah (f::P) (.node x l r)).nodes.Nodup) (hf:f.1<n) :
  ∃z:Int,(z == (x:Int))=f.2.1/\Calls Tryz.prog 249 #[.pointer (some ⟨bt,0,none⟩),.int .i64 (f.1:Int)] w fun e w'=>e=.returned (.tuple #[.int .i64 (tv z),.bool (tb z)])/\∃k,w'=w.drewN k:=by
 refine ⟨S.r f.1,?_,?_⟩
 ·have hp:=(cB _ _).1 hT;obtain ⟨q1,q2,_,_⟩:=hp.2;unfold TS.kid at q1 q2;cases hs:f.2.1
  ·rw [hs] at q1 q2;simp only [Bool.not_false,if_true] at q2;have e2:=q2.root;have hx:x∉f.2.2.nodes:=fun hm=>by
    have h1:=(aW (f::P) (.node x l r)).nodup_iff.1 hn;rw [θ] at h1;exact h1.2.2 x (by simp [BT.nodes]) x (by simp [bZ,hm]) rfl
   have:S.r f.1≠(x:Int):=fun e=>by
    rw [e2] at e
    by_cases hnil:f.2.2=.nil
    ·rw [hnil] at e;have e:(-1:Int)=x:=e;omega
    ·have:=(bD hnil).1;rw [e] at this;exact hx this
   simpa using this
  ·rw [hs] at q1;simp only [if_true] at q1;rw [q1];simp [BT.root]
 ·have k:=nP bt ba n S (f.1:Int) w h;have e:fD n S (f.1:Int) true=S.r f.1:=by unfold fD TS.kid;rw [Δ ω];simp
  rw [e] at k;exact k
end
def EF:List Fr->BT->BT->BT
 | [],_,m=>m
 | f::P,old,m=>if f.2.1 then ji P (jy f old.rank) f.1 f.2.2 m else ji P (jy f old.rank) f.1 m f.2.2
theorem nG (f:Fr) (P:List Fr) (old m:BT):EF (f::P) old m=if f.2.1 then ji P (jy f old.rank) f.1 f.2.2 m else ji P (jy f old.rank) f.1 m f.2.2:=rfl
theorem Kj:∀ (P:List Fr) (old m:BT),(EF P old m).nodes.Perm (ah P m).nodes
 | [],_,_=>ό _
 | f::P,old,m=>by
  rw [nG]
  show List.Perm _ (ah P (aZ f m)).nodes
  unfold aZ
  split
  ·exact oL _ _ _ _ _
  ·exact oL _ _ _ _ _
theorem Np (f:Fr) (P:List Fr) (old m:BT):(EF (f::P) old m).root=(ah (f::P) m).root:=by
 rw [nG]
 show _=(ah P (aZ f m)).root
 unfold aZ
 split
 ·exact qH _ _ _ _ _
 ·exact qH _ _ _ _ _
theorem Pd {A:NS}:∀ (P:List Fr) (old m:BT),Heap A (ah P m)->Heap A (EF P old m)
 | [],_,_,h=>h
 | f::P,old,m,h=>by
  have h1:Heap A (ah P (aZ f m)):=h;rw [nG];unfold aZ at h1
  split at h1
  ·rename_i e;rw [Δ e];exact rf _ _ _ _ _ h1
  ·rename_i e;rw [Γ e];exact rf _ _ _ _ _ h1
theorem PO:∀ (P:List Fr) (old m:BT),Lean m->AO P old.rank->Lean (EF P old m)
 | [],_,_,h,_=>h
 | f::P,old,m,h,hp=>by
  rw [nG]
  split
  ·exact qQ _ _ _ _ _ hp.1 h hp.2.2
  ·exact qQ _ _ _ _ _ h hp.1 hp.2.2
noncomputable def Ey (A:NS) (t:BT) (x:Nat):BT×Nat:=
 (EF (pathOf t x).1 (.node x (pathOf t x).2.1 (pathOf t x).2.2) (aH ai A (pathOf t x).2.1 (pathOf t x).2.2).1,(aH ai A (pathOf t x).2.1 (pathOf t x).2.2).2)
theorem sF {P:List Fr} {x:Nat} {l r:BT} (hn:(ah P (.node x l r)).nodes.Nodup) :
  (x∉l.nodes/\x∉r.nodes/\x∉bZ P)/\(l.nodes++r.nodes).Nodup/\(∀y,y∈l.nodes->y∉bZ P)/\(∀y,y∈r.nodes->y∉bZ P)/\(bZ P).Nodup:=by
 have h:=(aW P (.node x l r)).nodup_iff.1 hn;rw [θ] at h;obtain ⟨h1,h2,h3⟩:=h;simp only [BT.nodes,Ζ,τ,not_or] at h1;exact ⟨⟨h1.1.1,h1.1.2,fun hm=>h3 x (by simp [BT.nodes]) x hm rfl⟩,h1.2,fun y hy hm=>h3 y (by simp [BT.nodes,hy]) y hm rfl,fun y hy hm=>h3 y (by simp [BT.nodes,hy]) y hm rfl,h2⟩
theorem DW {up:Nat->BT->BT->BT} (U:OG up) {A:NS} {P:List Fr} {x:Nat} {l r:BT} (hn:(ah P (.node x l r)).nodes.Nodup) (hH:Heap A (ah P (.node x l r))) :
  (x::(ah P (aH up A l r).1).nodes).Perm (ah P (.node x l r)).nodes/\Heap A (ah P (aH up A l r).1)/\(aH up A l r).1.nodes.Perm (l.nodes++r.nodes):=by
 obtain ⟨mp,mh⟩:=pW U A _ l r (Θ _);have h1:=sF hn;have hs:=uD hH;have Vo:=mh hs.2.2.1 hs.2.2.2 h1.2.1;refine ⟨?_,vF hH Vo (fun y hy=>?_),mp⟩
 ·refine ((((aW P _).trans (mp.append_right _)).cons x)).trans ?_;exact (aW P (.node x l r)).symm
 ·have:=mp.mem_iff.1 hy;simp only [BT.nodes,ρ];exact Β this
section
variable {w:World} {B:LB} {F:List Nat} {gt ct:Nat} {A:NS} {st:Nat} {S:TS} {rk:Nat->Nat} {af:List Int}
theorem Dj (h:jP w B F gt ct A st S rk af) {f:Fr} {P:List Fr} {old m:BT} (hT:bS S (-1) (ah (f::P) m).root (ah (f::P) m)) (hm:fG rk m) (hP:MC rk (f::P) old.rank) (hX:(ah (f::P) m).nodes.Nodup)
  (hlt:∀y,y∈(ah (f::P) m).nodes->y<A.cs.length) :
  Calls Tryz.prog 245 #[.pointer (some ⟨B.n0,0,none⟩),.int .i64 (f.1:Int)] w fun e w'=>e=.returned (.tuple #[])/\aa [B.ba,B.br] w w'/\
   ∃S' pM,jP w' B F gt ct A st S' pM af/\rC S rk (EF (f::P) old m) (ah (f::P) m).nodes S' pM:=by
 rw [nG];have hT1:bS S (-1) (ah P (aZ f m)).root (ah P (aZ f m)):=hT;have hX1:(ah P (aZ f m)).nodes.Nodup:=hX;have hlt1:∀y,y∈(ah P (aZ f m)).nodes->y<A.cs.length:=hlt
 show Calls _ _ _ _ fun e w'=>e=_/\_/\∃S' pM,_/\rC S rk _ (ah P (aZ f m)).nodes S' pM
 by_cases hs:f.2.1=true
 ·have e1:aZ f m=.node f.1 f.2.2 m:=by unfold aZ;rw [Δ hs]
  rw [e1] at hT1 hX1 hlt1 ⊢;rw [Δ hs];exact zZ h ⟨hT1,ό _,hP.1,hm,hP.2.1,hP.2.2,fun y _=>⟨⟨rfl,rfl,rfl⟩,rfl⟩,rfl⟩ hX1 hlt1
 ·have e1:aZ f m=.node f.1 m f.2.2:=by unfold aZ;rw [Γ hs]
  rw [e1] at hT1 hX1 hlt1 ⊢;rw [Γ hs];exact zZ h ⟨hT1,ό _,hm,hP.1,hP.2.1,hP.2.2,fun y _=>⟨⟨rfl,rfl,rfl⟩,rfl⟩,rfl⟩ hX1 hlt1
end
theorem Ob (n:Nat):tv (n:Int)=n:=by unfold tv;rw [Γ ω]
theorem Nb (n:Nat):tb (n:Int)=true:=by unfold tb;simp
section
variable {w:World} {B:LB} {F:List Nat} {gt ct:Nat} {A:NS} {st:Nat} {tr:Nat->BT} {S:TS} {rk:Nat->Nat} {af:List Int}
def UF (w':World) (B:LB) (F:List Nat) (gt ct:Nat) (A:NS) (st:Nat) (S:TS) (rk:Nat->Nat) (af:List Int) (g x:Nat) (P:List Fr) (X:List Nat) (T:BT):Prop:=
 ∃S' pM nU,jP w' B F gt ct (aL A x) st S' pM nU/\bS S' (-1) T.root T/\fG pM T/\(∀y,y∉X->S.at S' y/\pM y=rk y)/\(S'.l x=-1/\S'.r x=-1/\S'.u x=-1)/\
  ∀q,q<A.hs.length->nU.getD q 0=if P=[]/\q=g then T.root else af.getD q 0
theorem gN {S S' YI:TS} {x:Nat} (h:S.at S' x) (h':S'.at YI x):S.at YI x:=⟨h'.1.trans h.1,h'.2.1.trans h.2.1,h'.2.2.trans h.2.2⟩
theorem Ct (hM:jP w B F gt ct A st S rk af) {g x:Nat} {P:List Fr} {l r:BT} (hin:bP A (x:Int)=true) (hg:(A.c x).i=g) (hgt:g<af.length)
  (hT:bS S (-1) (ah P (.node x l r)).root (ah P (.node x l r))) (hn:(ah P (.node x l r)).nodes.Nodup) (hR:fG rk (ah P (.node x l r))) (hall:∀y,y∈(ah P (.node x l r)).nodes->bP A (y:Int)=true) :
  Calls Tryz.prog 238 #[.pointer (some ⟨B.n0,0,none⟩),.int .i64 (x:Int)] w fun e w'=>e=.returned (.bool true)/\aa (B.blk F gt) w w'/\
   UF w' B F gt ct A (dG st (aH ai A l r).2) S rk af g x P (ah P (.node x l r)).nodes (EF P (.node x l r) (aH ai A l r).1):=by
 have hxl:=((aj A x).1 hin).1;have hlt:∀y,y∈(ah P (.node x l r)).nodes->y<A.cs.length:=fun y hy=>((aj A y).1 (hall y hy)).1;have kh:=iK hM.cells x hin;rw [hg] at kh;have h0:=hM.h0;have HM:=χ hM;have Wv:=sF hn;have hrr:=(Cz P (.node x l r)).1 hR;have mp:=(pW nW A _ l r (Θ _)).1;have hblk:=χ hM.lt;have r9:=χ hM.cF;have hsep:=χ (ψ hM.sep hM.bA);have HT:=χ (ψ hT (ψ hn (ψ hrr (ψ hall hlt))));have HP:=χ Wv;have hA:=hM.cells.ok.c1;obtain ⟨m,k,hmk⟩:∃m k,aH ai A l r=(m,k):=⟨_,_,rfl⟩;rw [hmk] at mp;rw [hmk];have Uq:=χ mp;have HMK:=χ hmk;have Lx:=χ hin;clear hM hT hn hR hall hlt Wv hrr mp hmk hin hg
 go_enter Tryz.func238,Tryz.ntmps238
 go_wp2_with (first|((go_at_call 140;(with_reducible refine (kh).mono ?_));rintro e w1 ⟨rfl,jH,hu1⟩;(have g1:=(HM.out.fe hu1 jH (fun y hy=>Α hy) rfl rfl).h1)))
 have hM1:=HM.out.fe hu1 jH (fun y hy=>Α hy) rfl rfl;have q1:∀d,(w1.drewN d).cell? ⟨B.n0,1,none⟩=some (.pointer (some ⟨B.bt,0,none⟩)):=fun d=>hM1.h1;have kl:=fun d=>AP (hM1.trees.drewN d) ((cB _ _).1 HT.out.1).1 hxl;have kr:=fun d=>sS (hM1.trees.drewN d) ((cB _ _).1 HT.out.1).1 hxl;have pG:=χ hM1;clear hM1 jH kh h0 g1
 go_quiet ((first
  | (go_at_call 248;exact Calls.quiet_of (kl _))
  | (go_at_call 249;exact Calls.quiet_of (kr _))
  | (go_at_call 247;exact Calls.quiet_of_same (l8 _ _))))
 obtain ⟨w2,hw2⟩:∃w2,w2=w1.drewN nq:=⟨_,rfl⟩;have u2:aa F w w2:=by rw [hw2];exact hu1.drewN nq
 have hM2:jP w2 B F gt ct A st S rk af:=by rw [hw2];exact pG.out.ae ((aa.refl [] w1).drewN nq)
 rw [←hw2];clear hw2 kl kr q1 pG hu1;have TB:=qp hM2.trees (f:=(x,false,r)) (P:=P) (t:=l) HT.out.1 HT.out.2.1 HT.out.2.2.2.2;have g2:=hM2.h1;have uV:=χ hM2;clear hM2
 go_wp2_with (first
  | ((go_at_call 244;(with_reducible refine (TB).mono ?_));rintro e w3 ⟨rfl,hu3,S3,Ba,hl3,hp3,hs3⟩;(have g3:=(uV.out.gY hu3 Ba).h1);clear g2)
  | fail)
 have mE:=uV.out.gY hu3 Ba;have Kk:bS S3 (-1) (ah ((x,true,.nil)::P) r).root (ah ((x,true,.nil)::P) r):=hp3;have Jh:(ah ((x,true,.nil)::P) r).nodes.Nodup:=by
  have e:=(aW P (.node x .nil r));refine e.nodup_iff.2 ?_;obtain ⟨⟨a1,a2,a3⟩,a4,a5,a6,a7⟩:=HP.out;simp only [BT.nodes,ϟ,θ] at a4 ⊢;refine ⟨List.nodup_cons.2 ⟨a2,a4.2.1⟩,a7,fun y hy z hz e=>?_⟩;subst e;rcases ρ.1 hy with e|hy
  ·exact a3 (by rw [←e];exact hz)
  ·exact a6 y hy hz
 have Aa:∀y,y∈(ah ((x,true,.nil)::P) r).nodes->y∈(ah P (.node x l r)).nodes:=fun y hy=>by
  have h':y∈(ah P (.node x .nil r)).nodes:=hy;rw [aI] at h' ⊢;simp only [BT.nodes,ϟ,ρ,τ] at h' ⊢;rcases h' with (h'|h')|h'
  ·exact Α (Α h')
  ·exact Α (Β (Β h'))
  ·exact Β h'
 have YP:=qp mE.trees (f:=(x,true,.nil)) (P:=P) (t:=r) Kk Jh (fun y hy=>HT.out.2.2.2.2 y (Aa y hy));have Qf:l.nodes.Nodup/\∀y,y∈l.nodes->y∉(ah ((x,true,.nil)::P) r).nodes:=by
  obtain ⟨⟨a1,a2,a3⟩,a4,a5,a6,a7⟩:=HP.out;rw [θ] at a4;refine ⟨a4.1,fun y hy hm=>?_⟩;have h':y∈(ah P (.node x .nil r)).nodes:=hm;rw [aI] at h';simp only [BT.nodes,ϟ,ρ] at h';rcases h' with (h'|h')|h'
  ·exact a1 (by rw [←h'];exact hy)
  ·exact a4.2.2 y hy y h' rfl
  ·exact a5 y hy h'
 have TQ:=χ mE;have H3:=χ (ψ hl3 (ψ hs3 (ψ Aa Qf)));have u3:aa (B.ba::F) w w3:=(u2.mono (by simp;intro x hx;exact Β hx)).trans (hu3.mono σ);clear mE Ba hl3 hp3 Kk hs3 Jh Aa Qf TB hu3 u2
 go_wp2_with (first
  | ((go_at_call 244;(with_reducible refine (YP).mono ?_));rintro e w4 ⟨rfl,jN,S4,QD,hr4,ZX,hs4⟩)
  | fail)
 have xu:=TQ.out.gY jN QD;have hl4:bS S4 (-1) l.root l:=H3.out.1.frame (fun y hy=>hs4 y (H3.out.2.2.2.2 y hy));have km:=xL xu hl4 hr4 HP.out.2.1 (fun y hy=>HT.out.2.2.2.1 y (aI.2 (Α (by simp only [BT.nodes];exact Λ _ hy)))) HT.out.2.2.1.1.2.1 HT.out.2.2.1.1.2.2;rw [HMK.out] at km;have Xl:bS S4 (-1) (ah P (.node x .nil .nil)).root (ah P (.node x .nil .nil)):=ZX;have u4:aa (B.ba::F) w w4:=u3.trans (jN.mono σ);have f4:∀y,y∉(ah P (.node x l r)).nodes->S.at S4 y:=fun y hy=>gN (H3.out.2.1 y hy) (hs4 y (fun hm=>hy (H3.out.2.2.1 y hm)));have H4:=χ (ψ Xl f4)
 clear xu QD hr4 ZX Xl hs4 hl4 YP jN u3 f4 H3 TQ uV g3
 go_wp2_with (first
  | ((go_at_call 246;(with_reducible refine (km).mono ?_));rintro e w5 ⟨rfl,dF,S5,XB,Bj,ML,Om,hs5⟩;(have g5:=Bj.h1))
  | fail)
 have Qy:bS S5 (-1) (ah P (.node x .nil .nil)).root (ah P (.node x .nil .nil)):=H4.out.1.frame (fun y hy=>(hs5 y (fun hm=>by
  obtain ⟨⟨a1,a2,a3⟩,a4,a5,a6,a7⟩:=HP.out;rw [aI] at hy;simp only [BT.nodes,ϟ,ρ,ς,or_false] at hy;rw [τ] at hm;rcases hy with e|hy
  ·subst e;rcases hm with hm|hm;exact a1 hm;exact a2 hm
  ·rcases hm with hm|hm;exact a5 y hm hy;exact a6 y hm hy)).1)
 have f5:∀y,y∉(ah P (.node x l r)).nodes->S.at S5 y/\XB y=rk y:=fun y hy=>by
  have h1:y∉l.nodes++r.nodes:=fun hm=>hy (aI.2 (Α (by simp only [BT.nodes];exact Λ _ hm)));exact ⟨gN (H4.out.2 y hy) (hs5 y h1).1,(hs5 y h1).2⟩
 have I6:MC XB P (BT.node x l r).rank:=HT.out.2.2.1.2.frame (fun y hy=>(hs5 y (fun hm=>by
  rw [τ] at hm;rcases hm with hm|hm
  ·exact HP.out.2.2.1 y hm hy
  ·exact HP.out.2.2.2.1 y hm hy)).2)
 have u5:aa (B.blk F gt) w w5:=(u4.mono (fun y hy=>by simp only [LB.blk,ρ] at hy ⊢;rcases hy with h|h<;>simp [h])).trans (dF.mono (fun y hy=>by
   have:=r9.out;simp only [ρ,ς,or_false] at hy;simp only [LB.blk,ρ];rcases hy with rfl|rfl|rfl
   ·simp [this]
   ·simp
   ·simp))
 have ku:=Jo Bj.trees Qy hxl;have tK:=χ Bj;have H5:=χ (ψ Qy (ψ f5 (ψ I6 (ψ ML Om))));clear Bj ML Om hs5 km u4 H4 Qy f5 I6 dF;have hmm:∀y,y∈m.nodes->y∉bZ P/\y≠x:=fun y hy=>by
  obtain ⟨⟨a1,a2,a3⟩,a4,a5,a6,a7⟩:=HP.out;have h1:=Uq.out.mem_iff.1 hy;rw [τ] at h1;rcases h1 with h1|h1
  ·exact ⟨a5 y h1,fun e=>a1 (by rw [←e];exact h1)⟩
  ·exact ⟨a6 y h1,fun e=>a2 (by rw [←e];exact h1)⟩
 have hmx:∀y,y∈m.nodes->y∈(ah P (.node x l r)).nodes:=fun y hy=>aI.2 (Α (by
  have h1:=Uq.out.mem_iff.1 hy
  simp only [BT.nodes,ρ];exact Β h1))
 have Cu:m.nodes.Nodup:=Uq.out.nodup_iff.2 HP.out.2.1;have Yc:=χ (ψ hmm (ψ hmx Cu));clear hmm hmx Cu;have sp:=hsep.out;have s1:B.n0≠gt:=sp.1.1.2.2.2;clear sp;cases P with
 | nil=>
  rw [show zT ([]:List Fr)=-1 from rfl,show tv (-1)=0 from rfl,show tb (-1)=false from rfl] at ku
  go_wp2_with (first
   | ((go_at_call 250;(with_reducible refine (ku).mono ?_));rintro e w6 ⟨rfl,kk,QE⟩;(have u6:aa [] w5 w6:=by (rw [QE];exact (aa.refl _ _).drewN kk));clear QE;(have g60:=(tK.out.ae u6).h0);(have g63:=(tK.out.ae u6).h3);(have d6:=(tK.out.ae u6).jC.cell g hgt);(have f6:=(tK.out.ae u6).jC.free g);(have kd:=fQ ((tK.out.ae u6).sZ g m.root).cells x Lx.out))
   | ((go_at_call 151;(with_reducible refine (kd).mono ?_));rintro e w7 ⟨rfl,Xu,qN⟩)
   | fail)
  go_ret;obtain ⟨b1,b2,b3,b4,b5⟩:=H5.out;have bx:=((cB _ _).1 b1).1;refine ⟨rfl,((u5.trans (u6.mono σ)).setCell (Α (by simp [LB.blk])) _).trans (qN.mono (fun y hy=>by simp only [LB.blk,ρ];simp [hy])),S5,XB,af.set g m.root,((tK.out.ae u6).sZ g m.root).fe qN Xu (fun y hy=>Α hy) (cK _ _) (by rw [fJ]),b4,b5,b2,⟨bx.2.2.1.root,bx.2.2.2.root,bx.2.1⟩,fun q hq=>?_⟩
  by_cases e:q=g
  ·rw [Δ ⟨rfl,e⟩,e,φ,ύ,Δ rfl,Δ hgt];rfl
  ·rw [Γ (fun h=>e h.2),φ,ύ,Γ (fun h=>e h.symm),←φ]
 | cons f P2=>
  rw [show zT (f::P2)=(f.1:Int) from rfl,Ob,Nb] at ku;have hfl:f.1<A.cs.length:=HT.out.2.2.2.2 f.1 (aI.2 (Β (by simp [bZ])));have Mq:(ah (f::P2) (.node x .nil .nil)).nodes.Nodup:=by
   refine (aW (f::P2) (.node x .nil .nil)).nodup_iff.2 ?_;obtain ⟨⟨a1,a2,a3⟩,a4,a5,a6,a7⟩:=HP.out;simp only [BT.nodes,ϟ,List.singleton_append,Ζ];exact ⟨a3,a7⟩
  have Gt:∀y,y∈(ah (f::P2) (.node x .nil .nil)).nodes->y∈(ah (f::P2) (.node x l r)).nodes:=fun y hy=>by
   rw [aI] at hy ⊢;simp only [BT.nodes,ϟ,ρ,ς,or_false] at hy;rcases hy with hy|hy
   ·exact Α (by simp [BT.nodes,hy])
   ·exact Β hy
  have Y6:∀W,aa [] w5 W->∃z:Int,(z == (x:Int))=f.2.1/\Calls Tryz.prog 249 #[.pointer (some ⟨B.bt,0,none⟩),.int .i64 (f.1:Int)] W fun e w'=>e=.returned (.tuple #[.int .i64 (tv z),.bool (tb z)])/\∃k,w'=W.drewN k:=fun W hW=>Az (tK.out.ae hW).trees H5.out.1 Mq hfl;have NA:=fun W (hW:aa [] w5 W)=>qp (tK.out.ae hW).trees (f:=f) (P:=P2) (t:=.node x .nil .nil) H5.out.1 Mq (fun y hy=>HT.out.2.2.2.2 y (Gt y hy));rw [show BT.root (.node x .nil .nil)=(x:Int) from rfl] at NA;generalize hcv:cutV f (.node x .nil .nil)=cv at NA;generalize hcb:tb (x:Int)=cb at NA;have FK:=χ (ψ Mq Gt);clear Mq Gt hcv hcb
  by_cases hmz:m=.nil
  ·have hmb:(m.root != -1)=false:=by rw [hmz];rfl
   have Vs:=χ hmz;clear hmz
   go_wp2_with (first
    | ((go_at_call 250;(with_reducible refine (ku).mono ?_));rintro e w6 ⟨rfl,kk,QE⟩;(have u6:aa [] w5 w6:=by (rw [QE];exact (aa.refl _ _).drewN kk));clear QE;(have g61:=(tK.out.ae u6).h1);obtain ⟨z,hz,kr⟩:=Y6 w6 u6)
    | ((go_at_call 249;(with_reducible refine (kr).mono ?_));rintro e w7 ⟨rfl,kk7,hw7⟩;(have u7:aa [] w5 w7:=by (rw [hw7];exact u6.drewN kk7));clear hw7;(have g71:=(tK.out.ae u7).h1);(have kc:=NA w7 u7))
    | (go_at_call 247;(with_reducible refine (l8 _ _).mono ?_);rintro e w9 ⟨rfl,aO⟩;rw [aO];clear aO w9)
    | ((go_at_call 244;(with_reducible refine (kc).mono ?_));rintro e w8 ⟨rfl,vV,S8,Xi,hx8,ZF,U7⟩;(have kmd:=Dj ((tK.out.ae u7).gY vV Xi) (old:=.node x l r) ZF (by trivial) H5.out.2.2.1 (by first|(refine (aW (f::P2) .nil).nodup_iff.2 ?_;simpa [BT.nodes] using HP.out.2.2.2.2)) (by intro y hy;rw [aI] at hy;exact HT.out.2.2.2.2 y (aI.2 (Β (by simpa [BT.nodes] using hy))))))
    | ((go_at_call 245;(with_reducible refine (kmd).mono ?_));rintro e w9 ⟨rfl,jR,S9,rk9,Vt,SE⟩;(have g90:=Vt.h0);(have kd:=fQ Vt.cells x Lx.out))
    | ((go_at_call 151;(with_reducible refine (kd).mono ?_));rintro e Qx ⟨rfl,Ht,sH⟩)
    | fail)
   go_ret;have hz:=Vs.out;subst hz;refine ⟨rfl,((((u5.trans (u7.mono σ)).trans (vV.mono (by simp [LB.blk]))).trans (jR.mono (by simp [LB.blk]))).trans (sH.mono (fun y hy=>by simp only [LB.blk,ρ];simp [hy]))),S9,rk9,af,Vt.fe sH Ht (fun y hy=>Α hy) (cK _ _) (by rw [fJ]),SE.IE,SE.isR,fun y hy=>?_,?_,fun q hq=>by rw [Γ σ]⟩
   ·have a1:=H5.out.2.1 y hy;have a2:=U7 y (fun hm=>hy (FK.out.2 y hm));have a3:=SE.far y (fun hm=>hy (aI.2 (Β (by rw [aI] at hm;simpa [BT.nodes] using hm))));exact ⟨gN (gN a1.1 a2) a3.1,a3.2.trans a1.2⟩
   ·have a3:=(SE.far x (fun hm=>HP.out.1.2.2 (by rw [aI] at hm;simpa [BT.nodes] using hm))).1;have a4:=hx8;exact ⟨a3.1.trans a4.2.2.1.root,a3.2.1.trans a4.2.2.2.root,a3.2.2.trans a4.2.1⟩
  ·have hmb:(m.root != -1)=true:=by
    have:=(bD hmz).2;simp;omega
   have Vs:=χ hmz;have hxm:∀y,y∈m.nodes->y∉(ah (f::P2) (.node x .nil .nil)).nodes:=fun y hy hm=>by
    have b1:=Yc.out.1 y hy;rw [aI] at hm;simp only [BT.nodes,ϟ,ρ,ς,or_false] at hm;rcases hm with hm|hm
    ·exact b1.2 hm
    ·exact b1.1 hm
   have hnd:(m.nodes++bZ (f::P2)).Nodup:=by
    rw [θ];exact ⟨Yc.out.2.2,HP.out.2.2.2.2,fun a ha b hb e=>(Yc.out.1 a ha).1 (by rw [e];exact hb)⟩
   have hsm:∀y,y∈m.nodes++bZ (f::P2)->y∈(ah (f::P2) (.node x l r)).nodes:=fun y hy=>by
    rw [τ] at hy;rcases hy with hy|hy
    ·exact Yc.out.2.1 y hy
    ·exact aI.2 (Β hy)
   have MK:=χ (ψ hxm (ψ hnd hsm));clear hmz hxm hnd hsm
   go_wp2_with (first
    | ((go_at_call 250;(with_reducible refine (ku).mono ?_));rintro e w6 ⟨rfl,kk,QE⟩;(have u6:aa [] w5 w6:=by (rw [QE];exact (aa.refl _ _).drewN kk));clear QE;(have g61:=(tK.out.ae u6).h1);obtain ⟨z,hz,kr⟩:=Y6 w6 u6)
    | ((go_at_call 249;(with_reducible refine (kr).mono ?_));rintro e w7 ⟨rfl,kk7,hw7⟩;(have u7:aa [] w5 w7:=by (rw [hw7];exact u6.drewN kk7));clear hw7;(have g71:=(tK.out.ae u7).h1);(have kc:=NA w7 u7))
    | (go_at_call 247;(with_reducible refine (l8 _ _).mono ?_);rintro e w9 ⟨rfl,aO⟩;rw [aO];clear aO w9)
    | ((go_at_call 244;(with_reducible refine (kc).mono ?_));rintro e w8 ⟨rfl,vV,S8,Xi,hx8,ZF,U7⟩;(have g81:=((tK.out.ae u7).gY vV Xi).h1);(have khg:=Ah Xi ZF (H5.out.2.2.2.1.frame (fun y hy=>U7 y (MK.out.1 y hy))) Vs.out MK.out.2.1 (fun y hy=>HT.out.2.2.2.2 y (MK.out.2.2 y hy))))
    | ((go_at_call 251;(with_reducible refine (khg).mono ?_));rintro e w8b ⟨rfl,YB,S8b,hT8b,hp8b,Zv⟩;(have kmd:=Dj (((tK.out.ae u7).gY vV Xi).gY YB hT8b) (old:=.node x l r) hp8b H5.out.2.2.2.2 H5.out.2.2.1 ((aW (f::P2) m).nodup_iff.2 MK.out.2.1) (fun y hy=>HT.out.2.2.2.2 y (MK.out.2.2 y ((aW (f::P2) m).mem_iff.1 hy)))))
    | ((go_at_call 245;(with_reducible refine (kmd).mono ?_));rintro e w9 ⟨rfl,jR,S9,rk9,Vt,SE⟩;(have g90:=Vt.h0);(have kd:=fQ Vt.cells x Lx.out))
    | ((go_at_call 151;(with_reducible refine (kd).mono ?_));rintro e Qx ⟨rfl,Ht,sH⟩)
    | fail)
   go_ret;refine ⟨rfl,(((((u5.trans (u7.mono σ)).trans (vV.mono (by simp [LB.blk]))).trans (YB.mono (by simp [LB.blk]))).trans (jR.mono (by simp [LB.blk]))).trans (sH.mono (fun y hy=>by simp only [LB.blk,ρ];simp [hy]))),S9,rk9,af,Vt.fe sH Ht (fun y hy=>Α hy) (cK _ _) (by rw [fJ]),SE.IE,SE.isR,fun y hy=>?_,?_,fun q hq=>by rw [Γ σ]⟩
   ·have a1:=H5.out.2.1 y hy;have a2:=U7 y (fun hm=>hy (FK.out.2 y hm));have a2b:=Zv y (fun hm=>hy (MK.out.2.2 y hm));have a3:=SE.far y (fun hm=>hy (MK.out.2.2 y ((aW (f::P2) m).mem_iff.1 hm)));exact ⟨gN (gN (gN a1.1 a2) a2b) a3.1,a3.2.trans a1.2⟩
   ·have su:x∉m.nodes++bZ (f::P2):=fun hm=>by
     rw [τ] at hm;rcases hm with hm|hm
     ·exact (Yc.out.1 x hm).2 rfl
     ·exact HP.out.1.2.2 hm
    have a3:=gN (Zv x su) (SE.far x (fun hm=>su ((aW (f::P2) m).mem_iff.1 hm))).1;have a4:=hx8;exact ⟨a3.1.trans a4.2.2.1.root,a3.2.1.trans a4.2.2.2.root,a3.2.2.trans a4.2.1⟩
theorem D7 (h:mD w B F gt ct A st tr) (g x:Nat) (hx:x∈(tr g).nodes) :
  Calls Tryz.prog 238 #[.pointer (some ⟨B.n0,0,none⟩),.int .i64 (x:Int)] w fun e w'=>e=.returned (.bool true)/\aa (B.blk F gt) w w'/\
   mD w' B F gt ct (aL A x) (dG st (Ey A (tr g) x).2) (fun q=>if q=g then (Ey A (tr g) x).1 else tr q):=by
 obtain ⟨S,rk,af,hM,hI,hL,hR⟩:=h;have hm:=(hI.mem g x).1 hx;have hin:bP A (x:Int)=true:=(aj A x).2 ⟨hm.2.1,ω⟩;have e:=vT hx;unfold Ey;generalize (pathOf (tr g) x).1=P at *;generalize (pathOf (tr g) x).2.1=l at *;generalize (pathOf (tr g) x).2.2=r at *;have hgt:g<af.length:=by rw [hM.jk];have:=(hM.cells.ok.nat x hm.2.1);omega
 have hgh:g<A.hs.length:=by rw [←hM.jk];exact hgt
 have hT:=hI.IE g;have hn:=hI.nd g;have hH:=hI.heap g;have hRg:=hR g;have VB:=hL g;rw [e] at hT hn hH hRg VB;obtain ⟨d1,d2,d3⟩:=DW nW hn hH;obtain ⟨l1,l2⟩:=(vE _ _).1 VB;have ml:=xV A _ l r (Θ _) l1.2.1 l1.2.2;refine (Ct hM hin hm.2.2 hgt hT hn hRg (fun y hy=>?_)).mono ?_
 ·rw [←e] at hy;have:=(hI.mem g y).1 hy;exact (aj A y).2 ⟨this.2.1,ω⟩
 ·rintro e' w' ⟨rfl,hu,S',pM,nU,q1,q2,q3,q4,q5,q6⟩;refine ⟨rfl,hu,S',pM,nU,q1,hI.del hx q2 ?_ (Pd _ _ _ d2) (fun y hy=>(q4 y (by rw [←e];exact hy)).1) q5 (fun q hq=>?_),fun q=>?_,fun q=>?_⟩
  ·rw [e];exact ((Kj _ _ _).cons x).trans d1
  ·rw [q6 q hq]
   by_cases hq':q=g
   ·rw [Δ hq']
    by_cases hp:P=[]
    ·rw [Δ ⟨hp,hq'⟩]
    ·rw [Γ (fun h=>hp h.1),hq',hI.top g hgh,e];cases P with
     | nil=>exact absurd rfl hp
     | cons f P2=>rw [Np];exact oz _ _ _ _
   ·rw [Γ hq',Γ (fun h=>hq' h.2)]
  ·show Lean (if q=g then _ else _)
   split
   ·exact PO _ _ _ ml l2
   ·exact hL q
  ·show fG pM (if q=g then _ else _)
   split
   ·exact q3
   ·rename_i hq
    refine (hR q).frame (fun y hy=>(q4 y (fun hm'=>?_)).2);rw [←e] at hm';have c1:=(hI.mem g y).1 hm';have c2:=(hI.mem q y).1 hy;omega
end
section
variable {w:World} {B:LB} {F:List Nat} {gt ct:Nat} {A:NS} {st:Nat} {tr:Nat->BT} {S:TS} {rk:Nat->Nat} {af:List Int}
theorem zt (h:mD w B F gt ct A st tr) (g:Nat) (hn:0<dA A g) :
  Calls Tryz.prog 239 #[.pointer (some ⟨B.n0,0,none⟩),.int .i64 (g:Int)] w fun e w'=>∃m:Nat,bu A g=some m/\e=.returned (.tuple #[.int .i64 (m:Int),.bool true])/\aa (B.blk F gt) w w'/\
   mD w' B F gt ct (aL A m) (dG st (Ey A (tr g) m).2) (fun q=>if q=g then (Ey A (tr g) m).1 else tr q):=by
 have k:=Ae h g hn;have h':=h;obtain ⟨S,rk,af,hM,hI,hL,hR⟩:=h';have kd:=fun m hm=>D7 h g m hm;have hroot:∀m:Nat,(tr g).root=m->m∈(tr g).nodes:=fun m hm=>by
  have hne:tr g≠.nil:=fun e=>by rw [e] at hm;have:(-1:Int)=m:=hm;omega
  have:=(bD hne).1;rw [hm] at this;simpa using this
 clear hM hI hL hR h
 go_enter Tryz.func239,Tryz.ntmps239
 go_wp2_with (first
  | ((go_at_call 243;(with_reducible refine (k).mono ?_));rintro e w1 ⟨m,hm1,hm2,rfl,rfl⟩;(have Xw:=kd m (hroot m hm2)))
  | ((go_at_call 238;(with_reducible refine (Xw).mono ?_));rintro e w2 ⟨rfl,hu2,hL2⟩)
  | fail)
 go_ret2;exact ⟨m,hm1,rfl,hu2,hL2⟩
end
theorem GA (p c:Nat):∀W:World,W.cell? ⟨p,0,none⟩=some (.pointer (some ⟨c,0,none⟩))->(method 429 186 (.pointer (some ⟨p,0,none⟩)) "Has").run Tryz.prog W=.ok (139,.pointer (some ⟨c,0,none⟩)) W:=(by intro W h;unfold method;have hm:∃m,(Array.find? (fun x=>x.name == "Has") Tryz.t186.methods)=some m/\m.path.toList=[⟨231,0,true⟩]/\m.func=some (139,true)/\m.path.isEmpty=false:=⟨(Array.find? (fun x=>x.name == "Has") Tryz.t186.methods).get!,by kernel_rfl,by kernel_rfl,by kernel_rfl,by kernel_rfl⟩;obtain ⟨m,h1,h2,h3,h4⟩:=hm;go_simp;simp only [follow,Place.get];go_simp;(try unfold receiverAt);(try simp only [Place.get]);(try go_simp))
theorem CV (p c:Nat):∀W:World,W.cell? ⟨p,0,none⟩=some (.pointer (some ⟨c,0,none⟩))->(method 429 186 (.pointer (some ⟨p,0,none⟩)) "Entry").run Tryz.prog W=.ok (137,.pointer (some ⟨c,0,none⟩)) W:=(by intro W h;unfold method;have hm:∃m,(Array.find? (fun x=>x.name == "Entry") Tryz.t186.methods)=some m/\m.path.toList=[⟨231,0,true⟩]/\m.func=some (137,true)/\m.path.isEmpty=false:=⟨(Array.find? (fun x=>x.name == "Entry") Tryz.t186.methods).get!,by kernel_rfl,by kernel_rfl,by kernel_rfl,by kernel_rfl⟩;obtain ⟨m,h1,h2,h3,h4⟩:=hm;go_simp;simp only [follow,Place.get];go_simp;(try unfold receiverAt);(try simp only [Place.get]);(try go_simp))
theorem Tp (p:Nat):∀W:World,(method 429 186 (.pointer (some ⟨p,0,none⟩)) "Make").run Tryz.prog W=.ok (241,.pointer (some ⟨p,0,none⟩)) W:=fun _=>by kernel_rfl
theorem K7 (p:Nat):∀W:World,(method 429 186 (.pointer (some ⟨p,0,none⟩)) "Insert").run Tryz.prog W=.ok (240,.pointer (some ⟨p,0,none⟩)) W:=fun _=>by kernel_rfl
theorem UI (p:Nat):∀W:World,(method 429 186 (.pointer (some ⟨p,0,none⟩)) "Min").run Tryz.prog W=.ok (243,.pointer (some ⟨p,0,none⟩)) W:=fun _=>by kernel_rfl
theorem GQ (p:Nat):∀W:World,(method 429 186 (.pointer (some ⟨p,0,none⟩)) "Extract").run Tryz.prog W=.ok (239,.pointer (some ⟨p,0,none⟩)) W:=fun _=>by kernel_rfl
def LfQ (w:World) (p:Nat) (F:List Nat) (A:NS):Prop:=∃B F1 gt ct st tr,p=B.n0/\F=B.blk F1 gt/\mD w B F1 gt ct A st tr
def xh:dI where
 ty:=186
 at_:=LfQ
 upd:=fun h hu hS=>by
  obtain ⟨B,F1,gt,ct,st,tr,rfl,rfl,hL⟩:=h;exact ⟨B,F1,gt,ct,st,tr,rfl,rfl,hL.upd hu hS⟩
 lt:=fun h=>by
  obtain ⟨B,F1,gt,ct,st,tr,rfl,rfl,S,rk,af,hM, -⟩:=h;exact hM.lt
 ok:=fun h=>by
  obtain ⟨B,F1,gt,ct,st,tr,rfl,rfl,S,rk,af,hM, -⟩:=h;exact hM.cells.ok
 make:=fun {w p F A} h=>by
  obtain ⟨B,F1,gt,ct,st,tr,rfl,rfl,hL⟩:=h;refine aV 241 (fun _ _=>by kernel_rfl) (Tp _) (fun W hW=>?_);have oD:=hL.ae hW
  by_cases hl:65536<A.hs.length
  ·have e1:bR A=0:=by unfold bR;rw [Δ hl]
   have e2:aD A=A:=by unfold aD;rw [Δ hl]
   rw [e1,e2];refine (P9 oD hl).mono ?_;rintro e w' ⟨rfl,F',⟨F2,rfl,hA⟩,hu,hf⟩;exact ⟨rfl,_,⟨B,F2,gt,ct,st,tr,rfl,rfl,hA⟩,hu,hf⟩
  ·have e1:bR A=A.hs.length:=by unfold bR;rw [Γ hl]
   rw [e1];refine (KE oD hl).mono ?_;rintro e w' ⟨rfl,F',⟨F2,gt2,ct2,rfl,hA⟩,hu,hf⟩;exact ⟨rfl,_,⟨B,F2,gt2,ct2,st,tr,rfl,rfl,hA⟩,hu,hf⟩
 insert:=fun {w p F A} g y k s hk hB h=>by
  obtain ⟨B,F1,gt,ct,st,tr,rfl,rfl,hL⟩:=h;refine aV 240 (fun _ _=>by kernel_rfl) (K7 _) (fun W hW=>?_);refine (D9 (hL.ae hW) g y k s hk hB).mono ?_;rintro e w' ⟨rfl,hu,hL2⟩;exact ⟨rfl,Goes.stay ⟨B,F1,gt,ct,_,_,rfl,rfl,hL2⟩ hu⟩
 min:=fun {w p F A} y hB h=>by
  obtain ⟨B,F1,gt,ct,st,tr,rfl,rfl,hL⟩:=h;refine aV 243 (fun _ _=>by kernel_rfl) (UI _) (fun W hW=>?_);have oD:=hL.ae hW;have hok:A.Ok:=by obtain ⟨S,rk,af,hM, -⟩:=hL;exact hM.cells.ok
  by_cases hl:dA A (y:Int)=0
  ·rw [gD.2 hl];have h4:=(aK _ _).1 hB;have h5:=hok.h1;refine (JP oD y ω hl).mono ?_;rintro e w' ⟨rfl,rfl⟩;exact ⟨rfl,Goes.stay ⟨B,F1,gt,ct,st,tr,rfl,rfl,oD⟩ (aa.refl _ _)⟩
  ·refine (Ae oD y ω).mono ?_;rintro e w' ⟨m,hm, -,rfl,rfl⟩;rw [hm];exact ⟨rfl,Goes.stay ⟨B,F1,gt,ct,st,tr,rfl,rfl,oD⟩ (aa.refl _ _)⟩
 extract:=fun {w p F A} y m hm h=>by
  obtain ⟨B,F1,gt,ct,st,tr,rfl,rfl,hL⟩:=h;refine aV 239 (fun _ _=>by kernel_rfl) (GQ _) (fun W hW=>?_);have hl:¬dA A (y:Int)=0:=fun e=>by rw [gD.2 e] at hm;cases hm
  refine (zt (hL.ae hW) y ω).mono ?_;rintro e w' ⟨m',hm',rfl,hu,hL2⟩;rw [hm] at hm';cases hm';exact ⟨rfl,Goes.stay ⟨B,F1,gt,ct,_,_,rfl,rfl,hL2⟩ hu⟩
 has:=fun x h=>by
  obtain ⟨B,F1,gt,ct,st,tr,rfl,rfl,S,rk,af,hM, -⟩:=h;exact gJ 139 (fun _ _=>by kernel_rfl) hM.h0 (GA _ _) (fun W hW=>iE (hM.ae hW).cells x)
 entry:=fun {w p F A} x h=>by
  obtain ⟨B,F1,gt,ct,st,tr,rfl,rfl,S,rk,af,hM, -⟩:=h;refine gJ 137 (fun _ _=>by kernel_rfl) hM.h0 (CV _ _) (fun W hW=>?_);cases hin:bP A x with
  | false=>simpa using jK (hM.ae hW).cells x hin
  | true=>
   obtain ⟨y,rfl⟩:=oF hin;simpa using iV (hM.ae hW).cells y hin
theorem Gd (p:Nat) (w:World):Calls Tryz.prog 99 #[.pointer (some ⟨p,0,none⟩),.int .i64 0] w fun e w'=>e=.returned (.tuple #[.iface 186 (.pointer (some ⟨p,0,none⟩)),.int .i64 0])/\w'=w:=by
 go_enter Tryz.func99,Tryz.ntmps99
 go_wp2;go_ret2;exact ⟨rfl,rfl⟩
theorem yV (n:Nat) (hn:n<=65536):j4 xh 6 0 n:=by
 intro w;have kn:=fun W=>M0 n W hn;have km:=Gd;have hty:xh.ty=186:=rfl;have hat:∀w' B F gt,mD w' B F gt 1 (NS.new n) 0 (fun _=>.nil)->xh.at_ w' B.n0 (B.blk F gt) (NS.new n):=fun w' B F gt h=>⟨B,F,gt,_,_,_,rfl,rfl,h⟩
 generalize xh=K at *;rw [hty]
 go_enter Tryz.func81,Tryz.ntmps81
 go_wp2_with (first
  | ((go_at_call 100;(with_reducible refine (kn _).mono ?_));rintro e w1 ⟨B,F,gt,rfl,hS,hu1,hf⟩)
  | ((go_at_call 99;(with_reducible refine (km _ _).mono ?_));rintro e w2 ⟨rfl,rfl⟩)
  | fail)
 go_ret2;exact ⟨B.n0,B.blk F gt,rfl,hat _ _ _ _ hS,aa.trans β hu1,fun x hx=>by have:=hf x hx;simp at this;omega⟩
def gY (tr:Nat->BT) (h:Nat) (t:BT):Nat->BT:=fun q=>if q=h then t else tr q
end Go.Proofs.YtklibcncmbofpaaGreat
