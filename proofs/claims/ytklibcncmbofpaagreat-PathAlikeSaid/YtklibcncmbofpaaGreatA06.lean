/-
  Lemmas for PathAlike: Words, Carry, Carry2, Carry3, Carry4, Carry5, Carry6, Off, Carry8, CarryLink, KarDef, KOrd, Kar7, Kar9, Kar10, KarPl, KarPl2, KarLaw, FrOk, BnP, BnQ, BnR, BnS, OwnS. Conditions: those of each lemma.
-/
import Derived.Deep.RegionHeldLaw
import Derived.Deep.RegionLaw
import Derived.ArgAppend
import Derived.Deep.DeepCutAuto
import Derived.Outline
import Derived.Test.YtklibcncmbofpaaGreatA01
set_option linter.all false
set_option maxHeartbeats 8000000
set_option maxRecDepth 10000
namespace Go.Proofs.YtklibcncmbofpaaGreat
open Go Go.RowKit
def ov (o:Option Int):Int:=o.getD 0
def ob (o:Option Int):Bool:=o.isSome
structure CS where
 v:Nat->Value
 k:Nat->List Int
 u:Nat->Int
def CS.none:CS:=⟨fun _=>.slice Option.none 0 0,fun _=>[],fun _=>-1⟩
def dw (S:CS) (j:Nat):Value:=if j % 2=0 then S.v (j / 2) else .int .i64 (S.u (j / 2))
theorem ni (S:CS) (x:Nat):dw S (x*2)=S.v x:=by unfold dw;rw [Δ ω,show x*2 / 2=x by omega]
theorem tO (S:CS) (x:Nat):dw S (x*2+1)=.int .i64 (S.u x):=by unfold dw;rw [Γ ω,show (x*2+1) / 2=x by omega]
def CS.blk (S:CS) (n:Nat):List Nat:=(List.range n).filterMap (fun x=>(S.v x).ownBlock)
theorem CS.jK (S:CS) (n g:Nat):g∈S.blk n↔∃x,x<n/\(S.v x).ownBlock=some g:=by unfold CS.blk;simp
structure aQ (w:World) (bt ba lo n:Nat) (S:CS):Prop where
 head:aK w bt 250 1 (fun _=>.slice (some ⟨ba,0,none⟩) n n)
 row:aK w ba 252 (n*2) (dw S)
 own:∀x,x<n->w.ownsRow lo 3 1 (S.v x) (S.k x).length (aP (S.k x))
 sep:∀x y,x<n->y<n->x≠y->∀g,(S.v x).ownBlock=some g->(S.v y).ownBlock≠some g
 ne:bt≠ba
 TY:bt<lo
 LC:ba<lo
 low:lo<=w.heap.size
 le:n<=65536
 len:∀x,x<n->(S.k x).length<=n
theorem aQ.nu {w:World} {bt ba lo n:Nat} {S:CS} (h:aQ w bt ba lo n S) {g:Nat} (hg:g∈S.blk n):lo<=g/\g<w.heap.size:=by
 obtain ⟨x,hx,he⟩:=(S.jK n g).1 hg;exact (h.own x hx).lt g he
theorem aQ.upd {w w':World} {F:List Nat} {bt ba lo n:Nat} {S:CS} (h:aQ w bt ba lo n S) (hu:aa F w w') (h1:bt∉F) (h2:ba∉F) (h3:∀g,g∈S.blk n->g∉F):aQ w' bt ba lo n S:=
 ⟨h.head.upd hu h1,h.row.upd hu h2,fun x hx=>ay (h.own x hx) hu (fun k hk=>h3 k ((S.jK n k).2 ⟨x,hx,hk⟩)),h.sep,h.ne,h.TY,h.LC,Χ h.low hu.size,h.le,h.len⟩
theorem aQ.aj {w w':World} {bt ba lo n:Nat} {S:CS} (h:aQ w bt ba lo n S) (hu:aa [] w w'):aQ w' bt ba lo n S:=h.upd hu σ σ σ
theorem nodeInfo:(Tryz.prog.info? 252).map (fun i=>(i.zero,i.size,i.bytes))=some (some (.agg #[.slice none 0 0,.int .i64 0]),2,32):=by kernel_rfl
theorem Dx (n:Nat) (w:World) (h:n<=65536) :
  Calls Tryz.prog 109 #[.int .i64 (n:Int)] w fun e w'=>∃bt ba,e=.returned (.tuple #[.pointer (some ⟨bt,0,none⟩),.int .i64 0])/\aQ w' bt ba w'.heap.size n CS.none/\aa [] w w'/\w.heap.size<=bt/\w.heap.size<=ba:=by
 go_enter Tryz.func109,Tryz.ntmps109
 go_wp2_with (at_make;refine wpList_make_row rfl _ 248 rfl 252 (.agg #[.slice none 0 0,.int .i64 0]) 2 32 Tryz.underlying248 nodeInfo n rfl ω μ ?_;intro w1 hr1 hu1)
 have hlt:=hr1.lt;have hz:∀j,j<n*2->(madeCells (Value.agg #[.slice none 0 0,.int .i64 0]).cells (n*2)).toList.getD j undef=if j % 2=0 then .slice none 0 0 else .int .i64 0:=fun j hj=>by
  rw [show (Value.agg #[.slice none 0 0,.int .i64 0]).cells=#[Value.slice none 0 0,Value.int .i64 0] from rfl];unfold madeCells;simp [φ,hj];rcases (ω:j % 2=0\/j % 2=1) with h2|h2<;>simp [h2]
 go_loopw [21] (fun i wr=>∃ (k:Nat) (f:Nat->Value),k<=n/\i=.int .i64 k/\aK wr w1.heap.size 250 1 (fun _=>.slice (some ⟨w.heap.size,0,none⟩) n n)/\aK wr w.heap.size 252 (n*2) f/\(∀j,j<n*2->f j=if j % 2=0 then .slice none 0 0 else .int .i64 (if j<k*2 then -1 else 0))/\aa [] w wr) (fun i _=>n-(intOf i).toNat)
 case atStart=>exact ⟨0,_,ω,rfl,dJ _ _ _ |>.ext (fun j hj=>by simp at hj;subst hj;rfl),hr1.alloc _,fun j hj=>by rw [hz j hj,Γ (show ¬j<0*2 by omega)],hu1.alloc _⟩
 case round=>
  obtain ⟨k,f,hk,rfl,hH,hR,hf,hu⟩:=hrel;have HZ:=χ hz;clear hz
  by_cases hkn:k<n
  ·have c0:=hH.cell 0 ω;have d1:=hR.cell (k*2+1) ω;have e1:=hR.free (k*2+1);have HF:=χ hf;clear hf;go_wp2
   go_roundw
   case rel=>
    refine ⟨k+1,_,ω,by go_num,hH.far _ _ ζ,hR.set _ _,fun j hj=>?_,hu.setCell (Β σ) _⟩
    by_cases hj1:j=k*2+1
    ·subst hj1;rw [Δ rfl,Γ ω,Δ ω]
    ·rw [Γ hj1,HF.out j hj]
     by_cases h2:j % 2=0
     ·rw [Δ h2,Δ h2]
     ·rw [Γ h2,Γ h2]
      by_cases h3:j<k*2
      ·rw [Δ h3,Δ ω]
      ·rw [Γ h3,Γ ω]
   case measure=>simp [intOf];omega
  ·obtain rfl:k=n:=ω;go_wp2;go_ret2;exact ⟨_,_,rfl,⟨hH,hR.ext (fun j hj=>by rw [hf j hj,Δ (show j<k*2 by omega)];rfl),fun x hx=>World.ownsRow_nil _ _ _ _,fun x y _ _ _ g hg=>by simp [CS.none,Value.ownBlock] at hg,by omega,hH.lt,hR.lt,Θ _,h,fun x hx=>Nat.zero_le _⟩,hu,hu1.size,Θ _⟩
theorem mP (bt ba lo n:Nat) (S:CS) (x:Int) (w:World) (h:aQ w bt ba lo n S) (b:Bool) (hb:b=decide (0<=x/\x<n)) :
  Calls Tryz.prog 195 #[.pointer (some ⟨bt,0,none⟩),.int .i64 x] w fun e w'=>e=.returned (.bool b)/\w'=w:=by
 have hle:=h.le;have c0:=h.head.cell 0 ω;clear h;subst hb
 by_cases h0:0<=x
 ·by_cases h1:x<n
  ·go_enter Tryz.func195,Tryz.ntmps195
   go_wp2;go_ret;exact ⟨aU (by simp [h0,h1]),rfl⟩
  ·go_enter Tryz.func195,Tryz.ntmps195
   go_wp2;go_ret;exact ⟨aU (by simp [h0,h1]),rfl⟩
 ·go_enter Tryz.func195,Tryz.ntmps195
  go_wp2;go_ret;exact ⟨aU ζ,rfl⟩
def oh (n:Nat) (S:CS) (x:Int):Bool:=decide (0<=x/\x<n) && S.u x.toNat == -1
def nW (n:Nat) (S:CS) (x:Int):Int:=if 0<=x/\x<n then (S.k x.toNat).length else 0
def IJ (n:Nat) (S:CS) (x:Int):Option Int:=if 0<=x/\x<n then (if S.u x.toNat=-1 then none else some (S.u x.toNat)) else none
theorem vY (bt ba lo n:Nat) (S:CS) (x:Int) (w:World) (h:aQ w bt ba lo n S) :
  Calls Tryz.prog 198 #[.pointer (some ⟨bt,0,none⟩),.int .i64 x] w fun e w'=>e=.returned (.bool (oh n S x))/\w'=w:=by
 by_cases hx:0<=x/\x<n
 ·obtain ⟨k,rfl⟩:∃k:Nat,x=k:=⟨x.toNat,ω⟩;have hk:k<n:=ω;have hle:=h.le;have c0:=h.head.cell 0 ω;have d1:=h.row.cellAt (k*2+1) ω (tO S k);have k1:=mP bt ba lo n S k w h true (by simp [hk]);have e:oh n S k=(S.u k == -1):=by unfold oh;rw [Ν hx];simp
  rw [e];clear h e hx;generalize S.u k=u at *
  go_enter Tryz.func198,Tryz.ntmps198
  go_wp2_with (go_at_call 195;refine (k1).mono ?_;rintro e w' ⟨rfl,rfl⟩)
  go_ret;exact ⟨rfl,rfl⟩
 ·have k1:=mP bt ba lo n S x w h false (by simpa using hx);have e:oh n S x=false:=by unfold oh;rw [Ξ hx];rfl
  rw [e];clear h e hx
  go_enter Tryz.func198,Tryz.ntmps198
  go_wp2_with (go_at_call 195;refine (k1).mono ?_;rintro e w' ⟨rfl,rfl⟩)
  go_ret;exact ⟨rfl,rfl⟩
theorem qL (bt ba lo n:Nat) (S:CS) (x:Int) (w:World) (h:aQ w bt ba lo n S) :
  Calls Tryz.prog 204 #[.pointer (some ⟨bt,0,none⟩),.int .i64 x] w fun e w'=>e=.returned (.int .i64 (nW n S x))/\w'=w:=by
 by_cases hx:0<=x/\x<n
 ·obtain ⟨k,rfl⟩:∃k:Nat,x=k:=⟨x.toNat,ω⟩;have hk:k<n:=ω;have hle:=h.le;have c0:=h.head.cell 0 ω;obtain ⟨a,cap,hv,_⟩:=aY (h.own k hk);have d0:=h.row.cellAt (k*2) ω ((ni S k).trans hv);have k1:=mP bt ba lo n S k w h true (by simp [hk]);have e:nW n S k=((S.k k).length:Int):=by unfold nW;rw [Δ hx];simp
  rw [e];clear h e hx hv;generalize (S.k k).length=u at *
  go_enter Tryz.func204,Tryz.ntmps204
  go_wp2_with (go_at_call 195;refine (k1).mono ?_;rintro e w' ⟨rfl,rfl⟩)
  go_ret;exact ⟨rfl,rfl⟩
 ·have k1:=mP bt ba lo n S x w h false (by simpa using hx);have e:nW n S x=0:=by unfold nW;rw [Γ hx]
  rw [e];clear h e hx
  go_enter Tryz.func204,Tryz.ntmps204
  go_wp2_with (go_at_call 195;refine (k1).mono ?_;rintro e w' ⟨rfl,rfl⟩)
  go_ret;exact ⟨rfl,rfl⟩
theorem vX (bt ba lo n:Nat) (S:CS) (x:Int) (w:World) (h:aQ w bt ba lo n S) :
  Calls Tryz.prog 188 #[.pointer (some ⟨bt,0,none⟩),.int .i64 x] w fun e w'=>e=.returned (.tuple #[.int .i64 (ov (IJ n S x)),.bool (ob (IJ n S x))])/\w'=w:=by
 by_cases hx:0<=x/\x<n
 ·obtain ⟨k,rfl⟩:∃k:Nat,x=k:=⟨x.toNat,ω⟩;have hk:k<n:=ω;have hle:=h.le;have c0:=h.head.cell 0 ω;have d1:=h.row.cellAt (k*2+1) ω (tO S k);have k1:=mP bt ba lo n S k w h true (by simp [hk]);have e:IJ n S k=if S.u k=-1 then none else some (S.u k):=by unfold IJ;rw [Δ hx];simp
  rw [e];clear h e hx;generalize S.u k=u at *
  by_cases hu:u=-1
  ·subst hu
   go_enter Tryz.func188,Tryz.ntmps188
   go_wp2_with (go_at_call 195;refine (k1).mono ?_;rintro e w' ⟨rfl,rfl⟩)
   go_ret2;exact ⟨rfl,rfl⟩
  ·have b1:(u == -1)=false:=by simpa using hu
   rw [Γ hu];clear hu
   go_enter Tryz.func188,Tryz.ntmps188
   go_wp2_with (go_at_call 195;refine (k1).mono ?_;rintro e w' ⟨rfl,rfl⟩)
   go_ret2;exact ⟨rfl,rfl⟩
 ·have k1:=mP bt ba lo n S x w h false (by simpa using hx);have e:IJ n S x=none:=by unfold IJ;rw [Γ hx]
  rw [e];clear h e hx
  go_enter Tryz.func188,Tryz.ntmps188
  go_wp2_with (go_at_call 195;refine (k1).mono ?_;rintro e w' ⟨rfl,rfl⟩)
  go_ret2;exact ⟨rfl,rfl⟩
theorem NC (w:World) (lo:Nat) (v:Value) (z:List Int) (h:iY w lo v z.length (aP z)) (hz:z.length<=65536) :
  Calls Tryz.prog 199 #[v] w fun e w'=>∃v',e=.returned v'/\iY w' w.heap.size v' z.length (aP z)/\aa [] w w':=by
 have h0:=h;obtain ⟨a,cap,rfl,hcp,hlc,hp⟩:=h.open;have hl:=fq z;generalize hzz:aP z=zs at *;have h1:∀u∈zs,u.oneCell'=true:=by rw [←hzz];exact Og z
 generalize z.length=len at *;clear hzz;cases a with
 | none=>
  have hn:len=0:=by
   rcases Nat.eq_zero_or_pos len with h|h
   ·exact h
   ·obtain ⟨g,hg,_⟩:=hp h;cases hg
  subst hn;have hzs:zs=[]:=ϙ hl;subst hzs;have hs:=fun (W:World)=>Lib.run_eql_slice_nil (P:=Tryz.prog) W 26 3 none 0 cap 0 0 Tryz.underlying26;clear hp h h0
  go_enter Tryz.func199,Tryz.ntmps199
  go_wp2;go_ret;exact ⟨_,rfl,Α ⟨rfl,rfl,rfl⟩,aa.refl _ _⟩
 | some a=>
  have hs:=fun (W:World)=>Lib.run_eql_slice_nil (P:=Tryz.prog) W 26 3 (some a) len cap 0 0 Tryz.underlying26;have hL:=h.upd ((aa.refl [] w).alloc (.cells #[] 3)) σ;have hO:=qy w [] 3 w.heap.size 1 0 rfl (Θ _) μ;clear hp h h0
  go_enter Tryz.func199,Tryz.ntmps199
  go_wp2_with (at_builtin;refine vZ rfl _ _ 26 rfl w.heap.size 3 (.int .i64 0) 1 8 Tryz.underlying26 fE rfl δ _ _ _ rfl hO lo len zs _ rfl hL ω h1 μ ω σ ?_;intro v2 w2 ho2 hu2)
  go_ret;have hu3:aa [w.heap.size] (w.alloc (.cells #[] 3)) w2:=hu2;refine ⟨_,rfl,?_,((aa.refl _ _).alloc _).joined hu3 (fun x hx=>Β (by simp at hx;omega))⟩;have:=iY.sI ho2;simpa using this
def rowOk (n:Nat) (S:CS) (l:List Int) (i:Nat):Bool:=oh n S (l.getD i 0) && (i == 0 || decide (nW n S (l.getD (i-1) 0)<nW n S (l.getD i 0)))
def wy (n:Nat) (S:CS) (l:List Int) (j:Nat):Bool:=(List.range j).all (rowOk n S l)
theorem Kw (n:Nat) (S:CS) (l:List Int) (j:Nat):wy n S l (j+1)=(wy n S l j && rowOk n S l j):=by
 unfold wy;rw [List.range_succ,List.all_append];simp
theorem Qd (n:Nat) (S:CS) (l:List Int) (j:Nat) (h:wy n S l j=true) (hj:rowOk n S l j=false) (m:Nat) (hm:j<m):wy n S l m=false:=by
 unfold wy;rw [List.all_eq_false];exact ⟨j,by simp [hm],by simp [hj]⟩
def Nv (n:Nat) (S:CS) (l:List Int):Bool:=wy n S l l.length
def CS.Bz (S:CS) (x:Nat) (v:Value) (l:List Int):CS:=⟨fun y=>if y=x then v else S.v y,fun y=>if y=x then l else S.k y,S.u⟩
def CS.rG (S:CS) (x:Nat) (p:Int):CS:=⟨S.v,S.k,fun y=>if y=x then p else S.u y⟩
theorem CS.Tc (S:CS) (x:Nat) (v:Value) (l:List Int) (n g:Nat) (h:g∈(S.Bz x v l).blk n):g∈S.blk n\/v.ownBlock=some g:=by
 obtain ⟨y,hy,he⟩:=(CS.jK _ n g).1 h;unfold CS.Bz at he;simp only at he
 split at he
 ·exact Β he
 ·exact Α ((CS.jK _ n g).2 ⟨y,hy,he⟩)
theorem aQ.bO {w:World} {bt ba lo n:Nat} {S:CS} (h:aQ w bt ba lo n S) (x:Nat) (hx:x<n) (p:Int):aQ (w.setCell ⟨ba,x*2+1,none⟩ (.int .i64 p)) bt ba lo n (S.rG x p):=by
 have hu:aa [ba] w (w.setCell ⟨ba,x*2+1,none⟩ (.int .i64 p)):=(aa.refl _ _).setCell (Α σ) _;refine ⟨h.head.upd hu (by simp;exact h.ne),(h.row.set _ _).ext (fun j hj=>?_),fun y hy=>ay (h.own y hy) hu (fun k hk hm=>?_),h.sep,h.ne,h.TY,h.LC,Χ h.low hu.size,h.le,h.len⟩
 ·unfold dw CS.rG;simp only
  by_cases hj1:j=x*2+1
  ·subst hj1;rw [Δ rfl,Γ ω,show (x*2+1) / 2=x by omega,Δ rfl]
  ·rw [Γ hj1]
   by_cases h2:j % 2=0
   ·rw [Δ h2,Δ h2]
   ·rw [Γ h2,Γ h2,Γ ω]
 ·have:=((h.own y hy).lt k hk).1;have:=h.LC;simp at hm;omega
theorem aQ.Vw {w w1:World} {bt ba lo n:Nat} {S:CS} (h:aQ w bt ba lo n S) (x:Nat) (hx:x<n) (v:Value) (l:List Int) {F:List Nat} (hu:aa F w w1) (hF:∀g,g∈F->(S.v x).ownBlock=some g)
  (ho:w1.ownsRow lo 3 1 v l.length (aP l)) (hb:∀g,v.ownBlock=some g->(S.v x).ownBlock=some g\/w.heap.size<=g) (hl:l.length<=n):aQ (w1.setCell ⟨ba,x*2,none⟩ v) bt ba lo n (S.Bz x v l):=by
 have WH:∀g,g∈F->lo<=g/\g<w.heap.size:=fun g hg=>(h.own x hx).lt g (hF g hg);have hl1:=h.TY;have hl2:=h.LC;have hu2:aa [ba] w1 (w1.setCell ⟨ba,x*2,none⟩ v):=(aa.refl _ _).setCell (Α σ) _;have hr:=h.row.upd hu (fun hm=>by have:=WH _ hm;omega);refine ⟨(h.head.upd hu (fun hm=>by have:=WH _ hm;omega)).upd hu2 (by simp;exact h.ne),(hr.set _ _).ext (fun j hj=>?_),fun y hy=>?_,?_,h.ne,h.TY,h.LC,Χ (Χ h.low hu.size) hu2.size,h.le,?_⟩
 ·unfold dw CS.Bz;simp only
  by_cases hj1:j=x*2
  ·subst hj1;rw [Δ rfl,Δ ω,show (x*2) / 2=x by omega,Δ rfl]
  ·rw [Γ hj1]
   by_cases h2:j % 2=0
   ·rw [Δ h2,Δ h2,Γ ω]
   ·rw [Γ h2,Γ h2]
 ·unfold CS.Bz;simp only
  by_cases hyx:y=x
  ·rw [Δ hyx,Δ hyx];exact ay ho hu2 (fun k hk hm=>by have:=(ho.lt k hk).1;simp at hm;omega)
  ·rw [Γ hyx,Γ hyx];have h1:=h.own y hy;have h2:=ay h1 hu (fun k hk hm=>h.sep y x hy hx hyx k hk (hF k hm));exact ay h2 hu2 (fun k hk hm=>by have:=(h1.lt k hk).1;simp at hm;omega)
 ·intro y z hy hz R6 g hg;unfold CS.Bz at hg ⊢;simp only at hg ⊢
  by_cases hyx:y=x
  ·rw [Δ hyx] at hg;rw [Γ (fun e=>R6 (by rw [hyx,e]))];rcases hb g hg with h1|h1
   ·exact h.sep x z hx hz ω g h1
   ·intro h2;have:=((h.own z hz).lt g h2).2;omega
  ·rw [Γ hyx] at hg
   by_cases hzx:z=x
   ·rw [Δ hzx];intro h2;rcases hb g h2 with h1|h1
    ·exact h.sep y x hy hx hyx g hg h1
    ·have:=((h.own y hy).lt g hg).2;omega
   ·rw [Γ hzx];exact h.sep y z hy hz R6 g hg
 ·intro y hy;unfold CS.Bz;simp only
  by_cases hyx:y=x
  ·rw [Δ hyx];exact hl
  ·rw [Γ hyx];exact h.len y hy
structure fF (w:World) (bt ba n:Nat) (f:Nat->Value):Prop where
 head:aK w bt 250 1 (fun _=>.slice (some ⟨ba,0,none⟩) n n)
 row:aK w ba 252 (n*2) f
 ne:bt≠ba
 le:n<=65536
theorem aQ.nodes {w:World} {bt ba lo n:Nat} {S:CS} (h:aQ w bt ba lo n S):fF w bt ba n (dw S):=⟨h.head,h.row,h.ne,h.le⟩
theorem fF.upd {w w':World} {F:List Nat} {bt ba n:Nat} {f:Nat->Value} (h:fF w bt ba n f) (hu:aa F w w') (h1:bt∉F) (h2:ba∉F):fF w' bt ba n f:=⟨h.head.upd hu h1,h.row.upd hu h2,h.ne,h.le⟩
theorem fF.set {w:World} {bt ba n:Nat} {f:Nat->Value} (h:fF w bt ba n f) (j:Nat) (v:Value):fF (w.setCell ⟨ba,j,none⟩ v) bt ba n (fun i=>if i=j then v else f i):=
 ⟨h.head.far _ _ h.ne,h.row.set j v,h.ne,h.le⟩
theorem fF.ext {w:World} {bt ba n:Nat} {f g:Nat->Value} (h:fF w bt ba n f) (hg:∀j,j<n*2->f j=g j):fF w bt ba n g:=⟨h.head,h.row.ext hg,h.ne,h.le⟩
def qW (f:Nat->Value) (p:Int) (ks:List Int) (i:Nat):Value:=if i % 2=1/\((i / 2:Nat):Int)∈ks then .int .i64 p else f i
def iR (f:Nat->Value) (x:Nat) (v:Value) (i:Nat):Value:=if i=x then v else f i
theorem Co (f:Nat->Value) (p:Int) (ks:List Int) (q y:Nat) (hk:ks[q]?=some (y:Int)) (i:Nat):(if i=y*2+1 then .int .i64 p else qW f p (ks.take q) i)=qW f p (ks.take (q+1)) i:=by
 unfold qW;rw [Ϗ,hk]
 by_cases h1:i=y*2+1
 ·subst h1;rw [Δ rfl,Δ ⟨ω,by simp;exact Β ω⟩]
 ·rw [Γ h1]
  by_cases h2:i % 2=1/\((i / 2:Nat):Int)∈ks.take q
  ·rw [Δ h2,Δ ⟨h2.1,by simp only [τ];exact Α h2.2⟩]
  ·rw [Γ h2,Γ (fun h=>by
    obtain ⟨h3,h4⟩:=h;rcases τ.1 h4 with h4|h4
    ·exact h2 ⟨h3,h4⟩
    ·simp at h4;omega)]
theorem Cr (bt ba n lo x:Nat) (f:Nat->Value) (v:Value) (ks:List Int) (w:World) (h:fF w bt ba n f) (hv:iY w lo v ks.length (aP ks)) (hx:x<n) (hlo:ba<lo) (hks:∀k,k∈ks->0<=k/\k<n) :
  Calls Tryz.prog 196 #[.pointer (some ⟨bt,0,none⟩),.int .i64 (x:Int),v] w fun e w'=>e=.returned (.tuple #[])/\fF w' bt ba n (qW (iR f (x*2) v) x ks)/\aa [ba] w w':=by
 obtain ⟨a,cap,rfl,hcp,hlc,hp⟩:=hv.open;have hle:=h.le;have hne:=h.ne;have c0:=h.head.cell 0 ω;have d0:=h.row.cell (x*2) ω;have e0:=h.row.free (x*2);have HN:fF (w.setCell ⟨ba,x*2,none⟩ (.slice a ks.length cap)) bt ba n (qW (iR f (x*2) (.slice a ks.length cap)) x (ks.take 0)):=by
  refine (h.set (x*2) (.slice a ks.length cap)).ext (fun j hj=>?_)
  show iR f (x*2) (.slice a ks.length cap) j=_
  unfold qW;rw [Γ σ]
 have hu0:aa [ba] w (w.setCell ⟨ba,x*2,none⟩ (.slice a ks.length cap)):=(aa.refl _ _).setCell (Α σ) _;have HP:=χ hp;have HK:=χ hks;generalize iR f (x * 2) (.slice a ks.length cap)=g at *;clear hp hv hks h;generalize hlen:ks.length=len at *;have HLEN:=χ hlen;clear hlen
 go_enter Tryz.func196,Tryz.ntmps196
 go_wp2
 go_loopw [18] (fun i wr=>∃q:Nat,q<=len/\i=.int .i64 (q:Int)/\fF wr bt ba n (qW g x (ks.take q))/\aa [ba] w wr) (fun i _=>len-(intOf i).toNat)
 case atStart=>exact ⟨0,ω,rfl,HN,hu0⟩
 case round=>
  obtain ⟨q,hq,rfl,hN,hu⟩:=hrel
  by_cases hlt:q<len
  ·obtain ⟨gb,rfl,hg1,hg2,wu⟩:=HP.out ω;obtain ⟨y,pM⟩:∃y,ks[q]?=some y:=⟨ks[q]'(by rw [HLEN.out];exact hlt),σ⟩;obtain ⟨hy0,hyn⟩:=HK.out y (Η pM);obtain ⟨Y,rfl⟩:=Int.eq_ofNat_of_zero_le hy0;have hYn:Y<n:=ω;have hc:=wu q (.int .i64 (Y:Int)) (by unfold aP;rw [ϑ,pM];rfl);have hc2:wr.cell? ⟨gb,q,none⟩=some (.int .i64 (Y:Int)):=by rw [hu.cell hg2 ζ];exact hc
   have c1:=hN.head.cell 0 ω;have d1:=hN.row.cell (Y*2+1) ω;have e1:=hN.row.free (Y*2+1);have hs:=Co g x ks q Y pM;have HS:=χ hs;have HNN:=χ hN;clear hs pM wu hc hN HN;go_wp2
   go_roundw
   case rel=>exact ⟨q+1,ω,by go_num,(HNN.out.set _ _).ext (fun j hj=>HS.out j),hu.setCell (Α σ) _⟩
   case measure=>simp [intOf];omega
  ·obtain rfl:q=len:=ω;rw [List.take_of_length_le (by rw [HLEN.out];omega)] at hN;go_wp2;go_end0;exact ⟨rfl,hN,hu⟩
def gN (S:CS) (x:Nat):CS:=⟨fun y=>if y=x then .slice none 0 0 else S.v y,fun y=>if y=x then [] else S.k y,fun y=>if (y:Int)∈S.k x then -1 else S.u y⟩
theorem qB (S:CS) (x n g:Nat) (h:g∈(gN S x).blk n):g∈S.blk n:=by
 obtain ⟨y,hy,he⟩:=(CS.jK _ n g).1 h;unfold gN at he;simp only at he
 split at he
 ·cases he
 ·exact (CS.jK _ n g).2 ⟨y,hy,he⟩
theorem Iu (S:CS) (x:Nat) (j:Nat):qW (iR (dw S) (x*2) (.slice none 0 0)) (-1) (S.k x) j=dw (gN S x) j:=by
 unfold qW iR dw gN;simp only
 by_cases h:j % 2=0
 ·rw [Γ ω,Δ h]
  by_cases h2:j=x*2
  ·rw [Δ h2,Δ h,Δ ω]
  ·rw [Γ h2,Δ h,Γ ω]
 ·rw [Γ h]
  by_cases h2:((j / 2:Nat):Int)∈S.k x
  ·rw [Δ ⟨ω,h2⟩,Γ h,Δ h2]
  ·rw [Γ (fun h=>h2 h.2),Γ ω,Γ h,Γ h2]
theorem aQ.split {w w1:World} {bt ba lo n:Nat} {S:CS} (h:aQ w bt ba lo n S) (x:Nat) (hx:x<n) (hN:fF w1 bt ba n (dw (gN S x))) (hu:aa [ba] w w1):aQ w1 bt ba lo n (gN S x):=by
 have h2:=h.LC;refine ⟨hN.head,hN.row,fun y hy=>?_,fun y z hy hz R6 g hg=>?_,h.ne,h.TY,h.LC,Χ h.low hu.size,h.le,fun y hy=>?_⟩
 ·unfold gN;simp only
  by_cases hyx:y=x
  ·rw [Δ hyx,Δ hyx];exact World.ownsRow_nil _ _ _ _
  ·rw [Γ hyx,Γ hyx];exact ay (h.own y hy) hu (fun k hk hm=>by have:=((h.own y hy).lt k hk).1;simp at hm;omega)
 ·unfold gN at hg ⊢;simp only at hg ⊢
  by_cases hyx:y=x
  ·rw [Δ hyx] at hg;cases hg
  ·rw [Γ hyx] at hg
   by_cases hzx:z=x
   ·rw [Δ hzx];intro h;cases h
   ·rw [Γ hzx];exact h.sep y z hy hz R6 g hg
 ·unfold gN;simp only
  split
  ·exact Nat.zero_le _
  ·exact h.len y hy
theorem NF (bt ba lo n:Nat) (S:CS) (x:Nat) (w:World) (h:aQ w bt ba lo n S) (hx:x<n) (hr:oh n S x=true) (hks:∀k,k∈S.k x->0<=k/\k<n) :
  Calls Tryz.prog 193 #[.pointer (some ⟨bt,0,none⟩),.int .i64 (x:Int)] w fun e w'=>∃v,e=.returned v/\iY w' w.heap.size v (S.k x).length (aP (S.k x))/\aQ w' bt ba lo n (gN S x)/\aa [ba] w w':=by
 have hle:=h.le;have hne:=h.ne;have hl2:=h.LC;have hlow:=h.low;have hln:=h.len x hx;have k1:=vY bt ba lo n S x w h;rw [hr] at k1;have c0:=h.head.cell 0 ω;have hL:=iY.sI (h.own x hx);obtain ⟨a,cap,hv,hcp,hlc,hp⟩:=hL.open;have d0:=h.row.cellAt (x*2) ω ((ni S x).trans hv);have e0:=h.row.free (x*2);have hu0:aa [ba] w (w.setCell ⟨ba,x*2,none⟩ (.slice none 0 0)):=(aa.refl _ _).setCell (Α σ) _;have HN:fF (w.setCell ⟨ba,x*2,none⟩ (.slice none 0 0)) bt ba n (qW (iR (dw S) (x*2) (.slice none 0 0)) (-1) ((S.k x).take 0)):=by
  refine (h.nodes.set (x*2) (.slice none 0 0)).ext (fun j hj=>?_)
  show iR (dw S) (x*2) (.slice none 0 0) j=_
  unfold qW;rw [Γ σ]
 have HC:=fun W (hW:aa [ba] w W)=>NC W lo (.slice a (S.k x).length cap) (S.k x) (by rw [hv] at hL;exact hL.upd hW (fun k hk=>by simp at hk;omega)) ω;have HE:=χ (Iu S x);have H:=χ h;have HP:=χ hp;have HK:=χ hks;generalize iR (dw S) (x * 2) (.slice none 0 0)=g at *;clear h hr hks hp hL hv;generalize S.k x=ks at *;generalize hlen:ks.length=len at *;have HLEN:=χ hlen;clear hlen
 go_enter Tryz.func193,Tryz.ntmps193
 go_wp2_with ((go_at_call 198;(with_reducible refine (k1).mono ?_);rintro e w9 ⟨rfl,aI⟩;rw [aI];clear aI w9))
 go_loopw [29] (fun i wr=>∃q:Nat,q<=len/\i=.int .i64 (q:Int)/\fF wr bt ba n (qW g (-1) (ks.take q))/\aa [ba] w wr) (fun i _=>len-(intOf i).toNat)
 case atStart=>exact ⟨0,ω,rfl,HN,hu0⟩
 case round=>
  obtain ⟨q,hq,rfl,hN,hu⟩:=hrel
  by_cases hlt:q<len
  ·obtain ⟨gb,rfl,hg1,hg2,wu⟩:=HP.out ω;obtain ⟨y,pM⟩:∃y,ks[q]?=some y:=⟨ks[q]'(by rw [HLEN.out];exact hlt),σ⟩;obtain ⟨hy0,hyn⟩:=HK.out y (Η pM);obtain ⟨Y,rfl⟩:=Int.eq_ofNat_of_zero_le hy0;have hYn:Y<n:=ω;have hc:=wu q (.int .i64 (Y:Int)) (by unfold aP;rw [ϑ,pM];rfl);have hc2:wr.cell? ⟨gb,q,none⟩=some (.int .i64 (Y:Int)):=by rw [hu.cell hg2 ζ];exact hc
   have c1:=hN.head.cell 0 ω;have d1:=hN.row.cell (Y*2+1) ω;have e1:=hN.row.free (Y*2+1);have hs:=Co g (-1) ks q Y pM;have HS:=χ hs;have HNN:=χ hN;clear hs pM wu hc hN HN;go_wp2
   go_roundw
   case rel=>exact ⟨q+1,ω,by go_num,(HNN.out.set _ _).ext (fun j hj=>HS.out j),hu.setCell (Α σ) _⟩
   case measure=>simp [intOf];omega
  ·obtain rfl:q=len:=ω;rw [List.take_of_length_le (by rw [HLEN.out];omega)] at hN;have kC:=HC wr hu;have R9:=hN.ext (fun j hj=>HE.out j);have hsz:=hu.size;clear HC hN HN
   go_wp2_with (go_at_call 199;(with_reducible refine (kC).mono ?_);rintro e w2 ⟨v2,rfl,h2,h3⟩)
   go_ret;exact ⟨_,rfl,h2.mono hsz,H.out.split x hx (R9.upd h3 σ σ) (hu.then h3),hu.then h3⟩
def idxOf (l:List Int) (x:Int):Int:=match l.findIdx? (fun y=>y == x) with|some i=>(i:Int)|none=>-1
theorem Gh (l:List Int) (x:Int) (k:Nat) (hn:x∉l.take k) (hk:l[k]?=some x):idxOf l x=k:=by
 have:l.findIdx? (fun y=>y == x)=some k:=by
  rw [List.findIdx?_eq_some_iff_getElem];obtain ⟨h1,h2⟩:=List.getElem?_eq_some_iff.1 hk;refine ⟨h1,by simp [h2],fun j hj=>?_⟩;simp only [beq_iff_eq];intro e;exact hn (by rw [←e];exact List.mem_take_iff_getElem.2 ⟨j,ω,rfl⟩)
 unfold idxOf;rw [this]
theorem zG (l:List Int) (x:Int) (hn:x∉l):idxOf l x=-1:=by
 have:l.findIdx? (fun y=>y == x)=none:=by
  rw [List.findIdx?_eq_none_iff];intro y hy;simp only [beq_eq_false_iff_ne];intro e;subst e;exact hn hy
 unfold idxOf;rw [this]
theorem Cj (w:World) (lo:Nat) (v:Value) (l:List Int) (x:Int) (h:iY w lo v l.length (aP l)) :
  Calls Tryz.prog 189 #[v,.int .i64 x] w fun e w'=>e=.returned (.int .i64 (idxOf l x))/\w'=w:=by
 obtain ⟨a,cap,rfl,hcp,hlc,hp⟩:=h.open;have HP:=χ hp;clear hp h;generalize hlen:l.length=len at *;have HLEN:=χ hlen;clear hlen
 go_enter Tryz.func189,Tryz.ntmps189
 go_wp2
 go_loop [8] (fun i=>∃q:Nat,q<=len/\i=.int .i64 (q:Int)/\x∉l.take q) (fun i=>len-(intOf i).toNat)
 case atStart=>exact ⟨0,ω,rfl,σ⟩
 case round=>
  obtain ⟨q,hq,rfl,hn⟩:=hrel
  by_cases hlt:q<len
  ·obtain ⟨gb,rfl,hg1,hg2,wu⟩:=HP.out ω;obtain ⟨y,pM⟩:∃y,l[q]?=some y:=⟨l[q]'(by rw [HLEN.out];exact hlt),σ⟩;have hc:=wu q (.int .i64 y) (by unfold aP;rw [ϑ,pM];rfl)
   by_cases hxy:x=y
   ·subst hxy;have hi:=Gh l x q hn pM;have HI:=χ hi;clear wu hn pM hi;go_wp2;go_ret;exact ⟨jL HI.out.symm,rfl⟩
   ·have b1:(x == y)=false:=by simpa using hxy
    have hn2:x∉l.take (q+1):=by rw [Ϗ,pM];simp;exact ⟨hn,hxy⟩
    have HN2:=χ hn2;clear wu hn pM hn2 hxy;go_wp2
    go_round
    case rel=>exact ⟨q+1,ω,by go_num,HN2.out⟩
    case measure=>simp [intOf];omega
  ·obtain rfl:q=len:=ω;rw [List.take_of_length_le (by rw [HLEN.out];omega)] at hn;have HI:=χ (zG l x hn);clear hn;go_wp2;go_ret;exact ⟨jL HI.out.symm,rfl⟩
def setAt (l:List Int) (x y:Int):List Int:=l.set (idxOf l x).toNat y
theorem j3 (l:List Int) (x y:Int):(setAt l x y).length=l.length:=by unfold setAt;simp
theorem vC (l:List Int) (x:Int) (h:x∈l):∃i:Nat,i<l.length/\idxOf l x=i/\l[i]?=some x:=by
 cases hf:l.findIdx? (fun y=>y == x) with
 | none=>
  rw [List.findIdx?_eq_none_iff] at hf;have:=hf x h;simp at this
 | some i=>
  have h2:=hf;rw [List.findIdx?_eq_some_iff_getElem] at h2;obtain ⟨h3,h4,_⟩:=h2;refine ⟨i,h3,by unfold idxOf;rw [hf],?_⟩;rw [ε h3];simp at h4;rw [h4]
def gT (S:CS) (x p:Nat) (above:Int):CS:=
  ⟨fun y=>if y=x then S.v p else if y=p then S.v x else S.v y,
   fun y=>if y=x then setAt (S.k p) x p else if y=p then S.k x else if (y:Int)=above then setAt (S.k y) p x else S.k y,
   fun y=>if y=x then above else if (y:Int)∈S.k x then p else if (y:Int)∈setAt (S.k p) x p then x else S.u y⟩
def LH (S:CS) (x p:Nat) (above:Int):Nat->Value:=
 iR (qW (iR (qW (iR (dw S) (x*2) (S.v p)) x (setAt (S.k p) x p)) (p*2) (S.v x)) p (S.k x)) (x*2+1) (.int .i64 above)
theorem pz (f:Nat->Value) (p:Int) (ks:List Int) (j:Nat) (h:j % 2=0):qW f p ks j=f j:=by unfold qW;rw [Γ ω]
theorem mX (f:Nat->Value) (x:Nat) (v:Value) (j:Nat) (h:j≠x):iR f x v j=f j:=by unfold iR;rw [Γ h]
theorem LM (f:Nat->Value) (x:Nat) (v:Value):iR f x v x=v:=by unfold iR;rw [Δ rfl]
theorem CK (S:CS) (x p:Nat) (above:Int) (hxp:x≠p) (j:Nat):LH S x p above j=dw (gT S x p above) j:=by
 unfold LH
 by_cases h:j % 2=0
 ·rw [mX _ _ _ _ (show j≠x*2+1 by omega),pz _ _ _ _ h];unfold dw gT;rw [Δ h];simp only
  by_cases h3:j / 2=x
  ·rw [mX _ _ _ _ (show j≠p*2 by omega),pz _ _ _ _ h,show j=x*2 by omega,LM,Δ ω]
  ·by_cases h4:j / 2=p
   ·rw [show j=p*2 by omega,LM,Γ ω,Δ ω]
   ·rw [mX _ _ _ _ (show j≠p*2 by omega),pz _ _ _ _ h,mX _ _ _ _ (show j≠x*2 by omega),Δ h,Γ h3,Γ h4]
 ·have h0:j % 2=1:=ω;unfold dw gT iR qW;simp only [h0,true_and]
  by_cases h3:j / 2=x
  ·rw [Δ ω,Γ ω,Δ h3]
  ·rw [Γ (show ¬j=x*2+1 by omega),Γ (show ¬j=p*2 by omega),Γ (show ¬j=x*2 by omega)];rw [Γ (show ¬ (1=0) by omega),Γ (show ¬ (1=0) by omega),Γ h3]
   by_cases h5:((j / 2:Nat):Int)∈S.k x
   ·rw [Δ h5,Δ h5]
   ·rw [Γ h5,Γ h5]
    by_cases h6:((j / 2:Nat):Int)∈setAt (S.k p) x p
    ·rw [Δ h6,Δ h6]
    ·rw [Γ h6,Γ h6]
theorem FM {w:World} {base n cap g:Nat} {e:TypeId} {xs:List Value} (h:w.ownsRow base e 1 (.slice (some ⟨g,0,none⟩) n cap) n xs) (j:Nat) (u:Value) :
  (w.setCell ⟨g,j,none⟩ u).ownsRow base e 1 (.slice (some ⟨g,0,none⟩) n cap) n (xs.set j u):=(h.stored j u).1
theorem CV (l:List Int) (j:Nat) (y:Int):aP (l.set j y)=(aP l).set j (.int .i64 y):=by unfold aP;rw [List.map_set]
structure Ag (n:Nat) (S:CS) (x p:Nat) (above:Int):Prop where
 hx:x<n
 hp:p<n
 ne:x≠p
 up:S.u x=p
 ab:S.u p=above
 mem:(x:Int)∈S.k p
 kx:∀k,k∈S.k x->0<=k/\k<n
 kp:∀k,k∈S.k p->0<=k/\k<n
 top:above=-1\/∃q:Nat,above=q/\q<n/\q≠x/\q≠p/\(p:Int)∈S.k q
theorem aQ.lift {w w5:World} {bt ba lo n:Nat} {S:CS} (h:aQ w bt ba lo n S) {x p:Nat} {above:Int} (ok:Ag n S x p above) (hN:fF w5 bt ba n (dw (gT S x p above))) (hs:w.heap.size<=w5.heap.size)
  (ho:∀y,y<n->w5.ownsRow lo 3 1 ((gT S x p above).v y) ((gT S x p above).k y).length (aP ((gT S x p above).k y))):aQ w5 bt ba lo n (gT S x p above):=by
 have hx:=ok.hx;have hp:=ok.hp;have hne:=ok.ne;refine ⟨hN.head,hN.row,ho,fun y z hy hz R6 g hg=>?_,h.ne,h.TY,h.LC,Χ h.low hs,h.le,fun y hy=>?_⟩
 ·unfold gT at hg ⊢;simp only at hg ⊢;have key:∀a b,a<n->b<n->a≠b->(S.v a).ownBlock=some g->(S.v b).ownBlock≠some g:=fun a b ha hb hab=>h.sep a b ha hb hab g
  by_cases h1:y=x
  ·rw [Δ h1] at hg;rw [Γ (fun e=>R6 ω)]
   by_cases h2:z=p
   ·rw [Δ h2];exact key p x hp hx (Ne.symm hne) hg
   ·rw [Γ h2];exact key p z hp hz (Ne.symm h2) hg
  ·rw [Γ h1] at hg
   by_cases h2:y=p
   ·rw [Δ h2] at hg
    by_cases h3:z=x
    ·rw [Δ h3];exact key x p hx hp hne hg
    ·rw [Γ h3,Γ (fun e=>R6 ω)];exact key x z hx hz (Ne.symm h3) hg
   ·rw [Γ h2] at hg
    by_cases h3:z=x
    ·rw [Δ h3];exact key y p hy hp h2 hg
    ·rw [Γ h3]
     by_cases h4:z=p
     ·rw [Δ h4];exact key y x hy hx h1 hg
     ·rw [Γ h4];exact key y z hy hz R6 hg
 ·unfold gT;simp only
  split
  ·rw [j3];exact h.len p hp
  ·split
   ·exact h.len x hx
   ·split
    ·rw [j3];exact h.len y hy
    ·exact h.len y hy
set_option maxRecDepth 100000 in
theorem FQ (bt ba lo n:Nat) (S:CS) (x p:Nat) (above:Int) (w:World) (h:aQ w bt ba lo n S) (ok:Ag n S x p above) :
  Calls Tryz.prog 190 #[.pointer (some ⟨bt,0,none⟩),.int .i64 (x:Int)] w fun e w'=>e=.returned (.bool true)/\aQ w' bt ba lo n (gT S x p above)/\aa (ba::S.blk n) w w':=by
 have hx:=ok.hx;have hp:=ok.hp;have hle:=h.le;have hne:=h.ne;have hl1:=h.TY;have hl2:=h.LC;have k1:=vX bt ba lo n S x w h;have hup:IJ n S x=some (p:Int):=by unfold IJ;rw [Δ ω,show ((x:Int)).toNat=x by omega,ok.up,Γ ω]
 rw [hup,show ov (some (p:Int))=(p:Int) from rfl,show ob (some (p:Int))=true from rfl] at k1;obtain ⟨ax,cx,hvx,_⟩:=aY (h.own x hx);obtain ⟨i,hil,hidx,hi⟩:=vC _ _ ok.mem;obtain ⟨gp,cp,hvp,hg1,hg2,hgc,hgm,hgx,hgf⟩:=fM (h.own p hp) ω;have c0:=h.head.cell 0 ω;have d0:=h.row.cellAt (x*2) ω ((ni S x).trans hvx);have d1:=h.row.cellAt (p*2) ω ((ni S p).trans hvp);have d2:=h.row.cellAt (p*2+1) ω ((tO S p).trans (by rw [ok.ab]));have hab:above≠-1->(above != -1)=true:=fun h=>by simpa using h
 clear hup
 go_enter Tryz.func190,Tryz.ntmps190
 go_wp2_with ((go_at_call 188;(with_reducible refine (k1).mono ?_);rintro e w9 ⟨rfl,aI⟩;rw [aI];clear aI w9))
 go_quiet (fail)
 have h0:aQ (w.drewN nq) bt ba lo n S:=h.aj ((aa.refl _ _).drewN _);have hu0:aa (ba::S.blk n) w (w.drewN nq):=(aa.refl _ _).drewN _;generalize w.drewN nq=W at *;clear h c0 d0 d1 d2 hgx hgf k1 hg1 hg2;have hop:=h0.own p hp;have hox:=h0.own x hx;rw [hvp] at hop;have Pn:=hop.lt gp rfl;have kI:=Cj W lo _ (S.k p) x (iY.sI hop);rw [hidx] at kI;have ci:W.cell? ⟨gp,i,none⟩=some (.int .i64 (x:Int)):=by rw [hop.cellAt i ω];unfold aP;rw [ϑ,hi];rfl
 have fi:=hop.frozenAt i;have hset:(S.k p).set i p=setAt (S.k p) x p:=by unfold setAt;rw [hidx];rfl
 have XG:=FM hop i (.int .i64 (p:Int));rw [←CV,hset] at XG;have hu1:aa [gp] W (W.setCell ⟨gp,i,none⟩ (.int .i64 (p:Int))):=(aa.refl _ _).setCell (Α σ) _;have hN1:=h0.nodes.upd hu1 ζ ζ;have hsl:=j3 (S.k p) x p
 have kA1:=Cr bt ba n lo x (dw S) _ (setAt (S.k p) x p) _ hN1 (by have:=iY.sI XG;rw [hsl];exact this) hx hl2 (fun k hk=>by
  rw [←hset] at hk;rcases List.mem_or_eq_of_mem_set hk with h|h
  ·exact ok.kp k h
  ·omega)
 have hxg:(S.v x).ownBlock≠some gp:=h0.sep p x hp hx (Ne.symm ok.ne) gp (by rw [hvp];rfl);have hox1:=ay hox hu1 (fun k hk hm=>by simp at hm;subst hm;exact hxg hk);have kA2:=fun w2 (R9:fF w2 bt ba n (qW (iR (dw S) (x*2) (.slice (some ⟨gp,0,none⟩) (S.k p).length cp)) x (setAt (S.k p) x p))) (hu2:aa [ba] (W.setCell ⟨gp,i,none⟩ (.int .i64 (p:Int))) w2)=>
  Cr bt ba n lo p _ (S.v x) (S.k x) w2 R9 (iY.sI (ay hox1 hu2 (fun k hk hm=>by have:=(hox.lt k hk).1;simp at hm;omega))) hp hl2 ok.kx
 rw [hvx] at kA2;have Sq:∀y,y<n->∀g,(S.v y).ownBlock=some g->g∈S.blk n:=fun y hy g hg=>(S.jK n g).2 ⟨y,hy,hg⟩;have hgpb:gp∈S.blk n:=Sq p hp gp (by rw [hvp];rfl);have hall:∀y,y<n->y≠p->(S.v y).ownBlock≠some gp:=fun y hy hyp=>h0.sep p y hp hy (Ne.symm hyp) gp (by rw [hvp];rfl);have hun1:∀y,y<n->y≠p->∀w4,aa [ba] (W.setCell ⟨gp,i,none⟩ (.int .i64 (p:Int))) w4->w4.ownsRow lo 3 1 (S.v y) (S.k y).length (aP (S.k y)):=fun y hy hyp w4 hw=>
  ay (ay (h0.own y hy) hu1 (fun k hk hm=>by simp at hm;subst hm;exact hall y hy hyp hk)) hw (fun k hk hm=>by have:=((h0.own y hy).lt k hk).1;simp at hm;omega)
 have hun2:∀w4,aa [ba] (W.setCell ⟨gp,i,none⟩ (.int .i64 (p:Int))) w4->w4.ownsRow lo 3 1 (S.v p) (setAt (S.k p) x p).length (aP (setAt (S.k p) x p)):=fun w4 hw=>by
  rw [hsl,hvp];exact ay XG hw (fun k hk hm=>by simp [Value.ownBlock] at hk;simp at hm;omega)
 have HALL:=χ hall;have SN:=χ hun1;have HUN2:=χ hun2;have HM:=χ Sq;have H0:=χ h0;have OK:=χ ok;have HVX:=χ hvx;have HVP:=χ hvp;have HSET:=χ hset;have HSL:=χ hsl;have htop:=ok.top;clear hset hsl ok h0 hvx hvp hidx hi hall hun1 hun2 Sq;rcases htop with rfl|⟨q,rfl,hq,hqx,ZX,hqm⟩
 ·go_wp2_with (first
   | (go_at_call 189;(with_reducible refine (kI).mono ?_);rintro e w9 ⟨rfl,aI⟩;rw [aI];clear aI w9)
   | ((go_at_call 196;(with_reducible refine (kA1).mono ?_));rintro e w2 ⟨rfl,R9,hu2⟩)
   | ((go_at_call 196;(with_reducible refine (kA2 _ R9 hu2).mono ?_));rintro e w3 ⟨rfl,TQ,hu3⟩;have c3:=TQ.head.cell 0 ω;have d3:=TQ.row.cell (x*2+1) ω;have e3:=TQ.row.free (x*2+1)))
  go_ret;have hw4:=(hu2.trans hu3).setCell (p:=⟨ba,x*2+1,none⟩) (Α σ) (.int .i64 (-1))
  have hN4:fF (w3.setCell ⟨ba,x*2+1,none⟩ (.int .i64 (-1))) bt ba n (dw (gT S x p (-1))):=(TQ.set (x*2+1) (.int .i64 (-1))).ext (fun j hj=>by
   rw [←CK S x p (-1) OK.out.ne j];unfold LH
   rw [HVX.out,HVP.out];rfl)
  refine ⟨rfl,H0.out.lift OK.out hN4 (Χ hu1.size hw4.size) (fun y hy=>?_),(hu0.trans (hu1.mono (by simp;exact Β hgpb))).trans (hw4.mono σ)⟩;unfold gT;simp only
  by_cases hyx:y=x
  ·rw [Δ hyx,Δ hyx];exact HUN2.out _ hw4
  ·rw [Γ hyx,Γ hyx]
   by_cases hyp:y=p
   ·rw [Δ hyp,Δ hyp];exact SN.out x hx OK.out.ne _ hw4
   ·rw [Γ hyp,Γ hyp,Γ ω];exact SN.out y hy hyp _ hw4
 ·obtain ⟨j,hjl,Zk,hj⟩:=vC _ _ hqm;have hoq:=H0.out.own q hq;obtain ⟨gq,cq,hvq,hq1,hq2,hqc,hqm2,hqx2,hqf⟩:=fM hoq ω;have b4:((q:Int) != -1)=true:=by rw [bne_iff_ne];omega
  have VN:=SN.out q hq ZX;rw [hvq] at VN;have kI2:=fun W4 h4=>Cj W4 lo _ (S.k q) p (iY.sI (VN W4 h4));rw [Zk] at kI2;have HJ:=χ Zk;have HJ2:=χ hj;have HVQ:=χ hvq;have hz1:=ni S q;rw [hvq] at hz1;have HZ:=χ hz1;clear Zk hj hvq hz1 hoq hqx2 hqf hab
  go_wp2_with (first
   | (go_at_call 189;(with_reducible refine (kI).mono ?_);rintro e w9 ⟨rfl,aI⟩;rw [aI];clear aI w9)
   | ((go_at_call 196;(with_reducible refine (kA1).mono ?_));rintro e w2 ⟨rfl,R9,hu2⟩)
   | ((go_at_call 196;(with_reducible refine (kA2 _ R9 hu2).mono ?_));rintro e w3 ⟨rfl,TQ,hu3⟩;have c3:=TQ.head.cell 0 ω;have d3:=TQ.row.cell (x*2+1) ω;have e3:=TQ.row.free (x*2+1);have hN4:=TQ.set (x*2+1) (.int .i64 (q:Int));have hw4:=(hu2.trans hu3).setCell (p:=⟨ba,x*2+1,none⟩) (Α σ) (.int .i64 (q:Int));have c4:=hN4.head.cell 0 ω;have d4:=hN4.row.cellAt (q*2) ω (v:=.slice (some ⟨gq,0,none⟩) (S.k q).length cq) (by
     rw [Γ ω,pz _ _ _ _ ω,mX _ _ _ _ ω,pz _ _ _ _ ω,mX _ _ _ _ ω];exact HZ.out);have o4:=VN _ hw4;have d5:=o4.cellAt j ω;have e5:=o4.frozenAt j;rw [show (aP (S.k q))[j]?=some (.int .i64 (p:Int)) by unfold aP;rw [ϑ,HJ2.out];rfl] at d5;have kI3:=kI2 _ hw4;clear VN kI2)
   | (go_at_call 189;(with_reducible refine (kI3).mono ?_);rintro e w9 ⟨rfl,aI⟩;rw [aI];clear aI w9))
  go_ret
  have hN5:fF (w3.setCell ⟨ba,x*2+1,none⟩ (.int .i64 (q:Int))) bt ba n (dw (gT S x p q)):=(TQ.set (x*2+1) (.int .i64 (q:Int))).ext (fun j hj=>by
   rw [←CK S x p q OK.out.ne j];unfold LH
   rw [HVX.out,HVP.out];rfl)
  have Lc:aa [gq] (w3.setCell ⟨ba,x*2+1,none⟩ (.int .i64 (q:Int))) ((w3.setCell ⟨ba,x*2+1,none⟩ (.int .i64 (q:Int))).setCell ⟨gq,j,none⟩ (.int .i64 (x:Int))):=(aa.refl _ _).setCell (Α σ) _;have hgq:(S.v q).ownBlock=some gq:=by rw [HVQ.out];rfl
  have Rm:∀y,y<n->y≠q->∀k,(S.v y).ownBlock=some k->k∉[gq]:=fun y hy hyq k hk hm=>by
   simp at hm;subst hm;exact H0.out.sep y q hy hq hyq k hk hgq
  refine ⟨rfl,H0.out.lift OK.out (hN5.upd Lc ζ ζ) (Χ (Χ hu1.size hw4.size) Lc.size) (fun y hy=>?_),((hu0.trans (hu1.mono (by simp;exact Β hgpb))).trans (hw4.mono σ)).trans (Lc.mono (by simp;exact Β (HM.out q hq gq hgq)))⟩;unfold gT;simp only
  by_cases hyx:y=x
  ·rw [Δ hyx,Δ hyx];exact ay (HUN2.out _ hw4) Lc (Rm p hp (Ne.symm ZX))
  ·rw [Γ hyx,Γ hyx]
   by_cases hyp:y=p
   ·rw [Δ hyp,Δ hyp];exact ay (SN.out x hx OK.out.ne _ hw4) Lc (Rm x hx (Ne.symm hqx))
   ·rw [Γ hyp,Γ hyp]
    by_cases hyq:y=q
    ·subst hyq;rw [Δ rfl,j3,HVQ.out];have:=FM o4 j (.int .i64 (x:Int));rw [←CV] at this;unfold setAt;rw [HJ.out];exact this
    ·rw [Γ ω];exact ay (SN.out y hy hyp _ hw4) Lc (Rm y hy hyq)
def aX (w:World) (base:Nat) (v:Value) (xs:List Int):Prop:=
 (v=.slice none 0 0/\xs=[])\/
 ∃g off cap cur,v=.slice (some ⟨g,off,none⟩) xs.length cap/\base<=g/\w.heap[g]?=some (.cells cur 3 (0,0))/\xs.length<=cap/\cap<=9223372036854775807/\off+cap<=cur.size/\∀j u,xs[j]?=some u->cur[off+j]?=some (.int .i64 u)
theorem aX.nil (w:World) (base:Nat):aX w base (.slice none 0 0) []:=Α ⟨rfl,rfl⟩
theorem aX.gW {w:World} {base:Nat} {v:Value} {xs:List Int} (h:w.ownsRow base 3 1 v xs.length (aP xs)):aX w base v xs:=by
 rcases h.2 with ⟨rfl,h0⟩|⟨g,cap,cur,rfl,hb,hg,hn,hc,hs,ht⟩
 ·exact Α ⟨rfl,ϙ h0⟩
 ·refine Β ⟨g,0,cap,cur,rfl,hb,hg,hn,by unfold maxLen at hc;exact hc,ω,fun j u hj=>?_⟩;have hjl:j<xs.length:=(List.getElem?_eq_some_iff.1 hj).1;have:(aP xs)[j]?=some (.int .i64 u):=by unfold aP;rw [ϑ,hj];rfl
  rw [←ht,List.getElem?_take,Δ ω] at this;rw [ϓ];simpa using this
theorem KV {w:World} {g:Nat} {o:Obj} (h:w.heap[g]?=some o):g<w.heap.size:=by
 rcases ϕ g w.heap.size with h'|h'
 ·exact h'
 ·rw [Array.getElem?_eq_none h'] at h;cases h
theorem aX.lt {w:World} {base:Nat} {v:Value} {xs:List Int} (h:aX w base v xs) (g:Nat) (hg:v.ownBlock=some g):base<=g/\g<w.heap.size:=by
 rcases h with ⟨rfl,_⟩|⟨g',off,cap,cur,rfl,hb,hh,_⟩
 ·cases hg
 ·simp only [Value.ownBlock,ϖ] at hg;subst hg;exact ⟨hb,KV hh⟩
theorem aX.mono {w:World} {base base':Nat} {v:Value} {xs:List Int} (h:aX w base v xs) (hb:base'<=base):aX w base' v xs:=by
 rcases h with h|⟨g',off,cap,cur,rfl,hb',hh⟩
 ·exact Α h
 ·exact Β ⟨g',off,cap,cur,rfl,Χ hb hb',hh⟩
theorem aX.upd {w w':World} {F:List Nat} {base:Nat} {v:Value} {xs:List Int} (h:aX w base v xs) (hu:aa F w w') (hF:∀g,v.ownBlock=some g->g∉F):aX w' base v xs:=by
 rcases h with h|⟨g,off,cap,cur,rfl,hb,hh,h1,h2⟩
 ·exact Α h
 ·exact Β ⟨g,off,cap,cur,rfl,hb,by rw [hu.block g (KV hh) (hF g rfl)];exact hh,h1,h2⟩
theorem aX.shape {w:World} {base:Nat} {v:Value} {xs:List Int} (h:aX w base v xs) :
  ∃a cap,v=.slice a xs.length cap/\xs.length<=cap/\cap<=9223372036854775807/\∀j u,xs[j]?=some u->∃g off,a=some ⟨g,off,none⟩/\w.cell? ⟨g,off+j,none⟩=some (.int .i64 u):=by
 rcases h with ⟨rfl,rfl⟩|⟨g,off,cap,cur,rfl,hb,hh,h1,h2,h3,h4⟩
 ·exact ⟨none,0,rfl,Θ _,ω,fun j u hj=>by simp at hj⟩
 ·refine ⟨_,cap,rfl,h1,h2,fun j u hj=>⟨g,off,rfl,?_⟩⟩;unfold World.cell?;simp only [hh];simpa using h4 j u hj
theorem aX.lit (w:World) (base:Nat) (x:Int) (hb:base<=w.heap.size):aX (w.alloc (.cells #[.int .i64 x] 3)) base (.slice (some ⟨w.heap.size,0,none⟩) 1 1) [x]:=
 aX.gW (qy w [.int .i64 x] 3 base 1 1 rfl hb μ)
def tailV (v:Value):Value:=match v with | .slice a n c=>.slice (if c=1 then a else a.map (·.add 1)) (n-1) (c-1)|v=>v
theorem wD (w:World) (a:Option Addr) (n c:Nat) (h1:1<=n) (h2:n<=9223372036854775807) :
  (Instr.slice 26 (.slice a n c) (some (.int .i64 1)) none none).run Tryz.prog w=.ok (tailV (.slice a n c)) w:=by
 have hs:(sizeOf 3).run Tryz.prog w=.ok 1 w:=by kernel_rfl
 unfold Instr.slice Instr.sliceBounds;simp [run_underlying Tryz.underlying26,go_sem,hs,tailV];intro h;omega
theorem aX.tail {w:World} {base:Nat} {v:Value} {x:Int} {xs:List Int} (h:aX w base v (x::xs)):aX w base (tailV v) xs/\(tailV v).ownBlock=v.ownBlock:=by
 rcases h with ⟨rfl,h0⟩|⟨g,off,cap,cur,rfl,hb,hh,h1,h2,h3,h4⟩
 ·cases h0
 ·simp only [Ω] at h1 ⊢;unfold tailV;simp only [Nat.add_sub_cancel]
  by_cases hc:cap=1
  ·subst hc;have:xs=[]:=ϙ ω;subst this;rw [Δ rfl];exact ⟨Β ⟨g,off,0,cur,rfl,hb,hh,Θ _,ω,ω,fun j u hj=>by simp at hj⟩,rfl⟩
  ·rw [Γ hc];have e:(some (⟨g,off,none⟩:Addr)).map (·.add 1)=some ⟨g,off+1,none⟩:=by simp [Addr.add_lit]
   rw [e];refine ⟨Β ⟨g,off+1,cap-1,cur,rfl,hb,hh,ω,ω,ω,fun j u hj=>?_⟩,rfl⟩;have:=h4 (j+1) u (by simpa using hj);rw [show off+1+j=off+(j+1) by omega];exact this
theorem qc (a:Option Addr) (n c:Nat):∃a',tailV (.slice a n c)=.slice a' (n-1) (c-1):=⟨_,rfl⟩
theorem Am {w:World} {base:Nat} {v:Value} {xs:List Int} (hown:aX w base v xs) (t ty:TypeId) (ht:Tryz.prog.underlying t=some (.slice 3)) (g1:Nat) (u:Int) (hnew:w.cell? ⟨g1,0,none⟩=some (.int .i64 u)) (hn:xs.length+1<=1000000) (hbase:base<=w.heap.size) :
  ∃v' w',(Builtin.append_ #[t,t] ty #[v,.slice (some ⟨g1,0,none⟩) 1 1]).run Tryz.prog w=.ok v' w'/\aX w' base v' (xs++[u])/\aa v.ownBlock.toList w w'/\(∀k,v'.ownBlock=some k->v.ownBlock=some k\/w.heap.size<=k):=by
 obtain ⟨i,hi,hz0,hz1,hz2⟩:=info_parts fE;have hnews:∀j x,[Value.int .i64 u][j]?=some x->w.cell? ((⟨g1,0,none⟩:Addr).add j)=some x:=fun j x hj=>by
  match j,hj with
  | 0,hj=>simp at hj;subst hj;rw [xB];exact hnew
 have h1:∀x∈[Value.int .i64 u],x.oneCell'=true:=by simp [Value.oneCell']
 rcases hown with ⟨rfl,rfl⟩|⟨g,off,cap,cur,rfl,hb,hh,hc1,hc2,hc3,hc4⟩
 ·obtain ⟨v',w',hr,h2,h3,_⟩:=run_append_own (P:=Tryz.prog) w w.heap.size t ty 3 i (.int .i64 0) 1 8 ht hi hz0 hz1 hz2 rfl δ (.slice none 0 0) 0 [] (World.ownsRow_nil w _ _ _) ⟨g1,0,none⟩ 1 1 [.int .i64 u] rfl hnews h1 μ ω (Θ _);exact ⟨v',w',hr,(aX.gW (xs:=[u]) h2).mono hbase,(aa.refl _ _).grown h3 (fun k hk=>by cases hk),fun k hk=>Β (h2.lt k hk).1⟩
 ·by_cases hfit:xs.length+1<=cap
  ·have hf:=run_firstCells_some (P:=Tryz.prog) w i.size 1 ⟨g1,0,none⟩ 1 1 [.int .i64 u] (by rw [hz1];rfl) hnews;have hst:=run_storeCells_at Tryz.prog g (off+xs.length*i.size) 3 [.int .i64 u] 0 cur w hh (by rw [hz1];simp;omega) h1;simp only [ϔ] at hst;have hrun:(Builtin.append_ #[t,t] ty #[.slice (some ⟨g,off,none⟩) xs.length cap,.slice (some ⟨g1,0,none⟩) 1 1]).run Tryz.prog w=.ok (.slice (some ⟨g,off,none⟩) (xs.length+1) cap) (w.setRow g (cur.toList.take (off+xs.length*i.size)++[Value.int .i64 u]++cur.toList.drop (off+xs.length*i.size+1)).toArray):=by
    simp [Builtin.append_,run_underlying ht,sizeOf,typeInfo,hi,Builtin.lenOf,hfit,hf,Addr.add_lit];have:=hst;simp at this;simp [this]
   rw [hz1,Nat.mul_one] at hrun;refine ⟨_,_,hrun,Β ⟨g,off,cap,_,by rw [υ];rfl,hb,setRow_heap w g cur _ _ _ hh,by rw [υ];exact hfit,hc2,?_,fun j x hj=>?_⟩,?_,fun k hk=>Α hk⟩
   ·simp;omega
   ·have hlen:off+xs.length<=cur.size:=ω;rcases ϕ j xs.length with h|h
    ·rw [Ρ h] at hj;have:=hc4 j x hj;rw [List.getElem?_toArray,ϋ,Ρ ζ,List.getElem?_take,Δ ω];simpa using this
    ·have hj2:j=xs.length:=by
      have:=(List.getElem?_eq_some_iff.1 hj).1;rw [υ] at this;simp at this;omega
     subst hj2;rw [ϊ (Θ _)] at hj;simp at hj;subst hj;rw [List.getElem?_toArray,ϋ,ϊ ζ];simp [Nat.min_eq_left hlen]
   ·exact ⟨rfl,rfl,rfl,σ,fun k hk hm=>setRow_other w g k _ (fun e=>hm (by simp [Value.ownBlock,e]))⟩
  ·obtain ⟨v',w',hr,h2,h3⟩:=run_append_arg_grows (P:=Tryz.prog) w t ty 3 i (.int .i64 0) 1 8 ht hi hz0 hz1 hz2 rfl δ ⟨g,off,none⟩ xs.length cap (aP xs) (by rw [fq,Nat.mul_one]) (fun j x hj=>by
    unfold aP at hj;rw [ϑ] at hj;cases hq:xs[j]? with
    | none=>rw [hq] at hj;cases hj
    | some y=>
     rw [hq] at hj;simp at hj;subst hj;rw [Addr.add_lit];unfold World.cell?;simp only [hh]
     simpa using hc4 j y hq) ⟨g1,0,none⟩ 1 1 [.int .i64 u] rfl hnews ω μ ω
   have h4:w'.ownsRow w.heap.size 3 1 v' (xs++[u]).length (aP (xs++[u])):=by rw [υ,bP];exact h2
   exact ⟨v',w',hr,(aX.gW h4).mono hbase,(aa.refl _ _).grown h3 (fun k hk=>by cases hk),fun k hk=>Β (h2.lt k hk).1⟩
theorem uI {o:Oper} {a:Act} {w:World} {K:Act->World->Prop} {Q:Exit->Act->World->Prop} (s x:Operand) (t:TypeId)
  (ho:o.op=.call { callee:=.builtin .append,args:=#[s,x],argTypes:=#[t,t] }) (ht:Tryz.prog.underlying t=some (.slice 3))
  (base:Nat) (v:Value) (xs:List Int) (hs:a.eval s=v) (hown:aX w base v xs)
  (g1:Nat) (u:Int) (hx:a.eval x=.slice (some ⟨g1,0,none⟩) 1 1) (hnew:w.cell? ⟨g1,0,none⟩=some (.int .i64 u)) (hn:xs.length+1<=1000000) (hbase:base<=w.heap.size)
  (h:∀v' w',aX w' base v' (xs++[u])->aa v.ownBlock.toList w w'->(∀k,v'.ownBlock=some k->v.ownBlock=some k\/w.heap.size<=k)->K (a.put o.dst v') w'):Oper.wp Tryz.prog o a w K Q:=by
 obtain ⟨v',w',hr,h2,h3,h4⟩:=Am hown t o.type ht g1 u hnew hn hbase;unfold Oper.wp execOp;simp only [ho,resolve,invoke,builtin,Sem.run_bind,Sem.run_pure,Result.andThen_ok,List.map_toArray,List.map_cons,List.map_nil,hs,hx,hr];exact h _ _ h2 h3 h4
theorem qO {ops:Array Oper} {o:Oper} {a:Act} {w:World} {K:Act->World->Prop} {Q:Exit->Act->World->Prop} {E:Prop} (hgd:o.guard=none) (s x:Operand) (t:TypeId)
  (ho:o.op=.call { callee:=.builtin .append,args:=#[s,x],argTypes:=#[t,t] }) (ht:Tryz.prog.underlying t=some (.slice 3))
  (base:Nat) (v:Value) (xs:List Int) (hs:a.eval s=v) (hown:aX w base v xs)
  (g1:Nat) (u:Int) (hx:a.eval x=.slice (some ⟨g1,0,none⟩) 1 1) (hnew:w.cell? ⟨g1,0,none⟩=some (.int .i64 u)) (hn:xs.length+1<=1000000) (hbase:base<=w.heap.size)
  (h:∀v' w',aX w' base v' (xs++[u])->aa v.ownBlock.toList w w'->(∀k,v'.ownBlock=some k->v.ownBlock=some k\/w.heap.size<=k)->K (a.put o.dst v') w') :
  if Region.wanted o (yielded ops a.tmps)=true then Oper.wp Tryz.prog o a w K Q else E:=by
 have hw:Region.wanted o (yielded ops a.tmps)=true:=by simp [Region.wanted,hgd]
 rw [Δ hw];exact uI s x t ho ht base v xs hs hown g1 u hx hnew hn hbase h
theorem vE {ops:Array Oper} {rest:List Oper} {o:Oper} {a:Act} {w:World} {Q:Exit->Act->World->Prop} (hgd:o.guard=none) (s x:Operand) (t:TypeId)
  (ho:o.op=.call { callee:=.builtin .append,args:=#[s,x],argTypes:=#[t,t] }) (ht:Tryz.prog.underlying t=some (.slice 3))
  (base:Nat) (v:Value) (xs:List Int) (hs:a.eval s=v) (hown:aX w base v xs)
  (g1:Nat) (u:Int) (hx:a.eval x=.slice (some ⟨g1,0,none⟩) 1 1) (hnew:w.cell? ⟨g1,0,none⟩=some (.int .i64 u)) (hn:xs.length+1<=1000000) (hbase:base<=w.heap.size)
  (h:∀v' w',aX w' base v' (xs++[u])->aa v.ownBlock.toList w w'->(∀k,v'.ownBlock=some k->v.ownBlock=some k\/w.heap.size<=k)->wpList Tryz.prog ops Q rest (a.put o.dst v') w'):wpList Tryz.prog ops Q (o::rest) a w:=
 wpList_plain hgd fun _ hK=>uI s x t ho ht base v xs hs hown g1 u hx hnew hn hbase fun v' w' h2 h3 h4=>hK _ _ (h v' w' h2 h3 h4)
theorem iC.tail {w:World} {F:List Nat} {v:Value} {x:Int} {xs:List Int} (h:iC w F v (x::xs)):iC w F (tailV v) xs:=by
 obtain ⟨a,cap,rfl,h1,h2,h3⟩:=h;obtain ⟨g,off,rfl,hg,hF,_⟩:=h3 0 x rfl;simp only [Ω] at h1 ⊢;unfold tailV;simp only [Nat.add_sub_cancel];refine ⟨_,_,rfl,ω,ω,fun j u hj=>?_⟩;have hjl:j<xs.length:=(List.getElem?_eq_some_iff.1 hj).1;rw [Γ ω];obtain ⟨g2,off2,he,hg2,hF2,hc⟩:=h3 (j+1) u (by simpa using hj);simp only [ϖ,Addr.mk.injEq,and_true] at he;obtain ⟨rfl,rfl⟩:=he;exact ⟨g,off+1,by simp [Addr.add_lit],hg,hF,by rw [show off+1+j=off+(j+1) by omega];exact hc⟩
theorem iC.Zd {w:World} {F:List Nat} {lo:Nat} {v:Value} {xs:List Int} (h:iY w lo v xs.length (aP xs)) (hF:∀g,g∈F->g<lo):iC w F v xs:=by
 obtain ⟨a,cap,rfl,h1,h2,h3⟩:=h.open;refine ⟨a,cap,rfl,h2,h1,fun j u hj=>?_⟩;have hjl:j<xs.length:=(List.getElem?_eq_some_iff.1 hj).1;obtain ⟨g,rfl,hlo,hg,hc⟩:=h3 ω;exact ⟨g,0,rfl,hg,fun hm=>by have:=hF g hm;omega,by rw [ϓ];exact hc j _ (by unfold aP;rw [ϑ,hj];rfl)⟩
theorem iC.upd {w w':World} {F G:List Nat} {v:Value} {xs:List Int} (h:iC w F v xs) (hu:aa G w w') (hG:∀g,g∈G->g∈F):iC w' F v xs:=by
 obtain ⟨a,cap,rfl,h1,h2,h3⟩:=h;refine ⟨a,cap,rfl,h1,h2,fun j u hj=>?_⟩;obtain ⟨g,off,rfl,hg,hF,hc⟩:=h3 j u hj;exact ⟨g,off,rfl,Ψ hg hu.size,hF,by rw [hu.cell hg (fun hm=>hF (hG _ hm))];exact hc⟩
theorem Tt (bt ba lo n:Nat) (S:CS) (v:Value) (l:List Int) (w:World) (h:aQ w bt ba lo n S) (F:List Nat) (hv:iC w F v l) :
  Calls Tryz.prog 200 #[.pointer (some ⟨bt,0,none⟩),v] w fun e w'=>e=.returned (.bool (Nv n S l))/\w'=w:=by
 obtain ⟨a,cap,rfl,hlc,hcp,hp⟩:=hv;have HP:=χ hp;clear hp;unfold Nv;generalize hlen:l.length=len at *;have HLEN:=χ hlen;clear hlen;have kR:=fun x=>vY bt ba lo n S x w h;have kD:=fun x=>qL bt ba lo n S x w h;clear h
 go_enter Tryz.func200,Tryz.ntmps200
 go_wp2
 go_loop [9] (fun i=>∃k:Nat,k<=len/\i=.int .i64 (k:Int)/\wy n S l k=true) (fun i=>len-(intOf i).toNat)
 case atStart=>exact ⟨0,ω,rfl,rfl⟩
 case round=>
  obtain ⟨k,hk,rfl,ht⟩:=hrel
  by_cases hlt:k<len
  ·obtain ⟨g,off,rfl,_,_,c1⟩:=HP.out k (l.getD k 0) (by simp [φ,HLEN.out,hlt]);have c2:0<k->w.cell? ⟨g,off+(k-1),none⟩=some (.int .i64 (l.getD (k-1) 0)):=fun hk0=>by
    have hk1:k-1<l.length:=by rw [HLEN.out];omega
    obtain ⟨g2,off2,he,_,_,c⟩:=HP.out (k-1) (l.getD (k-1) 0) (by simp [φ,hk1]);simp only [ϖ,Addr.mk.injEq,and_true] at he;obtain ⟨rfl,rfl⟩:=he;exact c
   have hsu:=Kw n S l k;have hno:=Qd n S l k ht;rw [ht,Bool.true_and] at hsu;unfold rowOk at hsu hno;have HS:=χ hsu;have HN:=χ hno;have k1:=kR (l.getD k 0);have k2:=kD (l.getD k 0);have k3:=kD (l.getD (k-1) 0);clear hsu hno ht kR kD;generalize l.getD k 0=x at *;generalize l.getD (k-1) 0=y at *;generalize oh n S x=b at *;generalize nW n S x=d at *;generalize nW n S y=d2 at *;cases b with
   | false=>
    go_wp2_with (go_at_call 198;refine (k1).mono ?_;rintro e w' ⟨rfl,rfl⟩)
    go_ret;exact ⟨aU (HN.out rfl _ hlt).symm,rfl⟩
   | true=>
    by_cases hk0:k=0
    ·subst hk0;clear c2;rw [ϔ] at c1
     go_wp2_with (go_at_call 198;refine (k1).mono ?_;rintro e w' ⟨rfl,rfl⟩)
     go_round
     case rel=>exact ⟨1,ω,rfl,HS.out⟩
     case measure=>simp [intOf];omega
    ·have c3:=c2 ω;have hk1:1<=k:=ω;clear c2;obtain ⟨k',rfl⟩:∃k',k=k'+1:=⟨k-1,ω⟩;simp only [Nat.add_sub_cancel] at c3
     by_cases hd:d2<d
     ·have hd':¬ (d<=d2):=ω
      go_wp2_with (first|(go_at_call 198;(with_reducible refine (k1).mono ?_);rintro e w' ⟨rfl,rfl⟩)|(go_at_call 204;(with_reducible refine (k3).mono ?_);rintro e w' ⟨rfl,rfl⟩)|(go_at_call 204;(with_reducible refine (k2).mono ?_);rintro e w' ⟨rfl,rfl⟩))
      go_round
      case rel=>exact ⟨k'+1+1,ω,by go_num,by rw [HS.out];simp [hd]⟩
      case measure=>simp [intOf];omega
     ·have hd':d<=d2:=ω
      go_wp2_with (first|(go_at_call 198;(with_reducible refine (k1).mono ?_);rintro e w' ⟨rfl,rfl⟩)|(go_at_call 204;(with_reducible refine (k3).mono ?_);rintro e w' ⟨rfl,rfl⟩)|(go_at_call 204;(with_reducible refine (k2).mono ?_);rintro e w' ⟨rfl,rfl⟩))
      go_ret;exact ⟨aU (HN.out ζ _ hlt).symm,rfl⟩
  ·obtain rfl:k=len:=ω;go_wp2;go_ret;exact ⟨by first|rfl|exact aU ht.symm,rfl⟩
theorem Iw (w:World) (F:List Nat) (v:Value) (l:List Int) (x:Int) (h:iC w F v l) :
  Calls Tryz.prog 189 #[v,.int .i64 x] w fun e w'=>e=.returned (.int .i64 (idxOf l x))/\w'=w:=by
 obtain ⟨a,cap,rfl,hlc,hcp,hp⟩:=h;have HP:=χ hp;clear hp;generalize hlen:l.length=len at *;have HLEN:=χ hlen;clear hlen
 go_enter Tryz.func189,Tryz.ntmps189
 go_wp2
 go_loop [8] (fun i=>∃q:Nat,q<=len/\i=.int .i64 (q:Int)/\x∉l.take q) (fun i=>len-(intOf i).toNat)
 case atStart=>exact ⟨0,ω,rfl,σ⟩
 case round=>
  obtain ⟨q,hq,rfl,hn⟩:=hrel
  by_cases hlt:q<len
  ·obtain ⟨y,pM⟩:∃y,l[q]?=some y:=⟨l[q]'(by rw [HLEN.out];exact hlt),σ⟩;obtain ⟨gb,off,rfl,_,_,hc⟩:=HP.out q y pM
   by_cases hxy:x=y
   ·subst hxy;have hi:=Gh l x q hn pM;have HI:=χ hi;clear hn pM hi;go_wp2;go_ret;exact ⟨jL HI.out.symm,rfl⟩
   ·have b1:(x == y)=false:=by simpa using hxy
    have hn2:x∉l.take (q+1):=by rw [Ϗ,pM];simp;exact ⟨hn,hxy⟩
    have HN2:=χ hn2;clear hn pM hn2 hxy;go_wp2
    go_round
    case rel=>exact ⟨q+1,ω,by go_num,HN2.out⟩
    case measure=>simp [intOf];omega
  ·obtain rfl:q=len:=ω;rw [List.take_of_length_le (by rw [HLEN.out];omega)] at hn;have HI:=χ (zG l x hn);clear hn;go_wp2;go_ret;exact ⟨jL HI.out.symm,rfl⟩
theorem Hy (w:World) (F:List Nat) (v:Value) (l:List Int) (x:Int) (h:iC w F v l) :
  Calls Tryz.prog 203 #[v,.int .i64 x] w fun e w'=>e=.returned (.bool (decide (x∈l)))/\w'=w:=by
 have k1:=Iw w F v l x h;obtain ⟨a,cap,rfl,_⟩:=h
 by_cases hx:x∈l
 ·obtain ⟨i,hi,he,_⟩:=vC l x hx;rw [he] at k1
  go_enter Tryz.func203,Tryz.ntmps203
  go_wp2_with ((go_at_call 189;(with_reducible refine (k1).mono ?_);rintro e w9 ⟨rfl,aI⟩;rw [aI];clear aI w9))
  go_ret;exact ⟨aU (by simp [hx]),rfl⟩
 ·rw [zG l x hx] at k1
  go_enter Tryz.func203,Tryz.ntmps203
  go_wp2_with ((go_at_call 189;(with_reducible refine (k1).mono ?_);rintro e w9 ⟨rfl,aI⟩;rw [aI];clear aI w9))
  go_ret;exact ⟨aU (by simp [hx]),rfl⟩
theorem Qo (w:World) (F:List Nat) (B7:Nat) (v:Value) (l:List Int) (x:Int) (h:iC w F v l) (hr:aK w B7 26 1 (fun _=>v)) :
  Calls Tryz.prog 202 #[.int .i64 x,.pointer (some ⟨B7,0,none⟩)] w fun e w'=>e=.returned (.bool (decide (x∈l)))/\w'=w:=by
 have k1:=Hy w F v l x h;have c0:=hr.cell 0 ω;obtain ⟨a,cap,rfl,_⟩:=h
 go_enter Tryz.func202,Tryz.ntmps202
 go_wp2_with ((go_at_call 203;(with_reducible refine (k1).mono ?_);rintro e w9 ⟨rfl,aI⟩;rw [aI];clear aI w9))
 go_ret;exact ⟨rfl,rfl⟩
theorem Kt (w:World) (F:List Nat) (B7:Nat) (va v:Value) (A l:List Int) (ha:iC w F va A) (h:iC w F v l) (hr:aK w B7 26 1 (fun _=>v)) :
  Calls Tryz.prog 197 #[va,.func (Fn.func 202) #[] #[.pointer (some ⟨B7,0,none⟩)]] w fun e w'=>(∃i:Int,e=.returned (.int .i64 i)/\decide (0<=i)=A.any (fun x=>decide (x∈l)))/\w'=w:=by
 have kC:=fun x=>Qo w F B7 v l x h hr;clear h hr;obtain ⟨a,cap,rfl,hlc,hcp,hp⟩:=ha;have HP:=χ hp;clear hp;generalize hlen:A.length=len at *;have HLEN:=χ hlen;clear hlen
 go_enter Tryz.func197,Tryz.ntmps197
 go_wp2
 go_loop [8] (fun i=>∃q:Nat,q<=len/\i=.int .i64 (q:Int)/\(A.take q).any (fun x=>decide (x∈l))=false) (fun i=>len-(intOf i).toNat)
 case atStart=>exact ⟨0,ω,rfl,σ⟩
 case round=>
  obtain ⟨q,hq,rfl,hn⟩:=hrel
  by_cases hlt:q<len
  ·obtain ⟨y,pM⟩:∃y,A[q]?=some y:=⟨A[q]'(by rw [HLEN.out];exact hlt),σ⟩;obtain ⟨gb,off,rfl,_,_,hc⟩:=HP.out q y pM;have k1:=kC y
   by_cases hy:y∈l
   ·rw [Ν hy] at k1;have hfin:A.any (fun x=>decide (x∈l))=true:=List.any_eq_true.2 ⟨y,Η pM,by simpa using hy⟩;have HF:=χ hfin;clear hn pM hy kC hfin
    go_wp2_with ((go_at_call 202;(with_reducible refine (k1).mono ?_);rintro e w9 ⟨rfl,aI⟩;rw [aI];clear aI w9))
    go_ret;exact ⟨⟨_,rfl,by rw [HF.out];simp⟩,rfl⟩
   ·rw [Ξ hy] at k1;have hn2:(A.take (q+1)).any (fun x=>decide (x∈l))=false:=by rw [Ϗ,pM,List.any_append,hn];simpa using hy
    have HN2:=χ hn2;clear hn pM hn2 hy kC
    go_wp2_with ((go_at_call 202;(with_reducible refine (k1).mono ?_);rintro e w9 ⟨rfl,aI⟩;rw [aI];clear aI w9))
    go_round
    case rel=>exact ⟨q+1,ω,by go_num,HN2.out⟩
    case measure=>simp [intOf];omega
  ·obtain rfl:q=len:=ω;rw [List.take_of_length_le (by rw [HLEN.out];omega)] at hn;have HN:=χ hn;clear hn kC;go_wp2;go_ret;exact ⟨⟨_,rfl,by rw [HN.out];rfl⟩,rfl⟩
theorem BJ (w:World) (F:List Nat) (B7:Nat) (va v:Value) (A l:List Int) (ha:iC w F va A) (h:iC w F v l) (hr:aK w B7 26 1 (fun _=>v)) :
  Calls Tryz.prog 201 #[va,.func (Fn.func 202) #[] #[.pointer (some ⟨B7,0,none⟩)]] w fun e w'=>e=.returned (.bool (A.any (fun x=>decide (x∈l))))/\w'=w:=by
 have k1:=Kt w F B7 va v A l ha h hr;generalize A.any (fun x=>decide (x∈l))=b at *;obtain ⟨a,cap,rfl,_⟩:=ha;clear h hr
 go_enter Tryz.func201,Tryz.ntmps201
 go_wp2_with (go_at_call 197;(with_reducible refine (k1).mono ?_);rintro e w9 ⟨⟨i,rfl,hi⟩,aI⟩;rw [aI];clear aI w9;have HI:=χ hi;clear hi)
 go_ret;exact ⟨aU (by first|exact HI.out|(rw [←HI.out];simp)),rfl⟩
def oo (S:CS) (v:Value) (a b:Nat):CS:=(S.Bz a v (S.k a++[(b:Int)])).rG b a
theorem FV (bt ba lo n:Nat) (S:CS) (a b:Nat) (w:World) (h:aQ w bt ba lo n S) (ha:a<n) (hb:b<n) (hra:oh n S a=true) (hrb:oh n S b=true) (hne:a≠b) (hd:nW n S a=nW n S b) (hlen:(S.k a).length+1<=n) :
    Calls Tryz.prog 206 #[.pointer (some ⟨bt,0,none⟩),.int .i64 (a:Int),.int .i64 (b:Int)] w fun e w'=>∃v,e=.returned (.bool true)/\aQ w' bt ba lo n (oo S v a b)/\aa (ba::S.blk n) w w'/\(∀g,g∈(oo S v a b).blk n->g∈S.blk n\/w.heap.size<=g):=by
  have hle:=h.le;have hl1:=h.TY;have hl2:=h.LC;have hlow:=h.low;have hnb:=h.ne;have k1:=vY bt ba lo n S a w h;have k2:=vY bt ba lo n S b w h;have k3:=qL bt ba lo n S a w h;have k4:=qL bt ba lo n S b w h;rw [hra] at k1;rw [hrb] at k2;rw [hd] at k3;have b1:((a:Int) == (b:Int))=false:=ζ;have ho:=h.own a ha;obtain ⟨sa,cap,hv,hcap⟩:=aY ho;have WH:∀g,g∈(S.v a).ownBlock.toList->lo<=g/\g<w.heap.size:=fun g hg=>ho.lt g (by simpa using hg);have r1:∀W,aa (S.v a).ownBlock.toList w W->W.cell? ⟨bt,0,none⟩=some (.slice (some ⟨ba,0,none⟩) n n):=fun W hW=>by
    rw [hW.cell h.head.lt (fun hm=>by have:=WH _ hm;simp at this;omega)];exact h.head.cell 0 ω
  have r2:∀W,aa (S.v a).ownBlock.toList w W->W.cell? ⟨ba,a*2,none⟩=some (S.v a):=fun W hW=>by
    rw [hW.cell h.row.lt (fun hm=>by have:=WH _ hm;simp at this;omega)];exact h.row.cellAt (a*2) ω (ni S a)
  have r3:∀W,aa (S.v a).ownBlock.toList w W->W.cell? ⟨ba,b*2+1,none⟩=some (.int .i64 (S.u b)):=fun W hW=>by
    rw [hW.cell h.row.lt (fun hm=>by have:=WH _ hm;simp at this;omega)];exact h.row.cellAt (b*2+1) ω (tO S b)
  have q1:∀W,aa (S.v a).ownBlock.toList w W->W.frozen? ⟨ba,a*2,none⟩=false:=fun W hW=>by
    rw [hW.frozen h.row.lt (fun hm=>by have:=WH _ hm;simp at this;omega)];exact h.row.free _
  have q2:∀W,aa (S.v a).ownBlock.toList w W->W.frozen? ⟨ba,b*2+1,none⟩=false:=fun W hW=>by
    rw [hW.frozen h.row.lt (fun hm=>by have:=WH _ hm;simp at this;omega)];exact h.row.free _
  have s0:aa (S.v a).ownBlock.toList w w:=aa.refl _ _;have H:=χ h;have HV:=χ hv;have hk:=fq (S.k a);have HLEN:=χ hlen;generalize hva:S.v a=va at *;have HVA:=χ hva;subst hv;clear h hra hrb hd hva hne
  go_enter Tryz.func206,Tryz.ntmps206
  go_wp2_with (first
    | (go_at_call 198;(with_reducible refine (k1).mono ?_);rintro e w9 ⟨rfl,aI⟩;rw [aI];clear aI w9)
    | (go_at_call 198;(with_reducible refine (k2).mono ?_);rintro e w9 ⟨rfl,aI⟩;rw [aI];clear aI w9)
    | (go_at_call 204;(with_reducible refine (k3).mono ?_);rintro e w9 ⟨rfl,aI⟩;rw [aI];clear aI w9)
    | (go_at_call 204;(with_reducible refine (k4).mono ?_);rintro e w9 ⟨rfl,aI⟩;rw [aI];clear aI w9))
  have s1:aa (Value.slice sa (S.k a).length cap).ownBlock.toList w (w.drew.alloc (.cells #[.int .i64 (b:Int)] 3)):=s0.drew.alloc _;have g1:=r1 _ s0;have g2:=r2 _ s0;have a1:=r1 _ (s0.alloc (.cells #[.int .i64 (b:Int)] 3));have a2:=r2 _ (s0.alloc (.cells #[.int .i64 (b:Int)] 3))
  go_region_law
    (first
      | (refine iL rfl _ _ 26 rfl lo 3 (.int .i64 0) 1 8 Tryz.underlying26 fE rfl δ (.slice sa (S.k a).length cap) (S.k a).length (aP (S.k a)) rfl (ho.drew.alloc _) w.heap.size [.int .i64 (b:Int)] rfl rfl (fun j u hj=>ma w [.int .i64 (b:Int)] 3 j u hj) (by simp [Value.oneCell']) μ ω ζ ?_
         intro v2 w2 ho2 hu2 hv2;have hS2:aa (Value.slice sa (S.k a).length cap).ownBlock.toList w w2:=s1.trans hu2;have g3:=r1 _ hS2;have g4:=r2 _ hS2;have g5:=q1 _ hS2
         obtain ⟨a2,cap2,rfl,hcap2⟩:=aY ho2))
  all_goals
    have ho3:w2.ownsRow lo 3 1 (.slice a2 ((S.k a).length+1) cap2) (S.k a++[(b:Int)]).length (aP (S.k a++[(b:Int)])):=by rw [bP,υ];exact ho2
    have hF:=H.out.Vw a ha (.slice a2 ((S.k a).length+1) cap2) (S.k a++[(b:Int)]) hS2 (fun g hg=>by rw [HVA.out];simpa using hg) ho3 (fun g hg=>by
      rcases hv2 with h|h
      · rw [h] at hg;exact Α (by rw [HVA.out];exact hg)
      · rw [h] at hg;simp at hg;exact Β ω) (by rw [υ];exact hlen)
    have e0:=hF.head.cell 0 ω;have e1:=hF.row.cell (b*2+1) ω;have e2:=hF.row.free (b*2+1);have HF:=χ hF;have HV2:=χ hv2;clear hF hv2 ho2 ho3 r1 r2 r3 q1 q2;go_wp2;go_ret;refine ⟨_,rfl,HF.out.bO b hb a,?_,fun g hg=>?_⟩
    · refine ((hS2.mono (fun g hg=>?_)).setCell (Α σ) _).setCell (Α σ) _
      simp only [ρ];refine Β ((S.jK n g).2 ⟨a,ha,?_⟩);rw [HVA.out];simpa using hg
    · rcases S.Tc a (.slice a2 ((S.k a).length+1) cap2) (S.k a++[(b:Int)]) n g hg with h|h
      · exact Α h
      · rcases HV2.out with h2|h2
        · exact Α ((S.jK n g).2 ⟨a,ha,by rw [HVA.out,←h2];exact h⟩)
        · rw [h2] at h;simp at h;exact Β ω
end Go.Proofs.YtklibcncmbofpaaGreat
namespace Go.Proofs.YtklibcncmbofpaaGreat
def jE (lt:Int->Int->Bool) (a b:Nat):Nat:=if lt b a then b else a
def mE (lt:Int->Int->Bool) (a b:Nat):Nat:=if lt b a then a else b
structure CF where
 k:Nat->List Int
 u:Nat->Int
def CS.f (S:CS):CF:=⟨S.k,S.u⟩
def Aj (n:Nat) (F:CF) (x:Int):Bool:=decide (0<=x/\x<n) && F.u x.toNat == -1
def dm (n:Nat) (F:CF) (x:Int):Int:=if 0<=x/\x<n then (F.k x.toNat).length else 0
theorem X9 (n:Nat) (S:CS) (x:Int):oh n S x=Aj n S.f x:=rfl
theorem Xd (n:Nat) (S:CS) (x:Int):nW n S x=dm n S.f x:=rfl
def gV (F:CF) (a b:Nat):CF:=⟨fun y=>if y=a then F.k a++[(b:Int)] else F.k y,fun y=>if y=b then (a:Int) else F.u y⟩
theorem Ye (S:CS) (v:Go.Value) (a b:Nat):(oo S v a b).f=gV S.f a b:=rfl
structure CC where
 F:CF
 A:List Int
 B:List Int
 N:List Int
 O:List Int
 q:Nat
def takeA (n k:Nat) (C:CC):CC:=match C.A with|x::t=>(if dm n C.F x=k then { C with A:=t,N:=C.N++[x] } else C)|[]=>C
def takeB (n k:Nat) (C:CC):CC:=match C.B with|x::t=>(if dm n C.F x=k then { C with B:=t,N:=C.N++[x] } else C)|[]=>C
def fA (C:CC):CC:=match C.N with|[x]=>{ C with N:=[],O:=C.O++[x] }|[x,y,z]=>{ C with N:=[y,z],O:=C.O++[x] }|_=>C
def mH (lt:Int->Int->Bool) (C:CC):CC:=match C.N with
 | [x,y]=>{ C with F:=gV C.F (jE lt x.toNat y.toNat) (mE lt x.toNat y.toNat),N:=[(jE lt x.toNat y.toNat:Int)],q:=C.q+1 }
 | _=>C
def Fe (lt:Int->Int->Bool) (n k:Nat) (C:CC):CC:=mH lt (fA (takeB n k (takeA n k C)))
def gG (lt:Int->Int->Bool) (n:Nat):Nat->CC->CC
 | 0,C=>C
 | k+1,C=>Fe lt n k (gG lt n k C)
structure LK (dom:Int->Prop) (lt:Int->Int->Bool) (n k:Nat) (C:CC):Prop where
 few:C.N.length<=1
 join:∀x y,(fA (takeB n k (takeA n k C))).N=[x,y]->∃a b:Nat,x=a/\y=b/\dom a/\dom b/\a<n/\b<n/\a≠b/\Aj n (fA (takeB n k (takeA n k C))).F a=true/\Aj n (fA (takeB n k (takeA n k C))).F b=true/\
  dm n (fA (takeB n k (takeA n k C))).F a=dm n (fA (takeB n k (takeA n k C))).F b/\((fA (takeB n k (takeA n k C))).F.k a).length+1<=n/\((fA (takeB n k (takeA n k C))).F.k b).length+1<=n
 small:C.A.length+C.B.length+C.O.length<=100000
 asked:C.q<=1000000
 ends:C.A≠[]\/C.B≠[]\/C.N≠[]->k<=n
def tA (n k:Nat) (A:List Int) (F:CF):Bool:=match A with|x::_=>dm n F x == (k:Int)|[]=>false
def tot (C:CC):Nat:=C.A.length+C.B.length+C.N.length+C.O.length
theorem xG (n k:Nat) (C:CC):tot (takeA n k C)=tot C/\(takeA n k C).N.length<=C.N.length+1:=by
 unfold takeA tot
 split
 ·rename_i x t h
  split
  ·simp only [h,υ,Ω,List.length_nil];omega
  ·simp
 ·simp
theorem xJ (n k:Nat) (C:CC):tot (takeB n k C)=tot C/\(takeB n k C).N.length<=C.N.length+1:=by
 unfold takeB tot
 split
 ·rename_i x t h
  split
  ·simp only [h,υ,Ω,List.length_nil];omega
  ·simp
 ·simp
theorem OC (C:CC) (h3:C.N.length<=3):tot (fA C)=tot C/\(fA C).N.length<=2:=by
 obtain ⟨F,A,B,N,O,q⟩:=C;simp only at h3
 match N,h3 with
 | [],_=>simp [fA,tot]
 | [x],_=>simp [fA,tot];try omega
 | [x,y],_=>simp [fA,tot]
 | [x,y,z],_=>simp [fA,tot];try omega
 | _::_::_::_::_,h3=>simp at h3;try omega
theorem Sb (n k:Nat) (C:CC):(fA (takeB n k (takeA n k C))).q=C.q:=by
 have h1:∀C,(fA C).q=C.q:=fun C=>by unfold fA;split<;>rfl
 have h2:∀C,(takeB n k C).q=C.q:=fun C=>by
  unfold takeB;split
  ·split<;>rfl
  ·rfl
 have h3:∀C,(takeA n k C).q=C.q:=fun C=>by
  unfold takeA;split
  ·split<;>rfl
  ·rfl
 rw [h1,h2,h3]
end Go.Proofs.YtklibcncmbofpaaGreat
namespace Go.Proofs.YtklibcncmbofpaaGreat
open Go Go.RowKit
structure uA where
 ty:TypeId
 p:Nat
 rd:List Nat
 wr:List Nat
 lt:Int->Int->Bool
 dom:Int->Prop
 at_:World->Nat->Prop
 sub:∀x,x∈wr->x∈rd
 low:∀ {w:World} {q:Nat},at_ w q->∀x,x∈rd->x<w.heap.size
 upd:∀ {w w':World} {S:List Nat} {q:Nat},at_ w q->aa S w w'->(∀x,x∈S->x∉rd)->at_ w' q
 asym:∀a b,lt a b=true->lt b a=false
 ahead:∀ {w:World} {q:Nat} (x y:Int),at_ w q->dom x->dom y->q<=1000000->N9 ty p "Ahead" w (fun v=>#[v,.int .i64 x,.int .i64 y]) fun w e w'=>e=.returned (.bool (lt x y))/\at_ w' (q+1)/\aa wr w w'
structure Apart (O:uA) (bt ba n:Nat) (S:CS):Prop where
 bt:bt∉O.rd
 ba:ba∉O.rd
 blk:∀g,g∈S.blk n->g∉O.rd
theorem Apart.rd {O:uA} {bt ba n:Nat} {S:CS} (h:Apart O bt ba n S):∀g,g∈ba::S.blk n->g∉O.rd:=fun g hg=>by
 rcases ρ.1 hg with rfl|hg
 ·exact h.ba
 ·exact h.blk g hg
theorem Apart.wr {O:uA} {bt ba n:Nat} {S:CS} (h:Apart O bt ba n S):bt∉O.wr/\ba∉O.wr/\∀g,g∈S.blk n->g∉O.wr:=
 ⟨fun hm=>h.bt (O.sub _ hm),fun hm=>h.ba (O.sub _ hm),fun g hg hm=>h.blk g hg (O.sub _ hm)⟩
theorem RO (O:uA) (bt ba lo n:Nat) (S:CS) (asked a b:Nat) (w:World) (h:aQ w bt ba lo n S) (hO:O.at_ w asked) (hda:O.dom a) (ZW:O.dom b) (hk:asked<=1000000)
  (ha:a<n) (hb:b<n) (hra:oh n S a=true) (hrb:oh n S b=true) (hne:a≠b) (hd:nW n S a=nW n S b) (hl1:(S.k a).length+1<=n) (hl2:(S.k b).length+1<=n)
  (hA:Apart O bt ba n S) :
  Calls Tryz.prog 205 #[.pointer (some ⟨bt,0,none⟩),.iface O.ty (.pointer (some ⟨O.p,0,none⟩)),.int .i64 (a:Int),.int .i64 (b:Int)] w fun e w'=>
   ∃v,e=.returned (.int .i64 (jE O.lt a b:Int))/\aQ w' bt ba lo n (oo S v (jE O.lt a b) (mE O.lt a b))/\O.at_ w' (asked+1)/\aa (O.wr++ba::S.blk n) w w'/\(∀g,g∈(oo S v (jE O.lt a b) (mE O.lt a b)).blk n->g∈S.blk n\/w.heap.size<=g):=by
 obtain ⟨f,fv,hen,hm,hc⟩:=(O.ahead (b:Int) (a:Int) hO ZW hda hk).now;unfold Enters at hen;have hF:=fun W (hW:aa O.wr w W)=>h.upd hW hA.wr.1 hA.wr.2.1 hA.wr.2.2;have kL1:=fun W (hW:aa O.wr w W)=>FV bt ba lo n S a b W (hF W hW) ha hb hra hrb hne hd hl1;have kL2:=fun W (hW:aa O.wr w W)=>FV bt ba lo n S b a W (hF W hW) hb ha hrb hra (Ne.symm hne) hd.symm hl2;have HS:=χ hA.rd;clear hF h hO hA hd hra hrb hda ZW;unfold jE mE;generalize O.ty=ty at *;cases hab:O.lt b a with
 | true=>
  rw [hab] at hc;rw [Δ rfl,Δ rfl];clear hab kL1
  go_enter Tryz.func205,Tryz.ntmps205
  go_wp2_with (first
   | ((with_reducible refine (hc).mono ?_);rintro e w1 ⟨rfl,hL1,hu1⟩)
   | ((go_at_call 206;(with_reducible refine (kL2 _ hu1).mono ?_));rintro e w2 ⟨v2,rfl,hF2,hu2,hb2⟩))
  go_ret;refine ⟨_,rfl,hF2,O.upd hL1 hu2 HS.out,(hu1.mono (by simp +contextual)).trans (hu2.mono (fun g hg=>τ.2 (Β hg))),fun g hg=>?_⟩;rcases hb2 g hg with h|h
  ·exact Α h
  ·exact Β (Χ hu1.size h)
 | false=>
  rw [hab] at hc;rw [Γ σ,Γ σ];clear hab kL2
  go_enter Tryz.func205,Tryz.ntmps205
  go_wp2_with (first
   | ((with_reducible refine (hc).mono ?_);rintro e w1 ⟨rfl,hL1,hu1⟩)
   | ((go_at_call 206;(with_reducible refine (kL1 _ hu1).mono ?_));rintro e w2 ⟨v2,rfl,hF2,hu2,hb2⟩))
  go_ret;refine ⟨_,rfl,hF2,O.upd hL1 hu2 HS.out,(hu1.mono (by simp +contextual)).trans (hu2.mono (fun g hg=>τ.2 (Β hg))),fun g hg=>?_⟩;rcases hb2 g hg with h|h
  ·exact Α h
  ·exact Β (Χ hu1.size h)
theorem iC.shape {w:World} {F:List Nat} {v:Value} {xs:List Int} (h:iC w F v xs):∃a cap,v=.slice a xs.length cap/\cap<=9223372036854775807:=by
 obtain ⟨a,cap,rfl,_,h2,_⟩:=h;exact ⟨a,cap,rfl,h2⟩
structure KM (O:uA) (w0 w:World) (bt ba lo n:Nat) (F0:List Nat) (va vb vn vo:Value) (C:CC):Prop where
 uW:∃S:CS,S.f=C.F/\aQ w bt ba lo n S/\Apart O bt ba n S/\(∀g,g∈S.blk n->g∈F0\/w0.heap.size<g)/\(∀g,vn.ownBlock=some g->g∉S.blk n)/\(∀g,vo.ownBlock=some g->g∉S.blk n)
 ZJ:O.at_ w C.q
 a:iC w0 F0 va C.A
 b:iC w0 F0 vb C.B
 box:aK w w0.heap.size 26 1 (fun _=>vb)
 now:aX w (w0.heap.size+1) vn C.N
 out:aX w (w0.heap.size+1) vo C.O
 sep:∀g,vn.ownBlock=some g->vo.ownBlock≠some g
 upd:aa F0 w0 w
 old:∀g,g∈F0->g<w0.heap.size
 KS:(∀x,x∈O.wr->x∈F0)/\ba∈F0
 t0:bt<w0.heap.size
 k0:∀x,x∈O.rd->x<w0.heap.size
theorem iC.head {w:World} {F:List Nat} {a:Option Addr} {n c:Nat} {x:Int} {xs:List Int} (h:iC w F (.slice a n c) (x::xs)):∃g off,a=some ⟨g,off,none⟩/\g<w.heap.size/\g∉F/\w.cell? ⟨g,off,none⟩=some (.int .i64 x):=by
 obtain ⟨a',cap,he,_,_,h3⟩:=h;obtain ⟨g,off,rfl,hg,hF,hc⟩:=h3 0 x rfl;cases he;exact ⟨g,off,rfl,hg,hF,by rw [ϔ] at hc;exact hc⟩
theorem KM.deg {w0 w:World} {O:uA} {bt ba lo n:Nat} {F0:List Nat} {va vb vn vo:Value} {C:CC} (h:KM O w0 w bt ba lo n F0 va vb vn vo C) (x:Int) :
  Calls Tryz.prog 204 #[.pointer (some ⟨bt,0,none⟩),.int .i64 x] w fun e w'=>e=.returned (.int .i64 (dm n C.F x))/\w'=w:=by
 obtain ⟨S,h1,h2,_⟩:=h.uW;have:=qL bt ba lo n S x w h2;rw [Xd,h1] at this;exact this
theorem KM.far {w0 w:World} {O:uA} {bt ba lo n:Nat} {F0:List Nat} {va vb vn vo:Value} {C:CC} (h:KM O w0 w bt ba lo n F0 va vb vn vo C) {g off:Nat} {u:Value} (hg:g<w0.heap.size) (hF:g∉F0) (hc:w0.cell? ⟨g,off,none⟩=some u) {G:List Nat} {W:World} (hu:aa G w W) (hG:∀x,x∈G->w0.heap.size<=x) :
  W.cell? ⟨g,off,none⟩=some u:=by
 rw [hu.cell (Ψ hg h.upd.size) (fun hm=>by have:=hG _ hm;simp at this;omega),h.upd.cell hg hF];exact hc
theorem KM.Ti {w0 w:World} {O:uA} {bt ba lo n:Nat} {F0:List Nat} {va vb vn vo:Value} {C:CC} (h:KM O w0 w bt ba lo n F0 va vb vn vo C) {W:World} {vn':Value} {N':List Int}
  (hu:aa vn.ownBlock.toList w W) (ho:aX W (w0.heap.size+1) vn' N') (hb:∀g,vn'.ownBlock=some g->vn.ownBlock=some g\/w.heap.size<=g):KM O w0 W bt ba lo n F0 va vb vn' vo { C with N:=N' }:=by
 obtain ⟨S,h1,h2,h3,h4,h5,h6⟩:=h.uW;have hn:∀g,g∈vn.ownBlock.toList->w0.heap.size<g/\g∉S.blk n/\vo.ownBlock≠some g:=fun g hg=>by
  have hg':vn.ownBlock=some g:=by simpa using hg
  exact ⟨by have:=(h.now.lt g hg').1;omega,h5 g hg',h.sep g hg'⟩
 have hbt:=h.t0;have OG:=h.old ba h.KS.2;have hk:=h.k0;have hsz:=h.upd.size
 refine ⟨⟨S,h1,h2.upd hu (fun hm=>by have:=hn _ hm;omega) (fun hm=>by have:=hn _ hm;omega) (fun g hg hm=>(hn g hm).2.1 hg),h3,h4,fun g hg hm=>?_,h6⟩,O.upd h.ZJ hu (fun g hg hm=>by have:=hn g hg;have:=hk g hm;omega),h.a,h.b,h.box.upd hu (fun hm=>by have:=hn _ hm;omega),ho,
  h.out.upd hu (fun g hg hm=>(hn g hm).2.2 hg),fun g hg he=>?_,h.upd.joined hu (fun g hg=>Β (by have:=hn g hg;omega)),h.old,h.KS,h.t0,h.k0⟩
 ·rcases hb g hg with h'|h'
  ·exact h5 g h' hm
  ·have:=(h2.nu hm).2;omega
 ·rcases hb g hg with h'|h'
  ·exact h.sep g h' he
  ·have:=(h.out.lt g he).2;omega
theorem KM.abM {w0 w:World} {O:uA} {bt ba lo n:Nat} {F0:List Nat} {va vb vn vo:Value} {C:CC} (h:KM O w0 w bt ba lo n F0 va vb vn vo C) {W:World} {vo':Value} {O':List Int}
  (hu:aa vo.ownBlock.toList w W) (ho:aX W (w0.heap.size+1) vo' O') (hb:∀g,vo'.ownBlock=some g->vo.ownBlock=some g\/w.heap.size<=g):KM O w0 W bt ba lo n F0 va vb vn vo' { C with O:=O' }:=by
 obtain ⟨S,h1,h2,h3,h4,h5,h6⟩:=h.uW;have hn:∀g,g∈vo.ownBlock.toList->w0.heap.size<g/\g∉S.blk n/\vn.ownBlock≠some g:=fun g hg=>by
  have hg':vo.ownBlock=some g:=by simpa using hg
  exact ⟨by have:=(h.out.lt g hg').1;omega,h6 g hg',fun e=>h.sep g e hg'⟩
 have hbt:=h.t0;have OG:=h.old ba h.KS.2;have hk:=h.k0;have hsz:=h.upd.size
 refine ⟨⟨S,h1,h2.upd hu (fun hm=>by have:=hn _ hm;omega) (fun hm=>by have:=hn _ hm;omega) (fun g hg hm=>(hn g hm).2.1 hg),h3,h4,h5,fun g hg hm=>?_⟩,O.upd h.ZJ hu (fun g hg hm=>by have:=hn g hg;have:=hk g hm;omega),h.a,h.b,h.box.upd hu (fun hm=>by have:=hn _ hm;omega),
  h.now.upd hu (fun g hg hm=>(hn g hm).2.2 hg),ho,fun g hg he=>?_,h.upd.joined hu (fun g hg=>Β (by have:=hn g hg;omega)),h.old,h.KS,h.t0,h.k0⟩
 ·rcases hb g hg with h'|h'
  ·exact h6 g h' hm
  ·have:=(h2.nu hm).2;omega
 ·rcases hb g he with h'|h'
  ·exact h.sep g hg h'
  ·have:=(h.now.lt g hg).2;omega
theorem KM.aTo {w0 w:World} {O:uA} {bt ba lo n:Nat} {F0:List Nat} {va vb vn vo va':Value} {C:CC} (h:KM O w0 w bt ba lo n F0 va vb vn vo C) {A':List Int} (ha:iC w0 F0 va' A'):KM O w0 w bt ba lo n F0 va' vb vn vo { C with A:=A' }:=
 ⟨h.uW,h.ZJ,ha,h.b,h.box,h.now,h.out,h.sep,h.upd,h.old,h.KS,h.t0,h.k0⟩
theorem KM.bTo {w0 w:World} {O:uA} {bt ba lo n:Nat} {F0:List Nat} {va vb vn vo WS:Value} {C:CC} (h:KM O w0 w bt ba lo n F0 va vb vn vo C) {B':List Int} (hb:iC w0 F0 WS B') :
  KM O w0 (w.setCell ⟨w0.heap.size,0,none⟩ WS) bt ba lo n F0 va WS vn vo { C with B:=B' }:=by
 obtain ⟨S,h1,h2,h3,h4,h5,h6⟩:=h.uW;have hu:aa [w0.heap.size] w (w.setCell ⟨w0.heap.size,0,none⟩ WS):=(aa.refl _ _).setCell (Α σ) _;have hbt:=h.t0;have OG:=h.old ba h.KS.2;have hk:=h.k0;refine ⟨⟨S,h1,h2.upd hu ζ ζ (fun g hg hm=>?_),h3,h4,h5,h6⟩,O.upd h.ZJ hu (fun g hg hm=>by have:=hk g hm;simp at hg;omega),h.a,hb,(h.box.set 0 WS).ext (fun j hj=>ζ),h.now.upd hu (fun g hg hm=>?_),h.out.upd hu (fun g hg hm=>?_),h.sep,h.upd.joined hu (fun g hg=>Β (by simp at hg;omega)),h.old,h.KS,h.t0,h.k0⟩
 ·simp at hm;subst hm;rcases h4 _ hg with h'|h'
  ·have:=h.old _ h';omega
  ·omega
 ·have:=(h.now.lt g hg).1;simp at hm;omega
 ·have:=(h.out.lt g hg).1;simp at hm;omega
theorem KM.Xx {w0 w:World} {O:uA} {bt ba lo n:Nat} {F0:List Nat} {va vb vn vo:Value} {C:CC} (h:KM O w0 w bt ba lo n F0 va vb vn vo C) {S:CS} (hS:S.f=C.F) (h2:aQ w bt ba lo n S) (h3:Apart O bt ba n S)
  (h4:∀g,g∈S.blk n->g∈F0\/w0.heap.size<g) (h6:∀g,vo.ownBlock=some g->g∉S.blk n) {W:World} {v:Value} {a b:Nat} (hF:aQ W bt ba lo n (oo S v a b)) (hL:O.at_ W (C.q+1)) (hu:aa (O.wr++ba::S.blk n) w W)
  (hg:∀g,g∈(oo S v a b).blk n->g∈S.blk n\/w.heap.size<=g) :
  KM O w0 (W.alloc (.cells #[.int .i64 (a:Int)] 3)) bt ba lo n F0 va vb (.slice (some ⟨W.heap.size,0,none⟩) 1 1) vo { C with F:=gV C.F a b,N:=[(a:Int)],q:=C.q+1 }:=by
 have hbt:=h.t0;have OG:=h.old ba h.KS.2;have hk:=h.k0;have hbx:=h.box.lt;have hsz:=hu.size;have hm:∀g,g∈O.wr++ba::S.blk n->g∈F0\/w0.heap.size<g:=fun g hg=>by
  rcases τ.1 hg with hg|hg
  ·exact Α (h.KS.1 _ hg)
  ·rcases ρ.1 hg with rfl|hg
   ·exact Α h.KS.2
   ·exact h4 g hg
 have hvo:∀g,vo.ownBlock=some g->g∉O.wr++ba::S.blk n:=fun g hg hm=>by
  have:=(h.out.lt g hg).1;rcases τ.1 hm with hm|hm
  ·have:=hk _ (O.sub _ hm);omega
  ·rcases ρ.1 hm with rfl|hm
   ·omega
   ·exact h6 g hg hm
 have ha:aa [] W (W.alloc (.cells #[.int .i64 (a:Int)] 3)):=(aa.refl _ _).alloc _;have hb:w0.heap.size∉O.wr++ba::S.blk n:=fun hm2=>by
  rcases hm _ hm2 with h'|h'
  ·have:=h.old _ h';omega
  ·omega
 refine ⟨⟨oo S v a b,by rw [Ye,hS],hF.aj ha,⟨h3.bt,h3.ba,fun g hg1 hm=>?_⟩,fun g hgm=>?_,fun g hg1 hgm=>?_,fun g hg1 hgm=>?_⟩,O.upd hL ha σ,h.a,h.b,(h.box.upd hu hb).upd ha σ,aX.lit W _ a ω,
  (h.out.upd hu hvo).upd ha σ,fun g hg1 hg2=>?_,(h.upd.joined hu (fun g hg=>by rcases hm g hg with h'|h';exact Α h';exact Β ω)).then ha,h.old,h.KS,h.t0,h.k0⟩
 ·rcases hg _ hg1 with h'|h'
  ·exact h3.blk g h' hm
  ·have:=hk _ hm;omega
 ·rcases hg g hgm with h'|h'
  ·exact h4 g h'
  ·exact Β ω
 ·simp [Value.ownBlock] at hg1;have:=(hF.nu hgm).2;omega
 ·rcases hg g hgm with h'|h'
  ·exact h6 g hg1 h'
  ·have:=(h.out.lt g hg1).2;omega
 ·simp [Value.ownBlock] at hg1;have:=(h.out.lt g hg2).2;omega
set_option maxRecDepth 100000 in
theorem Oq (Od:uA) (bt ba lo n:Nat) (S0:CS) (va vb:Value) (A B:List Int) (q0:Nat) (w:World) (h:aQ w bt ba lo n S0) (hO:Od.at_ w q0) (hap:Apart Od bt ba n S0) (hbt:bt<w.heap.size)
    (ha:iC w (Od.wr++ba::S0.blk n) va A) (hb:iC w (Od.wr++ba::S0.blk n) vb B) (hrA:Nv n S0 A=true) (hrB:Nv n S0 B=true) (hno:A.any (fun x=>decide (x∈B))=false)
    (hok:∀k,LK Od.dom Od.lt n k (gG Od.lt n k ⟨S0.f,A,B,[],[],q0⟩)) :
    Calls Tryz.prog 194 #[.pointer (some ⟨bt,0,none⟩),.iface Od.ty (.pointer (some ⟨Od.p,0,none⟩)),va,vb] w fun e w'=>
      ∃k vn va' WS vo,e=.returned (.tuple #[vo,.bool true])/\KM Od w w' bt ba lo n (Od.wr++ba::S0.blk n) va' WS vn vo (gG Od.lt n k ⟨S0.f,A,B,[],[],q0⟩)/\(gG Od.lt n k ⟨S0.f,A,B,[],[],q0⟩).A=[]/\(gG Od.lt n k ⟨S0.f,A,B,[],[],q0⟩).B=[]/\(gG Od.lt n k ⟨S0.f,A,B,[],[],q0⟩).N=[]:=by
  have hle:=h.le;have hu1:∀v,aa [] w (w.alloc (.cells #[v] 26)):=fun v=>(aa.refl _ _).alloc _;have hbx:=dJ w [vb] 26;have kA:=Tt bt ba lo n S0 va A (w.alloc (.cells #[vb] 26)) (h.aj (hu1 vb)) _ (ha.upd (hu1 vb) σ);have kB:=Tt bt ba lo n S0 vb B (w.alloc (.cells #[vb] 26)) (h.aj (hu1 vb)) _ (hb.upd (hu1 vb) σ);have kF:=BJ (w.alloc (.cells #[vb] 26)) _ w.heap.size va vb A B (ha.upd (hu1 vb) σ) (hb.upd (hu1 vb) σ) (hbx.ext (fun j hj=>by simp at hj;subst hj;rfl));rw [hrA] at kA;rw [hrB] at kB;rw [hno] at kF;have hold:∀g,g∈Od.wr++ba::S0.blk n->g<w.heap.size:=fun g hg=>by
    rcases τ.1 hg with hg|hg
    · exact Od.low hO _ (Od.sub _ hg)
    · rcases ρ.1 hg with rfl|hg
      · exact h.row.lt
      · exact (h.nu hg).2
  have hM:KM Od w (w.alloc (.cells #[vb] 26)) bt ba lo n (Od.wr++ba::S0.blk n) va vb (.slice none 0 0) (.slice none 0 0) (gG Od.lt n 0 ⟨S0.f,A,B,[],[],q0⟩):=
    ⟨⟨S0,rfl,h.aj (hu1 vb),hap,(fun g hg=>Α (by simp [hg])),(fun g hg=>by cases hg),(fun g hg=>by cases hg)⟩,Od.upd hO (hu1 vb) σ,ha,hb,hbx.ext (fun j hj=>by simp at hj;subst hj;rfl),aX.nil _ _,aX.nil _ _,(fun g hg=>by cases hg),(aa.refl _ _).alloc _,hold,⟨fun x hx=>τ.2 (Α hx),σ⟩,hbt,fun x hx=>Od.low hO x hx⟩
  have HOK:=χ hok;have Y5:=χ hM;have sa:=ha.shape;have sb:=hb.shape;obtain ⟨a1,c1,rfl,hc1⟩:=sa;obtain ⟨b1,d1,rfl,hd1⟩:=sb;clear hok hM ha hb hbx h hO hap hrA hrB hno hold;generalize hF0:Od.wr++ba::S0.blk n=F0 at *;clear hF0;generalize hC0:(⟨S0.f,A,B,[],[],q0⟩:CC)=C0 at *;clear hC0
  go_enter Tryz.func194,Tryz.ntmps194
  go_wp2_with (first
    | (go_at_call 200;(with_reducible refine (kA).mono ?_);rintro e w9 ⟨rfl,aI⟩;rw [aI];clear aI w9)
    | (go_at_call 200;(with_reducible refine (kB).mono ?_);rintro e w9 ⟨rfl,aI⟩;rw [aI];clear aI w9)
    | (go_at_call 201;(with_reducible refine (kF).mono ?_);rintro e w9 ⟨rfl,aI⟩;rw [aI];clear aI w9))
  clear kA kB kF
  go_loopw [2,10,11,12] (fun s2 s10 s11 s12 wr=>∃ (k:Nat) (vb:Value),s12=.int .i64 (k:Int)/\k<=n+1/\KM Od w wr bt ba lo n F0 s2 vb s11 s10 (gG Od.lt n k C0)) (fun _ _ _ s12 _=>n+2-(intOf s12).toNat)
  case atStart=>exact ⟨0,_,rfl,ω,Y5.out⟩
  case round=>
    obtain ⟨k,vb,rfl,hk,hM⟩:=hrel;have hok:=HOK.out k;generalize hC:gG Od.lt n k C0=C at *;have HC:=χ hC;clear hC;obtain ⟨F,A,B,N,O,q⟩:=C;obtain ⟨a2,c2,rfl,hc2⟩:=hM.a.shape;obtain ⟨b2,d2,rfl,hd2⟩:=hM.b.shape;obtain ⟨n2,e2,rfl,hn2,he2,_⟩:=hM.now.shape;have hbx:=hM.box.cell 0 ω;have hsm:=hok.small;have hfw:=hok.few;simp only at hsm hfw
    by_cases hemp:A=[]/\B=[]/\N=[]
    · obtain ⟨rfl,rfl,rfl⟩:=hemp
      obtain ⟨o2,f2,rfl,_⟩:=hM.out.shape;have HM:=χ hM;clear hM hok;go_wp2;go_ret2;exact ⟨k,_,_,_,_,rfl,by rw [HC.out];exact HM.out,by rw [HC.out],by rw [HC.out],by rw [HC.out]⟩
    · have hpos:0<A.length+B.length+N.length:=by
        rcases A with _|⟨x,t⟩
        · rcases B with _|⟨x,t⟩
          · rcases N with _|⟨x,t⟩
            · exact absurd ⟨rfl,rfl,rfl⟩ hemp
            · simp
          · simp;omega
        · simp;omega
      have hkn:k<=n:=hok.ends (by
        rcases A with _|⟨x,t⟩
        · rcases B with _|⟨x,t⟩
          · rcases N with _|⟨x,t⟩
            · exact absurd ⟨rfl,rfl,rfl⟩ hemp
            · exact Β (Β σ)
          · exact Β (Α σ)
        · exact Α σ)
      have HOKK:=χ hok;have HM:=χ hM;clear hemp hok hM
      go_upto_region 7 with (fail)
      go_cut [50] (fun s50 wx=>s50=.bool (tA n k A F)/\KM Od w wx bt ba lo n F0 (.slice a2 A.length c2) (.slice b2 B.length d2) (.slice n2 N.length e2) u10 ⟨F,A,B,N,O,q⟩)
      case first=>
        rcases A with _|⟨x,t⟩
        · go_wp2_with fail
          go_meet
          exact ⟨rfl,HM.out⟩
        · obtain ⟨ga,oa,rfl,hgl,EU,hc⟩:=HM.out.a.head
          have hc1:=HM.out.far hgl EU hc (aa.refl [] _) σ;have kD:=HM.out.deg x;have KC:tA n k (x::t) F=(dm n F x == (k:Int)):=rfl;have HT:=χ KC;simp only at kD;clear KC hc;generalize dm n F x=d at *
          go_wp2_with ((go_at_call 204;(with_reducible refine (kD).mono ?_);rintro e w9 ⟨rfl,aI⟩;rw [aI];clear aI w9))
          go_meet
          exact ⟨by rw [HT.out],HM.out⟩
      case rest=>
        obtain ⟨rfl,hM1⟩:=hcut;have jI:=χ hM1;clear hM1 HM hbx
        go_upto_if 50 with (fail)
        go_cut [2,11] (fun s2 s11 wx=>∃vb,KM Od w wx bt ba lo n F0 s2 vb s11 u10 (takeA n k ⟨F,A,B,N,O,q⟩))
        case first=>
          cases KC:tA n k A F with
          | false=>
            go_wp2_with fail
            go_meet
            have e:takeA n k ⟨F,A,B,N,O,q⟩=⟨F,A,B,N,O,q⟩:=by
              rcases A with _|⟨x,t⟩
              · rfl
              · unfold takeA;simp only;rw [Γ (by simpa [tA] using KC)]
            rw [e];exact ⟨_,jI.out⟩
          | true=>
            rcases A with _|⟨x,t⟩
            · cases KC
            · have e:takeA n k ⟨F,x::t,B,N,O,q⟩=⟨F,t,B,N++[x],O,q⟩:=by
                unfold takeA;simp only;rw [Δ (by simpa [tA] using KC)]
              obtain ⟨ga,oa,rfl,hgl,EU,hc⟩:=jI.out.a.head;have hown:∀g,g∈(Value.slice n2 N.length e2).ownBlock.toList->w.heap.size<=g:=fun g hg=>by have:=(jI.out.now.lt g (by simpa using hg)).1;omega
              have r1:∀W,aa (Value.slice n2 N.length e2).ownBlock.toList wc W->W.cell? ⟨ga,oa,none⟩=some (.int .i64 x):=fun W hW=>jI.out.far hgl EU hc hW hown;have s0:aa (Value.slice n2 N.length e2).ownBlock.toList wc wc.drew:=(aa.refl _ _).drew;have hsl:=fun W=>wD W (some ⟨ga,oa,none⟩) (t.length+1) c2 ω (by simp at hsm;omega);have ET:=(show iC w F0 (.slice (some ⟨ga,oa,none⟩) (t.length+1) c2) (x::t) from jI.out.a).tail;obtain ⟨a3,zT⟩:=qc (some ⟨ga,oa,none⟩) (t.length+1) c2;rw [zT] at hsl ET;simp only [Nat.add_sub_cancel] at hsl ET;have HTA:=χ ET;have hno:=jI.out.now;have E:=χ e
              clear ET e KC zT hc
              go_wp2_with fail
              go_region_held3 (fun W=>aa (Value.slice n2 N.length e2).ownBlock.toList wc W)
                (first|assumption|exact (aa.refl _ _).drew|(have hS:=(by assumption:aa _ _ _);exact hS.alloc _))
                (first
                  | (have hS:=s0.alloc (.cells #[.int .i64 x] 3)
                     refine qO rfl _ _ 26 rfl Tryz.underlying26 (w.heap.size+1) (.slice n2 N.length e2) N rfl (hno.upd ((aa.refl [] _).drew.alloc (.cells #[.int .i64 x] 3)) σ) wc.heap.size x rfl (ma wc [.int .i64 x] 3 0 _ rfl) ω (by have:=jI.out.upd.size;have:=jI.out.box.lt;simp;omega) ?_;intro v2 w2 ho2 hu2 hv2
                     have hS2:aa (Value.slice n2 N.length e2).ownBlock.toList wc w2:=hS.trans hu2))
              go_wp2_with fail
              go_meet
              rw [E.out];exact ⟨_,(jI.out.Ti hS2 ho2 (fun g hg=>by rcases hv2 g hg with h|h;exact Α h;exact Β (by simp at h;omega))).aTo HTA.out⟩
        case rest=>
          have hT1:=xG n k ⟨F,A,B,N,O,q⟩;generalize jd:takeA n k ⟨F,A,B,N,O,q⟩=C1 at *;have HC1:=χ jd;clear jd jI;obtain ⟨F1,A1,B1,N1,O1,q1⟩:=C1;have hs1:A1.length+B1.length+N1.length+O1.length<=100001/\N1.length<=2:=by
            obtain ⟨h1,h2⟩:=hT1;unfold tot at h1;simp only at h1 h2;omega
          obtain ⟨hs1,hf1⟩:=hs1;obtain ⟨vb1,hcut⟩:=hcut;obtain ⟨a5,c5,rfl,hc5⟩:=hcut.a.shape;obtain ⟨b5,d5,rfl,hd5⟩:=hcut.b.shape;obtain ⟨n5,e5,rfl,MC,he5,_⟩:=hcut.now.shape;simp only at MC;have hbx:=hcut.box.cell 0 ω;have jI:=χ hcut;clear hcut hT1 hsm hfw hpos
          go_upto_region 9 with (fail)
          go_cut [70] (fun s70 wx=>s70=.bool (tA n k B1 F1)/\KM Od w wx bt ba lo n F0 (.slice a5 A1.length c5) (.slice b5 B1.length d5) (.slice n5 N1.length e5) u10 ⟨F1,A1,B1,N1,O1,q1⟩)
          case first=>
            rcases B1 with _|⟨x,t⟩
            · go_wp2_with fail
              go_meet
              exact ⟨rfl,jI.out⟩
            · obtain ⟨ga,oa,rfl,hgl,EU,hc⟩:=jI.out.b.head
              have hc1:=jI.out.far hgl EU hc (aa.refl [] _) σ;have kD:=jI.out.deg x;have KC:tA n k (x::t) F1=(dm n F1 x == (k:Int)):=rfl;have HT:=χ KC;simp only at kD;clear KC hc;generalize dm n F1 x=d at *
              go_wp2_with ((go_at_call 204;(with_reducible refine (kD).mono ?_);rintro e w9 ⟨rfl,aI⟩;rw [aI];clear aI w9))
              go_meet
              exact ⟨by rw [HT.out],jI.out⟩
          case rest=>
            obtain ⟨rfl,hM2⟩:=hcut;have hbx:=hM2.box.cell 0 ω;have hbf:=hM2.box.free 0;have mU:=χ hM2;clear hM2 jI
            go_upto_if 70 with (fail)
            go_cut [11] (fun s11 wx=>∃vb,KM Od w wx bt ba lo n F0 (.slice a5 A1.length c5) vb s11 u10 (takeB n k ⟨F1,A1,B1,N1,O1,q1⟩))
            case first=>
              cases KC:tA n k B1 F1 with
              | false=>
                go_wp2_with fail
                go_meet
                have e:takeB n k ⟨F1,A1,B1,N1,O1,q1⟩=⟨F1,A1,B1,N1,O1,q1⟩:=by
                  rcases B1 with _|⟨x,t⟩
                  · rfl
                  · unfold takeB;simp only;rw [Γ (by simpa [tA] using KC)]
                rw [e];exact ⟨_,mU.out⟩
              | true=>
                rcases B1 with _|⟨x,t⟩
                · cases KC
                · have e:takeB n k ⟨F1,A1,x::t,N1,O1,q1⟩=⟨F1,A1,t,N1++[x],O1,q1⟩:=by
                    unfold takeB;simp only;rw [Δ (by simpa [tA] using KC)]
                  obtain ⟨ga,oa,rfl,hgl,EU,hc⟩:=mU.out.b.head;have hown:∀g,g∈(Value.slice n5 N1.length e5).ownBlock.toList->w.heap.size<g:=fun g hg=>by have:=(mU.out.now.lt g (by simpa using hg)).1;omega
                  have r1:∀W,aa (Value.slice n5 N1.length e5).ownBlock.toList wc W->W.cell? ⟨ga,oa,none⟩=some (.int .i64 x):=fun W hW=>mU.out.far hgl EU hc hW (fun g hg=>by have:=hown g hg;omega);have r2:∀W,aa (Value.slice n5 N1.length e5).ownBlock.toList wc W->W.cell? ⟨w.heap.size,0,none⟩=some (.slice (some ⟨ga,oa,none⟩) (x::t).length d5):=fun W hW=>by rw [hW.cell mU.out.box.lt (fun hm=>by have:=hown _ hm;simp at this)];exact hbx
                  have r3:∀W,aa (Value.slice n5 N1.length e5).ownBlock.toList wc W->W.frozen? ⟨w.heap.size,0,none⟩=false:=fun W hW=>by rw [hW.frozen mU.out.box.lt (fun hm=>by have:=hown _ hm;simp at this)];exact hbf
                  have s0:aa (Value.slice n5 N1.length e5).ownBlock.toList wc wc:=aa.refl _ _;have p1:=r1 _ s0;have p3:=r1 _ (s0.alloc (.cells #[.int .i64 x] 3));have p4:=r2 _ (s0.alloc (.cells #[.int .i64 x] 3));have hsl:=fun W=>wD W (some ⟨ga,oa,none⟩) (t.length+1) d5 ω (by simp at hs1;omega);have ET:=(show iC w F0 (.slice (some ⟨ga,oa,none⟩) (t.length+1) d5) (x::t) from mU.out.b).tail;obtain ⟨a3,zT⟩:=qc (some ⟨ga,oa,none⟩) (t.length+1) d5;rw [zT] at hsl ET;simp only [Nat.add_sub_cancel] at hsl ET;have HTA:=χ ET;have hno:=mU.out.now;have E:=χ e;clear ET e KC zT hc
                  go_wp2_with fail
                  go_region_law
                    (first
                      | (refine qO rfl _ _ 26 rfl Tryz.underlying26 (w.heap.size+1) (.slice n5 N1.length e5) N1 rfl (hno.upd ((aa.refl [] _).drew.alloc (.cells #[.int .i64 x] 3)) σ) wc.heap.size x rfl (ma wc [.int .i64 x] 3 0 _ rfl) ω (by have:=mU.out.upd.size;have:=mU.out.box.lt;simp;omega) ?_
                         intro v2 w2 ho2 hu2 hv2;have hS2:aa (Value.slice n5 N1.length e5).ownBlock.toList wc w2:=(s0.drew.alloc (.cells #[.int .i64 x] 3)).trans hu2;have g1:=r1 _ hS2;have g2:=r2 _ hS2
                         have g3:=r3 _ hS2))
                  all_goals
                    go_wp2_with fail
                    go_meet
                    rw [E.out];exact ⟨_,(mU.out.Ti hS2 ho2 (fun g hg=>by rcases hv2 g hg with h|h;exact Α h;exact Β (by simp at h;omega))).bTo HTA.out⟩
            case rest=>
              have hT1:=xJ n k ⟨F1,A1,B1,N1,O1,q1⟩;generalize hC2:takeB n k ⟨F1,A1,B1,N1,O1,q1⟩=C2 at *;have HC2:=χ hC2;clear hC2 mU;obtain ⟨F2,A2,B2,N2,O2,q2⟩:=C2;have hs2:A2.length+B2.length+N2.length+O2.length<=100001/\N2.length<=3:=by
                obtain ⟨h1,h2⟩:=hT1;unfold tot at h1;simp only at h1 h2;omega
              obtain ⟨hs2,hf2⟩:=hs2;obtain ⟨vb2,hcut⟩:=hcut;obtain ⟨n6,e6,rfl,hn6,he6,_⟩:=hcut.now.shape;obtain ⟨o6,p6,rfl,ho6,hp6,_⟩:=hcut.out.shape;simp only at hn6;have JC:=χ hcut;clear hcut hT1 hs1 hf1
              go_upto_region 11 with (fail)
              go_cut [82] (fun s82 wx=>s82=.bool (N2.length % 2 == 1)/\KM Od w wx bt ba lo n F0 (.slice a5 A1.length c5) vb2 (.slice n6 N2.length e6) (.slice o6 O2.length p6) ⟨F2,A2,B2,N2,O2,q2⟩)
              case first=>
                have key:∀m:Nat,N2.length=m->N2.length % 2=m % 2:=fun m h=>by rw [h]
                match N2,hf2 with
                | [],_=>go_wp2_with fail;go_meet;exact ⟨σ,JC.out⟩
                | [x],_=>go_wp2_with fail;go_meet;exact ⟨σ,JC.out⟩
                | [x,y],_=>go_wp2_with fail;go_meet;exact ⟨σ,JC.out⟩
                | [x,y,z],_=>go_wp2_with fail;go_meet;exact ⟨σ,JC.out⟩
                | _::_::_::_::_,hf2=>simp at hf2;try omega
              case rest=>
                obtain ⟨rfl,rQ⟩:=hcut;have Pt:=χ rQ;clear rQ JC
                go_upto_if 82 with (fail)
                go_cut [10,11] (fun s10 s11 wx=>∃va vb,va=.slice a5 A1.length c5/\KM Od w wx bt ba lo n F0 va vb s11 s10 (fA ⟨F2,A2,B2,N2,O2,q2⟩))
                case first=>
                  cases Uf:(N2.length % 2 == 1) with
                  | false=>
                    go_wp2_with fail
                    go_meet
                    have e:fA ⟨F2,A2,B2,N2,O2,q2⟩=⟨F2,A2,B2,N2,O2,q2⟩:=by
                      match N2,hf2,Uf with
                      | [],_,_=>rfl
                      | [x],_,Uf=>simp at Uf
                      | [x,y],_,_=>rfl
                      | [x,y,z],_,Uf=>simp at Uf
                      | _::_::_::_::_,hf2,_=>simp at hf2;try omega
                    rw [e];exact ⟨_,_,rfl,Pt.out⟩
                  | true=>
                    rcases N2 with _|⟨x,r⟩
                    · simp at Uf
                    · have e:fA ⟨F2,A2,B2,x::r,O2,q2⟩=⟨F2,A2,B2,r,O2++[x],q2⟩:=by
                        match r,hf2,Uf with
                        | [],_,_=>rfl
                        | [y],_,Uf=>simp at Uf
                        | [y,z],_,_=>rfl
                        | _::_::_::_,hf2,_=>simp at hf2;try omega
                      obtain ⟨n7,e7,he7,hn7,_,hcells⟩:=Pt.out.now.shape;obtain ⟨gn,on,rfl,hc0⟩:=hcells 0 x rfl;cases he7;rw [ϔ] at hc0;have hsl:=fun W=>wD W (some ⟨gn,on,none⟩) (r.length+1) e6 ω (by simp at hs2;omega);have hno:=fun W (h:aX W (w.heap.size+1) (.slice (some ⟨gn,on,none⟩) (r.length+1) e6) (x::r))=>h.tail;obtain ⟨a3,zT⟩:=qc (some ⟨gn,on,none⟩) (r.length+1) e6;rw [zT] at hsl hno;simp only [Nat.add_sub_cancel] at hsl hno;have HNO:=χ hno;have vR:=Pt.out.out;have E:=χ e;clear hno e Uf zT hcells
                      go_wp2_with (at_builtin;refine vE rfl _ _ 26 rfl Tryz.underlying26 (w.heap.size+1) (.slice o6 O2.length p6) O2 rfl (vR.upd ((aa.refl [] _).alloc (.cells #[.int .i64 x] 3)) σ) wc.heap.size x rfl (ma wc [.int .i64 x] 3 0 _ rfl) ω (by have:=Pt.out.upd.size;have:=Pt.out.box.lt;simp;omega) ?_;intro v2 w2 ho2 hu2 hv2)
                      go_meet
                      have hS2:aa (Value.slice o6 O2.length p6).ownBlock.toList wc w2:=((aa.refl _ _).alloc (.cells #[.int .i64 x] 3)).trans hu2;have hm1:=Pt.out.abM hS2 ho2 (fun g hg=>by rcases hv2 g hg with h|h;exact Α h;exact Β (by simp at h;omega));have hm2:=hm1.Ti (aa.refl _ _) (HNO.out _ hm1.now).1 (fun g hg=>by rw [(HNO.out _ hm1.now).2] at hg;exact Α hg);rw [E.out];exact ⟨_,_,rfl,hm2⟩
                case rest=>
                  have hT1:=OC ⟨F2,A2,B2,N2,O2,q2⟩ hf2;have L9:=HOKK.out.join;rw [HC1.out,HC2.out] at L9;generalize yj:fA ⟨F2,A2,B2,N2,O2,q2⟩=C3 at *;have HC3:=χ yj;clear yj Pt;obtain ⟨F3,A3,B3,N3,O3,q3⟩:=C3;simp only at L9;obtain ⟨hT1,hf3⟩:=hT1;simp only at hf3;obtain ⟨va3,vb3,rfl,hcut⟩:=hcut;obtain ⟨n8,e8,rfl,hn8,he8,_⟩:=hcut.now.shape;obtain ⟨o8,p8,rfl,ho8,hp8,_⟩:=hcut.out.shape;simp only at hn8;have uZ:=χ hcut;have HJ:=χ L9;clear hcut hT1 hs2 hf2 L9
                  go_upto_region 14 with (fail)
                  go_cut [93] (fun s93 wx=>s93=.bool (N3.length == 2)/\KM Od w wx bt ba lo n F0 (.slice a5 A1.length c5) vb3 (.slice n8 N3.length e8) (.slice o8 O3.length p8) ⟨F3,A3,B3,N3,O3,q3⟩)
                  case first=>
                    match N3,hf3 with
                    | [],_=>go_wp2_with fail;go_meet;exact ⟨σ,uZ.out⟩
                    | [x],_=>go_wp2_with fail;go_meet;exact ⟨σ,uZ.out⟩
                    | [x,y],_=>go_wp2_with fail;go_meet;exact ⟨σ,uZ.out⟩
                    | _::_::_::_,hf3=>simp at hf3;try omega
                  case rest=>
                    obtain ⟨rfl,tF⟩:=hcut;have vO:=χ tF;clear tF uZ;have hst:Fe Od.lt n k ⟨F,A,B,N,O,q⟩=mH Od.lt ⟨F3,A3,B3,N3,O3,q3⟩:=by
                      unfold Fe;rw [HC1.out,HC2.out,HC3.out]
                    have hru:gG Od.lt n (k+1) C0=mH Od.lt ⟨F3,A3,B3,N3,O3,q3⟩:=by rw [gG,HC.out,hst]
                    have hq3:q3<=1000000:=by
                      have h:=Sb n k ⟨F,A,B,N,O,q⟩;rw [HC1.out,HC2.out,HC3.out] at h;simp only at h;rw [h];exact HOKK.out.asked
                    have XP:=χ hru;clear hst hru HC1 HC2 HC3
                    match N3,hf3,HJ,vO,XP with
                    | [],_,_,vO,XP=>
                      go_wp2_with fail
                      go_roundw
                      case rel=>exact ⟨k+1,_,by go_num,ω,by rw [XP.out];exact vO.out⟩
                      case measure=>simp [intOf];omega
                    | [x],_,_,vO,XP=>
                      go_wp2_with fail
                      go_roundw
                      case rel=>exact ⟨k+1,_,by go_num,ω,by rw [XP.out];exact vO.out⟩
                      case measure=>simp [intOf];omega
                    | [x,y],_,HJ,vO,XP=>
                      obtain ⟨a,b,rfl,rfl,hda,ZW,hja,hjb,hjne,hjra,hjrb,hjd,hjl1,Vs⟩:=HJ.out x y rfl;obtain ⟨S,hSf,ZB,hAp,ZN,hS5,hS6⟩:=vO.out.uW;obtain ⟨n9,e9,he9,hn9,_,hcells⟩:=vO.out.now.shape;obtain ⟨gn,on,rfl,hc0⟩:=hcells 0 (a:Int) rfl;obtain ⟨gn2,on2,heq,hc1⟩:=hcells 1 (b:Int) rfl;cases heq;cases he9;rw [ϔ] at hc0;simp only at hSf;rw [←hSf] at hjra hjrb hjd hjl1 Vs;have hgn:∀g,g∈Od.wr++ba::S.blk n->g≠gn:=fun g hg e=>by
                        subst e;have hl:=(vO.out.now.lt g rfl).1;rcases τ.1 hg with hg|hg
                        · have:=vO.out.old _ (vO.out.KS.1 _ hg);omega
                        · rcases ρ.1 hg with rfl|hg
                          · have:=vO.out.old _ vO.out.KS.2;omega
                          · exact hS5 g rfl hg
                      have hgl:=(vO.out.now.lt gn rfl).2;have r1:∀W,aa (Od.wr++ba::S.blk n) wc W->W.cell? ⟨gn,on,none⟩=some (.int .i64 (a:Int)):=fun W hW=>by rw [hW.cell hgl (fun hm=>hgn _ hm rfl)];exact hc0
                      have r2:∀W,aa (Od.wr++ba::S.blk n) wc W->W.cell? ⟨gn,on+1,none⟩=some (.int .i64 (b:Int)):=fun W hW=>by rw [hW.cell hgl (fun hm=>hgn _ hm rfl)];exact hc1
                      have kJ:=RO Od bt ba lo n S q3 a b wc.drew (ZB.aj (aa.refl [] _).drew) (Od.upd vO.out.ZJ (aa.refl [] _).drew σ) hda ZW hq3 hja hjb hjra hjrb hjne hjd hjl1 Vs hAp;clear hcells
                      go_wp2_with fail
                      go_region_held3 (fun W=>aa (Od.wr++ba::S.blk n) wc W)
                        (first|assumption|exact (aa.refl _ _).drew|(have hS:=(by assumption:aa _ _ _);exact hS.alloc _))
                        (first
                          | ((go_at_call 205;(with_reducible refine (kJ).mono ?_));rintro e w2 ⟨v2,rfl,hF2,hL2,hu2,hg2⟩;have hS2:aa (Od.wr++ba::S.blk n) wc w2:=(aa.refl _ _).drew.trans hu2))
                      go_wp2_with fail
                      go_roundw
                      case rel=>
                        refine ⟨k+1,vb3,by go_num,ω,?_⟩;rw [XP.out];exact vO.out.Xx hSf ZB hAp ZN hS6 hF2 hL2 hS2 hg2
                      case measure=>simp [intOf];omega
                    | _::_::_::_,hf3,_,_,_=>simp at hf3;try omega
end Go.Proofs.YtklibcncmbofpaaGreat
namespace Go.Proofs.YtklibcncmbofpaaGreat
theorem rC:∀ (n:Nat) (l:List Int),l.Nodup->(∀x,x∈l->0<=x/\x<n)->l.length<=n
 | 0,l,_,h=>by
  cases l with
  | nil=>simp
  | cons x r=>have:=h x σ;omega
 | n+1,l,hn,h=>by
  have h1:=rC n (l.filter (fun x=>x != (n:Int))) (hn.filter _) (fun x hx=>by
   simp only [List.mem_filter] at hx;have:=h x hx.1;have h2:x≠n:=by simpa using hx.2
   omega)
  have h2:l.length<=(l.filter (fun x=>x != (n:Int))).length+1:=by
   clear h1 h
   induction l with
   | nil=>simp
   | cons y r ih=>
    rw [Ζ] at hn
    by_cases hy:y=n
    ·subst hy;have e:r.filter (fun x=>x != (n:Int))=r:=by
      rw [List.filter_eq_self];intro a ha;simp;intro e;subst e;exact hn.1 ha
     rw [List.filter_cons_of_neg σ,e];simp
    ·have:=ih hn.2;rw [List.filter_cons_of_pos (by simpa using hy)];simp only [Ω];omega
  omega
structure nY (n:Nat) (F:CF):Prop where
 vD:∀x,x<n->∀y,y∈F.k x->0<=y/\y<n/\F.u y.toNat=x
 nd:∀x,x<n->(F.k x).Nodup
 up:∀y,y<n->F.u y=-1\/∃p:Nat,p<n/\F.u y=p/\(y:Int)∈F.k p
 xC:∀x,x<n->∀i z,(F.k x)[i]?=some z->(F.k z.toNat).length=i
theorem Te (n:Nat):nY n CS.none.f:=⟨fun x _ y hy=>(by cases hy),fun x _=>Ϡ,fun y _=>Α rfl,fun x _ i z h=>by simp [CS.none,CS.f] at h⟩
theorem nY.self {n:Nat} {F:CF} (h:nY n F) {x:Nat} (hx:x<n):(x:Int)∉F.k x:=fun hm=>by
 obtain ⟨i,hi,he⟩:=List.getElem_of_mem hm;have:=h.xC x hx i x (by rw [ε hi,he]);simp at this;omega
theorem nY.len {n:Nat} {F:CF} (h:nY n F) {x:Nat} (hx:x<n):(F.k x).length+1<=n:=by
 have:=rC n ((x:Int)::F.k x) (List.nodup_cons.2 ⟨h.self hx,h.nd x hx⟩) (fun y hy=>by
  rcases ρ.1 hy with rfl|hy
  ·omega
  ·have:=h.vD x hx y hy;omega)
 simpa using this
theorem nY.link {n:Nat} {F:CF} (h:nY n F) {a b:Nat} (ha:a<n) (hb:b<n) (hne:a≠b) (ra:F.u a=-1) (rb:F.u b=-1) (hd:(F.k a).length=(F.k b).length):nY n (gV F a b):=by
 have nb:∀x,x<n->(b:Int)∉F.k x:=fun x hx hm=>by
  have:=(h.vD x hx b hm).2.2;simp at this;omega
 have na:∀x,x<n->(a:Int)∉F.k x:=fun x hx hm=>by
  have:=(h.vD x hx a hm).2.2;simp at this;omega
 refine ⟨fun x hx y hy=>?_,fun x hx=>?_,fun y hy=>?_,fun x hx i z hz=>?_⟩
 ·unfold gV at hy ⊢;simp only at hy ⊢
  split at hy
  ·rename_i e
   subst e;rcases τ.1 hy with hy|hy
   ·obtain ⟨h1,h2,h3⟩:=h.vD x hx y hy;refine ⟨h1,h2,?_⟩;rw [Γ (fun e=>by rw [e,rb] at h3;omega)];exact h3
   ·simp at hy;subst hy;exact ⟨ω,ω,σ⟩
  ·obtain ⟨h1,h2,h3⟩:=h.vD x hx y hy;refine ⟨h1,h2,?_⟩;rw [Γ (fun e=>by rw [e,rb] at h3;omega)];exact h3
 ·unfold gV;simp only
  split
  ·rw [θ];exact ⟨h.nd a ha,σ,fun y hy z hz e=>by simp at hz;subst hz;subst e;exact nb a ha hy⟩
  ·exact h.nd x hx
 ·unfold gV;simp only
  by_cases hyb:y=b
  ·subst hyb;exact Β ⟨a,ha,σ,σ⟩
  ·rw [Γ hyb];rcases h.up y hy with h1|⟨p,hp,h1,h2⟩
   ·exact Α h1
   ·refine Β ⟨p,hp,h1,?_⟩
    split
    ·rename_i e;subst e;exact τ.2 (Α h2)
    ·exact h2
 ·have kz:∀z,z∈F.k x->(gV F a b).k z.toNat=F.k z.toNat:=fun z hz=>by
   unfold gV;simp only
   rw [Γ (fun e=>by
    have:=h.vD x hx z hz
    exact na x hx (by rw [←e,show ((z.toNat:Nat):Int)=z by omega];exact hz))]
  have hz':=hz;unfold gV at hz';simp only at hz'
  split at hz'
  ·rename_i e
   subst e;rcases ϕ i (F.k x).length with hi|hi
   ·rw [Ρ hi] at hz';rw [kz z (Η hz')];exact h.xC x hx i z hz'
   ·have hil:i=(F.k x).length:=by
     have:=(List.getElem?_eq_some_iff.1 hz').1;simp at this;omega
    subst hil;rw [ϊ (Θ _)] at hz';simp at hz';subst hz';unfold gV;simp only [π];rw [Γ (fun e=>hne ω),hd]
  ·rw [kz z (Η hz')];exact h.xC x hx i z hz'
def CC.L (C:CC):List Int:=C.A++(C.B++(C.N++C.O))
structure G (n ka kb kn ko:Nat) (C:CC):Prop where
 f:nY n C.F
 rt:∀x,x∈C.L->0<=x/\x<n/\C.F.u x.toNat=-1
 nd:C.L.Nodup
 a1:C.A.Pairwise (fun x y=>dm n C.F x<dm n C.F y)
 a2:∀x,x∈C.A->(ka:Int)<=dm n C.F x
 b1:C.B.Pairwise (fun x y=>dm n C.F x<dm n C.F y)
 b2:∀x,x∈C.B->(kb:Int)<=dm n C.F x
 n1:∀x,x∈C.N->dm n C.F x=kn
 o1:C.O.Pairwise (fun x y=>dm n C.F x<dm n C.F y)
 o2:∀x,x∈C.O->dm n C.F x<ko
theorem ql (n k:Nat) (C:CC):(takeA n k C).L.Perm C.L:=by
 obtain ⟨F,A,B,N,O,q⟩:=C;unfold takeA
 split
 ·rename_i x t h
  simp only at h;subst h
  split
  ·unfold CC.L;simp only;rw [List.perm_iff_count];intro y;simp [List.count_append,List.count_cons];omega
  ·exact ό _
 ·exact ό _
theorem qo (n k:Nat) (C:CC):(takeB n k C).L.Perm C.L:=by
 obtain ⟨F,A,B,N,O,q⟩:=C;unfold takeB
 split
 ·rename_i x t h
  simp only at h;subst h
  split
  ·unfold CC.L;simp only;rw [List.perm_iff_count];intro y;simp [List.count_append,List.count_cons];omega
  ·exact ό _
 ·exact ό _
theorem qm (C:CC):(fA C).L.Perm C.L:=by
 obtain ⟨F,A,B,N,O,q⟩:=C;unfold fA
 split
 ·rename_i x h
  simp only at h;subst h;unfold CC.L;simp only;rw [List.perm_iff_count];intro y;simp [List.count_append,List.count_cons]
  try omega
 ·rename_i x y z h
  simp only at h;subst h;unfold CC.L;simp only;rw [List.perm_iff_count];intro y;simp [List.count_append,List.count_cons]
  try omega
 ·exact ό _
theorem Lp (n k:Nat) (C:CC):(takeA n k C).F=C.F:=by unfold takeA;split;(split<;>rfl);rfl
theorem Lg (n k:Nat) (C:CC):(takeB n k C).F=C.F:=by unfold takeB;split;(split<;>rfl);rfl
theorem Mm (C:CC):(fA C).F=C.F:=by unfold fA;split<;>rfl
theorem Dw {n k:Nat} {C:CC} (h:G n k k k k C):G n (k+1) k k k (takeA n k C):=by
 have hp:=ql n k C;have hF:=Lp n k C;have rt:=fun x (hx:x∈(takeA n k C).L)=>h.rt x (hp.mem_iff.1 hx);have nd:=hp.nodup_iff.2 h.nd;have key:((takeA n k C).A.Pairwise (fun x y=>dm n C.F x<dm n C.F y))/\(∀x,x∈(takeA n k C).A->((k+1:Nat):Int)<=dm n C.F x)/\(takeA n k C).B=C.B/\(∀x,x∈(takeA n k C).N->dm n C.F x=k)/\(takeA n k C).O=C.O:=by
  obtain ⟨F,A,B,N,O,q⟩:=C;have a1:=h.a1;have a2:=h.a2;have n1:=h.n1;simp only at a1 a2 n1;unfold takeA;rcases A with _|⟨x,t⟩
  ·exact ⟨List.Pairwise.nil,fun x hx=>by (cases hx),rfl,n1,rfl⟩
  ·simp only;rw [List.pairwise_cons] at a1;have hx:=a2 x σ
   split
   ·rename_i hd
    refine ⟨a1.2,fun y hy=>?_,rfl,fun y hy=>?_,rfl⟩
    ·have:=a1.1 y hy;omega
    ·simp only at hy;rcases τ.1 hy with hy|hy
     ·exact n1 y hy
     ·simp at hy;subst hy;exact hd
   ·rename_i hd
    refine ⟨List.pairwise_cons.2 a1,fun y hy=>?_,rfl,n1,rfl⟩;rcases ρ.1 hy with rfl|hy
    ·omega
    ·have:=a1.1 y hy;omega
 obtain ⟨k1,k2,k3,k4,k5⟩:=key;rw [←hF] at k1 k2 k4;exact ⟨by rw [hF];exact h.f,fun x hx=>by rw [hF];exact rt x hx,nd,k1,k2,by rw [k3,hF];exact h.b1,by rw [k3,hF];exact h.b2,k4,by rw [k5,hF];exact h.o1,by rw [k5,hF];exact h.o2⟩
theorem Dc {n k:Nat} {C:CC} (h:G n (k+1) k k k C):G n (k+1) (k+1) k k (takeB n k C):=by
 have hp:=qo n k C;have hF:=Lg n k C;have rt:=fun x (hx:x∈(takeB n k C).L)=>h.rt x (hp.mem_iff.1 hx);have nd:=hp.nodup_iff.2 h.nd;have key:((takeB n k C).B.Pairwise (fun x y=>dm n C.F x<dm n C.F y))/\(∀x,x∈(takeB n k C).B->((k+1:Nat):Int)<=dm n C.F x)/\(takeB n k C).A=C.A/\(∀x,x∈(takeB n k C).N->dm n C.F x=k)/\(takeB n k C).O=C.O:=by
  obtain ⟨F,A,B,N,O,q⟩:=C;have a1:=h.b1;have a2:=h.b2;have n1:=h.n1;simp only at a1 a2 n1;unfold takeB;rcases B with _|⟨x,t⟩
  ·exact ⟨List.Pairwise.nil,fun x hx=>by (cases hx),rfl,n1,rfl⟩
  ·simp only;rw [List.pairwise_cons] at a1;have hx:=a2 x σ
   split
   ·rename_i hd
    refine ⟨a1.2,fun y hy=>?_,rfl,fun y hy=>?_,rfl⟩
    ·have:=a1.1 y hy;omega
    ·simp only at hy;rcases τ.1 hy with hy|hy
     ·exact n1 y hy
     ·simp at hy;subst hy;exact hd
   ·rename_i hd
    refine ⟨List.pairwise_cons.2 a1,fun y hy=>?_,rfl,n1,rfl⟩;rcases ρ.1 hy with rfl|hy
    ·omega
    ·have:=a1.1 y hy;omega
 obtain ⟨k1,k2,k3,k4,k5⟩:=key;rw [←hF] at k1 k2 k4;exact ⟨by rw [hF];exact h.f,fun x hx=>by rw [hF];exact rt x hx,nd,by rw [k3,hF];exact h.a1,by rw [k3,hF];exact h.a2,k1,k2,k4,by rw [k5,hF];exact h.o1,by rw [k5,hF];exact h.o2⟩
theorem Ep {n k:Nat} {C:CC} (h:G n (k+1) (k+1) k k C):G n (k+1) (k+1) k (k+1) (fA C):=by
 have hp:=qm C;have hF:=Mm C;have rt:=fun x (hx:x∈(fA C).L)=>h.rt x (hp.mem_iff.1 hx);have nd:=hp.nodup_iff.2 h.nd;have key:(fA C).A=C.A/\(fA C).B=C.B/\(∀x,x∈(fA C).N->x∈C.N)/\((fA C).O=C.O\/∃x,x∈C.N/\(fA C).O=C.O++[x]):=by
  unfold fA
  split
  ·rename_i x hx
   exact ⟨rfl,rfl,fun y hy=>by (cases hy),Β ⟨x,by rw [hx];simp,rfl⟩⟩
  ·rename_i x y z hx
   exact ⟨rfl,rfl,fun u hu=>by rw [hx];exact Λ _ hu,Β ⟨x,by rw [hx];simp,rfl⟩⟩
  ·exact ⟨rfl,rfl,fun y hy=>hy,Α rfl⟩
 obtain ⟨k1,k2,k3,k4⟩:=key;refine ⟨by rw [hF];exact h.f,fun x hx=>by rw [hF];exact rt x hx,nd,by rw [k1,hF];exact h.a1,by rw [k1,hF];exact h.a2,by rw [k2,hF];exact h.b1,by rw [k2,hF];exact h.b2,fun x hx=>by rw [hF];exact h.n1 x (k3 x hx),?_,?_⟩
 ·rw [hF];rcases k4 with e|⟨x,hx,e⟩
  ·rw [e];exact h.o1
  ·rw [e,List.pairwise_append];exact ⟨h.o1,List.pairwise_singleton _ _,fun y hy z hz=>by simp at hz;subst hz;rw [h.n1 z hx];exact h.o2 y hy⟩
 ·rw [hF];intro y hy;rcases k4 with e|⟨x,hx,e⟩
  ·rw [e] at hy;have:=h.o2 y hy;omega
  ·rw [e] at hy;rcases τ.1 hy with hy|hy
   ·have:=h.o2 y hy;omega
   ·simp at hy;subst hy;rw [h.n1 y hx];omega
theorem zD {C:CC} (h:C.N.length<=3):(fA C).N=[]\/∃x y,(fA C).N=[x,y]:=by
 obtain ⟨F,A,B,N,O,q⟩:=C;simp only at h
 match N,h with
 | [],_=>exact Α rfl
 | [x],_=>exact Α rfl
 | [x,y],_=>exact Β ⟨x,y,rfl⟩
 | [x,y,z],_=>exact Β ⟨y,z,rfl⟩
 | _::_::_::_::_,h=>simp at h;try omega
theorem eO (n:Nat) (F:CF) {x:Nat} (hx:x<n):dm n F x=(F.k x).length:=by unfold dm;rw [Δ ω];simp
theorem vH (n:Nat) (F:CF) {a b:Nat} (ha:a<n) (x:Int) (hx:0<=x/\x<n):dm n (gV F a b) x=if x=a then dm n F a+1 else dm n F x:=by
 obtain ⟨y,rfl⟩:=Int.eq_ofNat_of_zero_le hx.1;have hy:y<n:=ω;rw [eO _ _ hy,eO _ _ ha,eO _ _ hy];unfold gV;simp only
 by_cases e:y=a
 ·subst e;simp
 ·rw [Γ e,Γ ω]
theorem I1 {n k:Nat} {C:CC} (h:G n (k+1) (k+1) k (k+1) C) {x y:Int} (hN:C.N=[x,y]):∃a b:Nat,x=a/\y=b/\a<n/\b<n/\a≠b/\C.F.u a=-1/\C.F.u b=-1/\(C.F.k a).length=k/\(C.F.k b).length=k:=by
 have hx:=h.rt x (by unfold CC.L;rw [hN];simp);have hy:=h.rt y (by unfold CC.L;rw [hN];simp);have dx:=h.n1 x (by rw [hN];simp);have dy:=h.n1 y (by rw [hN];simp);obtain ⟨a,rfl⟩:=Int.eq_ofNat_of_zero_le hx.1;obtain ⟨b,rfl⟩:=Int.eq_ofNat_of_zero_le hy.1;have ha:a<n:=ω;have hb:b<n:=ω;rw [eO _ _ ha] at dx;rw [eO _ _ hb] at dy;refine ⟨a,b,rfl,rfl,ha,hb,fun e=>?_,by simpa using hx.2.2,by simpa using hy.2.2,ω,ω⟩;subst e;have:=h.nd;unfold CC.L at this;rw [hN] at this;rw [θ] at this;have:=this.2.1;rw [θ] at this;have:=this.2.1;simp at this
theorem Ou (lt:Int->Int->Bool) (a b:Nat):(jE lt a b=a/\mE lt a b=b)\/(jE lt a b=b/\mE lt a b=a):=by
 unfold jE mE
 split
 ·exact Β ⟨rfl,rfl⟩
 ·exact Α ⟨rfl,rfl⟩
theorem XT {lt:Int->Int->Bool} {n k:Nat} {C:CC} (h:G n (k+1) (k+1) k (k+1) C) (hN:C.N=[]\/∃x y,C.N=[x,y]):G n (k+1) (k+1) (k+1) (k+1) (mH lt C)/\(mH lt C).N.length<=1/\(mH lt C).q+(mH lt C).L.length=C.q+C.L.length:=by
 rcases hN with hN|⟨x,y,hN⟩
 ·have e:mH lt C=C:=by unfold mH;rw [hN]
  rw [e];exact ⟨⟨h.f,h.rt,h.nd,h.a1,h.a2,h.b1,h.b2,fun x hx=>(by rw [hN] at hx;cases hx),h.o1,h.o2⟩,by rw [hN];simp,rfl⟩
 ·obtain ⟨a,b,rfl,rfl,ha,hb,hne,ra,rb,da,db⟩:=I1 h hN;have e:mH lt C={ C with F:=gV C.F (jE lt a b) (mE lt a b),N:=[(jE lt a b:Int)],q:=C.q+1 }:=by unfold mH;rw [hN];simp
  have hm:∀z,z∈C.A++(C.B++C.O)->z∈C.L/\z≠a/\z≠b:=fun z hz=>by
   have hnd:=h.nd;unfold CC.L at hnd ⊢;rw [hN] at hnd ⊢;have hp:(C.A++(C.B++([(a:Int),(b:Int)]++C.O))).Perm ((a:Int)::(b:Int)::(C.A++(C.B++C.O))):=by
    rw [List.perm_iff_count];intro y;simp [List.count_append,List.count_cons];omega
   have Dy:=hp.nodup_iff.1 hnd;rw [Ζ,Ζ] at Dy;refine ⟨hp.mem_iff.2 (Λ _ (Λ _ hz)),fun e=>?_,fun e=>?_⟩
   ·subst e;exact Dy.1 (Λ _ hz)
   ·subst e;exact Dy.2.1 hz
  have hmA:∀z,z∈C.A->z∈C.A++(C.B++C.O):=fun z hz=>by simp [hz]
  have hmB:∀z,z∈C.B->z∈C.A++(C.B++C.O):=fun z hz=>by simp [hz]
  have hmO:∀z,z∈C.O->z∈C.A++(C.B++C.O):=fun z hz=>by simp [hz]
  obtain ⟨hi,lo,ehi,elo,hhi,hlo,hne2,rhi,rlo,dhi,dlo,YY⟩:∃hi lo,jE lt a b=hi/\mE lt a b=lo/\hi<n/\lo<n/\hi≠lo/\C.F.u hi=-1/\C.F.u lo=-1/\(C.F.k hi).length=k/\(C.F.k lo).length=k/\((hi=a/\lo=b)\/(hi=b/\lo=a)):=by
   rcases Ou lt a b with ⟨h1,h2⟩|⟨h1,h2⟩
   ·exact ⟨a,b,h1,h2,ha,hb,hne,ra,rb,da,db,Α ⟨rfl,rfl⟩⟩
   ·exact ⟨b,a,h1,h2,hb,ha,Ne.symm hne,rb,ra,db,da,Β ⟨rfl,rfl⟩⟩
  have D5:∀z,z∈C.A++(C.B++C.O)->z≠(hi:Int)/\z≠(lo:Int):=fun z hz=>by
   have:=hm z hz;rcases YY with ⟨rfl,rfl⟩|⟨rfl,rfl⟩
   ·exact this.2
   ·exact ⟨this.2.2,this.2.1⟩
  have EE:∀z,z∈C.A++(C.B++C.O)->dm n (gV C.F hi lo) z=dm n C.F z:=fun z hz=>by
   have hr:=h.rt z (hm z hz).1;rw [vH n C.F hhi z ⟨hr.1,hr.2.1⟩,Γ (D5 z hz).1]
  rw [e,ehi,elo];have hL:(CC.L { C with F:=gV C.F hi lo,N:=[(hi:Int)],q:=C.q+1 }).Perm ((hi:Int)::(C.A++(C.B++C.O))):=by
   unfold CC.L;simp only;rw [List.perm_iff_count];intro y;simp [List.count_append,List.count_cons];omega
  refine ⟨⟨h.f.link hhi hlo hne2 rhi rlo (by rw [dhi,dlo]),fun z hz=>?_,hL.nodup_iff.2 (List.nodup_cons.2 ⟨fun hm2=>(D5 _ hm2).1 rfl,?_⟩),?_,?_,?_,?_,?_,?_,?_⟩,σ,?_⟩
  ·rcases ρ.1 (hL.mem_iff.1 hz) with rfl|hz
   ·refine ⟨ω,ω,?_⟩;unfold gV;simp only [π];rw [Γ hne2];exact rhi
   ·have hr:=h.rt z (hm z hz).1;refine ⟨hr.1,hr.2.1,?_⟩;unfold gV;simp only;rw [Γ (fun e=>by have:=(D5 z hz).2;omega)];exact hr.2.2
  ·have hnd:=h.nd;unfold CC.L at hnd;rw [hN] at hnd;have hp:(C.A++(C.B++([(a:Int),(b:Int)]++C.O))).Perm ((a:Int)::(b:Int)::(C.A++(C.B++C.O))):=by
    rw [List.perm_iff_count];intro y;simp [List.count_append,List.count_cons];omega
   have Dy:=hp.nodup_iff.1 hnd;rw [Ζ,Ζ] at Dy;exact Dy.2.2
  ·exact h.a1.imp_of_mem (fun {x y} hx hy hxy=>by rw [EE x (hmA x hx),EE y (hmA y hy)];exact hxy)
  ·intro x hx
   show _<=dm n (gV C.F hi lo) x
   rw [EE x (hmA x hx)];exact h.a2 x hx
  ·exact h.b1.imp_of_mem (fun {x y} hx hy hxy=>by rw [EE x (hmB x hx),EE y (hmB y hy)];exact hxy)
  ·intro x hx
   show _<=dm n (gV C.F hi lo) x
   rw [EE x (hmB x hx)];exact h.b2 x hx
  ·intro x hx;simp at hx;subst hx
   show dm n (gV C.F hi lo) (hi:Int)=_
   rw [vH n C.F hhi hi ω,Δ rfl,eO n C.F hhi,dhi];omega
  ·exact h.o1.imp_of_mem (fun {x y} hx hy hxy=>by rw [EE x (hmO x hx),EE y (hmO y hy)];exact hxy)
  ·intro x hx
   show dm n (gV C.F hi lo) x<_
   rw [EE x (hmO x hx)];exact h.o2 x hx
  ·unfold CC.L;simp only [υ,Ω,List.length_nil,hN];omega
theorem Fg {lt:Int->Int->Bool} {n:Nat} {C0:CC} (h:G n 0 0 0 0 C0) (hN:C0.N=[]):∀k,G n k k k k (gG lt n k C0)/\(gG lt n k C0).N.length<=1/\(gG lt n k C0).q+(gG lt n k C0).L.length=C0.q+C0.L.length
 | 0=>⟨h,by rw [gG,hN];simp,rfl⟩
 | k+1=>by
  obtain ⟨g,h1,h2⟩:=Fg (lt:=lt) h hN k;have g1:=Dw g;have g2:=Dc g1;have g3:=Ep g2;have t1:=(xG n k (gG lt n k C0)).2;have t2:=(xJ n k (takeA n k (gG lt n k C0))).2;have ev:=zD (C:=takeB n k (takeA n k (gG lt n k C0))) ω;obtain ⟨g4,h3,h4⟩:=XT (lt:=lt) g3 ev;refine ⟨g4,h3,?_⟩;rw [gG];unfold Fe;rw [h4,Sb,(qm _).length_eq,(qo _ _ _).length_eq,(ql _ _ _).length_eq];exact h2
def wt (n:Nat) (F:CF) (l:List Int):Nat:=(l.map (fun x=>2 ^ (dm n F x).toNat)).sum
theorem Em {n:Nat} {F:CF} {l m:List Int} (h:l.Perm m):wt n F l=wt n F m:=by
 unfold wt;exact (h.map _).sum_nat
theorem y9 {n:Nat} {F F':CF} {l:List Int} (h:∀x,x∈l->dm n F x=dm n F' x):wt n F l=wt n F' l:=by
 unfold wt
 congr 1
 exact List.map_congr_left (fun x hx=>by rw [h x hx])
structure RI (lt:Int->Int->Bool) (n:Nat) (C0 C:CC):Prop where
 sub:∀x,x∈C.L->x∈C0.L
 out:∀x:Nat,(x:Int)∉C0.L->C.F.u x=C0.F.u x/\C.F.k x=C0.F.k x
 wt:wt n C.F C.L=wt n C0.F C0.L
 nl:∀y p:Nat,y<n->C.F.u y=p->C0.F.u y=p\/((y:Int)∈C0.L/\(p:Int)∈C0.L/\y≠p/\lt y p=false)
 ro:∀y:Nat,(y:Int)∈C0.L->(y:Int)∈C.L\/∃p:Nat,p<n/\C.F.u y=p
theorem RI.refl (lt:Int->Int->Bool) (n:Nat) (C:CC):RI lt n C C:=⟨fun x h=>h,fun x _=>⟨rfl,rfl⟩,rfl,fun y p _ h=>Α h,fun y h=>Α h⟩
theorem RI.trans {lt:Int->Int->Bool} {n:Nat} {A B C:CC} (h:RI lt n A B) (k:RI lt n B C):RI lt n A C:=
 ⟨fun x hx=>h.sub x (k.sub x hx),fun x hx=>by
  have h1:=h.out x hx;have h2:=k.out x (fun hm=>hx (h.sub _ hm));exact ⟨h2.1.trans h1.1,h2.2.trans h1.2⟩,k.wt.trans h.wt,fun y p hy hu=>by
  rcases k.nl y p hy hu with h1|⟨h1,h2,h3,h4⟩
  ·exact h.nl y p hy h1
  ·exact Β ⟨h.sub _ h1,h.sub _ h2,h3,h4⟩,fun y hy=>by
  by_cases hB:(y:Int)∈B.L
  ·exact k.ro y hB
  ·rcases h.ro y hy with h1|⟨p,hp,h1⟩
   ·exact absurd h1 hB
   ·exact Β ⟨p,hp,by rw [(k.out y hB).1];exact h1⟩⟩
theorem RI.perm {lt:Int->Int->Bool} {n:Nat} {C D:CC} (hp:D.L.Perm C.L) (hF:D.F=C.F):RI lt n C D:=
 ⟨fun x hx=>hp.mem_iff.1 hx,fun x _=>by rw [hF];exact ⟨rfl,rfl⟩,by rw [hF];exact Em hp,fun y p _ h=>by rw [hF] at h;exact Α h,fun y h=>Α (hp.mem_iff.2 h)⟩
theorem Vk {lt:Int->Int->Bool} {n k:Nat} {C:CC} (has:∀a b,lt a b=true->lt b a=false) (h:G n (k+1) (k+1) k (k+1) C) (hN:C.N=[]\/∃x y,C.N=[x,y]):RI lt n C (mH lt C):=by
 rcases hN with hN|⟨x,y,hN⟩
 ·have e:mH lt C=C:=by unfold mH;rw [hN]
  rw [e];exact RI.refl _ _ _
 ·obtain ⟨a,b,rfl,rfl,ha,hb,hne,ra,rb,da,db⟩:=I1 h hN;have e:mH lt C={ C with F:=gV C.F (jE lt a b) (mE lt a b),N:=[(jE lt a b:Int)],q:=C.q+1 }:=by unfold mH;rw [hN];simp
  rw [e];obtain ⟨hi,lo,ehi,elo,hhi,hlo,hne2,dhi,dlo,hah,YY⟩:∃hi lo,jE lt a b=hi/\mE lt a b=lo/\hi<n/\lo<n/\hi≠lo/\(C.F.k hi).length=k/\(C.F.k lo).length=k/\lt lo hi=false/\((hi=a/\lo=b)\/(hi=b/\lo=a)):=by
   unfold jE mE
   by_cases hab:lt b a=true
   ·rw [Δ hab,Δ hab];exact ⟨b,a,rfl,rfl,hb,ha,Ne.symm hne,db,da,has _ _ hab,Β ⟨rfl,rfl⟩⟩
   ·rw [Γ hab,Γ hab];exact ⟨a,b,rfl,rfl,ha,hb,hne,da,db,by simpa using hab,Α ⟨rfl,rfl⟩⟩
  have Pj:C.L.Perm ((hi:Int)::(lo:Int)::(C.A++(C.B++C.O))):=by
   unfold CC.L;rw [hN,List.perm_iff_count];intro y;rcases YY with ⟨rfl,rfl⟩|⟨rfl,rfl⟩<;>simp [List.count_append,List.count_cons]<;>omega
  have hL:(CC.L { C with F:=gV C.F hi lo,N:=[(hi:Int)],q:=C.q+1 }).Perm ((hi:Int)::(C.A++(C.B++C.O))):=by
   unfold CC.L;simp only;rw [List.perm_iff_count];intro y;simp [List.count_append,List.count_cons];omega
  have Dy:=Pj.nodup_iff.1 h.nd;rw [Ζ,Ζ] at Dy;rw [ehi,elo];refine ⟨fun x hx=>Pj.mem_iff.2 ?_,fun x hx=>?_,?_,fun y p hy hu=>?_,fun y hy=>?_⟩
  ·rcases ρ.1 (hL.mem_iff.1 hx) with rfl|hx
   ·simp
   ·exact Λ _ (Λ _ hx)
  ·unfold gV;simp only;rw [Γ (fun e=>hx (by subst e;exact Pj.mem_iff.2 σ)),Γ (fun e=>hx (by subst e;exact Pj.mem_iff.2 σ))];exact ⟨rfl,rfl⟩
  ·rw [Em hL,Em Pj];have hd:∀z,z∈C.A++(C.B++C.O)->dm n (gV C.F hi lo) z=dm n C.F z:=fun z hz=>by
    have hr:=h.rt z (Pj.mem_iff.2 (Λ _ (Λ _ hz)));rw [vH n C.F hhi z ⟨hr.1,hr.2.1⟩,Γ (fun e=>by subst e;exact Dy.1 (Λ _ hz))]
   have e1:=y9 hd;have e2:dm n (gV C.F hi lo) (hi:Int)=(k:Int)+1:=by rw [vH n C.F hhi hi ω,Δ rfl,eO n C.F hhi,dhi]
   have e3:dm n C.F (hi:Int)=(k:Int):=by rw [eO n C.F hhi,dhi]
   have e4:dm n C.F (lo:Int)=(k:Int):=by rw [eO n C.F hlo,dlo]
   have:∀ (F:CF) (x:Int) (l:List Int),wt n F (x::l)=2 ^ (dm n F x).toNat + wt n F l:=fun F x l=>by unfold wt;simp
   rw [this,this,this,e1,e2,e3,e4];have e5:((k:Int)+1).toNat=k+1:=ω;rw [e5,π,Nat.pow_succ];omega
  ·unfold gV at hu;simp only at hu
   split at hu
   ·rename_i e
    subst e;obtain rfl:hi=p:=ω;exact Β ⟨Pj.mem_iff.2 σ,Pj.mem_iff.2 σ,Ne.symm hne2,hah⟩
   ·exact Α hu
  ·rcases ρ.1 (Pj.mem_iff.1 hy) with e|hy
   ·exact Α (hL.mem_iff.2 (by rw [e];simp))
   ·rcases ρ.1 hy with e|hy
    ·refine Β ⟨hi,hhi,?_⟩;unfold gV;simp only;rw [Δ ω]
    ·exact Α (hL.mem_iff.2 (Λ _ hy))
theorem JU {lt:Int->Int->Bool} {n:Nat} {C0:CC} (has:∀a b,lt a b=true->lt b a=false) (h:G n 0 0 0 0 C0) (hN:C0.N=[]):∀k,RI lt n C0 (gG lt n k C0)
 | 0=>RI.refl _ _ _
 | k+1=>by
  obtain ⟨g,h1,h2⟩:=Fg (lt:=lt) h hN k;have g1:=Dw g;have g2:=Dc g1;have g3:=Ep g2;have t1:=(xG n k (gG lt n k C0)).2;have t2:=(xJ n k (takeA n k (gG lt n k C0))).2;have ev:=zD (C:=takeB n k (takeA n k (gG lt n k C0))) ω;have r4:=Vk has g3 ev;exact ((((JU has h hN k).trans (RI.perm (ql n k _) (Lp n k _))).trans (RI.perm (qo n k _) (Lg n k _))).trans (RI.perm (qm _) (Mm _))).trans r4
theorem g_ok {lt:Int->Int->Bool} {n:Nat} {C0:CC} {dom:Int->Prop} (has:∀a b,lt a b=true->lt b a=false) (hdm:∀x,x∈C0.L->dom x) (h:G n 0 0 0 0 C0) (hN:C0.N=[]) (hn:n<=65536) (hq:C0.q<=900000) (k:Nat):LK dom lt n k (gG lt n k C0):=by
 obtain ⟨g,h1,h2⟩:=Fg (lt:=lt) h hN k;have hL0:C0.L.length<=n:=rC n _ h.nd (fun x hx=>by have:=h.rt x hx;omega);have hL:(gG lt n k C0).L.length<=n:=rC n _ g.nd (fun x hx=>by have:=g.rt x hx;omega);have hLL:(gG lt n k C0).L.length=(gG lt n k C0).A.length+((gG lt n k C0).B.length+((gG lt n k C0).N.length+(gG lt n k C0).O.length)):=by unfold CC.L;simp
 have dn:∀x,x∈(gG lt n k C0).L->dm n (gG lt n k C0).F x<=n:=fun x hx=>by
  have hr:=g.rt x hx;obtain ⟨y,rfl⟩:=Int.eq_ofNat_of_zero_le hr.1;have hy:y<n:=ω;rw [eO _ _ hy];have:=g.f.len hy;omega
 refine ⟨h1,fun x y hxy=>?_,ω,ω,fun hne=>?_⟩
 ·have g3:=Ep (Dc (Dw g));obtain ⟨a,b,e1,e2,ha,hb,hab,ra,rb,da,db⟩:=I1 g3 hxy;have hsub:∀z,z∈(fA (takeB n k (takeA n k (gG lt n k C0)))).L->dom z:=fun z hz=>hdm z ((JU has h hN k).sub z ((ql n k _).mem_iff.1 ((qo n k _).mem_iff.1 ((qm _).mem_iff.1 hz))));have da':dom (a:Int):=by rw [←e1];exact hsub x (by unfold CC.L;rw [hxy];simp)
  have db':dom (b:Int):=by rw [←e2];exact hsub y (by unfold CC.L;rw [hxy];simp)
  refine ⟨a,b,e1,e2,da',db',ha,hb,hab,?_,?_,?_,g3.f.len ha,g3.f.len hb⟩
  ·unfold Aj;rw [Ν ω];simp [ra]
  ·unfold Aj;rw [Ν ω];simp [rb]
  ·rw [eO _ _ ha,eO _ _ hb,da,db]
 ·rcases hne with hne|hne|hne
  ·obtain ⟨x,t,e⟩:=List.exists_cons_of_ne_nil hne;have h3:=g.a2 x (by rw [e];simp);have h4:=dn x (by unfold CC.L;rw [e];simp);omega
  ·obtain ⟨x,t,e⟩:=List.exists_cons_of_ne_nil hne;have h3:=g.b2 x (by rw [e];simp);have h4:=dn x (by unfold CC.L;rw [e];simp);omega
  ·obtain ⟨x,t,e⟩:=List.exists_cons_of_ne_nil hne;have h3:=g.n1 x (by rw [e];simp);have h4:=dn x (by unfold CC.L;rw [e];simp);omega
end Go.Proofs.YtklibcncmbofpaaGreat
namespace Go.Proofs.YtklibcncmbofpaaGreat
open Go Go.RowKit
def kX (n:Nat) (F:CF) (l:List Int):Prop:=(∀x,x∈l->0<=x/\x<n/\F.u x.toNat=-1)/\l.Pairwise (fun x y=>dm n F x<dm n F y)
theorem BN (n:Nat) (F:CF) (x:Int):Aj n F x=true↔0<=x/\x<n/\F.u x.toNat=-1:=by
 unfold Aj;simp only [Τ,Ο,beq_iff_eq];exact ⟨fun h=>⟨h.1.1,h.1.2,h.2⟩,fun h=>⟨⟨h.1,h.2.1⟩,h.2.2⟩⟩
theorem lZ {l:List Int} {i:Nat} (h:i<l.length):l.getD i 0=l[i]:=by simp [φ,h]
theorem Gb (n:Nat) (S:CS) (l:List Int):Nv n S l=true↔kX n S.f l:=by
 unfold Nv wy rowOk;simp only [X9,Xd];rw [List.all_eq_true];simp only [List.mem_range,Τ,Bool.or_eq_true,beq_iff_eq,Ο];constructor
 ·intro h;refine ⟨fun x hx=>?_,?_⟩
  ·obtain ⟨i,hi,rfl⟩:=List.getElem_of_mem hx;have:=(h i hi).1;rw [lZ hi] at this;exact (BN n S.f _).1 this
  ·rw [List.pairwise_iff_getElem];have key:∀ (d i:Nat) (hi:i<l.length) (hj:i+d+1<l.length),dm n S.f l[i]<dm n S.f l[i+d+1]:=fun d=>by
    induction d with
    | zero=>
     intro i hi hj;rcases (h (i+1) hj).2 with h2|h2
     ·omega
     ·rw [Nat.add_sub_cancel,lZ hi,lZ hj] at h2;exact ϟ h2
    | succ d ih=>
     intro i hi hj;have h1:=ih i hi ω;rcases (h (i+d+1+1) ω).2 with h2|h2
     ·omega
     ·rw [Nat.add_sub_cancel,lZ (show i+d+1<l.length by omega),lZ (show i+d+1+1<l.length by omega)] at h2;exact Int.lt_trans h1 (ϟ h2)
   intro i j hi hj hij;have:=key (j-i-1) i hi ω;simpa [show i+(j-i-1)+1=j by omega] using this
 ·rintro ⟨h1,h2⟩ i hi;refine ⟨?_,?_⟩
  ·rw [lZ hi];exact (BN n S.f _).2 (h1 _ (ϗ hi))
  ·rcases Nat.eq_zero_or_pos i with h0|h0
   ·exact Α h0
   ·rw [lZ hi,lZ (show i-1<l.length by omega)];exact Β (Ν ((List.pairwise_iff_getElem.1 h2) (i-1) i ω hi ω))
theorem kX.nodup {n:Nat} {F:CF} {l:List Int} (h:kX n F l):l.Nodup:=h.2.imp (fun {a b} hab e=>by subst e;omega)
theorem any_false {A B:List Int}:A.any (fun x=>decide (x∈B))=false↔∀x,x∈A->x∉B:=by
 rw [List.any_eq_false];simp
theorem Ld {n:Nat} {F:CF} {A B:List Int} {q:Nat} (f:nY n F) (hA:kX n F A) (hB:kX n F B) (hd:∀x,x∈A->x∉B):G n 0 0 0 0 ⟨F,A,B,[],[],q⟩:=by
 have d0:∀x,0<=dm n F x:=fun x=>by unfold dm;split<;>omega
 refine ⟨f,fun x hx=>?_,?_,hA.2,fun x _=>by simpa using d0 x,hB.2,fun x _=>by simpa using d0 x,fun x hx=>(by cases hx),List.Pairwise.nil,fun x hx=>(by cases hx)⟩
 ·unfold CC.L at hx;simp only [Υ,τ] at hx;rcases hx with hx|hx
  ·exact hA.1 x hx
  ·exact hB.1 x hx
 ·unfold CC.L;simp only [Υ];rw [θ];exact ⟨hA.nodup,hB.nodup,fun x hx y hy e=>by subst e;exact hd x hx hy⟩
def CC.done (C:CC):Prop:=C.A=[]/\C.B=[]/\C.N=[]
instance (C:CC):Decidable C.done:=by unfold CC.done;exact inferInstance
theorem step_done {lt:Int->Int->Bool} {n k:Nat} {C:CC} (h:C.done):Fe lt n k C=C:=by
 obtain ⟨F,A,B,N,O,q⟩:=C;obtain ⟨h1,h2,h3⟩:=h;simp only at h1 h2 h3;subst h1 h2 h3
 rfl
theorem zZ {lt:Int->Int->Bool} {n k:Nat} {C0:CC} (h:(gG lt n k C0).done):∀j,gG lt n (k+j) C0=gG lt n k C0
 | 0=>rfl
 | j+1=>by
  have ih:=zZ h j;rw [Nat.add_succ,gG,ih,step_done h]
theorem PZ {lt:Int->Int->Bool} {n k m:Nat} {C0:CC} (hk:(gG lt n k C0).done) (hm:(gG lt n m C0).done):gG lt n k C0=gG lt n m C0:=by
 rcases Nat.le_total k m with h|h
 ·have:=zZ hk (m-k);rw [show k+(m-k)=m by omega] at this;exact this.symm
 ·have:=zZ hm (k-m);rw [show m+(k-m)=k by omega] at this;exact this
def vN (lt:Int->Int->Bool) (n:Nat) (C0:CC) (F:CF) (O:List Int) (q:Nat):Prop:=∃k,gG lt n k C0=⟨F,[],[],[],O,q⟩
theorem vN.eq {lt:Int->Int->Bool} {n:Nat} {C0:CC} {F:CF} {O:List Int} {q:Nat} (h:vN lt n C0 F O q) {m:Nat} (hm:(gG lt n m C0).done):gG lt n m C0=⟨F,[],[],[],O,q⟩:=by
 obtain ⟨k,hk⟩:=h;rw [←hk];exact PZ hm (by rw [hk];exact ⟨rfl,rfl,rfl⟩)
structure FL (O:uA) (w:World) (bt ba lo n:Nat) (S:CS) (q:Nat):Prop where
 f:aQ w bt ba lo n S
 l:O.at_ w q
 a:Apart O bt ba n S
 t:bt<w.heap.size
 ok:nY n S.f
theorem M9 (O:uA) (bt ba lo n:Nat) (S:CS) (va vb:Value) (A B:List Int) (q:Nat) (w:World) (h:FL O w bt ba lo n S q)
  (ha:iC w (O.wr++ba::S.blk n) va A) (hb:iC w (O.wr++ba::S.blk n) vb B) (hA:kX n S.f A) (hB:kX n S.f B) (hd:∀x,x∈A->x∉B) (hq:q<=900000) (hdA:∀x,x∈A->O.dom x) (hdB:∀x,x∈B->O.dom x) :
  Calls Tryz.prog 194 #[.pointer (some ⟨bt,0,none⟩),.iface O.ty (.pointer (some ⟨O.p,0,none⟩)),va,vb] w fun e w'=>
   ∃S' vo X q',e=.returned (.tuple #[vo,.bool true])/\FL O w' bt ba lo n S' q'/\vN O.lt n ⟨S.f,A,B,[],[],q⟩ S'.f X q'/\G n 0 0 0 0 ⟨S.f,A,B,[],[],q⟩/\aX w' w.heap.size vo X/\iC w' (O.wr++ba::S'.blk n) vo X/\aa (O.wr++ba::S.blk n) w w'/\(∀g,g∈S'.blk n->g∈S.blk n\/w.heap.size<=g)/\(∀g,vo.ownBlock=some g->g∉S'.blk n):=by
 have g0:=Ld (q:=q) h.ok hA hB hd
 refine (Oq O bt ba lo n S va vb A B q w h.f h.l h.a h.t ha hb ((Gb n S A).2 hA) ((Gb n S B).2 hB) (any_false.2 hd) (g_ok O.asym (fun x hx=>by
  have e:CC.L ⟨S.f,A,B,[],[],q⟩=A++B:=by unfold CC.L;simp
  rw [e] at hx;rcases τ.1 hx with hx|hx
  ·exact hdA x hx
  ·exact hdB x hx) g0 rfl h.f.le hq)).mono ?_
 rintro e w' ⟨k,vn,va',WS,vo,rfl,hM,e1,e2,e3⟩;have gk:=(Fg (lt:=O.lt) g0 rfl k).1;generalize hC:gG O.lt n k ⟨S.f,A,B,[],[],q⟩=C at *;obtain ⟨F,A1,B1,N1,O1,q1⟩:=C;simp only at e1 e2 e3;subst e1 e2 e3;obtain ⟨S',hS,hF,hAp,h4,h5,h6⟩:=hM.uW;simp only at hS;subst hS;have OG:=hM.old _ hM.KS.2;have hlt2:=hF.LC;have hblk:∀g,g∈S'.blk n->g∈S.blk n\/w.heap.size<=g:=fun g hg=>by
  rcases h4 g hg with h'|h'
  ·rcases τ.1 h' with h'|h'
   ·exact absurd (O.sub _ h') (hAp.blk g hg)
   ·rcases ρ.1 h' with rfl|h'
    ·have:=(hF.nu hg).1;omega
    ·exact Α h'
  ·exact Β ω
 refine ⟨S',vo,O1,q1,rfl,⟨hF,hM.ZJ,hAp,Ψ h.t hM.upd.size,gk.f⟩,⟨k,hC⟩,g0,hM.out.mono ω,?_,hM.upd,hblk,h6⟩;obtain ⟨a,cap,rfl,h1,h2,h3⟩:=hM.out.shape;refine ⟨a,cap,rfl,h1,h2,fun j u hj=>?_⟩;obtain ⟨g,off,rfl,hc⟩:=h3 j u hj;have hg:=hM.out.lt g rfl;refine ⟨g,off,rfl,hg.2,fun hm=>?_,hc⟩;rcases τ.1 hm with hm|hm
 ·have:=hM.k0 _ (O.sub _ hm);omega
 ·rcases ρ.1 hm with rfl|hm
  ·omega
  ·exact h6 g rfl hm
structure Dh (lt:Int->Int->Bool) (n:Nat) (F:CF) (A B:List Int) (q:Nat) (F':CF) (O:List Int) (q':Nat):Prop where
 row:kX n F' O
 ok:nY n F'
 cnt:q'+O.length=q+(A.length+B.length)
 sub:∀x,x∈O->x∈A\/x∈B
 out:∀x:Nat,(x:Int)∉A->(x:Int)∉B->F'.u x=F.u x/\F'.k x=F.k x
 wt:wt n F' O=wt n F A+wt n F B
 nl:∀y p:Nat,y<n->F'.u y=p->F.u y=p\/(((y:Int)∈A\/(y:Int)∈B)/\((p:Int)∈A\/(p:Int)∈B)/\y≠p/\lt y p=false)
 ro:∀y:Nat,((y:Int)∈A\/(y:Int)∈B)->(y:Int)∈O\/∃p:Nat,p<n/\F'.u y=p
theorem carried {lt:Int->Int->Bool} (has:∀a b,lt a b=true->lt b a=false) {n:Nat} {F:CF} {A B:List Int} {q:Nat} {F':CF} {O:List Int} {q':Nat} (g:G n 0 0 0 0 ⟨F,A,B,[],[],q⟩) (h:vN lt n ⟨F,A,B,[],[],q⟩ F' O q'):Dh lt n F A B q F' O q':=by
 obtain ⟨k,hk⟩:=h;have g1:=Fg (lt:=lt) g rfl k;have r:=JU has g rfl k;rw [hk] at g1 r;obtain ⟨g1,_,g2⟩:=g1;have eL:CC.L ⟨F',[],[],[],O,q'⟩=O:=by unfold CC.L;simp
 have eL0:CC.L ⟨F,A,B,[],[],q⟩=A++B:=by unfold CC.L;simp
 have s:=r.sub;have o:=r.out;have w:=r.wt;rw [eL] at s w g2;rw [eL0] at s o w g2;refine ⟨⟨fun x hx=>g1.rt x (by rw [eL];exact hx),g1.o1⟩,g1.f,by simpa using g2,fun x hx=>by simpa using s x hx,fun x h1 h2=>o x (by simp;exact ⟨h1,h2⟩),?_,fun y p hy hu=>by have:=r.nl y p hy hu;rw [eL0] at this;simpa using this,fun y hy=>by have:=r.ro y (by rw [eL0];simpa using hy);rw [eL] at this;exact this⟩;rw [w];unfold wt;simp
end Go.Proofs.YtklibcncmbofpaaGreat
namespace Go.Proofs.YtklibcncmbofpaaGreat
def Pf (l:List Int) (x y:Int):List Int:=l.map (fun z=>if z=x then y else z)
theorem nY.split {n:Nat} {S:CS} (h:nY n S.f) {x:Nat} (hx:x<n) (hr:S.u x=-1):nY n (gN S x).f:=by
 have nx:∀z,z<n->(x:Int)∉S.k z:=fun z hz hm=>by
  have:=(h.vD z hz _ hm).2.2;rw [π] at this;have e:S.f.u x=S.u x:=rfl;omega
 have uk:∀y z,y<n->z<n->(y:Int)∈S.k z->S.u y=z:=fun y z hy hz hm=>by
  have:=(h.vD z hz _ hm).2.2;rwa [π] at this
 refine ⟨fun z hz y hy=>?_,fun z hz=>?_,fun y hy=>?_,fun z hz i w hw=>?_⟩
 ·show 0<=y/\y<n/\(if ((y.toNat:Nat):Int)∈S.k x then (-1:Int) else S.u y.toNat)=z
  have hy':y∈(if z=x then ([]:List Int) else S.k z):=hy
  by_cases e:z=x
  ·rw [Δ e] at hy';cases hy'
  ·rw [Γ e] at hy';obtain ⟨h1,h2,h3⟩:=h.vD z hz y hy';refine ⟨h1,h2,?_⟩;rw [Γ (fun hm=>?_)]
   ·exact h3
   ·have:=uk y.toNat x ω hx hm;have e3:S.f.u y.toNat=S.u y.toNat:=rfl;omega
 ·show (if z=x then ([]:List Int) else S.k z).Nodup
  split
  ·exact Ϡ
  ·exact h.nd z hz
 ·show (if (y:Int)∈S.k x then (-1:Int) else S.u y)=-1\/∃p:Nat,p<n/\(if (y:Int)∈S.k x then (-1:Int) else S.u y)=p/\(y:Int)∈(if p=x then ([]:List Int) else S.k p)
  by_cases hm:(y:Int)∈S.k x
  ·rw [Δ hm];exact Α rfl
  ·rw [Γ hm];rcases h.up y hy with h1|⟨p,hp,h1,h2⟩
   ·exact Α h1
   ·refine Β ⟨p,hp,h1,?_⟩;rw [Γ (fun e=>by subst e;exact hm h2)];exact h2
 ·have hw':(if z=x then ([]:List Int) else S.k z)[i]?=some w:=hw
  show (if w.toNat=x then ([]:List Int) else S.k w.toNat).length=i
  by_cases e:z=x
  ·rw [Δ e] at hw';simp at hw'
  ·rw [Γ e] at hw';have hm:=Η hw';have hr:=h.vD z hz w hm;rw [Γ (fun e2=>nx z hz (by rw [←e2,show ((w.toNat:Nat):Int)=w by omega];exact hm))];exact h.xC z hz i w hw'
theorem yK {l:List Int} (h:l.Nodup) (x y:Int) (hx:x∈l):Pf l x y=setAt l x y:=by
 obtain ⟨i,hi,he,hxi⟩:=vC l x hx;unfold Pf setAt;rw [he,π];apply List.ext_getElem σ;intro j h1 h2;rw [List.getElem_map,List.getElem_set];have hil:l[i]=x:=(List.getElem?_eq_some_iff.1 hxi).2
 by_cases e:i=j
 ·subst e;rw [Δ hil,Δ rfl]
 ·rw [Γ e,Γ (fun e2=>e ?_)];have hj:j<l.length:=by simpa using h1
  have hp:=List.pairwise_iff_getElem.1 (List.nodup_iff_pairwise_ne.1 h);rcases Nat.lt_trichotomy i j with h'|h'|h'
  ·exact absurd (hil.trans e2.symm) (hp i j hi hj h')
  ·exact h'
  ·exact absurd (e2.trans hil.symm) (hp j i hj hi h')
theorem oN {l:List Int} (h:l.Nodup) {x y z:Int} (hx:x∈l):z∈setAt l x y↔z=y\/(z∈l/\z≠x):=by
 rw [←yK h x y hx];unfold Pf;rw [List.mem_map];constructor
 ·rintro ⟨w,hw,rfl⟩
  by_cases e:w=x
  ·rw [Δ e];exact Α rfl
  ·rw [Γ e];exact Β ⟨hw,e⟩
 ·rintro (rfl|⟨h1,h2⟩)
  ·exact ⟨x,hx,by rw [Δ rfl]⟩
  ·exact ⟨z,h1,by rw [Γ h2]⟩
theorem Ic {l:List Int} (h:l.Nodup) {x y z:Int} (hx:x∈l) {i:Nat} (hz:(setAt l x y)[i]?=some z):(l[i]?=some x/\z=y)\/(l[i]?=some z/\z≠x):=by
 rw [←yK h x y hx] at hz;unfold Pf at hz;rw [ϑ] at hz;cases hq:l[i]? with
 | none=>rw [hq] at hz;cases hz
 | some w=>
  rw [hq] at hz;simp at hz
  by_cases e:w=x
  ·rw [Δ e] at hz;subst e;exact Α ⟨rfl,hz.symm⟩
  ·rw [Γ e] at hz;subst hz;exact Β ⟨rfl,e⟩
theorem xV {l:List Int} (h:l.Nodup) {x y:Int} (hx:x∈l) (hy:y∉l):(setAt l x y).Nodup:=by
 rw [←yK h x y hx];unfold Pf;rw [List.nodup_iff_pairwise_ne,List.pairwise_map];refine (List.nodup_iff_pairwise_ne.1 h).imp_of_mem (fun {a b} ha hb hab=>?_)
 by_cases e1:a=x
 ·rw [Δ e1]
  by_cases e2:b=x
  ·exact absurd (e1.trans e2.symm) hab
  ·rw [Γ e2];intro e;subst e;exact hy hb
 ·rw [Γ e1]
  by_cases e2:b=x
  ·rw [Δ e2];intro e;subst e;exact hy ha
  ·rw [Γ e2];exact hab
theorem nY.lift {n:Nat} {S:CS} (h:nY n S.f) {x p:Nat} {above:Int} (ok:Ag n S x p above):nY n (gT S x p above).f:=by
 have hx:=ok.hx;have hp:=ok.hp;have hne:=ok.ne;have uk:∀y z:Nat,y<n->z<n->(y:Int)∈S.k z->S.u y=z:=fun y z hy hz hm=>by
  have:=(h.vD z hz _ hm).2.2;rwa [π] at this
 have rg:∀z,z<n->∀w,w∈S.k z->∃y:Nat,w=y/\y<n/\S.u y=z:=fun z hz w hw=>by
  obtain ⟨h1,h2,h3⟩:=h.vD z hz w hw;exact ⟨w.toNat,ω,ω,h3⟩
 have dg:∀y z:Nat,z<n->(y:Int)∈S.k z->(S.k y).length<(S.k z).length:=fun y z hz hm=>by
  obtain ⟨i,hi,he⟩:=List.getElem_of_mem hm;have hge:(S.k z)[i]?=some (y:Int):=by rw [ε hi,he]
  have:=h.xC z hz i (y:Int) hge;rw [π] at this;have aak:(S.k y).length=i:=this;have hi':i<(S.k z).length:=hi;omega
 have pk:(p:Int)∉S.k p:=h.self hp;have px:(p:Int)∉S.k x:=fun hm=>by
  have h1:=dg p x hx hm;have h2:=dg x p hp ok.mem;omega
 have ux:S.u x=p:=ok.up;have up:S.u p=above:=ok.ab;have nd:=h.nd p hp;have top:∀q:Nat,(q:Int)=above->q<n/\q≠x/\q≠p/\(p:Int)∈S.k q:=fun q hq=>by
  rcases ok.top with e|⟨q',e,h1,h2,h3,h4⟩
  ·omega
  ·obtain rfl:q=q':=ω;exact ⟨h1,h2,h3,h4⟩
 have K:∀z:Nat,(gT S x p above).f.k z=if z=x then setAt (S.k p) x p else if z=p then S.k x else if (z:Int)=above then setAt (S.k z) p x else S.k z:=fun z=>rfl;have U:∀z:Nat,(gT S x p above).f.u z=if z=x then above else if (z:Int)∈S.k x then (p:Int) else if (z:Int)∈setAt (S.k p) x p then (x:Int) else S.u z:=fun z=>rfl;have mo:∀z:Int,z∈setAt (S.k p) x p↔z=p\/(z∈S.k p/\z≠x):=fun z=>oN nd ok.mem;have D:∀y:Nat,((gT S x p above).f.k y).length=if y=x then (S.k p).length else if y=p then (S.k x).length else (S.k y).length:=fun y=>by
  rw [K]
  split
  ·rw [j3]
  ·split
   ·rfl
   ·split
    ·rw [j3]
    ·rfl
 have U1:∀y:Nat,y<n->(y:Int)∈S.k x->(gT S x p above).f.u y=p:=fun y hy hm=>by
  rw [U,Γ (fun e=>by subst e;exact h.self hx hm),Δ hm]
 have U2:∀y:Nat,y<n->(y:Int)∈setAt (S.k p) x p->(gT S x p above).f.u y=x:=fun y hy hm=>by
  rcases (mo y).1 hm with e|⟨h1,h2⟩
  ·obtain rfl:y=p:=ω;rw [U,Γ (Ne.symm hne),Γ px,Δ hm]
  ·rw [U,Γ (fun e=>h2 (by rw [e])),Γ (fun hm2=>by have:=uk y x hy hx hm2;have:=uk y p hy hp h1;omega),Δ hm]
 have U3:∀y:Nat,y<n->y≠x->y≠p->S.u y≠x->S.u y≠p->(gT S x p above).f.u y=S.u y:=fun y hy h1 h2 h3 h4=>by
  rw [U,Γ h1,Γ (fun hm=>h3 (uk y x hy hx hm)),Γ (fun hm=>by
   rcases (mo y).1 hm with e|⟨h5,_⟩
   ·omega
   ·exact h4 (uk y p hy hp h5))]
 refine ⟨fun z hz w hw=>?_,fun z hz=>?_,fun y hy=>?_,fun z hz i w hw=>?_⟩
 ·rw [K] at hw
  split at hw
  ·rename_i e;subst e
   have XZ:=hw;rcases (mo w).1 hw with rfl|⟨h1,h2⟩
   ·exact ⟨ω,ω,by rw [π];exact U2 p hp XZ⟩
   ·obtain ⟨y,rfl,hy,_⟩:=rg p hp w h1;exact ⟨ω,ω,by rw [π];exact U2 y hy XZ⟩
  ·rename_i hzx
   split at hw
   ·rename_i e;subst e
    obtain ⟨y,rfl,hy,_⟩:=rg x hx w hw;exact ⟨ω,ω,by rw [π];exact U1 y hy hw⟩
   ·rename_i hzp
    split at hw
    ·rename_i e
     obtain ⟨_,_,_,hm⟩:=top z e;rcases (oN (h.nd z hz) hm).1 hw with rfl|⟨h1,h2⟩
     ·exact ⟨ω,ω,by rw [π,U,Δ rfl];exact e.symm⟩
     ·obtain ⟨y,rfl,hy,hu⟩:=rg z hz w h1;have hyx:y≠x:=fun e=>by subst e;omega
      exact ⟨ω,ω,by rw [π,U3 y hy hyx (fun e=>h2 (by rw [e])) ω ω];exact hu⟩
    ·rename_i hza
     obtain ⟨y,rfl,hy,hu⟩:=rg z hz w hw;have hyx:y≠x:=fun e=>by subst e;omega
     have hyp:y≠p:=fun e=>by subst e;omega
     exact ⟨ω,ω,by rw [π,U3 y hy hyx hyp ω ω];exact hu⟩
 ·rw [K]
  split
  ·exact xV nd ok.mem pk
  ·split
   ·exact h.nd x hx
   ·split
    ·rename_i e
     obtain ⟨h1,h2,h3,hm⟩:=top z e;exact xV (h.nd z hz) hm (fun hm2=>by have:=uk x z hx hz hm2;omega)
    ·exact h.nd z hz
 ·by_cases hyx:y=x
  ·subst hyx;rw [U,Δ rfl];rcases ok.top with e|⟨q,e,h1,h2,h3,h4⟩
   ·exact Α e
   ·refine Β ⟨q,h1,e,?_⟩;rw [K,Γ h2,Γ h3,Δ e.symm];exact (oN (h.nd q h1) h4).2 (Α rfl)
  ·by_cases hm1:(y:Int)∈S.k x
   ·refine Β ⟨p,hp,U1 y hy hm1,?_⟩;rw [K,Γ (Ne.symm hne),Δ rfl];exact hm1
   ·by_cases hm2:(y:Int)∈setAt (S.k p) x p
    ·refine Β ⟨x,hx,U2 y hy hm2,?_⟩;rw [K,Δ rfl];exact hm2
    ·have e:(gT S x p above).f.u y=S.u y:=by rw [U,Γ hyx,Γ hm1,Γ hm2]
     rw [e];rcases h.up y hy with h1|⟨r,hr,h1,h2⟩
     ·exact Α h1
     ·refine Β ⟨r,hr,h1,?_⟩;have hrx:r≠x:=fun e=>by subst e;exact hm1 h2
      have hrp:r≠p:=fun e=>by subst e;exact hm2 ((mo y).2 (Β ⟨h2,fun e=>hyx ω⟩))
      rw [K,Γ hrx,Γ hrp]
      split
      ·rename_i e
       obtain ⟨_,_,_,hm⟩:=top r e;exact (oN (h.nd r hr) hm).2 (Β ⟨h2,fun e2=>hm2 ((mo y).2 (Α e2))⟩)
      ·exact h2
 ·have other:∀ (z:Nat) (w:Int),z<n->z≠x->(S.k z)[i]?=some w->w≠p->w≠x->((gT S x p above).f.k w.toNat).length=i:=fun z w hz _ hw h1 h2=>by
   obtain ⟨y,rfl,hy,_⟩:=rg z hz w (Η hw);rw [π,D,Γ (fun e=>h2 (by rw [e])),Γ (fun e=>h1 (by rw [e]))];have:=h.xC z hz i (y:Int) hw;rwa [π] at this
  have xi:∀i,(S.k p)[i]?=some (x:Int)->(S.k x).length=i:=fun i hi=>by
   have:=h.xC p hp i (x:Int) hi;rwa [π] at this
  rw [K] at hw
  split at hw
  ·rename_i e;subst e
   rcases Ic nd ok.mem hw with ⟨h1,rfl⟩|⟨h1,h2⟩
   ·rw [π,D,Γ (Ne.symm hne),Δ rfl];exact xi i h1
   ·exact other p w hp (Ne.symm hne) h1 (fun e=>pk (by rw [←e];exact Η h1)) h2
  ·rename_i hzx
   split at hw
   ·rename_i e;subst e
    have hm:=Η hw;obtain ⟨y,rfl,hy,_⟩:=rg x hx w hm;rw [π,D,Γ (fun e=>by subst e;exact h.self hx hm),Γ (fun e=>by subst e;exact px hm)];have:=h.xC x hx i (y:Int) hw;rwa [π] at this
   ·rename_i hzp
    split at hw
    ·rename_i e
     obtain ⟨_,_,_,hm⟩:=top z e;rcases Ic (h.nd z hz) hm hw with ⟨h1,rfl⟩|⟨h1,h2⟩
     ·rw [π,D,Δ rfl];have:=h.xC z hz i (p:Int) h1;rwa [π] at this
     ·exact other z w hz hzx h1 h2 (fun e2=>by have:=uk x z hx hz (by rw [←e2];exact Η h1);omega)
    ·rename_i hza
     have hm:=Η hw;exact other z w hz hzx hw (fun e2=>by have:=uk p z hp hz (by rw [←e2];exact hm);omega) (fun e2=>by have:=uk x z hx hz (by rw [←e2];exact hm);omega)
theorem Lh {n:Nat} {S:CS} (h:nY n S.f) {x:Nat} (hx:x<n) {p:Nat} (hp:p<n) (hu:S.u x=p) (hm:(x:Int)∈S.k p):Ag n S x p (S.u p):=by
 have dg:∀y z:Nat,z<n->(y:Int)∈S.k z->(S.k y).length<(S.k z).length:=fun y z hz hm=>by
  obtain ⟨i,hi,he⟩:=List.getElem_of_mem hm;have hge:(S.k z)[i]?=some (y:Int):=by rw [ε hi,he]
  have:=h.xC z hz i (y:Int) hge;rw [π] at this;have aak:(S.k y).length=i:=this;omega
 refine ⟨hx,hp,fun e=>by subst e;exact h.self hx hm,hu,rfl,hm,fun k hk=>by have:=h.vD x hx k hk;omega,fun k hk=>by have:=h.vD p hp k hk;omega,?_⟩;rcases h.up p hp with h1|⟨q,hq,h1,h2⟩
 ·exact Α h1
 ·have d1:=dg x p hp hm;have d2:=dg p q hq h2;exact Β ⟨q,h1,hq,fun e=>by subst e;omega,fun e=>by subst e;omega,h2⟩
theorem Rf (S:CS) (x p:Nat) (above:Int) (y:Nat):((gT S x p above).k y).length=if y=x then (S.k p).length else if y=p then (S.k x).length else (S.k y).length:=by
 show (if y=x then setAt (S.k p) x p else if y=p then S.k x else if (y:Int)=above then setAt (S.k y) p x else S.k y).length=_
 split
 ·rw [j3]
 ·split
  ·rfl
  ·split
   ·rw [j3]
   ·rfl
structure FH (n:Nat) (F:CF) (bJ:Nat->Int) (L:Nat->Nat->Prop):Prop where
 f:nY n F
 home:∀y p:Nat,y<n->F.u y=p->bJ y=bJ p/\0<bJ y
 ord:∀y p:Nat,y<n->F.u y=p->L p y
 alone:∀y:Nat,y<n->¬0<bJ y->F.u y=-1/\F.k y=[]
theorem nY.above {n:Nat} {F:CF} (h:nY n F) {y p:Nat} (hy:y<n) (hu:F.u y=p):p<n/\(y:Int)∈F.k p:=by
 rcases h.up y hy with h1|⟨q,hq,h1,h2⟩
 ·omega
 ·obtain rfl:q=p:=ω;exact ⟨hq,h2⟩
theorem nY.below {n:Nat} {F:CF} (h:nY n F) {p:Nat} (hp:p<n) {z:Int} (hz:z∈F.k p):∃y:Nat,z=y/\y<n/\F.u y=p/\(F.k y).length<(F.k p).length:=by
 obtain ⟨r1,r2,r3⟩:=h.vD p hp z hz;obtain ⟨i,hi,he⟩:=List.getElem_of_mem hz;have hc:=h.xC p hp i z (by rw [ε hi,he]);obtain ⟨y,rfl⟩:=Int.eq_ofNat_of_zero_le r1;rw [π] at r3 hc;exact ⟨y,rfl,ω,r3,ω⟩
theorem nY.NV {n:Nat} {F:CF} (h:nY n F) {y p:Nat} (hy:y<n) (hu:F.u y=p):(F.k y).length<(F.k p).length:=by
 obtain ⟨h1,h2⟩:=h.above hy hu;obtain ⟨z,e,_,_,hd⟩:=h.below h1 h2;obtain rfl:y=z:=ω;exact hd
theorem kX.ext {n:Nat} {F F':CF} {l:List Int} (h:kX n F l) (e:∀x,x∈l->F'.u x.toNat=F.u x.toNat/\F'.k x.toNat=F.k x.toNat):kX n F' l:=by
 refine ⟨fun x hx=>?_,h.2.imp_of_mem (fun {a b} ha hb hab=>?_)⟩
 ·have:=h.1 x hx;exact ⟨this.1,this.2.1,by rw [(e x hx).1];exact this.2.2⟩
 ·unfold dm at hab ⊢;rw [(e a ha).2,(e b hb).2];exact hab
theorem Ut {n:Nat} {F F':CF} {x:Int} (e:F'.k x.toNat=F.k x.toNat):dm n F' x=dm n F x:=by unfold dm;rw [e]
theorem Qg {n:Nat} {F:CF} {bJ:Nat->Int} {L:Nat->Nat->Prop} {lt:Int->Int->Bool} {h:Int} {A0 B0:List Int} {q:Nat} {F':CF} {O:List Int} {q':Nat} (H:FH n F bJ L)
  (hL:∀y p:Nat,y<n->p<n->bJ y=h->bJ p=h->y≠p->lt y p=false->L p y) (h1:1<=h)
  (m:∀y:Nat,y<n/\F.u y=-1/\bJ y=h↔(y:Int)∈A0\/(y:Int)∈B0) (C:Dh lt n F A0 B0 q F' O q') :
  FH n F' bJ L/\(∀y:Nat,(y:Int)∈O↔y<n/\F'.u y=-1/\bJ y=h)/\(∀y:Nat,y<n->bJ y≠h->F'.u y=F.u y/\F'.k y=F.k y):=by
 have far:∀y:Nat,y<n->bJ y≠h->F'.u y=F.u y/\F'.k y=F.k y:=fun y hy hh=>C.out y (fun hm=>hh ((m y).2 (Α hm)).2.2) (fun hm=>hh ((m y).2 (Β hm)).2.2);have key:∀y p:Nat,y<n->F'.u y=p->F.u y=p\/(y<n/\p<n/\bJ y=h/\bJ p=h/\y≠p/\lt y p=false):=fun y p hy hu=>by
  rcases C.nl y p hy hu with e|⟨k1,k2,k3,k4⟩
  ·exact Α e
  ·have a1:=(m y).2 k1;have a2:=(m p).2 k2;exact Β ⟨hy,a2.1,a1.2.2,a2.2.2,k3,k4⟩
 refine ⟨⟨C.ok,fun y p hy hu=>?_,fun y p hy hu=>?_,fun y hy hh=>?_⟩,fun y=>⟨fun hm=>?_,fun hm=>?_⟩,far⟩
 ·rcases key y p hy hu with e|⟨_,_,k1,k2,_,_⟩
  ·exact H.home y p hy e
  ·rw [k1,k2];exact ⟨rfl,ω⟩
 ·rcases key y p hy hu with e|⟨k0,kp,k1,k2,k3,k4⟩
  ·exact H.ord y p hy e
  ·exact hL y p k0 kp k1 k2 k3 k4
 ·have:=far y hy ω;rw [this.1,this.2];exact H.alone y hy hh
 ·have r:=C.row.1 _ hm;have a:=(m y).2 (C.sub _ hm);exact ⟨a.1,by simpa using r.2.2,a.2.2⟩
 ·obtain ⟨hy,hu,hh⟩:=hm
  by_cases hAB:(y:Int)∈A0\/(y:Int)∈B0
  ·rcases C.ro y hAB with h2|⟨p,hp,h2⟩
   ·exact h2
   ·omega
  ·have h2:=C.out y (fun h=>hAB (Α h)) (fun h=>hAB (Β h));exact absurd ((m y).1 ⟨hy,by rw [←h2.1];exact hu,hh⟩) hAB
structure BG where
 F:CF
 R:Nat->List Int
structure RH (n:Nat) (G:BG) (bJ:Nat->Int):Prop where
 row:∀h,kX n G.F (G.R h)
 mem:∀h y:Nat,(y:Int)∈G.R h↔1<=h/\y<n/\G.F.u y=-1/\bJ y=h
def BG.none:BG:=⟨CS.none.f,fun _=>[]⟩
def cz (R:Nat->List Int) (h:Nat) (l:List Int):Nat->List Int:=fun k=>if k=h then l else R k
def kG (lt:Int->Int->Bool) (n:Nat) (F:CF) (A B:List Int):CC:=gG lt n (n+1) ⟨F,A,B,[],[],0⟩
theorem Gn {lt:Int->Int->Bool} {n:Nat} {F:CF} {A B:List Int} (g:G n 0 0 0 0 ⟨F,A,B,[],[],0⟩) (has:∀a b,lt a b=true->lt b a=false) (hn:n<=65536):(kG lt n F A B).done:=by
 have r:=g_ok (dom:=fun _=>True) has (fun x hx=>trivial) g rfl hn (Nat.zero_le _) (n+1);unfold kG CC.done;refine ⟨?_,?_,?_⟩
 all_goals
  apply Ϙ;intro hne;have:=r.ends (by first|exact Α hne|exact Β (Α hne)|exact Β (Β hne));omega
theorem YJ {lt:Int->Int->Bool} {n:Nat} {F:CF} {A B:List Int} {F':CF} {O:List Int} {q:Nat} (g:G n 0 0 0 0 ⟨F,A,B,[],[],0⟩) (has:∀a b,lt a b=true->lt b a=false) (hn:n<=65536) (h:vN lt n ⟨F,A,B,[],[],0⟩ F' O q) :
  (kG lt n F A B).F=F'/\(kG lt n F A B).O=O/\(kG lt n F A B).q=q:=by
 have:=h.eq (m:=n+1) (Gn g has hn);unfold kG;rw [this];exact ⟨rfl,rfl,rfl⟩
theorem XY {lt:Int->Int->Bool} {n:Nat} {F:CF} {A B:List Int} (g:G n 0 0 0 0 ⟨F,A,B,[],[],0⟩) (has:∀a b,lt a b=true->lt b a=false) (hn:n<=65536):Dh lt n F A B 0 (kG lt n F A B).F (kG lt n F A B).O (kG lt n F A B).q:=by
 refine carried has g ⟨n+1,?_⟩;obtain ⟨h1,h2,h3⟩:=Gn g has hn;unfold kG at *;generalize gG lt n (n+1) ⟨F,A,B,[],[],0⟩=C at *;obtain ⟨F1,A1,B1,N1,O1,q1⟩:=C;simp only at h1 h2 h3;subst h1 h2 h3
 rfl
def yo (lt:Int->Int->Bool) (n h:Nat) (l:List Int) (G:BG):BG:=⟨(kG lt n G.F (G.R h) l).F,cz G.R h (kG lt n G.F (G.R h) l).O⟩
theorem CQ {n:Nat} {G:BG} {bJ:Nat->Int} {L:Nat->Nat->Prop} {lt:Int->Int->Bool} {h:Nat} {l:List Int} (H:FH n G.F bJ L) (hn:n<=65536) (has:∀a b,lt a b=true->lt b a=false)
  (hL:∀y p:Nat,y<n->p<n->bJ y=h->bJ p=h->y≠p->lt y p=false->L p y) (h1:1<=h)
  (hrow:∀k,kX n G.F (G.R k)) (hmem:∀k y:Nat,k≠h->((y:Int)∈G.R k↔1<=k/\y<n/\G.F.u y=-1/\bJ y=k))
  (m:∀y:Nat,y<n/\G.F.u y=-1/\bJ y=h↔(y:Int)∈G.R h\/(y:Int)∈l) (hl:kX n G.F l) (hd:∀x,x∈G.R h->x∉l) :
  FH n (yo lt n h l G).F bJ L/\RH n (yo lt n h l G) bJ/\(∀k,wt n (yo lt n h l G).F ((yo lt n h l G).R k)=if k=h then wt n G.F (G.R h)+wt n G.F l else wt n G.F (G.R k))/\
   (kG lt n G.F (G.R h) l).q+((yo lt n h l G).R h).length=(G.R h).length+l.length:=by
 have g:=Ld (q:=0) H.f (hrow h) hl hd;have C:=XY g has hn;obtain ⟨h2,h3,h4⟩:=Qg H hL ω m C;have far:∀k:Nat,k≠h->∀x,x∈G.R k->(kG lt n G.F (G.R h) l).F.u x.toNat=G.F.u x.toNat/\(kG lt n G.F (G.R h) l).F.k x.toNat=G.F.k x.toNat:=fun k hk x hx=>by
  have hr:=(hrow k).1 x hx;have:=(hmem k x.toNat hk).1 (by rw [show ((x.toNat:Nat):Int)=x by omega];exact hx);exact h4 x.toNat this.2.1 ω
 unfold yo;refine ⟨h2,⟨fun k=>?_,fun k y=>?_⟩,fun k=>?_,?_⟩
 ·simp only [cz]
  split
  ·exact C.row
  ·rename_i hk
   exact (hrow k).ext (far k hk)
 ·simp only [cz]
  split
  ·rename_i hk
   subst hk;rw [h3 y];exact ⟨fun a=>⟨h1,a⟩,fun a=>a.2⟩
  ·rename_i hk
   rw [hmem k y hk];constructor
   ·rintro ⟨a1,a2,a3,a4⟩;exact ⟨a1,a2,by rw [(h4 y a2 ω).1];exact a3,a4⟩
   ·rintro ⟨a1,a2,a3,a4⟩;exact ⟨a1,a2,by rw [←(h4 y a2 ω).1];exact a3,a4⟩
 ·simp only [cz]
  split
  ·exact C.wt
  ·rename_i hk
   exact y9 (fun x hx=>Ut (far k hk x hx).2)
 ·simp only [cz,if_true];have:=C.cnt;omega
theorem LY:∀d:Nat,((List.range d).map (fun i=>2 ^ i)).sum+1=2 ^ d
 | 0=>rfl
 | d+1=>by
  have ih:=LY d;rw [List.range_succ,List.map_append,List.sum_append,Nat.pow_succ];simp only [List.map_cons,List.map_nil,List.sum_cons,List.sum_nil];omega
def fe (F:CF) (x:Nat):CF:=⟨fun y=>if y=x then [] else F.k y,fun y=>if (y:Int)∈F.k x then -1 else F.u y⟩
theorem yG (S:CS) (x:Nat):(gN S x).f=fe S.f x:=rfl
theorem Wt {n:Nat} {F:CF} (ok:nY n F) {x:Nat} (hx:x<n) {F':CF} (e:∀z,z∈F.k x->dm n F' z=dm n F z):wt n F' (F.k x)+1=2 ^ (F.k x).length:=by
 rw [←LY]
 congr 1
 rw [y9 e];unfold wt
 congr 1
 apply List.ext_getElem σ;intro i h1 h2;rw [List.getElem_map,List.getElem_map,List.getElem_range];have hi:i<(F.k x).length:=by simpa using h1
 have hm:(F.k x)[i]∈F.k x:=ϗ hi;have hc:=ok.xC x hx i _ (ε hi);have hr:=ok.vD x hx _ hm;unfold dm;rw [Δ ⟨hr.1,hr.2.1⟩,hc];simp
theorem SK {n:Nat} {F:CF} (ok:nY n F) {x:Nat} (hx:x<n) {F':CF} (e:∀z,z∈F.k x->dm n F' z=dm n F z) (u:∀z,z∈F.k x->F'.u z.toNat=-1):kX n F' (F.k x):=by
 refine ⟨fun z hz=>⟨(ok.vD x hx z hz).1,(ok.vD x hx z hz).2.1,u z hz⟩,?_⟩;rw [List.pairwise_iff_getElem];intro i j hi hj hij;have d:∀i (hi:i<(F.k x).length),dm n F' (F.k x)[i]=i:=fun i hi=>by
  have hm:(F.k x)[i]∈F.k x:=ϗ hi;have hc:=ok.xC x hx i _ (ε hi);have hr:=ok.vD x hx _ hm;rw [e _ hm];unfold dm;rw [Δ ⟨hr.1,hr.2.1⟩,hc]
 rw [d i hi,d j hj];omega
theorem nY.Qj {n:Nat} {F:CF} (h:nY n F) {x:Nat} (hx:x<n) (hr:F.u x=-1):nY n (fe F x):=by
 have:=nY.split (n:=n) (S:=⟨fun _=>.slice none 0 0,F.k,F.u⟩) h hx hr;exact this
structure Cx (A:NS) (G:BG):Prop where
 fh:FH A.cs.length G.F (fun y=>(A.c y).i) (bX A)
 rh:RH A.cs.length G (fun y=>(A.c y).i)
 w:∀h:Nat,1<=h->wt A.cs.length G.F (G.R h)=dI A h
structure EP (A:NS) (G:BG) (x:Nat):Prop where
 fh:FH A.cs.length G.F (fun y=>(A.c y).i) (fun p y=>y≠x->p≠x->bX A p y)
 two:∀p c:Nat,c<A.cs.length->G.F.u x=p->G.F.u c=x->bX A p c
 rh:RH A.cs.length G (fun y=>(A.c y).i)
 w:∀h:Nat,1<=h->wt A.cs.length G.F (G.R h)=dI A h
theorem Cx.x {A:NS} {G:BG} (h:Cx A G) {x:Nat} (hx:x<A.cs.length):EP A G x:=
 ⟨⟨h.fh.f,h.fh.home,fun y p hy hu _ _=>h.fh.ord y p hy hu,h.fh.alone⟩,fun p c hc h1 h2=>bT (h.fh.ord x p hx h1) (h.fh.ord c x hc h2),h.rh,h.w⟩
def rT (F:CF) (x p:Nat) (above:Int):CF:=
  ⟨fun y=>if y=x then setAt (F.k p) x p else if y=p then F.k x else if (y:Int)=above then setAt (F.k y) p x else F.k y,
   fun y=>if y=x then above else if (y:Int)∈F.k x then p else if (y:Int)∈setAt (F.k p) x p then x else F.u y⟩
theorem X3 (S:CS) (x p:Nat) (above:Int):(gT S x p above).f=rT S.f x p above:=rfl
def JD (x p:Nat) (above:Int) (z:Int):Int:=if z=p/\above=-1 then (x:Int) else z
def qP (G:BG) (x p:Nat):BG:=⟨rT G.F x p (G.F.u p),fun k=>(G.R k).map (JD x p (G.F.u p))⟩
section
variable {n:Nat} {F:CF}
theorem R8 (h:nY n F) {x p:Nat} (hx:x<n) (hu:F.u x=p):Ag n ⟨fun _=>.slice none 0 0,F.k,F.u⟩ x p (F.u p):=by
 obtain ⟨hp,hm⟩:=h.above hx hu;exact Lh (S:=⟨fun _=>.slice none 0 0,F.k,F.u⟩) h hx hp hu hm
theorem RD (h:nY n F) {x p:Nat} (hx:x<n) (hu:F.u x=p):nY n (rT F x p (F.u p)):=
 nY.lift (S:=⟨fun _=>.slice none 0 0,F.k,F.u⟩) h (R8 h hx hu)
theorem sS (x p:Nat) (above:Int) (y:Nat):((rT F x p above).k y).length=if y=x then (F.k p).length else if y=p then (F.k x).length else (F.k y).length:=
 Rf ⟨fun _=>.slice none 0 0,F.k,F.u⟩ x p above y
theorem vM (h:nY n F) {x y:Nat} (hx:x<n) (hy:y<n):(y:Int)∈F.k x↔F.u y=x:=by
 constructor
 ·intro hm;obtain ⟨z,e,_,h2,_⟩:=h.below hx hm;obtain rfl:y=z:=ω;exact h2
 ·intro hu;exact (h.above hy hu).2
theorem Ei (h:nY n F) {x p:Nat} (hx:x<n) (hu:F.u x=p) {y:Nat} (hy:y<n) :
  (rT F x p (F.u p)).u y=if y=x then F.u p else if F.u y=x then (p:Int) else if y=p\/F.u y=p then (x:Int) else F.u y:=by
 obtain ⟨hp,hm⟩:=h.above hx hu
 show (if y=x then F.u p else if (y:Int)∈F.k x then (p:Int) else if (y:Int)∈setAt (F.k p) x p then (x:Int) else F.u y)=_
 by_cases e:y=x
 ·rw [Δ e,Δ e]
 ·rw [Γ e,Γ e]
  by_cases e2:F.u y=x
  ·rw [Δ ((vM h hx hy).2 e2),Δ e2]
  ·rw [Γ (fun hm2=>e2 ((vM h hx hy).1 hm2)),Γ e2];have e3:(y:Int)∈setAt (F.k p) x p↔(y=p\/F.u y=p):=by
    rw [oN (h.nd p hp) hm,vM h hp hy];constructor
    ·rintro (h1|⟨h1,_⟩)
     ·exact Α ω
     ·exact Β h1
    ·rintro (h1|h1)
     ·exact Α ω
     ·exact Β ⟨h1,ω⟩
   by_cases e4:y=p\/F.u y=p
   ·rw [Δ (e3.2 e4),Δ e4]
   ·rw [Γ (fun hm2=>e4 (e3.1 hm2)),Γ e4]
theorem tu (h:nY n F) {x p:Nat} (hx:x<n) (hu:F.u x=p) {y r:Nat} (hy:y<n) (hr:(rT F x p (F.u p)).u y=r) :
  (y=x/\F.u p=r)\/(y≠x/\F.u y=x/\r=p)\/(y=p/\r=x)\/(y≠x/\y≠p/\F.u y=p/\r=x)\/(y≠x/\y≠p/\F.u y=r/\r≠x/\r≠p):=by
 rw [Ei h hx hu hy] at hr
 by_cases e:y=x
 ·rw [Δ e] at hr;exact Α ⟨e,hr⟩
 ·rw [Γ e] at hr
  by_cases e2:F.u y=x
  ·rw [Δ e2] at hr;exact Β (Α ⟨e,e2,ω⟩)
  ·rw [Γ e2] at hr
   by_cases e3:y=p\/F.u y=p
   ·rw [Δ e3] at hr
    by_cases e4:y=p
    ·exact Β (Β (Α ⟨e4,ω⟩))
    ·exact Β (Β (Β (Α ⟨e,e4,e3.resolve_left e4,ω⟩)))
   ·rw [Γ e3] at hr;exact Β (Β (Β (Β ⟨e,fun e4=>e3 (Α e4),hr,fun e5=>e2 ω,fun e5=>e3 (Β ω)⟩)))
theorem qC (h:nY n F) {x p:Nat} (hx:x<n) (hu:F.u x=p) {y:Nat} (hy:y<n):(rT F x p (F.u p)).u y=-1↔(y=x/\F.u p=-1)\/(y≠x/\y≠p/\F.u y=-1):=by
 rw [Ei h hx hu hy]
 by_cases e:y=x
 ·rw [Δ e];exact ⟨fun h=>Α ⟨e,h⟩,fun h=>by rcases h with h|h;exact h.2;exact absurd e h.1⟩
 ·rw [Γ e]
  by_cases e2:F.u y=x
  ·rw [Δ e2];exact ⟨fun h=>ω,fun h=>by rcases h with h|h;exact absurd h.1 e;omega⟩
  ·rw [Γ e2]
   by_cases e3:y=p\/F.u y=p
   ·rw [Δ e3];exact ⟨fun h=>ω,fun h=>by rcases h with h|h;exact absurd h.1 e;rcases e3 with e3|e3;exact absurd e3 h.2.1;omega⟩
   ·rw [Γ e3];exact ⟨fun h=>Β ⟨e,fun e4=>e3 (Α e4),h⟩,fun h=>by rcases h with h|h;exact absurd h.1 e;exact h.2.2⟩
end
section
variable {A:NS} {G:BG} {x p:Nat}
theorem yY (h:EP A G x) (hx:x<A.cs.length) (hu:G.F.u x=p) {k:Nat} {z:Int} (hz:z∈G.R k) :
  0<=JD x p (G.F.u p) z/\JD x p (G.F.u p) z<A.cs.length/\(qP G x p).F.u (JD x p (G.F.u p) z).toNat=-1/\dm A.cs.length (qP G x p).F (JD x p (G.F.u p) z)=dm A.cs.length G.F z/\(A.c (JD x p (G.F.u p) z).toNat).i=(A.c z.toNat).i:=by
 obtain ⟨hp,hm⟩:=h.fh.f.above hx hu;have hne:p≠x:=fun e=>by subst e;exact h.fh.f.self hx hm
 have hr:=(h.rh.row k).1 z hz;obtain ⟨y,rfl⟩:=Int.eq_ofNat_of_zero_le hr.1;rw [π] at hr;have hy:y<A.cs.length:=ω;unfold JD
 by_cases e:(y:Int)=p/\G.F.u p=-1
 ·rw [Δ e,π,π];obtain rfl:y=p:=ω;refine ⟨ω,ω,(qC h.fh.f hx hu hx).2 (Α ⟨rfl,e.2⟩),?_,(h.fh.home x y hx hu).1⟩;rw [eO _ _ hx,eO _ _ hy]
  show (((rT G.F x y (G.F.u y)).k x).length:Int)=_
  rw [sS,Δ rfl]
 ·rw [Γ e,π];have hyp:y≠p:=fun e2=>by subst e2;exact e ⟨rfl,hr.2.2⟩
  have hyx:y≠x:=fun e2=>by subst e2;omega
  refine ⟨ω,ω,(qC h.fh.f hx hu hy).2 (Β ⟨hyx,hyp,hr.2.2⟩),?_,rfl⟩;rw [eO _ _ hy,eO _ _ hy]
  show (((rT G.F x p (G.F.u p)).k y).length:Int)=_
  rw [sS,Γ hyx,Γ hyp]
theorem Ad (h:EP A G x) (hx:x<A.cs.length) (hu:G.F.u x=p):EP A (qP G x p) x:=by
 obtain ⟨hp,hm⟩:=h.fh.f.above hx hu;have hne:p≠x:=fun e=>by subst e;exact h.fh.f.self hx hm
 have hxp:=h.fh.home x p hx hu;have hqx:∀q:Nat,G.F.u p=q->q≠x:=fun q hq e=>by
  have d1:=h.fh.f.NV hx hu;have d2:=h.fh.f.NV hp hq;subst e;omega
 refine ⟨⟨RD h.fh.f hx hu,fun y r hy hr=>?_,fun y r hy hr hyx hrx=>?_,fun y hy hh=>?_⟩,fun q c hc h1 h2=>?_,⟨fun k=>⟨fun z hz=>?_,?_⟩,fun k y=>⟨fun hm2=>?_,fun hm2=>?_⟩⟩,fun k hk=>?_⟩
 ·rcases tu h.fh.f hx hu hy hr with ⟨e,h2⟩|⟨_,h2,e⟩|⟨e,e2⟩|⟨_,_,h2,e⟩|⟨_,_,h2,_,_⟩
  ·subst e;have:=h.fh.home p r hp h2;exact ⟨hxp.1.trans this.1,hxp.2⟩
  ·subst e;have:=h.fh.home y x hy h2;exact ⟨this.1.trans hxp.1,this.2⟩
  ·subst e e2;exact ⟨hxp.1.symm,by rw [←hxp.1];exact hxp.2⟩
  ·subst e;have:=h.fh.home y p hy h2;exact ⟨this.1.trans hxp.1.symm,this.2⟩
  ·exact h.fh.home y r hy h2
 ·rcases tu h.fh.f hx hu hy hr with ⟨e,h2⟩|⟨_,h2,e⟩|⟨e,e2⟩|⟨_,_,h2,e⟩|⟨_,_,h2,_,_⟩
  ·exact absurd e hyx
  ·subst e;exact h.two r y hy hu h2
  ·exact absurd e2 hrx
  ·exact absurd e hrx
  ·exact h.fh.ord y r hy h2 hyx hrx
 ·have h0:=h.fh.alone y hy hh;have hyx:y≠x:=fun e=>by subst e;exact hh hxp.2
  have hyp:y≠p:=fun e=>by subst e;exact hh (by rw [←hxp.1];exact hxp.2)
  refine ⟨(qC h.fh.f hx hu hy).2 (Β ⟨hyx,hyp,h0.1⟩),?_⟩;have:((rT G.F x p (G.F.u p)).k y).length=0:=by rw [sS,Γ hyx,Γ hyp,h0.2];rfl
  exact ϙ this
 ·have h3:G.F.u p=q:=by
   have:=Ei h.fh.f hx hu hx;rw [Δ rfl] at this;rw [←this];exact h1
  have hpq:=h.fh.ord p q hp h3 hne (hqx q h3);rcases tu h.fh.f hx hu hc h2 with ⟨e,h4⟩|⟨_,h4,e⟩|⟨e,e2⟩|⟨e3,_,h4,e⟩|⟨_,_,h4,e3,_⟩
  ·exact absurd rfl (hqx x h4)
  ·exact absurd e.symm hne
  ·subst e;exact hpq
  ·exact bT hpq (h.fh.ord c p hc h4 e3 hne)
  ·exact absurd rfl e3
 ·obtain ⟨z0,hz0,rfl⟩:=List.mem_map.1 hz;have:=yY h hx hu hz0;exact ⟨this.1,this.2.1,this.2.2.1⟩
 ·show ((G.R k).map _).Pairwise _
  rw [List.pairwise_map];exact (h.rh.row k).2.imp_of_mem (fun {a b} ha hb hab=>by rw [(yY h hx hu ha).2.2.2.1,(yY h hx hu hb).2.2.2.1];exact hab)
 ·obtain ⟨z0,hz0,e⟩:=List.mem_map.1 hm2;have h1:=yY h hx hu hz0;rw [e] at h1;rw [π] at h1;have hr:=(h.rh.row k).1 z0 hz0;have h2:=(h.rh.mem k z0.toNat).1 (by rw [show ((z0.toNat:Nat):Int)=z0 by omega];exact hz0);exact ⟨h2.1,ω,h1.2.2.1,by show (A.c y).i=(k:Int);rw [h1.2.2.2.2];exact h2.2.2.2⟩
 ·obtain ⟨k1,hy,hr,hh⟩:=hm2
  show (y:Int)∈(G.R k).map _
  rw [List.mem_map];rcases (qC h.fh.f hx hu hy).1 hr with ⟨e,h2⟩|⟨hyx,hyp,h2⟩
  ·subst e;refine ⟨(p:Int),(h.rh.mem k p).2 ⟨k1,hp,h2,?_⟩,by unfold JD;rw [Δ ⟨rfl,h2⟩]⟩;have e9:(A.c y).i=(A.c p).i:=hxp.1
   show (A.c p).i=(k:Int)
   rw [←e9];exact hh
  ·exact ⟨(y:Int),(h.rh.mem k y).2 ⟨k1,hy,h2,hh⟩,by unfold JD;rw [Γ (fun e=>hyp ω)]⟩
 ·rw [←h.w k hk];unfold wt
  show (((G.R k).map _).map _).sum=_
  rw [List.map_map]
  congr 1
  exact List.map_congr_left (fun z hz=>by simp only [Function.comp];rw [(yY h hx hu hz).2.2.2.1])
theorem Oa (h:EP A G x) (hx:x<A.cs.length) (hu:G.F.u x=p) (hk:∀c:Nat,c<A.cs.length->G.F.u c=x->bX A x c) (hl:bX A x p) :
  ∀c:Nat,c<A.cs.length->(qP G x p).F.u c=x->bX A x c:=fun c hc h2=>by
 obtain ⟨hp,hm⟩:=h.fh.f.above hx hu;have hne:p≠x:=fun e=>by subst e;exact h.fh.f.self hx hm
 rcases tu h.fh.f hx hu hc h2 with ⟨e,h4⟩|⟨_,h4,e⟩|⟨e,e2⟩|⟨e3,_,h4,e⟩|⟨_,_,h4,e3,_⟩
 ·have d1:=h.fh.f.NV hx hu;have d2:=h.fh.f.NV hp h4;omega
 ·exact absurd e.symm hne
 ·subst e;exact hl
 ·exact bT hl (h.fh.ord c p hc h4 e3 hne)
 ·exact absurd rfl e3
theorem EP.done (h:EP A G x) (hx:x<A.cs.length) (hk:∀c:Nat,c<A.cs.length->G.F.u c=x->bX A x c) (ht:∀p:Nat,G.F.u x=p->bX A p x):Cx A G:=by
 refine ⟨⟨h.fh.f,h.fh.home,fun y r hy hr=>?_,h.fh.alone⟩,h.rh,h.w⟩
 by_cases e1:y=x
 ·subst e1;exact ht r hr
 ·by_cases e2:r=x
  ·subst e2;exact hk y hy hr
  ·exact h.fh.ord y r hy hr e1 e2
theorem CZ {k s:Int} (h:Cx A G) (hB:iT A x k s=true) (hx:x<A.cs.length):EP (ak A x k s) G x/\∀c:Nat,c<A.cs.length->G.F.u c=x->bX (ak A x k s) x c:=by
 have hc:=fun y=>qN hB hx y;have hi:=fun y=>iy hB hx y;have hle:=sP hB;rw [π] at hle;have hne:∀y r:Nat,y<A.cs.length->G.F.u y=r->y≠r:=fun y r hy hu e=>by
  subst e;exact h.fh.f.self hy (h.fh.f.above hy hu).2
 have low:∀y:Nat,y≠x->bX A x y->bX (ak A x k s) x y:=fun y hy hl=>lI hl (by rw [hc,Γ hy]) (by rw [hc,Δ rfl];exact hle);have same:∀y r:Nat,y≠x->r≠x->bX A y r->bX (ak A x k s) y r:=fun y r h1 h2 hl=>(eZ (by rw [hc,Γ h1]) (by rw [hc,Γ h2])).2 hl;have hn:=eB A x k s;have hw:∀q:Nat,dI (ak A x k s) q=dI A q:=fun q=>by
  unfold ak;rw [Δ hB,π];have e:=mW A x ⟨(A.c x).i,k,s⟩ q hx;simp only at e;omega
 refine ⟨⟨⟨by rw [hn];exact h.fh.f,fun y r hy hr=>?_,fun y r hy hr e1 e2=>?_,fun y hy hh=>?_⟩,fun q c hc' h1 h2=>?_,⟨fun q=>by rw [hn];exact h.rh.row q,fun q y=>?_⟩,fun q hq=>by rw [hn,hw];exact h.w q hq⟩,fun c hc' hu=>?_⟩
 ·rw [hn] at hy;simp only [hi];exact h.fh.home y r hy hr
 ·rw [hn] at hy;exact same r y e2 e1 (h.fh.ord y r hy hr)
 ·rw [hn] at hy;simp only [hi] at hh;exact h.fh.alone y hy hh
 ·rw [hn] at hc';have h3:=h.fh.ord x q hx h1;have h4:=h.fh.ord c x hc' h2;exact same q c (fun e=>hne x q hx h1 e.symm) (hne c x hc' h2) (bT h3 h4)
 ·rw [hn];simp only [hi];exact h.rh.mem q y
 ·exact low c (hne c x hc' hu) (h.fh.ord c x hc' hu)
end
theorem nU (A:NS) (a b:Int) (h:bU A a b=true):bU A b a=false:=by
 unfold bU at *;simp only [Τ,Ο] at h;have:=pI h.2;simp [this]
theorem AJ {A:NS} {y p:Nat} (hy:bQ A (y:Int)=true) (hp:bQ A (p:Int)=true) (hne:y≠p) (h:bU A y p=false):bX A p y:=by
 rw [lJ,hy,hp] at h;simp only [Bool.and_self,Bool.true_and,decide_eq_false_iff_not] at h;exact (iQ hne).resolve_left h
def iw (G:BG) (h x:Nat):BG:=⟨fe G.F x,cz G.R h ((G.R h).filter (fun z=>z != (x:Int)))⟩
def qQ (A:NS) (h x:Nat) (G:BG):BG:=yo (bU A) A.cs.length h (G.F.k x) (iw G h x)
def x9 (A:NS) (h x:Nat) (G:BG):Nat:=(kG (bU A) A.cs.length (iw G h x).F ((iw G h x).R h) (G.F.k x)).q
theorem Jz {l:List Int} (hn:l.Nodup) {x:Int} (hx:x∈l):(l.filter (fun z=>z != x)).length+1=l.length:=by
 induction l with
 | nil=>cases hx
 | cons y r ih=>
  rw [Ζ] at hn;rcases ρ.1 hx with e|h
  ·subst e;have:r.filter (fun z=>z != x)=r:=by
    rw [List.filter_eq_self];intro a ha;simp;intro e;subst e;exact hn.1 ha
   rw [List.filter_cons_of_neg σ,this];simp
  ·have hne:y≠x:=fun e=>by subst e;exact hn.1 h
   rw [List.filter_cons_of_pos (by simpa using hne)];have:=ih hn.2 h;simp only [Ω];omega
theorem NG {n:Nat} {F:CF} {l:List Int} (hn:l.Nodup) {x:Int} (hx:x∈l):wt n F (l.filter (fun z=>z != x))+2 ^ (dm n F x).toNat=wt n F l:=by
 have hc:∀ (y:Int) (l:List Int),wt n F (y::l)=2 ^ (dm n F y).toNat + wt n F l:=fun y l=>by unfold wt;simp
 induction l with
 | nil=>cases hx
 | cons y r ih=>
  rw [Ζ] at hn;rcases ρ.1 hx with e|h
  ·subst e;have:r.filter (fun z=>z != x)=r:=by
    rw [List.filter_eq_self];intro a ha;simp;intro e;subst e;exact hn.1 ha
   rw [List.filter_cons_of_neg σ,this,hc];omega
  ·have hne:y≠x:=fun e=>by subst e;exact hn.1 h
   rw [List.filter_cons_of_pos (by simpa using hne),hc,hc];have:=ih hn.2 h;omega
section
variable {A:NS} {G:BG} {h x:Nat}
theorem LZ (B:EP A G x) (ok:A.Ok) (hx:x<A.cs.length) (hr:G.F.u x=-1) (hin:0<(A.c x).i) (hh:(A.c x).i=h) :
  Cx (aZ A x) (qQ A h x G)/\x9 A h x G+((qQ A h x G).R h).length+1=(G.R h).length+(G.F.k x).length/\(x:Int)∈G.R h/\
   kX A.cs.length (fe G.F x) ((G.R h).filter (fun z=>z != (x:Int)))/\kX A.cs.length (fe G.F x) (G.F.k x)/\(∀z,z∈(G.R h).filter (fun z=>z != (x:Int))->z∉G.F.k x)/\nY A.cs.length (fe G.F x)/\
   (∀z,z∈G.R h\/z∈G.F.k x->bQ A z=true):=by
 have EO:1<=h:=ω;have hn:=ok.c1;have ZG:bQ A (x:Int)=true:=(ae _ _).2 ⟨hx,hin⟩;have hc:=fun y=>xz ZG y;have hcs:=eU A (x:Int);have dn:=B.fh.f.nd x hx;have ku:∀z,z∈G.F.k x->∃y:Nat,z=y/\y<A.cs.length/\G.F.u y=x:=fun z hz=>by
  obtain ⟨y,h1,h2,h3,_⟩:=B.fh.f.below hx hz;exact ⟨y,h1,h2,h3⟩
 have sx:(x:Int)∉G.F.k x:=B.fh.f.self hx;have dS:∀z:Int,z≠x->dm A.cs.length (fe G.F x) z=dm A.cs.length G.F z:=fun z hz=>by
  unfold dm fe;simp only
  by_cases h0:0<=z/\z<A.cs.length
  ·rw [Δ h0,Δ h0,Γ ω]
  ·rw [Γ h0,Γ h0]
 have uS:∀z:Int,0<=z->G.F.u z.toNat=-1->(fe G.F x).u z.toNat=-1:=fun z h0 hu=>by
  unfold fe;simp only
  split
  ·rfl
  ·exact hu
 have kU:∀z,z∈G.F.k x->(fe G.F x).u z.toNat=-1:=fun z hz=>by
  obtain ⟨y,rfl,_,_⟩:=ku z hz;unfold fe;simp only [π];rw [Δ hz]
 have mx:(x:Int)∈G.R h:=(B.rh.mem h x).2 ⟨EO,hx,hr,hh⟩;have hrow:∀k,kX A.cs.length (fe G.F x) ((iw G h x).R k):=fun k=>by
  have base:∀l:List Int,kX A.cs.length G.F l->(x:Int)∉l->kX A.cs.length (fe G.F x) l:=fun l hl hxl=>by
   refine ⟨fun z hz=>?_,hl.2.imp_of_mem (fun {a b} ha hb hab=>?_)⟩
   ·have:=hl.1 z hz;exact ⟨this.1,this.2.1,uS z this.1 this.2.2⟩
   ·rw [dS a (fun e=>hxl (e▸ha)),dS b (fun e=>hxl (e▸hb))];exact hab
  unfold iw cz;simp only
  split
  ·refine base _ ⟨fun z hz=>(B.rh.row h).1 z (List.mem_filter.1 hz).1,(B.rh.row h).2.filter _⟩ (fun hm=>by simp at hm)
  ·rename_i hk
   exact base _ (B.rh.row k) (fun hm=>hk (by have:=((B.rh.mem k x).1 hm).2.2.2;omega))
 have hl:kX A.cs.length (fe G.F x) (G.F.k x):=SK B.fh.f hx (fun z hz=>dS z (fun e=>sx (e▸hz))) kU;have hd:∀z,z∈(iw G h x).R h->z∉G.F.k x:=fun z hz hk=>by
  unfold iw cz at hz;simp only [if_true] at hz;obtain ⟨y,rfl,hy,hu⟩:=ku z hk;have:=((B.rh.mem h y).1 (List.mem_filter.1 hz).1).2.2.1;omega
 have hF:FH A.cs.length (fe G.F x) (fun y=>((aZ A x).c y).i) (bX (aZ A x)):=by
  refine ⟨B.fh.f.Qj hx hr,fun y p hy hu=>?_,fun y p hy hu=>?_,fun y hy h0=>?_⟩
  all_goals unfold fe at *;simp only at *
  ·split at hu
   ·omega
   ·rename_i hk
    have hyx:y≠x:=fun e=>by subst e;omega
    have hpx:p≠x:=fun e=>by subst e;exact hk (B.fh.f.above hy hu).2
    rw [hc,hc,Γ hyx,Γ hpx];exact B.fh.home y p hy hu
  ·split at hu
   ·omega
   ·rename_i hk
    have hyx:y≠x:=fun e=>by subst e;omega
    have hpx:p≠x:=fun e=>by subst e;exact hk (B.fh.f.above hy hu).2
    exact (eZ (by rw [hc,Γ hpx]) (by rw [hc,Γ hyx])).2 (B.fh.ord y p hy hu hyx hpx)
  ·by_cases hyx:y=x
   ·subst hyx;exact ⟨by rw [Γ sx];exact hr,by rw [Δ rfl]⟩
   ·rw [hc,Γ hyx] at h0;have:=B.fh.alone y hy h0;rw [Γ hyx,this.2];exact ⟨by split;rfl;exact this.1,rfl⟩
 have hL:∀y p:Nat,y<A.cs.length->p<A.cs.length->((aZ A x).c y).i=(h:Int)->((aZ A x).c p).i=(h:Int)->y≠p->bU A y p=false->bX (aZ A x) p y:=fun y p hy hp h1 h2 hne ha=>by
  have hyx:y≠x:=fun e=>by rw [hc,Δ e] at h1;simp [Cl.z] at h1;omega
  have hpx:p≠x:=fun e=>by rw [hc,Δ e] at h2;simp [Cl.z] at h2;omega
  rw [hc,Γ hyx] at h1;rw [hc,Γ hpx] at h2;exact (eZ (by rw [hc,Γ hpx]) (by rw [hc,Γ hyx])).2 (AJ ((ae _ _).2 ⟨hy,ω⟩) ((ae _ _).2 ⟨hp,ω⟩) hne ha)
 have hroot:∀y:Nat,y<A.cs.length->((fe G.F x).u y=-1↔G.F.u y=-1\/G.F.u y=x):=fun y hy=>by
  unfold fe;simp only;have hk:=vM B.fh.f hx hy
  by_cases e:G.F.u y=x
  ·rw [Δ (hk.2 e)];exact ⟨fun _=>Β e,fun _=>rfl⟩
  ·rw [Γ (fun hm=>e (hk.1 hm))];exact ⟨fun h=>Α h,fun h=>h.resolve_right e⟩
 have hmem:∀k y:Nat,k≠h->((y:Int)∈(iw G h x).R k↔1<=k/\y<A.cs.length/\(fe G.F x).u y=-1/\((aZ A x).c y).i=(k:Int)):=fun k y hk=>by
  unfold iw cz;simp only [Γ hk];rw [B.rh.mem k y];constructor
  ·rintro ⟨a1,a2,a3,a4⟩;have hyx:y≠x:=fun e=>by subst e;omega
   exact ⟨a1,a2,(hroot y a2).2 (Α a3),by rw [hc,Γ hyx];exact a4⟩
  ·rintro ⟨a1,a2,a3,a4⟩;have hyx:y≠x:=fun e=>by rw [hc,Δ e] at a4;simp [Cl.z] at a4;omega
   rw [hc,Γ hyx] at a4;refine ⟨a1,a2,((hroot y a2).1 a3).resolve_right (fun e=>?_),a4⟩;have:=(B.fh.home y x a2 e).1;omega
 have hm:∀y:Nat,y<A.cs.length/\(fe G.F x).u y=-1/\((aZ A x).c y).i=(h:Int)↔(y:Int)∈(iw G h x).R h\/(y:Int)∈G.F.k x:=fun y=>by
  unfold iw cz;simp only [if_true,List.mem_filter,bne_iff_ne,ne_eq];rw [B.rh.mem h y];constructor
  ·rintro ⟨a2,a3,a4⟩;have hyx:y≠x:=fun e=>by rw [hc,Δ e] at a4;simp [Cl.z] at a4;omega
   rw [hc,Γ hyx] at a4;rcases (hroot y a2).1 a3 with e|e
   ·exact Α ⟨⟨EO,a2,e,a4⟩,ω⟩
   ·exact Β ((vM B.fh.f hx a2).2 e)
  ·rintro (⟨⟨_,a2,a3,a4⟩,a5⟩|a1)
   ·exact ⟨a2,(hroot y a2).2 (Α a3),by rw [hc,Γ ω];exact a4⟩
   ·obtain ⟨z,e,a2,a3⟩:=ku _ a1;obtain rfl:y=z:=ω;have hyx:y≠x:=fun e=>by subst e;exact sx a1
    refine ⟨a2,(hroot y a2).2 (Β a3),?_⟩;rw [hc,Γ hyx];have:=(B.fh.home y x a2 a3).1;omega
 obtain ⟨r1,r2,r3,r4⟩:=CQ (G:=iw G h x) hF hn (nU A) hL EO hrow hmem hm hl hd;have nd:(G.R h).Nodup:=(B.rh.row h).nodup;have eR:(iw G h x).R h=(G.R h).filter (fun z=>z != (x:Int)):=by unfold iw cz;simp
 have fl:=Jz nd mx;refine ⟨⟨by rw [hcs];exact r1,by rw [hcs];exact r2,fun k hk=>?_⟩,?_,mx,by rw [←eR];exact hrow h,hl,by rw [←eR];exact hd,hF.f,fun z hz=>?_⟩
 ·rw [hcs];have e1:wt A.cs.length (qQ A h x G).F ((qQ A h x G).R k)=_:=r3 k;rw [e1];have hlen:=mW A x Cl.z (k:Int) hx;have e2:aZ A x=iM A x Cl.z:=by unfold aZ;rw [Δ ZG,π]
  rw [e2]
  by_cases ek:k=h
  ·subst ek;rw [Δ rfl,eR];rw [Δ ω,Γ (by simp [Cl.z];omega)] at hlen;have w1:=NG (F:=G.F) (n:=A.cs.length) nd mx;rw [eO _ _ hx,π] at w1;have w2:=Wt (F':=fe G.F x) B.fh.f hx (fun z hz=>dS z (fun e=>sx (e▸hz)));have w3:wt A.cs.length (fe G.F x) ((G.R k).filter (fun z=>z != (x:Int)))=wt A.cs.length G.F ((G.R k).filter (fun z=>z != (x:Int))):=y9 (fun z hz=>dS z (by simpa using (List.mem_filter.1 hz).2));have w4:=B.w k hk
   show wt A.cs.length (fe G.F x) _+wt A.cs.length (fe G.F x) _=_
   omega
  ·rw [Γ ek];rw [Γ ω,Γ (by simp [Cl.z];omega)] at hlen;have eK:(iw G h x).R k=G.R k:=by unfold iw cz;simp only [Γ ek]
   rw [eK];have w4:=B.w k hk
   have w3:wt A.cs.length (fe G.F x) (G.R k)=wt A.cs.length G.F (G.R k):=y9 (fun z hz=>dS z (fun e=>by
    subst e;have:=((B.rh.mem k x).1 hz).2.2.2
    omega))
   show wt A.cs.length (fe G.F x) _=_
   omega
 ·rw [eR] at r4;have e3:x9 A h x G=(kG (bU A) A.cs.length (iw G h x).F ((G.R h).filter (fun z=>z != (x:Int))) (G.F.k x)).q:=by unfold x9;rw [eR]
  rw [e3];have e4:(qQ A h x G).R h=(yo (bU A) A.cs.length h (G.F.k x) (iw G h x)).R h:=rfl;rw [e4];omega
 ·rcases hz with hz|hz
  ·have hr:=(B.rh.row h).1 z hz;have:=(B.rh.mem h z.toNat).1 (by rw [show ((z.toNat:Nat):Int)=z by omega];exact hz);exact (yL _ _).2 ⟨hr.1,hr.2.1,by have:=this.2.2.2;omega⟩
  ·obtain ⟨y,rfl,hy,hu⟩:=ku z hz;exact (ae _ _).2 ⟨hy,(B.fh.home y x hy hu).2⟩
end
def Tj (A':NS) (h x:Nat) (G:BG):BG:=yo (bU A') A'.cs.length h [(x:Int)] G
def Vi (A':NS) (h x:Nat) (G:BG):Nat:=(kG (bU A') A'.cs.length G.F (G.R h) [(x:Int)]).q
theorem QA (n:Nat) (F:CF):kX n F []:=⟨fun x hx=>(by cases hx),List.Pairwise.nil⟩
theorem Zq (n:Nat):Cx (NS.new n) BG.none:=by
 have hc:=fun y=>NS.xY n y;have hn:(NS.new n).cs.length=n:=by simp [NS.new]
 refine ⟨⟨by rw [hn];exact Te n,fun y p hy hu=>?_,fun y p hy hu=>?_,fun y hy hh=>⟨rfl,rfl⟩⟩,⟨fun h=>QA _ _,fun h y=>⟨fun hm=>(by cases hm),fun hm=>?_⟩⟩,fun h hh=>?_⟩
 ·have:(-1:Int)=p:=hu;omega
 ·have:(-1:Int)=p:=hu;omega
 ·have h2:=hm.2.2.2;rw [hc] at h2;simp [Cl.z] at h2;omega
 ·have:¬0<dI (NS.new n) (h:Int):=fun hp=>by
   obtain ⟨y,_,h2,h3⟩:=eH.1 hp;rw [hc] at h2;simp [Cl.z] at h2;omega
  show (0:Nat)=_
  omega
theorem XA (A:NS) (y:Nat):(aN A).c y=A.c y:=by unfold aN;split<;>rfl
theorem K7 (A:NS):(aN A).cs=A.cs:=by unfold aN;split<;>rfl
section
variable {A:NS} {G:BG}
theorem UU (B:Cx A G):Cx (aN A) G:=by
 have hc:=XA A;have hs:(aN A).cs.length=A.cs.length:=by rw [K7]
 refine ⟨⟨by rw [hs];exact B.fh.f,fun y p hy hu=>by rw [hc,hc];exact B.fh.home y p (by rw [←hs];exact hy) hu,fun y p hy hu=>(eZ (hc p) (hc y)).2 (B.fh.ord y p (by rw [←hs];exact hy) hu),fun y hy hh=>B.fh.alone y (by rw [←hs];exact hy) (by rw [←hc];exact hh)⟩,
  ⟨fun h=>by rw [hs];exact B.rh.row h,fun h y=>by rw [hs,hc];exact B.rh.mem h y⟩,fun h hh=>by rw [hs,Nk];exact B.w h hh⟩
theorem Zl {h x:Nat} (k s:Int) (B:Cx A G) (ok:A.Ok) (hB:nR A h x=true) :
  Cx (aJ A h x k s) (Tj (aJ A h x k s) h x G)/\Vi (aJ A h x k s) h x G+((Tj (aJ A h x k s) h x G).R h).length=(G.R h).length+1/\
   kX A.cs.length G.F [(x:Int)]/\(∀z,z∈G.R h->z∉[(x:Int)])/\(∀z,z∈G.R h\/z∈[(x:Int)]->bQ (aJ A h x k s) z=true)/\(aJ A h x k s).cs.length=A.cs.length:=by
 obtain ⟨b1,b2,b3⟩:=(dW _ _ _).1 hB;have b4:=(aO _ _).1 b1;have hx:x<A.cs.length:=by have:=(gH _ _).1 b2;omega
 have EO:1<=h:=ω;have h0:¬0<(A.c x).i:=fun hp=>by rw [(ae _ _).2 ⟨hx,hp⟩] at b3;cases b3
 have eA:aJ A h x k s=iM A x ⟨h,k,s⟩:=by unfold aJ;rw [Δ hB,π]
 have hcs:(aJ A h x k s).cs.length=A.cs.length:=by rw [eA];exact eY _ _ _
 have hc:∀y,(aJ A h x k s).c y=if y=x then ⟨h,k,s⟩ else A.c y:=fun y=>by
  rw [eA,jQ]
  by_cases e:y=x
  ·rw [Δ ⟨e,hx⟩,Δ e]
  ·rw [Γ (fun h=>e h.1),Γ e]
 have al:=B.fh.alone x hx h0
 have hne:∀y p:Nat,y<A.cs.length->G.F.u y=p->y≠x/\p≠x:=fun y p hy hu=>⟨fun e=>by subst e;rw [al.1] at hu;omega,fun e=>by
  subst e;have:=(B.fh.f.above hy hu).2
  rw [al.2] at this;cases this⟩
 have hF:FH A.cs.length G.F (fun y=>((aJ A h x k s).c y).i) (bX (aJ A h x k s)):=by
  refine ⟨B.fh.f,fun y p hy hu=>?_,fun y p hy hu=>?_,fun y hy hh=>?_⟩
  ·obtain ⟨e1,e2⟩:=hne y p hy hu;rw [hc,hc,Γ e1,Γ e2];exact B.fh.home y p hy hu
  ·obtain ⟨e1,e2⟩:=hne y p hy hu;exact (eZ (by rw [hc,Γ e2]) (by rw [hc,Γ e1])).2 (B.fh.ord y p hy hu)
  ·by_cases e:y=x
   ·rw [hc,Δ e] at hh;simp only at hh;omega
   ·rw [hc,Γ e] at hh;exact B.fh.alone y hy hh
 have hin:∀y:Nat,y<A.cs.length->((aJ A h x k s).c y).i=(h:Int)->bQ (aJ A h x k s) (y:Int)=true:=fun y hy e=>(ae _ _).2 ⟨ω,ω⟩;have hl:kX A.cs.length G.F [(x:Int)]:=⟨fun z hz=>by simp at hz;subst hz;exact ⟨ω,ω,by simpa using al.1⟩,List.pairwise_singleton _ _⟩;have hd:∀z,z∈G.R h->z∉[(x:Int)]:=fun z hz hm=>by
  simp at hm;subst hm;have:=((B.rh.mem h x).1 hz).2.2.2;omega
 have hm:∀y:Nat,y<A.cs.length/\G.F.u y=-1/\((aJ A h x k s).c y).i=(h:Int)↔(y:Int)∈G.R h\/(y:Int)∈[(x:Int)]:=fun y=>by
  rw [B.rh.mem h y];simp only [ϒ]
  by_cases e:y=x
  ·subst e;rw [hc,Δ rfl];exact ⟨fun _=>Β rfl,fun _=>⟨hx,al.1,rfl⟩⟩
  ·rw [hc,Γ e];constructor
   ·rintro ⟨a1,a2,a3⟩;exact Α ⟨EO,a1,a2,a3⟩
   ·rintro (⟨_,a1,a2,a3⟩|a4)
    ·exact ⟨a1,a2,a3⟩
    ·omega
 obtain ⟨r1,r2,r3,r4⟩:=CQ (G:=G) (lt:=bU (aJ A h x k s)) (h:=h) hF ok.c1 (nU _) (fun y p hy hp h1 h2 hne ha=>AJ (hin y hy h1) (hin p hp h2) hne ha) EO B.rh.row (fun q y hq=>by
  rw [B.rh.mem q y]
  by_cases e:y=x
  ·subst e;rw [hc,Δ rfl];constructor
   ·rintro ⟨a1,_,_,a3⟩;omega
   ·rintro ⟨a1,_,_,a3⟩;simp only at a3;omega
  ·rw [hc,Γ e]) hm hl hd
 unfold Tj Vi;rw [hcs];refine ⟨⟨by rw [hcs];exact r1,by rw [hcs];exact r2,fun q hq=>?_⟩,by simpa using r4,hl,hd,fun z hz=>?_,rfl⟩
 ·rw [hcs,r3 q];have hlen:=mW A x ⟨h,k,s⟩ (q:Int) hx;rw [←eA] at hlen;rw [Γ ω] at hlen;have wx:wt A.cs.length G.F [(x:Int)]=1:=by
   unfold wt;simp only [List.map_cons,List.map_nil,List.sum_cons,List.sum_nil];rw [eO _ _ hx,al.2];rfl
  have wq:=B.w q hq
  by_cases e:q=h
  ·subst e;rw [Δ ⟨rfl,ω⟩] at hlen;rw [Δ rfl,wx];omega
  ·rw [Γ (fun h=>e (by have:=h.1;simp only at this;omega))] at hlen;rw [Γ e];omega
 ·have key:∃y:Nat,z=y/\y<A.cs.length/\((aJ A h x k s).c y).i=(h:Int):=by
   rcases hz with hz|hz
   ·have hr:=(B.rh.row h).1 z hz;obtain ⟨y,rfl⟩:=Int.eq_ofNat_of_zero_le hr.1;have:=(hm y).2 (Α hz);exact ⟨y,rfl,this.1,this.2.2⟩
   ·simp at hz;subst hz;have:=(hm x).2 (Β σ);exact ⟨x,rfl,this.1,this.2.2⟩
  obtain ⟨y,rfl,h1,h2⟩:=key;exact hin y h1 h2
theorem SS (B:Cx A G):∀ (m y:Nat),A.cs.length<=m+(G.F.k y).length->y<A.cs.length->0<(A.c y).i->∃T,T<A.cs.length/\G.F.u T=-1/\(A.c T).i=(A.c y).i/\(T=y\/bX A T y)
 | m,y,hm,hy,hh=>by
  rcases B.fh.f.up y hy with h1|⟨p,hp,h1,h2⟩
  ·exact ⟨y,hy,h1,rfl,Α rfl⟩
  ·have hd:=B.fh.f.NV hy h1;have hl:=B.fh.f.len hp;have ho:(A.c y).i=(A.c p).i/\0<(A.c y).i:=B.fh.home y p hy h1
   match m,hm with
   | 0,hm=>omega
   | m+1,hm=>
    obtain ⟨T,t1,t2,t3,t4⟩:=SS B m p ω hp ω;refine ⟨T,t1,t2,by rw [t3,ho.1],Β ?_⟩;have hl:=B.fh.ord y p hy h1;rcases t4 with e|e
    ·rw [e];exact hl
    ·exact bT e hl
def lY (lt:Int->Int->Bool):Int->List Int->Int
 | b,[]=>b
 | b,x::t=>lY lt (if lt x b then x else b) t
theorem zN (lt:Int->Int->Bool):∀ (l:List Int) (b:Int),lY lt b l∈b::l
 | [],b=>by simp [lY]
 | x::t,b=>by
  have key:∀c,lY lt c t∈c::t:=fun c=>zN lt t c;unfold lY;cases e:lt x b with
  | true=>
   rw [Δ rfl];exact Λ _ (key x)
  | false=>
   rw [Γ σ];rcases ρ.1 (key b) with h|h
   ·rw [h];simp
   ·exact Λ _ (Λ _ h)
theorem xW {lt:Int->Int->Bool} {P:Int->Prop} (tr:∀a b c,P a->P b->P c->lt a b=true->lt b c=true->lt a c=true) (tot:∀a b,P a->P b->a≠b->lt a b=false->lt b a=true) :
  ∀ (l:List Int) (b:Int),P b->(∀x,x∈l->P x)->∀x,x∈b::l->x=lY lt b l\/lt (lY lt b l) x=true
 | [],b,_,_,x,hx=>by simp at hx;subst hx;exact Α rfl
 | y::t,b,hb,hl,x,hx=>by
  have hy:=hl y σ;have ht:=fun z hz=>hl z (Λ _ hz);unfold lY;have hP:P (if lt y b then y else b):=by split;exact hy;exact hb
  have ih:=xW tr tot t (if lt y b then y else b) hP ht;have Z8:P (lY lt (if lt y b then y else b) t):=by
   rcases ρ.1 (zN lt t (if lt y b then y else b)) with e|e
   ·rw [e];exact hP
   ·exact ht _ e
  have via:∀z,P z->lt (if lt y b then y else b) z=true->z=lY lt (if lt y b then y else b) t\/lt (lY lt (if lt y b then y else b) t) z=true:=fun z hz h=>by
   rcases ih _ (List.mem_cons_self) with e|e
   ·rw [←e];exact Β h
   ·exact Β (tr _ _ _ Z8 hP hz e h)
  by_cases e:lt y b=true
  ·rw [Δ e] at ih via ⊢;rcases ρ.1 hx with e1|hx
   ·subst e1;exact via x hb e
   ·exact ih x hx
  ·rw [Γ e] at ih via ⊢;have e:lt y b=false:=by simpa using e
   rcases ρ.1 hx with e1|hx
   ·subst e1;exact ih x σ
   ·rcases ρ.1 hx with e1|hx
    ·subst e1
     by_cases exb:x=b
     ·subst exb;exact ih x σ
     ·exact via x hy (tot x b hy hb exb e)
    ·exact ih x (Λ _ hx)
theorem QN (B:Cx A G) {h:Nat} {z:Int} (hz:z∈G.R h):∃y:Nat,z=y/\y<A.cs.length/\bQ A z=true/\(A.c y).i=h/\G.F.u y=-1:=by
 have hr:=(B.rh.row h).1 z hz;obtain ⟨y,rfl⟩:=Int.eq_ofNat_of_zero_le hr.1;have:=(B.rh.mem h y).1 hz;have h4:(A.c y).i=h:=this.2.2.2;exact ⟨y,rfl,this.2.1,(ae _ _).2 ⟨this.2.1,ω⟩,h4,this.2.2.1⟩
theorem Rh (B:Cx A G) {h:Nat} (h1:1<=h) {x:Int} {t:List Int} (hR:G.R h=x::t):∃m:Nat,lY (bU A) x t=m/\dF A (h:Int)=some m/\m<A.cs.length/\G.F.u m=-1/\(A.c m).i=h:=by
 have hin:∀z,z∈x::t->∃y:Nat,z=y/\y<A.cs.length/\bQ A z=true/\(A.c y).i=h/\G.F.u y=-1:=fun z hz=>QN B (by rw [hR];exact hz);obtain ⟨m,e,m1,m2,m3,m4⟩:=hin _ (zN (bU A) t x);refine ⟨m,e,(iB ω).2 ⟨m1,m3,fun y hy hh=>?_⟩,m1,m4,m3⟩
 have F:=xW (lt:=bU A) (P:=fun z=>∃y:Nat,z=y/\bQ A z=true) (fun a b c ha hb hc h1 h2=>by
  obtain ⟨a,rfl,_⟩:=ha;obtain ⟨b,rfl,_⟩:=hb;obtain ⟨c,rfl,_⟩:=hc;rw [lJ] at h1 h2 ⊢;simp only [Τ,Ο] at h1 h2 ⊢;exact ⟨⟨h1.1.1,h2.1.2⟩,bT h1.2 h2.2⟩) (fun a b ha hb hne h1=>by
  obtain ⟨a,rfl,ia⟩:=ha;obtain ⟨b,rfl,ib⟩:=hb;have:=AJ ia ib (fun e=>hne (by rw [e])) h1;rw [lJ,ia,ib]
  simpa using this) t x (by obtain ⟨y,e,_,i,_⟩:=hin x σ;exact ⟨y,e,i⟩) (fun z hz=>by obtain ⟨y,e,_,i,_⟩:=hin z (Λ _ hz);exact ⟨y,e,i⟩)
 obtain ⟨T,t1,t2,t3,t4⟩:=SS B A.cs.length y ω hy ω;have hT:(T:Int)∈x::t:=by rw [←hR];exact (B.rh.mem h T).2 ⟨h1,t1,t2,by rw [t3];exact hh⟩
 have hmT:T=m\/bX A m T:=by
  rcases F _ hT with e2|e2
  ·rw [e] at e2;exact Α ω
  ·rw [e,lJ] at e2;simp only [Τ,Ο] at e2;exact Β e2.2
 rcases t4 with e1|e1
 ·subst e1;exact hmT
 ·rcases hmT with e2|e2
  ·subst e2;exact Β e1
  ·exact Β (bT e2 e1)
theorem Lu (B:Cx A G) {h:Nat} (h1:1<=h) (hR:G.R h=[]):dF A (h:Int)=none:=by
 have:=B.w h h1;rw [hR] at this;exact (jB ω).2 this.symm
end
end Go.Proofs.YtklibcncmbofpaaGreat
namespace Go.Proofs.YtklibcncmbofpaaGreat
open Go Go.RowKit
theorem VG {w:World} {base size n g cap:Nat} {e:TypeId} {xs:List Value} (h:w.ownsRow base e size (.slice (some ⟨g,0,none⟩) n cap) n xs) (j:Nat) (u:Value) :
  (w.setCell ⟨g,j,none⟩ u).ownsRow base e size (.slice (some ⟨g,0,none⟩) n cap) n (xs.set j u):=by
 rcases h.2 with ⟨h1,_⟩|⟨g',cap',cur,h1,hb,hg,hn,hc,hs,ht⟩
 ·cases h1
 ·cases h1;refine ⟨by rw [Ι];exact h.1,Β ⟨g,cap,cur.setIfInBounds j u,rfl,hb,?_,hn,hc,by simp;exact hs,?_⟩⟩
  ·simp [World.setCell,Array.getElem?_modify,hg]
  ·rw [Array.toList_setIfInBounds]
   by_cases hj:j<n*size
   ·rw [List.take_set,ht]
   ·have hl:=h.1;rw [List.take_set_of_le ω,ht,List.set_eq_of_length_le ω]
end Go.Proofs.YtklibcncmbofpaaGreat
