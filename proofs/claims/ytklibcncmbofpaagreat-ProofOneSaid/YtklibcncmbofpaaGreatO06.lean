/-
  Lemmas for ProofOne: Words, Carry, Carry2, Carry3, Carry4, Carry5, Carry6, Off, Carry8, CarryLink, KarDef, KOrd, Kar7, Kar9, Kar10, KarPl, KarPl2, KarLaw, FrOk, BnP, BnQ, BnR, BnS, OwnS. Conditions: those of each lemma.
-/
import Derived.Deep.RegionHeldLaw
import Derived.Deep.RegionLaw
import Derived.ArgAppend
import Derived.Deep.DeepCutAuto
import Derived.Outline
import Derived.Test.YtklibcncmbofpaaGreatO01
set_option linter.all false
set_option maxHeartbeats 8000000
set_option maxRecDepth 10000
namespace Go.Proofs.YtklibcncmbofpaaGreat
open Go Go.RowKit
def ov (o:Option Int):Int:=o.getD 0
def ob (o:Option Int):Bool:=o.isSome
structure CS where
 v:Nat->Value
 k:Nat->List Int
 u:Nat->Int
def CS.none:CS:=⟨fun _=>.slice Option.none 0 0,fun _=>[],fun _=>-1⟩
def cB (S:CS) (j:Nat):Value:=if j % 2=0 then S.v (j / 2) else .int .i64 (S.u (j / 2))
theorem nD (S:CS) (x:Nat):cB S (x*2)=S.v x:=by unfold cB;rw [Δ ω,show x*2 / 2=x by omega]
theorem uA (S:CS) (x:Nat):cB S (x*2+1)=.int .i64 (S.u x):=by unfold cB;rw [Γ ω,show (x*2+1) / 2=x by omega]
def CS.blk (S:CS) (n:Nat):List Nat:=(List.range n).filterMap (fun x=>(S.v x).ownBlock)
theorem CS.jN (S:CS) (n g:Nat):g∈S.blk n↔∃x,x<n/\(S.v x).ownBlock=some g:=by unfold CS.blk;simp
structure aR (w:World) (bt ba lo n:Nat) (S:CS):Prop where
 head:aI w bt 250 1 (fun _=>.slice (some ⟨ba,0,none⟩) n n)
 row:aI w ba 252 (n*2) (cB S)
 own:∀x,x<n->w.ownsRow lo 3 1 (S.v x) (S.k x).length (aF (S.k x))
 sep:∀x y,x<n->y<n->x≠y->∀g,(S.v x).ownBlock=some g->(S.v y).ownBlock≠some g
 ne:bt≠ba
 UB:bt<lo
 Mw:ba<lo
 low:lo<=w.heap.size
 le:n<=65536
 len:∀x,x<n->(S.k x).length<=n
theorem aR.nN {w:World} {bt ba lo n:Nat} {S:CS} (h:aR w bt ba lo n S) {g:Nat} (hg:g∈S.blk n):lo<=g/\g<w.heap.size:=by
 obtain ⟨x,hx,he⟩:=(S.jN n g).1 hg;exact (h.own x hx).lt g he
theorem aR.upd {w w':World} {F:List Nat} {bt ba lo n:Nat} {S:CS} (h:aR w bt ba lo n S) (hu:aa F w w') (h1:bt∉F) (h2:ba∉F) (h3:∀g,g∈S.blk n->g∉F):aR w' bt ba lo n S:=
 ⟨h.head.upd hu h1,h.row.upd hu h2,fun x hx=>ay (h.own x hx) hu (fun k hk=>h3 k ((S.jN n k).2 ⟨x,hx,hk⟩)),h.sep,h.ne,h.UB,h.Mw,Χ h.low hu.size,h.le,h.len⟩
theorem aR.aj {w w':World} {bt ba lo n:Nat} {S:CS} (h:aR w bt ba lo n S) (hu:aa [] w w'):aR w' bt ba lo n S:=h.upd hu σ σ σ
theorem nodeInfo:(Tryz.prog.info? 252).map (fun i=>(i.zero,i.size,i.bytes))=some (some (.agg #[.slice none 0 0,.int .i64 0]),2,32):=by kernel_rfl
theorem Dw (n:Nat) (w:World) (h:n<=65536) :
  Calls Tryz.prog 109 #[.int .i64 (n:Int)] w fun e w'=>∃bt ba,e=.returned (.tuple #[.pointer (some ⟨bt,0,none⟩),.int .i64 0])/\aR w' bt ba w'.heap.size n CS.none/\aa [] w w'/\w.heap.size<=bt/\w.heap.size<=ba:=by
 go_enter Tryz.func109,Tryz.ntmps109
 go_wp2_with (at_make;refine wpList_make_row rfl _ 248 rfl 252 (.agg #[.slice none 0 0,.int .i64 0]) 2 32 Tryz.underlying248 nodeInfo n rfl ω μ ?_;intro w1 hr1 hu1)
 have hlt:=hr1.lt;have hz:∀j,j<n*2->(madeCells (Value.agg #[.slice none 0 0,.int .i64 0]).cells (n*2)).toList.getD j undef=if j % 2=0 then .slice none 0 0 else .int .i64 0:=fun j hj=>by
  rw [show (Value.agg #[.slice none 0 0,.int .i64 0]).cells=#[Value.slice none 0 0,Value.int .i64 0] from rfl];unfold madeCells;simp [φ,hj];rcases (ω:j % 2=0\/j % 2=1) with h2|h2<;>simp [h2]
 go_loopw [21] (fun i wr=>∃ (k:Nat) (f:Nat->Value),k<=n/\i=.int .i64 k/\aI wr w1.heap.size 250 1 (fun _=>.slice (some ⟨w.heap.size,0,none⟩) n n)/\aI wr w.heap.size 252 (n*2) f/\(∀j,j<n*2->f j=if j % 2=0 then .slice none 0 0 else .int .i64 (if j<k*2 then -1 else 0))/\aa [] w wr) (fun i _=>n-(intOf i).toNat)
 case atStart=>exact ⟨0,_,ω,rfl,dH _ _ _ |>.ext (fun j hj=>by simp at hj;subst hj;rfl),hr1.alloc _,fun j hj=>by rw [hz j hj,Γ (show ¬j<0*2 by omega)],hu1.alloc _⟩
 case round=>
  obtain ⟨k,f,hk,rfl,hH,hR,hf,hu⟩:=hrel;have HZ:=χ hz;clear hz
  by_cases hkn:k<n
  ·have c0:=hH.cell 0 ω;have d1:=hR.cell (k*2+1) ω;have e1:=hR.free (k*2+1);have HF:=χ hf;clear hf;go_wp2
   go_roundw
   case rel=>
    refine ⟨k+1,_,ω,by go_num,hH.far _ _ ζ,hR.set _ _,fun j hj=>?_,hu.setCell (Β σ) _⟩
    by_cases hj1:j=k*2+1
    ·subst hj1;rw [Δ rfl,Γ ω,Δ ω]
    ·rw [Γ hj1,HF.out j hj]
     by_cases h2:j % 2=0
     ·rw [Δ h2,Δ h2]
     ·rw [Γ h2,Γ h2]
      by_cases h3:j<k*2
      ·rw [Δ h3,Δ ω]
      ·rw [Γ h3,Γ ω]
   case measure=>simp [intOf];omega
  ·obtain rfl:k=n:=ω;go_wp2;go_ret2;exact ⟨_,_,rfl,⟨hH,hR.ext (fun j hj=>by rw [hf j hj,Δ (show j<k*2 by omega)];rfl),fun x hx=>World.ownsRow_nil _ _ _ _,fun x y _ _ _ g hg=>by simp [CS.none,Value.ownBlock] at hg,by omega,hH.lt,hR.lt,Θ _,h,fun x hx=>Nat.zero_le _⟩,hu,hu1.size,Θ _⟩
theorem nA (bt ba lo n:Nat) (S:CS) (x:Int) (w:World) (h:aR w bt ba lo n S) (b:Bool) (hb:b=decide (0<=x/\x<n)) :
  Calls Tryz.prog 195 #[.pointer (some ⟨bt,0,none⟩),.int .i64 x] w fun e w'=>e=.returned (.bool b)/\w'=w:=by
 have hle:=h.le;have c0:=h.head.cell 0 ω;clear h;subst hb
 by_cases h0:0<=x
 ·by_cases h1:x<n
  ·go_enter Tryz.func195,Tryz.ntmps195
   go_wp2;go_ret;exact ⟨aO (by simp [h0,h1]),rfl⟩
  ·go_enter Tryz.func195,Tryz.ntmps195
   go_wp2;go_ret;exact ⟨aO (by simp [h0,h1]),rfl⟩
 ·go_enter Tryz.func195,Tryz.ntmps195
  go_wp2;go_ret;exact ⟨aO ζ,rfl⟩
def oz (n:Nat) (S:CS) (x:Int):Bool:=decide (0<=x/\x<n) && S.u x.toNat == -1
def oD (n:Nat) (S:CS) (x:Int):Int:=if 0<=x/\x<n then (S.k x.toNat).length else 0
def IJ (n:Nat) (S:CS) (x:Int):Option Int:=if 0<=x/\x<n then (if S.u x.toNat=-1 then none else some (S.u x.toNat)) else none
theorem wV (bt ba lo n:Nat) (S:CS) (x:Int) (w:World) (h:aR w bt ba lo n S) :
  Calls Tryz.prog 198 #[.pointer (some ⟨bt,0,none⟩),.int .i64 x] w fun e w'=>e=.returned (.bool (oz n S x))/\w'=w:=by
 by_cases hx:0<=x/\x<n
 ·obtain ⟨k,rfl⟩:∃k:Nat,x=k:=⟨x.toNat,ω⟩;have hk:k<n:=ω;have hle:=h.le;have c0:=h.head.cell 0 ω;have d1:=h.row.cellAt (k*2+1) ω (uA S k);have k1:=nA bt ba lo n S k w h true (by simp [hk]);have e:oz n S k=(S.u k == -1):=by unfold oz;rw [Ν hx];simp
  rw [e];clear h e hx;generalize S.u k=u at *
  go_enter Tryz.func198,Tryz.ntmps198
  go_wp2_with (go_at_call 195;refine (k1).mono ?_;rintro e w' ⟨rfl,rfl⟩)
  go_ret;exact ⟨rfl,rfl⟩
 ·have k1:=nA bt ba lo n S x w h false (by simpa using hx);have e:oz n S x=false:=by unfold oz;rw [Ξ hx];rfl
  rw [e];clear h e hx
  go_enter Tryz.func198,Tryz.ntmps198
  go_wp2_with (go_at_call 195;refine (k1).mono ?_;rintro e w' ⟨rfl,rfl⟩)
  go_ret;exact ⟨rfl,rfl⟩
theorem qo (bt ba lo n:Nat) (S:CS) (x:Int) (w:World) (h:aR w bt ba lo n S) :
  Calls Tryz.prog 204 #[.pointer (some ⟨bt,0,none⟩),.int .i64 x] w fun e w'=>e=.returned (.int .i64 (oD n S x))/\w'=w:=by
 by_cases hx:0<=x/\x<n
 ·obtain ⟨k,rfl⟩:∃k:Nat,x=k:=⟨x.toNat,ω⟩;have hk:k<n:=ω;have hle:=h.le;have c0:=h.head.cell 0 ω;obtain ⟨a,cap,hv,_⟩:=aV (h.own k hk);have d0:=h.row.cellAt (k*2) ω ((nD S k).trans hv);have k1:=nA bt ba lo n S k w h true (by simp [hk]);have e:oD n S k=((S.k k).length:Int):=by unfold oD;rw [Δ hx];simp
  rw [e];clear h e hx hv;generalize (S.k k).length=u at *
  go_enter Tryz.func204,Tryz.ntmps204
  go_wp2_with (go_at_call 195;refine (k1).mono ?_;rintro e w' ⟨rfl,rfl⟩)
  go_ret;exact ⟨rfl,rfl⟩
 ·have k1:=nA bt ba lo n S x w h false (by simpa using hx);have e:oD n S x=0:=by unfold oD;rw [Γ hx]
  rw [e];clear h e hx
  go_enter Tryz.func204,Tryz.ntmps204
  go_wp2_with (go_at_call 195;refine (k1).mono ?_;rintro e w' ⟨rfl,rfl⟩)
  go_ret;exact ⟨rfl,rfl⟩
theorem wM (bt ba lo n:Nat) (S:CS) (x:Int) (w:World) (h:aR w bt ba lo n S) :
  Calls Tryz.prog 188 #[.pointer (some ⟨bt,0,none⟩),.int .i64 x] w fun e w'=>e=.returned (.tuple #[.int .i64 (ov (IJ n S x)),.bool (ob (IJ n S x))])/\w'=w:=by
 by_cases hx:0<=x/\x<n
 ·obtain ⟨k,rfl⟩:∃k:Nat,x=k:=⟨x.toNat,ω⟩;have hk:k<n:=ω;have hle:=h.le;have c0:=h.head.cell 0 ω;have d1:=h.row.cellAt (k*2+1) ω (uA S k);have k1:=nA bt ba lo n S k w h true (by simp [hk]);have e:IJ n S k=if S.u k=-1 then none else some (S.u k):=by unfold IJ;rw [Δ hx];simp
  rw [e];clear h e hx;generalize S.u k=u at *
  by_cases hu:u=-1
  ·subst hu
   go_enter Tryz.func188,Tryz.ntmps188
   go_wp2_with (go_at_call 195;refine (k1).mono ?_;rintro e w' ⟨rfl,rfl⟩)
   go_ret2;exact ⟨rfl,rfl⟩
  ·have b1:(u == -1)=false:=by simpa using hu
   rw [Γ hu];clear hu
   go_enter Tryz.func188,Tryz.ntmps188
   go_wp2_with (go_at_call 195;refine (k1).mono ?_;rintro e w' ⟨rfl,rfl⟩)
   go_ret2;exact ⟨rfl,rfl⟩
 ·have k1:=nA bt ba lo n S x w h false (by simpa using hx);have e:IJ n S x=none:=by unfold IJ;rw [Γ hx]
  rw [e];clear h e hx
  go_enter Tryz.func188,Tryz.ntmps188
  go_wp2_with (go_at_call 195;refine (k1).mono ?_;rintro e w' ⟨rfl,rfl⟩)
  go_ret2;exact ⟨rfl,rfl⟩
theorem NQ (w:World) (lo:Nat) (v:Value) (z:List Int) (h:iX w lo v z.length (aF z)) (hz:z.length<=65536) :
  Calls Tryz.prog 199 #[v] w fun e w'=>∃v',e=.returned v'/\iX w' w.heap.size v' z.length (aF z)/\aa [] w w':=by
 have h0:=h;obtain ⟨a,cap,rfl,hcp,hlc,hp⟩:=h.open;have hl:=dA z;generalize hzz:aF z=zs at *;have h1:∀u∈zs,u.oneCell'=true:=by rw [←hzz];exact x9 z
 generalize z.length=len at *;clear hzz;cases a with
 | none=>
  have hn:len=0:=by
   rcases Nat.eq_zero_or_pos len with h|h
   ·exact h
   ·obtain ⟨g,hg,_⟩:=hp h;cases hg
  subst hn;have hzs:zs=[]:=ϛ hl;subst hzs;have hs:=fun (W:World)=>Lib.run_eql_slice_nil (P:=Tryz.prog) W 26 3 none 0 cap 0 0 Tryz.underlying26;clear hp h h0
  go_enter Tryz.func199,Tryz.ntmps199
  go_wp2;go_ret;exact ⟨_,rfl,Α ⟨rfl,rfl,rfl⟩,aa.refl _ _⟩
 | some a=>
  have hs:=fun (W:World)=>Lib.run_eql_slice_nil (P:=Tryz.prog) W 26 3 (some a) len cap 0 0 Tryz.underlying26;have hL:=h.upd ((aa.refl [] w).alloc (.cells #[] 3)) σ;have hO:=mQ w [] 3 w.heap.size 1 0 rfl (Θ _) μ;clear hp h h0
  go_enter Tryz.func199,Tryz.ntmps199
  go_wp2_with (at_builtin;refine vY rfl _ _ 26 rfl w.heap.size 3 (.int .i64 0) 1 8 Tryz.underlying26 dQ rfl δ _ _ _ rfl hO lo len zs _ rfl hL ω h1 μ ω σ ?_;intro v2 w2 ho2 hu2)
  go_ret;have hu3:aa [w.heap.size] (w.alloc (.cells #[] 3)) w2:=hu2;refine ⟨_,rfl,?_,((aa.refl _ _).alloc _).joined hu3 (fun x hx=>Β (by simp at hx;omega))⟩;have:=iX.uj ho2;simpa using this
def rowOk (n:Nat) (S:CS) (l:List Int) (i:Nat):Bool:=oz n S (l.getD i 0) && (i == 0 || decide (oD n S (l.getD (i-1) 0)<oD n S (l.getD i 0)))
def wR (n:Nat) (S:CS) (l:List Int) (j:Nat):Bool:=(List.range j).all (rowOk n S l)
theorem K4 (n:Nat) (S:CS) (l:List Int) (j:Nat):wR n S l (j+1)=(wR n S l j && rowOk n S l j):=by
 unfold wR;rw [List.range_succ,List.all_append];simp
theorem RJ (n:Nat) (S:CS) (l:List Int) (j:Nat) (h:wR n S l j=true) (hj:rowOk n S l j=false) (m:Nat) (hm:j<m):wR n S l m=false:=by
 unfold wR;rw [List.all_eq_false];exact ⟨j,by simp [hm],by simp [hj]⟩
def OD (n:Nat) (S:CS) (l:List Int):Bool:=wR n S l l.length
def CS.BV (S:CS) (x:Nat) (v:Value) (l:List Int):CS:=⟨fun y=>if y=x then v else S.v y,fun y=>if y=x then l else S.k y,S.u⟩
def CS.rE (S:CS) (x:Nat) (p:Int):CS:=⟨S.v,S.k,fun y=>if y=x then p else S.u y⟩
theorem CS.Tm (S:CS) (x:Nat) (v:Value) (l:List Int) (n g:Nat) (h:g∈(S.BV x v l).blk n):g∈S.blk n\/v.ownBlock=some g:=by
 obtain ⟨y,hy,he⟩:=(CS.jN _ n g).1 h;unfold CS.BV at he;simp only at he
 split at he
 ·exact Β he
 ·exact Α ((CS.jN _ n g).2 ⟨y,hy,he⟩)
theorem aR.bK {w:World} {bt ba lo n:Nat} {S:CS} (h:aR w bt ba lo n S) (x:Nat) (hx:x<n) (p:Int):aR (w.setCell ⟨ba,x*2+1,none⟩ (.int .i64 p)) bt ba lo n (S.rE x p):=by
 have hu:aa [ba] w (w.setCell ⟨ba,x*2+1,none⟩ (.int .i64 p)):=(aa.refl _ _).setCell (Α σ) _;refine ⟨h.head.upd hu (by simp;exact h.ne),(h.row.set _ _).ext (fun j hj=>?_),fun y hy=>ay (h.own y hy) hu (fun k hk hm=>?_),h.sep,h.ne,h.UB,h.Mw,Χ h.low hu.size,h.le,h.len⟩
 ·unfold cB CS.rE;simp only
  by_cases hj1:j=x*2+1
  ·subst hj1;rw [Δ rfl,Γ ω,show (x*2+1) / 2=x by omega,Δ rfl]
  ·rw [Γ hj1]
   by_cases h2:j % 2=0
   ·rw [Δ h2,Δ h2]
   ·rw [Γ h2,Γ h2,Γ ω]
 ·have:=((h.own y hy).lt k hk).1;have:=h.Mw;simp at hm;omega
theorem aR.VG {w w1:World} {bt ba lo n:Nat} {S:CS} (h:aR w bt ba lo n S) (x:Nat) (hx:x<n) (v:Value) (l:List Int) {F:List Nat} (hu:aa F w w1) (hF:∀g,g∈F->(S.v x).ownBlock=some g)
  (ho:w1.ownsRow lo 3 1 v l.length (aF l)) (hb:∀g,v.ownBlock=some g->(S.v x).ownBlock=some g\/w.heap.size<=g) (hl:l.length<=n):aR (w1.setCell ⟨ba,x*2,none⟩ v) bt ba lo n (S.BV x v l):=by
 have XP:∀g,g∈F->lo<=g/\g<w.heap.size:=fun g hg=>(h.own x hx).lt g (hF g hg);have hl1:=h.UB;have hl2:=h.Mw;have hu2:aa [ba] w1 (w1.setCell ⟨ba,x*2,none⟩ v):=(aa.refl _ _).setCell (Α σ) _;have hr:=h.row.upd hu (fun hm=>by have:=XP _ hm;omega);refine ⟨(h.head.upd hu (fun hm=>by have:=XP _ hm;omega)).upd hu2 (by simp;exact h.ne),(hr.set _ _).ext (fun j hj=>?_),fun y hy=>?_,?_,h.ne,h.UB,h.Mw,Χ (Χ h.low hu.size) hu2.size,h.le,?_⟩
 ·unfold cB CS.BV;simp only
  by_cases hj1:j=x*2
  ·subst hj1;rw [Δ rfl,Δ ω,show (x*2) / 2=x by omega,Δ rfl]
  ·rw [Γ hj1]
   by_cases h2:j % 2=0
   ·rw [Δ h2,Δ h2,Γ ω]
   ·rw [Γ h2,Γ h2]
 ·unfold CS.BV;simp only
  by_cases hyx:y=x
  ·rw [Δ hyx,Δ hyx];exact ay ho hu2 (fun k hk hm=>by have:=(ho.lt k hk).1;simp at hm;omega)
  ·rw [Γ hyx,Γ hyx];have h1:=h.own y hy;have h2:=ay h1 hu (fun k hk hm=>h.sep y x hy hx hyx k hk (hF k hm));exact ay h2 hu2 (fun k hk hm=>by have:=(h1.lt k hk).1;simp at hm;omega)
 ·intro y z hy hz TF g hg;unfold CS.BV at hg ⊢;simp only at hg ⊢
  by_cases hyx:y=x
  ·rw [Δ hyx] at hg;rw [Γ (fun e=>TF (by rw [hyx,e]))];rcases hb g hg with h1|h1
   ·exact h.sep x z hx hz ω g h1
   ·intro h2;have:=((h.own z hz).lt g h2).2;omega
  ·rw [Γ hyx] at hg
   by_cases hzx:z=x
   ·rw [Δ hzx];intro h2;rcases hb g h2 with h1|h1
    ·exact h.sep y x hy hx hyx g hg h1
    ·have:=((h.own y hy).lt g hg).2;omega
   ·rw [Γ hzx];exact h.sep y z hy hz TF g hg
 ·intro y hy;unfold CS.BV;simp only
  by_cases hyx:y=x
  ·rw [Δ hyx];exact hl
  ·rw [Γ hyx];exact h.len y hy
structure fH (w:World) (bt ba n:Nat) (f:Nat->Value):Prop where
 head:aI w bt 250 1 (fun _=>.slice (some ⟨ba,0,none⟩) n n)
 row:aI w ba 252 (n*2) f
 ne:bt≠ba
 le:n<=65536
theorem aR.nodes {w:World} {bt ba lo n:Nat} {S:CS} (h:aR w bt ba lo n S):fH w bt ba n (cB S):=⟨h.head,h.row,h.ne,h.le⟩
theorem fH.upd {w w':World} {F:List Nat} {bt ba n:Nat} {f:Nat->Value} (h:fH w bt ba n f) (hu:aa F w w') (h1:bt∉F) (h2:ba∉F):fH w' bt ba n f:=⟨h.head.upd hu h1,h.row.upd hu h2,h.ne,h.le⟩
theorem fH.set {w:World} {bt ba n:Nat} {f:Nat->Value} (h:fH w bt ba n f) (j:Nat) (v:Value):fH (w.setCell ⟨ba,j,none⟩ v) bt ba n (fun i=>if i=j then v else f i):=
 ⟨h.head.far _ _ h.ne,h.row.set j v,h.ne,h.le⟩
theorem fH.ext {w:World} {bt ba n:Nat} {f g:Nat->Value} (h:fH w bt ba n f) (hg:∀j,j<n*2->f j=g j):fH w bt ba n g:=⟨h.head,h.row.ext hg,h.ne,h.le⟩
def ru (f:Nat->Value) (p:Int) (ks:List Int) (i:Nat):Value:=if i % 2=1/\((i / 2:Nat):Int)∈ks then .int .i64 p else f i
def iU (f:Nat->Value) (x:Nat) (v:Value) (i:Nat):Value:=if i=x then v else f i
theorem Dq (f:Nat->Value) (p:Int) (ks:List Int) (q y:Nat) (hk:ks[q]?=some (y:Int)) (i:Nat):(if i=y*2+1 then .int .i64 p else ru f p (ks.take q) i)=ru f p (ks.take (q+1)) i:=by
 unfold ru;rw [ϐ,hk]
 by_cases h1:i=y*2+1
 ·subst h1;rw [Δ rfl,Δ ⟨ω,by simp;exact Β ω⟩]
 ·rw [Γ h1]
  by_cases h2:i % 2=1/\((i / 2:Nat):Int)∈ks.take q
  ·rw [Δ h2,Δ ⟨h2.1,by simp only [τ];exact Α h2.2⟩]
  ·rw [Γ h2,Γ (fun h=>by
    obtain ⟨h3,h4⟩:=h;rcases τ.1 h4 with h4|h4
    ·exact h2 ⟨h3,h4⟩
    ·simp at h4;omega)]
theorem CO (bt ba n lo x:Nat) (f:Nat->Value) (v:Value) (ks:List Int) (w:World) (h:fH w bt ba n f) (hv:iX w lo v ks.length (aF ks)) (hx:x<n) (hlo:ba<lo) (hks:∀k,k∈ks->0<=k/\k<n) :
  Calls Tryz.prog 196 #[.pointer (some ⟨bt,0,none⟩),.int .i64 (x:Int),v] w fun e w'=>e=.returned (.tuple #[])/\fH w' bt ba n (ru (iU f (x*2) v) x ks)/\aa [ba] w w':=by
 obtain ⟨a,cap,rfl,hcp,hlc,hp⟩:=hv.open;have hle:=h.le;have hne:=h.ne;have c0:=h.head.cell 0 ω;have d0:=h.row.cell (x*2) ω;have e0:=h.row.free (x*2);have HN:fH (w.setCell ⟨ba,x*2,none⟩ (.slice a ks.length cap)) bt ba n (ru (iU f (x*2) (.slice a ks.length cap)) x (ks.take 0)):=by
  refine (h.set (x*2) (.slice a ks.length cap)).ext (fun j hj=>?_)
  show iU f (x*2) (.slice a ks.length cap) j=_
  unfold ru;rw [Γ σ]
 have hu0:aa [ba] w (w.setCell ⟨ba,x*2,none⟩ (.slice a ks.length cap)):=(aa.refl _ _).setCell (Α σ) _;have HP:=χ hp;have HK:=χ hks;generalize iU f (x * 2) (.slice a ks.length cap)=g at *;clear hp hv hks h;generalize hlen:ks.length=len at *;have HLEN:=χ hlen;clear hlen
 go_enter Tryz.func196,Tryz.ntmps196
 go_wp2
 go_loopw [18] (fun i wr=>∃q:Nat,q<=len/\i=.int .i64 (q:Int)/\fH wr bt ba n (ru g x (ks.take q))/\aa [ba] w wr) (fun i _=>len-(intOf i).toNat)
 case atStart=>exact ⟨0,ω,rfl,HN,hu0⟩
 case round=>
  obtain ⟨q,hq,rfl,hN,hu⟩:=hrel
  by_cases hlt:q<len
  ·obtain ⟨gb,rfl,hg1,hg2,CV⟩:=HP.out ω;obtain ⟨y,pW⟩:∃y,ks[q]?=some y:=⟨ks[q]'(by rw [HLEN.out];exact hlt),σ⟩;obtain ⟨hy0,hyn⟩:=HK.out y (Η pW);obtain ⟨Y,rfl⟩:=Int.eq_ofNat_of_zero_le hy0;have hYn:Y<n:=ω;have hc:=CV q (.int .i64 (Y:Int)) (by unfold aF;rw [ϓ,pW];rfl);have hc2:wr.cell? ⟨gb,q,none⟩=some (.int .i64 (Y:Int)):=by rw [hu.cell hg2 ζ];exact hc
   have c1:=hN.head.cell 0 ω;have d1:=hN.row.cell (Y*2+1) ω;have e1:=hN.row.free (Y*2+1);have hs:=Dq g x ks q Y pW;have HS:=χ hs;have HNN:=χ hN;clear hs pW CV hc hN HN;go_wp2
   go_roundw
   case rel=>exact ⟨q+1,ω,by go_num,(HNN.out.set _ _).ext (fun j hj=>HS.out j),hu.setCell (Α σ) _⟩
   case measure=>simp [intOf];omega
  ·obtain rfl:q=len:=ω;rw [List.take_of_length_le (by rw [HLEN.out];omega)] at hN;go_wp2;go_end0;exact ⟨rfl,hN,hu⟩
def gL (S:CS) (x:Nat):CS:=⟨fun y=>if y=x then .slice none 0 0 else S.v y,fun y=>if y=x then [] else S.k y,fun y=>if (y:Int)∈S.k x then -1 else S.u y⟩
theorem qB (S:CS) (x n g:Nat) (h:g∈(gL S x).blk n):g∈S.blk n:=by
 obtain ⟨y,hy,he⟩:=(CS.jN _ n g).1 h;unfold gL at he;simp only at he
 split at he
 ·cases he
 ·exact (CS.jN _ n g).2 ⟨y,hy,he⟩
theorem FU (S:CS) (x:Nat) (j:Nat):ru (iU (cB S) (x*2) (.slice none 0 0)) (-1) (S.k x) j=cB (gL S x) j:=by
 unfold ru iU cB gL;simp only
 by_cases h:j % 2=0
 ·rw [Γ ω,Δ h]
  by_cases h2:j=x*2
  ·rw [Δ h2,Δ h,Δ ω]
  ·rw [Γ h2,Δ h,Γ ω]
 ·rw [Γ h]
  by_cases h2:((j / 2:Nat):Int)∈S.k x
  ·rw [Δ ⟨ω,h2⟩,Γ h,Δ h2]
  ·rw [Γ (fun h=>h2 h.2),Γ ω,Γ h,Γ h2]
theorem aR.split {w w1:World} {bt ba lo n:Nat} {S:CS} (h:aR w bt ba lo n S) (x:Nat) (hx:x<n) (hN:fH w1 bt ba n (cB (gL S x))) (hu:aa [ba] w w1):aR w1 bt ba lo n (gL S x):=by
 have h2:=h.Mw;refine ⟨hN.head,hN.row,fun y hy=>?_,fun y z hy hz TF g hg=>?_,h.ne,h.UB,h.Mw,Χ h.low hu.size,h.le,fun y hy=>?_⟩
 ·unfold gL;simp only
  by_cases hyx:y=x
  ·rw [Δ hyx,Δ hyx];exact World.ownsRow_nil _ _ _ _
  ·rw [Γ hyx,Γ hyx];exact ay (h.own y hy) hu (fun k hk hm=>by have:=((h.own y hy).lt k hk).1;simp at hm;omega)
 ·unfold gL at hg ⊢;simp only at hg ⊢
  by_cases hyx:y=x
  ·rw [Δ hyx] at hg;cases hg
  ·rw [Γ hyx] at hg
   by_cases hzx:z=x
   ·rw [Δ hzx];intro h;cases h
   ·rw [Γ hzx];exact h.sep y z hy hz TF g hg
 ·unfold gL;simp only
  split
  ·exact Nat.zero_le _
  ·exact h.len y hy
theorem Ph (bt ba lo n:Nat) (S:CS) (x:Nat) (w:World) (h:aR w bt ba lo n S) (hx:x<n) (hr:oz n S x=true) (hks:∀k,k∈S.k x->0<=k/\k<n) :
  Calls Tryz.prog 193 #[.pointer (some ⟨bt,0,none⟩),.int .i64 (x:Int)] w fun e w'=>∃v,e=.returned v/\iX w' w.heap.size v (S.k x).length (aF (S.k x))/\aR w' bt ba lo n (gL S x)/\aa [ba] w w':=by
 have hle:=h.le;have hne:=h.ne;have hl2:=h.Mw;have hlow:=h.low;have hln:=h.len x hx;have k1:=wV bt ba lo n S x w h;rw [hr] at k1;have c0:=h.head.cell 0 ω;have hL:=iX.uj (h.own x hx);obtain ⟨a,cap,hv,hcp,hlc,hp⟩:=hL.open;have d0:=h.row.cellAt (x*2) ω ((nD S x).trans hv);have e0:=h.row.free (x*2);have hu0:aa [ba] w (w.setCell ⟨ba,x*2,none⟩ (.slice none 0 0)):=(aa.refl _ _).setCell (Α σ) _;have HN:fH (w.setCell ⟨ba,x*2,none⟩ (.slice none 0 0)) bt ba n (ru (iU (cB S) (x*2) (.slice none 0 0)) (-1) ((S.k x).take 0)):=by
  refine (h.nodes.set (x*2) (.slice none 0 0)).ext (fun j hj=>?_)
  show iU (cB S) (x*2) (.slice none 0 0) j=_
  unfold ru;rw [Γ σ]
 have HC:=fun W (hW:aa [ba] w W)=>NQ W lo (.slice a (S.k x).length cap) (S.k x) (by rw [hv] at hL;exact hL.upd hW (fun k hk=>by simp at hk;omega)) ω;have HE:=χ (FU S x);have H:=χ h;have HP:=χ hp;have HK:=χ hks;generalize iU (cB S) (x * 2) (.slice none 0 0)=g at *;clear h hr hks hp hL hv;generalize S.k x=ks at *;generalize hlen:ks.length=len at *;have HLEN:=χ hlen;clear hlen
 go_enter Tryz.func193,Tryz.ntmps193
 go_wp2_with ((go_at_call 198;(with_reducible refine (k1).mono ?_);rintro e w9 ⟨rfl,aG⟩;rw [aG];clear aG w9))
 go_loopw [29] (fun i wr=>∃q:Nat,q<=len/\i=.int .i64 (q:Int)/\fH wr bt ba n (ru g (-1) (ks.take q))/\aa [ba] w wr) (fun i _=>len-(intOf i).toNat)
 case atStart=>exact ⟨0,ω,rfl,HN,hu0⟩
 case round=>
  obtain ⟨q,hq,rfl,hN,hu⟩:=hrel
  by_cases hlt:q<len
  ·obtain ⟨gb,rfl,hg1,hg2,CV⟩:=HP.out ω;obtain ⟨y,pW⟩:∃y,ks[q]?=some y:=⟨ks[q]'(by rw [HLEN.out];exact hlt),σ⟩;obtain ⟨hy0,hyn⟩:=HK.out y (Η pW);obtain ⟨Y,rfl⟩:=Int.eq_ofNat_of_zero_le hy0;have hYn:Y<n:=ω;have hc:=CV q (.int .i64 (Y:Int)) (by unfold aF;rw [ϓ,pW];rfl);have hc2:wr.cell? ⟨gb,q,none⟩=some (.int .i64 (Y:Int)):=by rw [hu.cell hg2 ζ];exact hc
   have c1:=hN.head.cell 0 ω;have d1:=hN.row.cell (Y*2+1) ω;have e1:=hN.row.free (Y*2+1);have hs:=Dq g (-1) ks q Y pW;have HS:=χ hs;have HNN:=χ hN;clear hs pW CV hc hN HN;go_wp2
   go_roundw
   case rel=>exact ⟨q+1,ω,by go_num,(HNN.out.set _ _).ext (fun j hj=>HS.out j),hu.setCell (Α σ) _⟩
   case measure=>simp [intOf];omega
  ·obtain rfl:q=len:=ω;rw [List.take_of_length_le (by rw [HLEN.out];omega)] at hN;have kC:=HC wr hu;have R5:=hN.ext (fun j hj=>HE.out j);have hsz:=hu.size;clear HC hN HN
   go_wp2_with (go_at_call 199;(with_reducible refine (kC).mono ?_);rintro e w2 ⟨v2,rfl,h2,h3⟩)
   go_ret;exact ⟨_,rfl,h2.mono hsz,H.out.split x hx (R5.upd h3 σ σ) (hu.then h3),hu.then h3⟩
def idxOf (l:List Int) (x:Int):Int:=match l.findIdx? (fun y=>y == x) with|some i=>(i:Int)|none=>-1
theorem FX (l:List Int) (x:Int) (k:Nat) (hn:x∉l.take k) (hk:l[k]?=some x):idxOf l x=k:=by
 have:l.findIdx? (fun y=>y == x)=some k:=by
  rw [List.findIdx?_eq_some_iff_getElem];obtain ⟨h1,h2⟩:=List.getElem?_eq_some_iff.1 hk;refine ⟨h1,by simp [h2],fun j hj=>?_⟩;simp only [beq_iff_eq];intro e;exact hn (by rw [←e];exact List.mem_take_iff_getElem.2 ⟨j,ω,rfl⟩)
 unfold idxOf;rw [this]
theorem Ai (l:List Int) (x:Int) (hn:x∉l):idxOf l x=-1:=by
 have:l.findIdx? (fun y=>y == x)=none:=by
  rw [List.findIdx?_eq_none_iff];intro y hy;simp only [beq_eq_false_iff_ne];intro e;subst e;exact hn hy
 unfold idxOf;rw [this]
theorem Ch (w:World) (lo:Nat) (v:Value) (l:List Int) (x:Int) (h:iX w lo v l.length (aF l)) :
  Calls Tryz.prog 189 #[v,.int .i64 x] w fun e w'=>e=.returned (.int .i64 (idxOf l x))/\w'=w:=by
 obtain ⟨a,cap,rfl,hcp,hlc,hp⟩:=h.open;have HP:=χ hp;clear hp h;generalize hlen:l.length=len at *;have HLEN:=χ hlen;clear hlen
 go_enter Tryz.func189,Tryz.ntmps189
 go_wp2
 go_loop [8] (fun i=>∃q:Nat,q<=len/\i=.int .i64 (q:Int)/\x∉l.take q) (fun i=>len-(intOf i).toNat)
 case atStart=>exact ⟨0,ω,rfl,σ⟩
 case round=>
  obtain ⟨q,hq,rfl,hn⟩:=hrel
  by_cases hlt:q<len
  ·obtain ⟨gb,rfl,hg1,hg2,CV⟩:=HP.out ω;obtain ⟨y,pW⟩:∃y,l[q]?=some y:=⟨l[q]'(by rw [HLEN.out];exact hlt),σ⟩;have hc:=CV q (.int .i64 y) (by unfold aF;rw [ϓ,pW];rfl)
   by_cases hxy:x=y
   ·subst hxy;have hi:=FX l x q hn pW;have HI:=χ hi;clear CV hn pW hi;go_wp2;go_ret;exact ⟨jL HI.out.symm,rfl⟩
   ·have b1:(x == y)=false:=by simpa using hxy
    have hn2:x∉l.take (q+1):=by rw [ϐ,pW];simp;exact ⟨hn,hxy⟩
    have HN2:=χ hn2;clear CV hn pW hn2 hxy;go_wp2
    go_round
    case rel=>exact ⟨q+1,ω,by go_num,HN2.out⟩
    case measure=>simp [intOf];omega
  ·obtain rfl:q=len:=ω;rw [List.take_of_length_le (by rw [HLEN.out];omega)] at hn;have HI:=χ (Ai l x hn);clear hn;go_wp2;go_ret;exact ⟨jL HI.out.symm,rfl⟩
def setAt (l:List Int) (x y:Int):List Int:=l.set (idxOf l x).toNat y
theorem kE (l:List Int) (x y:Int):(setAt l x y).length=l.length:=by unfold setAt;simp
theorem wh (l:List Int) (x:Int) (h:x∈l):∃i:Nat,i<l.length/\idxOf l x=i/\l[i]?=some x:=by
 cases hf:l.findIdx? (fun y=>y == x) with
 | none=>
  rw [List.findIdx?_eq_none_iff] at hf;have:=hf x h;simp at this
 | some i=>
  have h2:=hf;rw [List.findIdx?_eq_some_iff_getElem] at h2;obtain ⟨h3,h4,_⟩:=h2;refine ⟨i,h3,by unfold idxOf;rw [hf],?_⟩;rw [ε h3];simp at h4;rw [h4]
def gU (S:CS) (x p:Nat) (above:Int):CS:=
  ⟨fun y=>if y=x then S.v p else if y=p then S.v x else S.v y,
   fun y=>if y=x then setAt (S.k p) x p else if y=p then S.k x else if (y:Int)=above then setAt (S.k y) p x else S.k y,
   fun y=>if y=x then above else if (y:Int)∈S.k x then p else if (y:Int)∈setAt (S.k p) x p then x else S.u y⟩
def Md (S:CS) (x p:Nat) (above:Int):Nat->Value:=
 iU (ru (iU (ru (iU (cB S) (x*2) (S.v p)) x (setAt (S.k p) x p)) (p*2) (S.v x)) p (S.k x)) (x*2+1) (.int .i64 above)
theorem o9 (f:Nat->Value) (p:Int) (ks:List Int) (j:Nat) (h:j % 2=0):ru f p ks j=f j:=by unfold ru;rw [Γ ω]
theorem nC (f:Nat->Value) (x:Nat) (v:Value) (j:Nat) (h:j≠x):iU f x v j=f j:=by unfold iU;rw [Γ h]
theorem LK (f:Nat->Value) (x:Nat) (v:Value):iU f x v x=v:=by unfold iU;rw [Δ rfl]
theorem CG (S:CS) (x p:Nat) (above:Int) (hxp:x≠p) (j:Nat):Md S x p above j=cB (gU S x p above) j:=by
 unfold Md
 by_cases h:j % 2=0
 ·rw [nC _ _ _ _ (show j≠x*2+1 by omega),o9 _ _ _ _ h];unfold cB gU;rw [Δ h];simp only
  by_cases h3:j / 2=x
  ·rw [nC _ _ _ _ (show j≠p*2 by omega),o9 _ _ _ _ h,show j=x*2 by omega,LK,Δ ω]
  ·by_cases h4:j / 2=p
   ·rw [show j=p*2 by omega,LK,Γ ω,Δ ω]
   ·rw [nC _ _ _ _ (show j≠p*2 by omega),o9 _ _ _ _ h,nC _ _ _ _ (show j≠x*2 by omega),Δ h,Γ h3,Γ h4]
 ·have h0:j % 2=1:=ω;unfold cB gU iU ru;simp only [h0,true_and]
  by_cases h3:j / 2=x
  ·rw [Δ ω,Γ ω,Δ h3]
  ·rw [Γ (show ¬j=x*2+1 by omega),Γ (show ¬j=p*2 by omega),Γ (show ¬j=x*2 by omega)];rw [Γ (show ¬ (1=0) by omega),Γ (show ¬ (1=0) by omega),Γ h3]
   by_cases h5:((j / 2:Nat):Int)∈S.k x
   ·rw [Δ h5,Δ h5]
   ·rw [Γ h5,Γ h5]
    by_cases h6:((j / 2:Nat):Int)∈setAt (S.k p) x p
    ·rw [Δ h6,Δ h6]
    ·rw [Γ h6,Γ h6]
theorem GV {w:World} {base n cap g:Nat} {e:TypeId} {xs:List Value} (h:w.ownsRow base e 1 (.slice (some ⟨g,0,none⟩) n cap) n xs) (j:Nat) (u:Value) :
  (w.setCell ⟨g,j,none⟩ u).ownsRow base e 1 (.slice (some ⟨g,0,none⟩) n cap) n (xs.set j u):=(h.stored j u).1
theorem CB (l:List Int) (j:Nat) (y:Int):aF (l.set j y)=(aF l).set j (.int .i64 y):=by unfold aF;rw [List.map_set]
structure Bc (n:Nat) (S:CS) (x p:Nat) (above:Int):Prop where
 hx:x<n
 hp:p<n
 ne:x≠p
 up:S.u x=p
 ab:S.u p=above
 mem:(x:Int)∈S.k p
 kx:∀k,k∈S.k x->0<=k/\k<n
 kp:∀k,k∈S.k p->0<=k/\k<n
 top:above=-1\/∃q:Nat,above=q/\q<n/\q≠x/\q≠p/\(p:Int)∈S.k q
theorem aR.lift {w w5:World} {bt ba lo n:Nat} {S:CS} (h:aR w bt ba lo n S) {x p:Nat} {above:Int} (ok:Bc n S x p above) (hN:fH w5 bt ba n (cB (gU S x p above))) (hs:w.heap.size<=w5.heap.size)
  (ho:∀y,y<n->w5.ownsRow lo 3 1 ((gU S x p above).v y) ((gU S x p above).k y).length (aF ((gU S x p above).k y))):aR w5 bt ba lo n (gU S x p above):=by
 have hx:=ok.hx;have hp:=ok.hp;have hne:=ok.ne;refine ⟨hN.head,hN.row,ho,fun y z hy hz TF g hg=>?_,h.ne,h.UB,h.Mw,Χ h.low hs,h.le,fun y hy=>?_⟩
 ·unfold gU at hg ⊢;simp only at hg ⊢;have key:∀a b,a<n->b<n->a≠b->(S.v a).ownBlock=some g->(S.v b).ownBlock≠some g:=fun a b ha hb hab=>h.sep a b ha hb hab g
  by_cases h1:y=x
  ·rw [Δ h1] at hg;rw [Γ (fun e=>TF ω)]
   by_cases h2:z=p
   ·rw [Δ h2];exact key p x hp hx (Ne.symm hne) hg
   ·rw [Γ h2];exact key p z hp hz (Ne.symm h2) hg
  ·rw [Γ h1] at hg
   by_cases h2:y=p
   ·rw [Δ h2] at hg
    by_cases h3:z=x
    ·rw [Δ h3];exact key x p hx hp hne hg
    ·rw [Γ h3,Γ (fun e=>TF ω)];exact key x z hx hz (Ne.symm h3) hg
   ·rw [Γ h2] at hg
    by_cases h3:z=x
    ·rw [Δ h3];exact key y p hy hp h2 hg
    ·rw [Γ h3]
     by_cases h4:z=p
     ·rw [Δ h4];exact key y x hy hx h1 hg
     ·rw [Γ h4];exact key y z hy hz TF hg
 ·unfold gU;simp only
  split
  ·rw [kE];exact h.len p hp
  ·split
   ·exact h.len x hx
   ·split
    ·rw [kE];exact h.len y hy
    ·exact h.len y hy
set_option maxRecDepth 100000 in
theorem GX (bt ba lo n:Nat) (S:CS) (x p:Nat) (above:Int) (w:World) (h:aR w bt ba lo n S) (ok:Bc n S x p above) :
  Calls Tryz.prog 190 #[.pointer (some ⟨bt,0,none⟩),.int .i64 (x:Int)] w fun e w'=>e=.returned (.bool true)/\aR w' bt ba lo n (gU S x p above)/\aa (ba::S.blk n) w w':=by
 have hx:=ok.hx;have hp:=ok.hp;have hle:=h.le;have hne:=h.ne;have hl1:=h.UB;have hl2:=h.Mw;have k1:=wM bt ba lo n S x w h;have hup:IJ n S x=some (p:Int):=by unfold IJ;rw [Δ ω,show ((x:Int)).toNat=x by omega,ok.up,Γ ω]
 rw [hup,show ov (some (p:Int))=(p:Int) from rfl,show ob (some (p:Int))=true from rfl] at k1;obtain ⟨ax,cx,hvx,_⟩:=aV (h.own x hx);obtain ⟨i,hil,hidx,hi⟩:=wh _ _ ok.mem;obtain ⟨gp,cp,hvp,hg1,hg2,hgc,hgm,hgx,hgf⟩:=fQ (h.own p hp) ω;have c0:=h.head.cell 0 ω;have d0:=h.row.cellAt (x*2) ω ((nD S x).trans hvx);have d1:=h.row.cellAt (p*2) ω ((nD S p).trans hvp);have d2:=h.row.cellAt (p*2+1) ω ((uA S p).trans (by rw [ok.ab]));have hab:above≠-1->(above != -1)=true:=fun h=>by simpa using h
 clear hup
 go_enter Tryz.func190,Tryz.ntmps190
 go_wp2_with ((go_at_call 188;(with_reducible refine (k1).mono ?_);rintro e w9 ⟨rfl,aG⟩;rw [aG];clear aG w9))
 go_quiet (fail)
 have h0:aR (w.drewN nq) bt ba lo n S:=h.aj ((aa.refl _ _).drewN _);have hu0:aa (ba::S.blk n) w (w.drewN nq):=(aa.refl _ _).drewN _;generalize w.drewN nq=W at *;clear h c0 d0 d1 d2 hgx hgf k1 hg1 hg2;have hop:=h0.own p hp;have hox:=h0.own x hx;rw [hvp] at hop;have PV:=hop.lt gp rfl;have kI:=Ch W lo _ (S.k p) x (iX.uj hop);rw [hidx] at kI;have ci:W.cell? ⟨gp,i,none⟩=some (.int .i64 (x:Int)):=by rw [hop.cellAt i ω];unfold aF;rw [ϓ,hi];rfl
 have fi:=hop.frozenAt i;have hset:(S.k p).set i p=setAt (S.k p) x p:=by unfold setAt;rw [hidx];rfl
 have Ym:=GV hop i (.int .i64 (p:Int));rw [←CB,hset] at Ym;have hu1:aa [gp] W (W.setCell ⟨gp,i,none⟩ (.int .i64 (p:Int))):=(aa.refl _ _).setCell (Α σ) _;have hN1:=h0.nodes.upd hu1 ζ ζ;have hsl:=kE (S.k p) x p
 have kA1:=CO bt ba n lo x (cB S) _ (setAt (S.k p) x p) _ hN1 (by have:=iX.uj Ym;rw [hsl];exact this) hx hl2 (fun k hk=>by
  rw [←hset] at hk;rcases List.mem_or_eq_of_mem_set hk with h|h
  ·exact ok.kp k h
  ·omega)
 have hxg:(S.v x).ownBlock≠some gp:=h0.sep p x hp hx (Ne.symm ok.ne) gp (by rw [hvp];rfl);have hox1:=ay hox hu1 (fun k hk hm=>by simp at hm;subst hm;exact hxg hk);have kA2:=fun w2 (R5:fH w2 bt ba n (ru (iU (cB S) (x*2) (.slice (some ⟨gp,0,none⟩) (S.k p).length cp)) x (setAt (S.k p) x p))) (hu2:aa [ba] (W.setCell ⟨gp,i,none⟩ (.int .i64 (p:Int))) w2)=>
  CO bt ba n lo p _ (S.v x) (S.k x) w2 R5 (iX.uj (ay hox1 hu2 (fun k hk hm=>by have:=(hox.lt k hk).1;simp at hm;omega))) hp hl2 ok.kx
 rw [hvx] at kA2;have RS:∀y,y<n->∀g,(S.v y).ownBlock=some g->g∈S.blk n:=fun y hy g hg=>(S.jN n g).2 ⟨y,hy,hg⟩;have hgpb:gp∈S.blk n:=RS p hp gp (by rw [hvp];rfl);have hall:∀y,y<n->y≠p->(S.v y).ownBlock≠some gp:=fun y hy hyp=>h0.sep p y hp hy (Ne.symm hyp) gp (by rw [hvp];rfl);have hun1:∀y,y<n->y≠p->∀w4,aa [ba] (W.setCell ⟨gp,i,none⟩ (.int .i64 (p:Int))) w4->w4.ownsRow lo 3 1 (S.v y) (S.k y).length (aF (S.k y)):=fun y hy hyp w4 hw=>
  ay (ay (h0.own y hy) hu1 (fun k hk hm=>by simp at hm;subst hm;exact hall y hy hyp hk)) hw (fun k hk hm=>by have:=((h0.own y hy).lt k hk).1;simp at hm;omega)
 have hun2:∀w4,aa [ba] (W.setCell ⟨gp,i,none⟩ (.int .i64 (p:Int))) w4->w4.ownsRow lo 3 1 (S.v p) (setAt (S.k p) x p).length (aF (setAt (S.k p) x p)):=fun w4 hw=>by
  rw [hsl,hvp];exact ay Ym hw (fun k hk hm=>by simp [Value.ownBlock] at hk;simp at hm;omega)
 have HALL:=χ hall;have RP:=χ hun1;have HUN2:=χ hun2;have HM:=χ RS;have H0:=χ h0;have OK:=χ ok;have HVX:=χ hvx;have HVP:=χ hvp;have HSET:=χ hset;have HSL:=χ hsl;have htop:=ok.top;clear hset hsl ok h0 hvx hvp hidx hi hall hun1 hun2 RS;rcases htop with rfl|⟨q,rfl,hq,hqx,hqp,hqm⟩
 ·go_wp2_with (first
   | (go_at_call 189;(with_reducible refine (kI).mono ?_);rintro e w9 ⟨rfl,aG⟩;rw [aG];clear aG w9)
   | ((go_at_call 196;(with_reducible refine (kA1).mono ?_));rintro e w2 ⟨rfl,R5,hu2⟩)
   | ((go_at_call 196;(with_reducible refine (kA2 _ R5 hu2).mono ?_));rintro e w3 ⟨rfl,Ux,hu3⟩;have c3:=Ux.head.cell 0 ω;have d3:=Ux.row.cell (x*2+1) ω;have e3:=Ux.row.free (x*2+1)))
  go_ret;have hw4:=(hu2.trans hu3).setCell (p:=⟨ba,x*2+1,none⟩) (Α σ) (.int .i64 (-1))
  have hN4:fH (w3.setCell ⟨ba,x*2+1,none⟩ (.int .i64 (-1))) bt ba n (cB (gU S x p (-1))):=(Ux.set (x*2+1) (.int .i64 (-1))).ext (fun j hj=>by
   rw [←CG S x p (-1) OK.out.ne j];unfold Md
   rw [HVX.out,HVP.out];rfl)
  refine ⟨rfl,H0.out.lift OK.out hN4 (Χ hu1.size hw4.size) (fun y hy=>?_),(hu0.trans (hu1.mono (by simp;exact Β hgpb))).trans (hw4.mono σ)⟩;unfold gU;simp only
  by_cases hyx:y=x
  ·rw [Δ hyx,Δ hyx];exact HUN2.out _ hw4
  ·rw [Γ hyx,Γ hyx]
   by_cases hyp:y=p
   ·rw [Δ hyp,Δ hyp];exact RP.out x hx OK.out.ne _ hw4
   ·rw [Γ hyp,Γ hyp,Γ ω];exact RP.out y hy hyp _ hw4
 ·obtain ⟨j,hjl,YI,hj⟩:=wh _ _ hqm;have hoq:=H0.out.own q hq;obtain ⟨gq,cq,hvq,hq1,hq2,hqc,hqm2,hqx2,hqf⟩:=fQ hoq ω;have b4:((q:Int) != -1)=true:=by rw [bne_iff_ne];omega
  have VQ:=RP.out q hq hqp;rw [hvq] at VQ;have kI2:=fun W4 h4=>Ch W4 lo _ (S.k q) p (iX.uj (VQ W4 h4));rw [YI] at kI2;have HJ:=χ YI;have HJ2:=χ hj;have HVQ:=χ hvq;have hz1:=nD S q;rw [hvq] at hz1;have HZ:=χ hz1;clear YI hj hvq hz1 hoq hqx2 hqf hab
  go_wp2_with (first
   | (go_at_call 189;(with_reducible refine (kI).mono ?_);rintro e w9 ⟨rfl,aG⟩;rw [aG];clear aG w9)
   | ((go_at_call 196;(with_reducible refine (kA1).mono ?_));rintro e w2 ⟨rfl,R5,hu2⟩)
   | ((go_at_call 196;(with_reducible refine (kA2 _ R5 hu2).mono ?_));rintro e w3 ⟨rfl,Ux,hu3⟩;have c3:=Ux.head.cell 0 ω;have d3:=Ux.row.cell (x*2+1) ω;have e3:=Ux.row.free (x*2+1);have hN4:=Ux.set (x*2+1) (.int .i64 (q:Int));have hw4:=(hu2.trans hu3).setCell (p:=⟨ba,x*2+1,none⟩) (Α σ) (.int .i64 (q:Int));have c4:=hN4.head.cell 0 ω;have d4:=hN4.row.cellAt (q*2) ω (v:=.slice (some ⟨gq,0,none⟩) (S.k q).length cq) (by
     rw [Γ ω,o9 _ _ _ _ ω,nC _ _ _ _ ω,o9 _ _ _ _ ω,nC _ _ _ _ ω];exact HZ.out);have o4:=VQ _ hw4;have d5:=o4.cellAt j ω;have e5:=o4.frozenAt j;rw [show (aF (S.k q))[j]?=some (.int .i64 (p:Int)) by unfold aF;rw [ϓ,HJ2.out];rfl] at d5;have kI3:=kI2 _ hw4;clear VQ kI2)
   | (go_at_call 189;(with_reducible refine (kI3).mono ?_);rintro e w9 ⟨rfl,aG⟩;rw [aG];clear aG w9))
  go_ret
  have hN5:fH (w3.setCell ⟨ba,x*2+1,none⟩ (.int .i64 (q:Int))) bt ba n (cB (gU S x p q)):=(Ux.set (x*2+1) (.int .i64 (q:Int))).ext (fun j hj=>by
   rw [←CG S x p q OK.out.ne j];unfold Md
   rw [HVX.out,HVP.out];rfl)
  have PM:aa [gq] (w3.setCell ⟨ba,x*2+1,none⟩ (.int .i64 (q:Int))) ((w3.setCell ⟨ba,x*2+1,none⟩ (.int .i64 (q:Int))).setCell ⟨gq,j,none⟩ (.int .i64 (x:Int))):=(aa.refl _ _).setCell (Α σ) _;have hgq:(S.v q).ownBlock=some gq:=by rw [HVQ.out];rfl
  have T9:∀y,y<n->y≠q->∀k,(S.v y).ownBlock=some k->k∉[gq]:=fun y hy hyq k hk hm=>by
   simp at hm;subst hm;exact H0.out.sep y q hy hq hyq k hk hgq
  refine ⟨rfl,H0.out.lift OK.out (hN5.upd PM ζ ζ) (Χ (Χ hu1.size hw4.size) PM.size) (fun y hy=>?_),((hu0.trans (hu1.mono (by simp;exact Β hgpb))).trans (hw4.mono σ)).trans (PM.mono (by simp;exact Β (HM.out q hq gq hgq)))⟩;unfold gU;simp only
  by_cases hyx:y=x
  ·rw [Δ hyx,Δ hyx];exact ay (HUN2.out _ hw4) PM (T9 p hp (Ne.symm hqp))
  ·rw [Γ hyx,Γ hyx]
   by_cases hyp:y=p
   ·rw [Δ hyp,Δ hyp];exact ay (RP.out x hx OK.out.ne _ hw4) PM (T9 x hx (Ne.symm hqx))
   ·rw [Γ hyp,Γ hyp]
    by_cases hyq:y=q
    ·subst hyq;rw [Δ rfl,kE,HVQ.out];have:=GV o4 j (.int .i64 (x:Int));rw [←CB] at this;unfold setAt;rw [HJ.out];exact this
    ·rw [Γ ω];exact ay (RP.out y hy hyp _ hw4) PM (T9 y hy hyq)
def aW (w:World) (base:Nat) (v:Value) (xs:List Int):Prop:=
 (v=.slice none 0 0/\xs=[])\/
 ∃g off cap cur,v=.slice (some ⟨g,off,none⟩) xs.length cap/\base<=g/\w.heap[g]?=some (.cells cur 3 (0,0))/\xs.length<=cap/\cap<=9223372036854775807/\off+cap<=cur.size/\∀j u,xs[j]?=some u->cur[off+j]?=some (.int .i64 u)
theorem aW.nil (w:World) (base:Nat):aW w base (.slice none 0 0) []:=Α ⟨rfl,rfl⟩
theorem aW.iJ {w:World} {base:Nat} {v:Value} {xs:List Int} (h:w.ownsRow base 3 1 v xs.length (aF xs)):aW w base v xs:=by
 rcases h.2 with ⟨rfl,h0⟩|⟨g,cap,cur,rfl,hb,hg,hn,hc,hs,ht⟩
 ·exact Α ⟨rfl,ϛ h0⟩
 ·refine Β ⟨g,0,cap,cur,rfl,hb,hg,hn,by unfold maxLen at hc;exact hc,ω,fun j u hj=>?_⟩;have hjl:j<xs.length:=(List.getElem?_eq_some_iff.1 hj).1;have:(aF xs)[j]?=some (.int .i64 u):=by unfold aF;rw [ϓ,hj];rfl
  rw [←ht,List.getElem?_take,Δ ω] at this;rw [ϕ];simpa using this
theorem ML {w:World} {g:Nat} {o:Obj} (h:w.heap[g]?=some o):g<w.heap.size:=by
 rcases ϗ g w.heap.size with h'|h'
 ·exact h'
 ·rw [Array.getElem?_eq_none h'] at h;cases h
theorem aW.lt {w:World} {base:Nat} {v:Value} {xs:List Int} (h:aW w base v xs) (g:Nat) (hg:v.ownBlock=some g):base<=g/\g<w.heap.size:=by
 rcases h with ⟨rfl,_⟩|⟨g',off,cap,cur,rfl,hb,hh,_⟩
 ·cases hg
 ·simp only [Value.ownBlock,Ϙ] at hg;subst hg;exact ⟨hb,ML hh⟩
theorem aW.mono {w:World} {base base':Nat} {v:Value} {xs:List Int} (h:aW w base v xs) (hb:base'<=base):aW w base' v xs:=by
 rcases h with h|⟨g',off,cap,cur,rfl,hb',hh⟩
 ·exact Α h
 ·exact Β ⟨g',off,cap,cur,rfl,Χ hb hb',hh⟩
theorem aW.upd {w w':World} {F:List Nat} {base:Nat} {v:Value} {xs:List Int} (h:aW w base v xs) (hu:aa F w w') (hF:∀g,v.ownBlock=some g->g∉F):aW w' base v xs:=by
 rcases h with h|⟨g,off,cap,cur,rfl,hb,hh,h1,h2⟩
 ·exact Α h
 ·exact Β ⟨g,off,cap,cur,rfl,hb,by rw [hu.block g (ML hh) (hF g rfl)];exact hh,h1,h2⟩
theorem aW.shape {w:World} {base:Nat} {v:Value} {xs:List Int} (h:aW w base v xs) :
  ∃a cap,v=.slice a xs.length cap/\xs.length<=cap/\cap<=9223372036854775807/\∀j u,xs[j]?=some u->∃g off,a=some ⟨g,off,none⟩/\w.cell? ⟨g,off+j,none⟩=some (.int .i64 u):=by
 rcases h with ⟨rfl,rfl⟩|⟨g,off,cap,cur,rfl,hb,hh,h1,h2,h3,h4⟩
 ·exact ⟨none,0,rfl,Θ _,ω,fun j u hj=>by simp at hj⟩
 ·refine ⟨_,cap,rfl,h1,h2,fun j u hj=>⟨g,off,rfl,?_⟩⟩;unfold World.cell?;simp only [hh];simpa using h4 j u hj
theorem aW.lit (w:World) (base:Nat) (x:Int) (hb:base<=w.heap.size):aW (w.alloc (.cells #[.int .i64 x] 3)) base (.slice (some ⟨w.heap.size,0,none⟩) 1 1) [x]:=
 aW.iJ (mQ w [.int .i64 x] 3 base 1 1 rfl hb μ)
def tailV (v:Value):Value:=match v with | .slice a n c=>.slice (if c=1 then a else a.map (·.add 1)) (n-1) (c-1)|v=>v
theorem wL (w:World) (a:Option Addr) (n c:Nat) (h1:1<=n) (h2:n<=9223372036854775807) :
  (Instr.slice 26 (.slice a n c) (some (.int .i64 1)) none none).run Tryz.prog w=.ok (tailV (.slice a n c)) w:=by
 have hs:(sizeOf 3).run Tryz.prog w=.ok 1 w:=by kernel_rfl
 unfold Instr.slice Instr.sliceBounds;simp [run_underlying Tryz.underlying26,go_sem,hs,tailV];intro h;omega
theorem aW.tail {w:World} {base:Nat} {v:Value} {x:Int} {xs:List Int} (h:aW w base v (x::xs)):aW w base (tailV v) xs/\(tailV v).ownBlock=v.ownBlock:=by
 rcases h with ⟨rfl,h0⟩|⟨g,off,cap,cur,rfl,hb,hh,h1,h2,h3,h4⟩
 ·cases h0
 ·simp only [Ω] at h1 ⊢;unfold tailV;simp only [Nat.add_sub_cancel]
  by_cases hc:cap=1
  ·subst hc;have:xs=[]:=ϛ ω;subst this;rw [Δ rfl];exact ⟨Β ⟨g,off,0,cur,rfl,hb,hh,Θ _,ω,ω,fun j u hj=>by simp at hj⟩,rfl⟩
  ·rw [Γ hc];have e:(some (⟨g,off,none⟩:Addr)).map (·.add 1)=some ⟨g,off+1,none⟩:=by simp [Addr.add_lit]
   rw [e];refine ⟨Β ⟨g,off+1,cap-1,cur,rfl,hb,hh,ω,ω,ω,fun j u hj=>?_⟩,rfl⟩;have:=h4 (j+1) u (by simpa using hj);rw [show off+1+j=off+(j+1) by omega];exact this
theorem qh (a:Option Addr) (n c:Nat):∃a',tailV (.slice a n c)=.slice a' (n-1) (c-1):=⟨_,rfl⟩
theorem Aw {w:World} {base:Nat} {v:Value} {xs:List Int} (hown:aW w base v xs) (t ty:TypeId) (ht:Tryz.prog.underlying t=some (.slice 3)) (g1:Nat) (u:Int) (hnew:w.cell? ⟨g1,0,none⟩=some (.int .i64 u)) (hn:xs.length+1<=1000000) (hbase:base<=w.heap.size) :
  ∃v' w',(Builtin.append_ #[t,t] ty #[v,.slice (some ⟨g1,0,none⟩) 1 1]).run Tryz.prog w=.ok v' w'/\aW w' base v' (xs++[u])/\aa v.ownBlock.toList w w'/\(∀k,v'.ownBlock=some k->v.ownBlock=some k\/w.heap.size<=k):=by
 obtain ⟨i,hi,hz0,hz1,hz2⟩:=info_parts dQ;have hnews:∀j x,[Value.int .i64 u][j]?=some x->w.cell? ((⟨g1,0,none⟩:Addr).add j)=some x:=fun j x hj=>by
  match j,hj with
  | 0,hj=>simp at hj;subst hj;rw [xD];exact hnew
 have h1:∀x∈[Value.int .i64 u],x.oneCell'=true:=by simp [Value.oneCell']
 rcases hown with ⟨rfl,rfl⟩|⟨g,off,cap,cur,rfl,hb,hh,hc1,hc2,hc3,hc4⟩
 ·obtain ⟨v',w',hr,h2,h3,_⟩:=run_append_own (P:=Tryz.prog) w w.heap.size t ty 3 i (.int .i64 0) 1 8 ht hi hz0 hz1 hz2 rfl δ (.slice none 0 0) 0 [] (World.ownsRow_nil w _ _ _) ⟨g1,0,none⟩ 1 1 [.int .i64 u] rfl hnews h1 μ ω (Θ _);exact ⟨v',w',hr,(aW.iJ (xs:=[u]) h2).mono hbase,(aa.refl _ _).grown h3 (fun k hk=>by cases hk),fun k hk=>Β (h2.lt k hk).1⟩
 ·by_cases hfit:xs.length+1<=cap
  ·have hf:=run_firstCells_some (P:=Tryz.prog) w i.size 1 ⟨g1,0,none⟩ 1 1 [.int .i64 u] (by rw [hz1];rfl) hnews;have hst:=run_storeCells_at Tryz.prog g (off+xs.length*i.size) 3 [.int .i64 u] 0 cur w hh (by rw [hz1];simp;omega) h1;simp only [ϖ] at hst;have hrun:(Builtin.append_ #[t,t] ty #[.slice (some ⟨g,off,none⟩) xs.length cap,.slice (some ⟨g1,0,none⟩) 1 1]).run Tryz.prog w=.ok (.slice (some ⟨g,off,none⟩) (xs.length+1) cap) (w.setRow g (cur.toList.take (off+xs.length*i.size)++[Value.int .i64 u]++cur.toList.drop (off+xs.length*i.size+1)).toArray):=by
    simp [Builtin.append_,run_underlying ht,sizeOf,typeInfo,hi,Builtin.lenOf,hfit,hf,Addr.add_lit];have:=hst;simp at this;simp [this]
   rw [hz1,Nat.mul_one] at hrun;refine ⟨_,_,hrun,Β ⟨g,off,cap,_,by rw [υ];rfl,hb,setRow_heap w g cur _ _ _ hh,by rw [υ];exact hfit,hc2,?_,fun j x hj=>?_⟩,?_,fun k hk=>Α hk⟩
   ·simp;omega
   ·have hlen:off+xs.length<=cur.size:=ω;rcases ϗ j xs.length with h|h
    ·rw [Ρ h] at hj;have:=hc4 j x hj;rw [List.getElem?_toArray,ϋ,Ρ ζ,List.getElem?_take,Δ ω];simpa using this
    ·have hj2:j=xs.length:=by
      have:=(List.getElem?_eq_some_iff.1 hj).1;rw [υ] at this;simp at this;omega
     subst hj2;rw [ϊ (Θ _)] at hj;simp at hj;subst hj;rw [List.getElem?_toArray,ϋ,ϊ ζ];simp [Nat.min_eq_left hlen]
   ·exact ⟨rfl,rfl,rfl,σ,fun k hk hm=>setRow_other w g k _ (fun e=>hm (by simp [Value.ownBlock,e]))⟩
  ·obtain ⟨v',w',hr,h2,h3⟩:=run_append_arg_grows (P:=Tryz.prog) w t ty 3 i (.int .i64 0) 1 8 ht hi hz0 hz1 hz2 rfl δ ⟨g,off,none⟩ xs.length cap (aF xs) (by rw [dA,Nat.mul_one]) (fun j x hj=>by
    unfold aF at hj;rw [ϓ] at hj;cases hq:xs[j]? with
    | none=>rw [hq] at hj;cases hj
    | some y=>
     rw [hq] at hj;simp at hj;subst hj;rw [Addr.add_lit];unfold World.cell?;simp only [hh]
     simpa using hc4 j y hq) ⟨g1,0,none⟩ 1 1 [.int .i64 u] rfl hnews ω μ ω
   have h4:w'.ownsRow w.heap.size 3 1 v' (xs++[u]).length (aF (xs++[u])):=by rw [υ,bG];exact h2
   exact ⟨v',w',hr,(aW.iJ h4).mono hbase,(aa.refl _ _).grown h3 (fun k hk=>by cases hk),fun k hk=>Β (h2.lt k hk).1⟩
theorem uN {o:Oper} {a:Act} {w:World} {K:Act->World->Prop} {Q:Exit->Act->World->Prop} (s x:Operand) (t:TypeId)
  (ho:o.op=.call { callee:=.builtin .append,args:=#[s,x],argTypes:=#[t,t] }) (ht:Tryz.prog.underlying t=some (.slice 3))
  (base:Nat) (v:Value) (xs:List Int) (hs:a.eval s=v) (hown:aW w base v xs)
  (g1:Nat) (u:Int) (hx:a.eval x=.slice (some ⟨g1,0,none⟩) 1 1) (hnew:w.cell? ⟨g1,0,none⟩=some (.int .i64 u)) (hn:xs.length+1<=1000000) (hbase:base<=w.heap.size)
  (h:∀v' w',aW w' base v' (xs++[u])->aa v.ownBlock.toList w w'->(∀k,v'.ownBlock=some k->v.ownBlock=some k\/w.heap.size<=k)->K (a.put o.dst v') w'):Oper.wp Tryz.prog o a w K Q:=by
 obtain ⟨v',w',hr,h2,h3,h4⟩:=Aw hown t o.type ht g1 u hnew hn hbase;unfold Oper.wp execOp;simp only [ho,resolve,invoke,builtin,Sem.run_bind,Sem.run_pure,Result.andThen_ok,List.map_toArray,List.map_cons,List.map_nil,hs,hx,hr];exact h _ _ h2 h3 h4
theorem qV {ops:Array Oper} {o:Oper} {a:Act} {w:World} {K:Act->World->Prop} {Q:Exit->Act->World->Prop} {E:Prop} (hgd:o.guard=none) (s x:Operand) (t:TypeId)
  (ho:o.op=.call { callee:=.builtin .append,args:=#[s,x],argTypes:=#[t,t] }) (ht:Tryz.prog.underlying t=some (.slice 3))
  (base:Nat) (v:Value) (xs:List Int) (hs:a.eval s=v) (hown:aW w base v xs)
  (g1:Nat) (u:Int) (hx:a.eval x=.slice (some ⟨g1,0,none⟩) 1 1) (hnew:w.cell? ⟨g1,0,none⟩=some (.int .i64 u)) (hn:xs.length+1<=1000000) (hbase:base<=w.heap.size)
  (h:∀v' w',aW w' base v' (xs++[u])->aa v.ownBlock.toList w w'->(∀k,v'.ownBlock=some k->v.ownBlock=some k\/w.heap.size<=k)->K (a.put o.dst v') w') :
  if Region.wanted o (yielded ops a.tmps)=true then Oper.wp Tryz.prog o a w K Q else E:=by
 have hw:Region.wanted o (yielded ops a.tmps)=true:=by simp [Region.wanted,hgd]
 rw [Δ hw];exact uN s x t ho ht base v xs hs hown g1 u hx hnew hn hbase h
theorem vQ {ops:Array Oper} {rest:List Oper} {o:Oper} {a:Act} {w:World} {Q:Exit->Act->World->Prop} (hgd:o.guard=none) (s x:Operand) (t:TypeId)
  (ho:o.op=.call { callee:=.builtin .append,args:=#[s,x],argTypes:=#[t,t] }) (ht:Tryz.prog.underlying t=some (.slice 3))
  (base:Nat) (v:Value) (xs:List Int) (hs:a.eval s=v) (hown:aW w base v xs)
  (g1:Nat) (u:Int) (hx:a.eval x=.slice (some ⟨g1,0,none⟩) 1 1) (hnew:w.cell? ⟨g1,0,none⟩=some (.int .i64 u)) (hn:xs.length+1<=1000000) (hbase:base<=w.heap.size)
  (h:∀v' w',aW w' base v' (xs++[u])->aa v.ownBlock.toList w w'->(∀k,v'.ownBlock=some k->v.ownBlock=some k\/w.heap.size<=k)->wpList Tryz.prog ops Q rest (a.put o.dst v') w'):wpList Tryz.prog ops Q (o::rest) a w:=
 wpList_plain hgd fun _ hK=>uN s x t ho ht base v xs hs hown g1 u hx hnew hn hbase fun v' w' h2 h3 h4=>hK _ _ (h v' w' h2 h3 h4)
theorem fw.tail {w:World} {F:List Nat} {v:Value} {x:Int} {xs:List Int} (h:fw w F v (x::xs)):fw w F (tailV v) xs:=by
 obtain ⟨a,cap,rfl,h1,h2,h3⟩:=h;obtain ⟨g,off,rfl,hg,hF,_⟩:=h3 0 x rfl;simp only [Ω] at h1 ⊢;unfold tailV;simp only [Nat.add_sub_cancel];refine ⟨_,_,rfl,ω,ω,fun j u hj=>?_⟩;have hjl:j<xs.length:=(List.getElem?_eq_some_iff.1 hj).1;rw [Γ ω];obtain ⟨g2,YH,he,hg2,hF2,hc⟩:=h3 (j+1) u (by simpa using hj);simp only [Ϙ,Addr.mk.injEq,and_true] at he;obtain ⟨rfl,rfl⟩:=he;exact ⟨g,off+1,by simp [Addr.add_lit],hg,hF,by rw [show off+1+j=off+(j+1) by omega];exact hc⟩
theorem fw.YO {w:World} {F:List Nat} {lo:Nat} {v:Value} {xs:List Int} (h:iX w lo v xs.length (aF xs)) (hF:∀g,g∈F->g<lo):fw w F v xs:=by
 obtain ⟨a,cap,rfl,h1,h2,h3⟩:=h.open;refine ⟨a,cap,rfl,h2,h1,fun j u hj=>?_⟩;have hjl:j<xs.length:=(List.getElem?_eq_some_iff.1 hj).1;obtain ⟨g,rfl,hlo,hg,hc⟩:=h3 ω;exact ⟨g,0,rfl,hg,fun hm=>by have:=hF g hm;omega,by rw [ϕ];exact hc j _ (by unfold aF;rw [ϓ,hj];rfl)⟩
theorem fw.upd {w w':World} {F G:List Nat} {v:Value} {xs:List Int} (h:fw w F v xs) (hu:aa G w w') (hG:∀g,g∈G->g∈F):fw w' F v xs:=by
 obtain ⟨a,cap,rfl,h1,h2,h3⟩:=h;refine ⟨a,cap,rfl,h1,h2,fun j u hj=>?_⟩;obtain ⟨g,off,rfl,hg,hF,hc⟩:=h3 j u hj;exact ⟨g,off,rfl,Ψ hg hu.size,hF,by rw [hu.cell hg (fun hm=>hF (hG _ hm))];exact hc⟩
theorem TZ (bt ba lo n:Nat) (S:CS) (v:Value) (l:List Int) (w:World) (h:aR w bt ba lo n S) (F:List Nat) (hv:fw w F v l) :
  Calls Tryz.prog 200 #[.pointer (some ⟨bt,0,none⟩),v] w fun e w'=>e=.returned (.bool (OD n S l))/\w'=w:=by
 obtain ⟨a,cap,rfl,hlc,hcp,hp⟩:=hv;have HP:=χ hp;clear hp;unfold OD;generalize hlen:l.length=len at *;have HLEN:=χ hlen;clear hlen;have kR:=fun x=>wV bt ba lo n S x w h;have kD:=fun x=>qo bt ba lo n S x w h;clear h
 go_enter Tryz.func200,Tryz.ntmps200
 go_wp2
 go_loop [9] (fun i=>∃k:Nat,k<=len/\i=.int .i64 (k:Int)/\wR n S l k=true) (fun i=>len-(intOf i).toNat)
 case atStart=>exact ⟨0,ω,rfl,rfl⟩
 case round=>
  obtain ⟨k,hk,rfl,ht⟩:=hrel
  by_cases hlt:k<len
  ·obtain ⟨g,off,rfl,_,_,c1⟩:=HP.out k (l.getD k 0) (by simp [φ,HLEN.out,hlt]);have c2:0<k->w.cell? ⟨g,off+(k-1),none⟩=some (.int .i64 (l.getD (k-1) 0)):=fun hk0=>by
    have hk1:k-1<l.length:=by rw [HLEN.out];omega
    obtain ⟨g2,YH,he,_,_,c⟩:=HP.out (k-1) (l.getD (k-1) 0) (by simp [φ,hk1]);simp only [Ϙ,Addr.mk.injEq,and_true] at he;obtain ⟨rfl,rfl⟩:=he;exact c
   have hsu:=K4 n S l k;have hno:=RJ n S l k ht;rw [ht,Bool.true_and] at hsu;unfold rowOk at hsu hno;have HS:=χ hsu;have HN:=χ hno;have k1:=kR (l.getD k 0);have k2:=kD (l.getD k 0);have k3:=kD (l.getD (k-1) 0);clear hsu hno ht kR kD;generalize l.getD k 0=x at *;generalize l.getD (k-1) 0=y at *;generalize oz n S x=b at *;generalize oD n S x=d at *;generalize oD n S y=d2 at *;cases b with
   | false=>
    go_wp2_with (go_at_call 198;refine (k1).mono ?_;rintro e w' ⟨rfl,rfl⟩)
    go_ret;exact ⟨aO (HN.out rfl _ hlt).symm,rfl⟩
   | true=>
    by_cases hk0:k=0
    ·subst hk0;clear c2;rw [ϖ] at c1
     go_wp2_with (go_at_call 198;refine (k1).mono ?_;rintro e w' ⟨rfl,rfl⟩)
     go_round
     case rel=>exact ⟨1,ω,rfl,HS.out⟩
     case measure=>simp [intOf];omega
    ·have c3:=c2 ω;have hk1:1<=k:=ω;clear c2;obtain ⟨k',rfl⟩:∃k',k=k'+1:=⟨k-1,ω⟩;simp only [Nat.add_sub_cancel] at c3
     by_cases hd:d2<d
     ·have hd':¬ (d<=d2):=ω
      go_wp2_with (first|(go_at_call 198;(with_reducible refine (k1).mono ?_);rintro e w' ⟨rfl,rfl⟩)|(go_at_call 204;(with_reducible refine (k3).mono ?_);rintro e w' ⟨rfl,rfl⟩)|(go_at_call 204;(with_reducible refine (k2).mono ?_);rintro e w' ⟨rfl,rfl⟩))
      go_round
      case rel=>exact ⟨k'+1+1,ω,by go_num,by rw [HS.out];simp [hd]⟩
      case measure=>simp [intOf];omega
     ·have hd':d<=d2:=ω
      go_wp2_with (first|(go_at_call 198;(with_reducible refine (k1).mono ?_);rintro e w' ⟨rfl,rfl⟩)|(go_at_call 204;(with_reducible refine (k3).mono ?_);rintro e w' ⟨rfl,rfl⟩)|(go_at_call 204;(with_reducible refine (k2).mono ?_);rintro e w' ⟨rfl,rfl⟩))
      go_ret;exact ⟨aO (HN.out ζ _ hlt).symm,rfl⟩
  ·obtain rfl:k=len:=ω;go_wp2;go_ret;exact ⟨by first|rfl|exact aO ht.symm,rfl⟩
theorem G8 (w:World) (F:List Nat) (v:Value) (l:List Int) (x:Int) (h:fw w F v l) :
  Calls Tryz.prog 189 #[v,.int .i64 x] w fun e w'=>e=.returned (.int .i64 (idxOf l x))/\w'=w:=by
 obtain ⟨a,cap,rfl,hlc,hcp,hp⟩:=h;have HP:=χ hp;clear hp;generalize hlen:l.length=len at *;have HLEN:=χ hlen;clear hlen
 go_enter Tryz.func189,Tryz.ntmps189
 go_wp2
 go_loop [8] (fun i=>∃q:Nat,q<=len/\i=.int .i64 (q:Int)/\x∉l.take q) (fun i=>len-(intOf i).toNat)
 case atStart=>exact ⟨0,ω,rfl,σ⟩
 case round=>
  obtain ⟨q,hq,rfl,hn⟩:=hrel
  by_cases hlt:q<len
  ·obtain ⟨y,pW⟩:∃y,l[q]?=some y:=⟨l[q]'(by rw [HLEN.out];exact hlt),σ⟩;obtain ⟨gb,off,rfl,_,_,hc⟩:=HP.out q y pW
   by_cases hxy:x=y
   ·subst hxy;have hi:=FX l x q hn pW;have HI:=χ hi;clear hn pW hi;go_wp2;go_ret;exact ⟨jL HI.out.symm,rfl⟩
   ·have b1:(x == y)=false:=by simpa using hxy
    have hn2:x∉l.take (q+1):=by rw [ϐ,pW];simp;exact ⟨hn,hxy⟩
    have HN2:=χ hn2;clear hn pW hn2 hxy;go_wp2
    go_round
    case rel=>exact ⟨q+1,ω,by go_num,HN2.out⟩
    case measure=>simp [intOf];omega
  ·obtain rfl:q=len:=ω;rw [List.take_of_length_le (by rw [HLEN.out];omega)] at hn;have HI:=χ (Ai l x hn);clear hn;go_wp2;go_ret;exact ⟨jL HI.out.symm,rfl⟩
theorem GR (w:World) (F:List Nat) (v:Value) (l:List Int) (x:Int) (h:fw w F v l) :
  Calls Tryz.prog 203 #[v,.int .i64 x] w fun e w'=>e=.returned (.bool (decide (x∈l)))/\w'=w:=by
 have k1:=G8 w F v l x h;obtain ⟨a,cap,rfl,_⟩:=h
 by_cases hx:x∈l
 ·obtain ⟨i,hi,he,_⟩:=wh l x hx;rw [he] at k1
  go_enter Tryz.func203,Tryz.ntmps203
  go_wp2_with ((go_at_call 189;(with_reducible refine (k1).mono ?_);rintro e w9 ⟨rfl,aG⟩;rw [aG];clear aG w9))
  go_ret;exact ⟨aO (by simp [hx]),rfl⟩
 ·rw [Ai l x hx] at k1
  go_enter Tryz.func203,Tryz.ntmps203
  go_wp2_with ((go_at_call 189;(with_reducible refine (k1).mono ?_);rintro e w9 ⟨rfl,aG⟩;rw [aG];clear aG w9))
  go_ret;exact ⟨aO (by simp [hx]),rfl⟩
theorem Qp (w:World) (F:List Nat) (B7:Nat) (v:Value) (l:List Int) (x:Int) (h:fw w F v l) (hr:aI w B7 26 1 (fun _=>v)) :
  Calls Tryz.prog 202 #[.int .i64 x,.pointer (some ⟨B7,0,none⟩)] w fun e w'=>e=.returned (.bool (decide (x∈l)))/\w'=w:=by
 have k1:=GR w F v l x h;have c0:=hr.cell 0 ω;obtain ⟨a,cap,rfl,_⟩:=h
 go_enter Tryz.func202,Tryz.ntmps202
 go_wp2_with ((go_at_call 203;(with_reducible refine (k1).mono ?_);rintro e w9 ⟨rfl,aG⟩;rw [aG];clear aG w9))
 go_ret;exact ⟨rfl,rfl⟩
theorem J6 (w:World) (F:List Nat) (B7:Nat) (va v:Value) (A l:List Int) (ha:fw w F va A) (h:fw w F v l) (hr:aI w B7 26 1 (fun _=>v)) :
  Calls Tryz.prog 197 #[va,.func (Fn.func 202) #[] #[.pointer (some ⟨B7,0,none⟩)]] w fun e w'=>(∃i:Int,e=.returned (.int .i64 i)/\decide (0<=i)=A.any (fun x=>decide (x∈l)))/\w'=w:=by
 have kC:=fun x=>Qp w F B7 v l x h hr;clear h hr;obtain ⟨a,cap,rfl,hlc,hcp,hp⟩:=ha;have HP:=χ hp;clear hp;generalize hlen:A.length=len at *;have HLEN:=χ hlen;clear hlen
 go_enter Tryz.func197,Tryz.ntmps197
 go_wp2
 go_loop [8] (fun i=>∃q:Nat,q<=len/\i=.int .i64 (q:Int)/\(A.take q).any (fun x=>decide (x∈l))=false) (fun i=>len-(intOf i).toNat)
 case atStart=>exact ⟨0,ω,rfl,σ⟩
 case round=>
  obtain ⟨q,hq,rfl,hn⟩:=hrel
  by_cases hlt:q<len
  ·obtain ⟨y,pW⟩:∃y,A[q]?=some y:=⟨A[q]'(by rw [HLEN.out];exact hlt),σ⟩;obtain ⟨gb,off,rfl,_,_,hc⟩:=HP.out q y pW;have k1:=kC y
   by_cases hy:y∈l
   ·rw [Ν hy] at k1;have hfin:A.any (fun x=>decide (x∈l))=true:=List.any_eq_true.2 ⟨y,Η pW,by simpa using hy⟩;have HF:=χ hfin;clear hn pW hy kC hfin
    go_wp2_with ((go_at_call 202;(with_reducible refine (k1).mono ?_);rintro e w9 ⟨rfl,aG⟩;rw [aG];clear aG w9))
    go_ret;exact ⟨⟨_,rfl,by rw [HF.out];simp⟩,rfl⟩
   ·rw [Ξ hy] at k1;have hn2:(A.take (q+1)).any (fun x=>decide (x∈l))=false:=by rw [ϐ,pW,List.any_append,hn];simpa using hy
    have HN2:=χ hn2;clear hn pW hn2 hy kC
    go_wp2_with ((go_at_call 202;(with_reducible refine (k1).mono ?_);rintro e w9 ⟨rfl,aG⟩;rw [aG];clear aG w9))
    go_round
    case rel=>exact ⟨q+1,ω,by go_num,HN2.out⟩
    case measure=>simp [intOf];omega
  ·obtain rfl:q=len:=ω;rw [List.take_of_length_le (by rw [HLEN.out];omega)] at hn;have HN:=χ hn;clear hn kC;go_wp2;go_ret;exact ⟨⟨_,rfl,by rw [HN.out];rfl⟩,rfl⟩
theorem Bz (w:World) (F:List Nat) (B7:Nat) (va v:Value) (A l:List Int) (ha:fw w F va A) (h:fw w F v l) (hr:aI w B7 26 1 (fun _=>v)) :
  Calls Tryz.prog 201 #[va,.func (Fn.func 202) #[] #[.pointer (some ⟨B7,0,none⟩)]] w fun e w'=>e=.returned (.bool (A.any (fun x=>decide (x∈l))))/\w'=w:=by
 have k1:=J6 w F B7 va v A l ha h hr;generalize A.any (fun x=>decide (x∈l))=b at *;obtain ⟨a,cap,rfl,_⟩:=ha;clear h hr
 go_enter Tryz.func201,Tryz.ntmps201
 go_wp2_with (go_at_call 197;(with_reducible refine (k1).mono ?_);rintro e w9 ⟨⟨i,rfl,hi⟩,aG⟩;rw [aG];clear aG w9;have HI:=χ hi;clear hi)
 go_ret;exact ⟨aO (by first|exact HI.out|(rw [←HI.out];simp)),rfl⟩
def ow (S:CS) (v:Value) (a b:Nat):CS:=(S.BV a v (S.k a++[(b:Int)])).rE b a
theorem Fz (bt ba lo n:Nat) (S:CS) (a b:Nat) (w:World) (h:aR w bt ba lo n S) (ha:a<n) (hb:b<n) (hra:oz n S a=true) (hrb:oz n S b=true) (hne:a≠b) (hd:oD n S a=oD n S b) (hlen:(S.k a).length+1<=n) :
    Calls Tryz.prog 206 #[.pointer (some ⟨bt,0,none⟩),.int .i64 (a:Int),.int .i64 (b:Int)] w fun e w'=>∃v,e=.returned (.bool true)/\aR w' bt ba lo n (ow S v a b)/\aa (ba::S.blk n) w w'/\(∀g,g∈(ow S v a b).blk n->g∈S.blk n\/w.heap.size<=g):=by
  have hle:=h.le;have hl1:=h.UB;have hl2:=h.Mw;have hlow:=h.low;have hnb:=h.ne;have k1:=wV bt ba lo n S a w h;have k2:=wV bt ba lo n S b w h;have k3:=qo bt ba lo n S a w h;have k4:=qo bt ba lo n S b w h;rw [hra] at k1;rw [hrb] at k2;rw [hd] at k3;have b1:((a:Int) == (b:Int))=false:=ζ;have ho:=h.own a ha;obtain ⟨sa,cap,hv,hcap⟩:=aV ho;have XP:∀g,g∈(S.v a).ownBlock.toList->lo<=g/\g<w.heap.size:=fun g hg=>ho.lt g (by simpa using hg);have r1:∀W,aa (S.v a).ownBlock.toList w W->W.cell? ⟨bt,0,none⟩=some (.slice (some ⟨ba,0,none⟩) n n):=fun W hW=>by
    rw [hW.cell h.head.lt (fun hm=>by have:=XP _ hm;simp at this;omega)];exact h.head.cell 0 ω
  have r2:∀W,aa (S.v a).ownBlock.toList w W->W.cell? ⟨ba,a*2,none⟩=some (S.v a):=fun W hW=>by
    rw [hW.cell h.row.lt (fun hm=>by have:=XP _ hm;simp at this;omega)];exact h.row.cellAt (a*2) ω (nD S a)
  have r3:∀W,aa (S.v a).ownBlock.toList w W->W.cell? ⟨ba,b*2+1,none⟩=some (.int .i64 (S.u b)):=fun W hW=>by
    rw [hW.cell h.row.lt (fun hm=>by have:=XP _ hm;simp at this;omega)];exact h.row.cellAt (b*2+1) ω (uA S b)
  have q1:∀W,aa (S.v a).ownBlock.toList w W->W.frozen? ⟨ba,a*2,none⟩=false:=fun W hW=>by
    rw [hW.frozen h.row.lt (fun hm=>by have:=XP _ hm;simp at this;omega)];exact h.row.free _
  have q2:∀W,aa (S.v a).ownBlock.toList w W->W.frozen? ⟨ba,b*2+1,none⟩=false:=fun W hW=>by
    rw [hW.frozen h.row.lt (fun hm=>by have:=XP _ hm;simp at this;omega)];exact h.row.free _
  have s0:aa (S.v a).ownBlock.toList w w:=aa.refl _ _;have H:=χ h;have HV:=χ hv;have hk:=dA (S.k a);have HLEN:=χ hlen;generalize hva:S.v a=va at *;have HVA:=χ hva;subst hv;clear h hra hrb hd hva hne
  go_enter Tryz.func206,Tryz.ntmps206
  go_wp2_with (first
    | (go_at_call 198;(with_reducible refine (k1).mono ?_);rintro e w9 ⟨rfl,aG⟩;rw [aG];clear aG w9)
    | (go_at_call 198;(with_reducible refine (k2).mono ?_);rintro e w9 ⟨rfl,aG⟩;rw [aG];clear aG w9)
    | (go_at_call 204;(with_reducible refine (k3).mono ?_);rintro e w9 ⟨rfl,aG⟩;rw [aG];clear aG w9)
    | (go_at_call 204;(with_reducible refine (k4).mono ?_);rintro e w9 ⟨rfl,aG⟩;rw [aG];clear aG w9))
  have s1:aa (Value.slice sa (S.k a).length cap).ownBlock.toList w (w.drew.alloc (.cells #[.int .i64 (b:Int)] 3)):=s0.drew.alloc _;have g1:=r1 _ s0;have g2:=r2 _ s0;have a1:=r1 _ (s0.alloc (.cells #[.int .i64 (b:Int)] 3));have a2:=r2 _ (s0.alloc (.cells #[.int .i64 (b:Int)] 3))
  go_region_law
    (first
      | (refine jM rfl _ _ 26 rfl lo 3 (.int .i64 0) 1 8 Tryz.underlying26 dQ rfl δ (.slice sa (S.k a).length cap) (S.k a).length (aF (S.k a)) rfl (ho.drew.alloc _) w.heap.size [.int .i64 (b:Int)] rfl rfl (fun j u hj=>lY w [.int .i64 (b:Int)] 3 j u hj) (by simp [Value.oneCell']) μ ω ζ ?_
         intro v2 w2 ho2 hu2 hv2;have hS2:aa (Value.slice sa (S.k a).length cap).ownBlock.toList w w2:=s1.trans hu2;have g3:=r1 _ hS2;have g4:=r2 _ hS2;have g5:=q1 _ hS2
         obtain ⟨a2,cap2,rfl,hcap2⟩:=aV ho2))
  all_goals
    have ho3:w2.ownsRow lo 3 1 (.slice a2 ((S.k a).length+1) cap2) (S.k a++[(b:Int)]).length (aF (S.k a++[(b:Int)])):=by rw [bG,υ];exact ho2
    have hF:=H.out.VG a ha (.slice a2 ((S.k a).length+1) cap2) (S.k a++[(b:Int)]) hS2 (fun g hg=>by rw [HVA.out];simpa using hg) ho3 (fun g hg=>by
      rcases hv2 with h|h
      · rw [h] at hg;exact Α (by rw [HVA.out];exact hg)
      · rw [h] at hg;simp at hg;exact Β ω) (by rw [υ];exact hlen)
    have e0:=hF.head.cell 0 ω;have e1:=hF.row.cell (b*2+1) ω;have e2:=hF.row.free (b*2+1);have HF:=χ hF;have HV2:=χ hv2;clear hF hv2 ho2 ho3 r1 r2 r3 q1 q2;go_wp2;go_ret;refine ⟨_,rfl,HF.out.bK b hb a,?_,fun g hg=>?_⟩
    · refine ((hS2.mono (fun g hg=>?_)).setCell (Α σ) _).setCell (Α σ) _
      simp only [ρ];refine Β ((S.jN n g).2 ⟨a,ha,?_⟩);rw [HVA.out];simpa using hg
    · rcases S.Tm a (.slice a2 ((S.k a).length+1) cap2) (S.k a++[(b:Int)]) n g hg with h|h
      · exact Α h
      · rcases HV2.out with h2|h2
        · exact Α ((S.jN n g).2 ⟨a,ha,by rw [HVA.out,←h2];exact h⟩)
        · rw [h2] at h;simp at h;exact Β ω
end Go.Proofs.YtklibcncmbofpaaGreat
namespace Go.Proofs.YtklibcncmbofpaaGreat
def jF (lt:Int->Int->Bool) (a b:Nat):Nat:=if lt b a then b else a
def mJ (lt:Int->Int->Bool) (a b:Nat):Nat:=if lt b a then a else b
structure CF where
 k:Nat->List Int
 u:Nat->Int
def CS.f (S:CS):CF:=⟨S.k,S.u⟩
def zM (n:Nat) (F:CF) (x:Int):Bool:=decide (0<=x/\x<n) && F.u x.toNat == -1
def bZ (n:Nat) (F:CF) (x:Int):Int:=if 0<=x/\x<n then (F.k x.toNat).length else 0
theorem YM (n:Nat) (S:CS) (x:Int):oz n S x=zM n S.f x:=rfl
theorem XZ (n:Nat) (S:CS) (x:Int):oD n S x=bZ n S.f x:=rfl
def gQ (F:CF) (a b:Nat):CF:=⟨fun y=>if y=a then F.k a++[(b:Int)] else F.k y,fun y=>if y=b then (a:Int) else F.u y⟩
theorem Yk (S:CS) (v:Go.Value) (a b:Nat):(ow S v a b).f=gQ S.f a b:=rfl
structure CC where
 F:CF
 A:List Int
 B:List Int
 N:List Int
 O:List Int
 q:Nat
def takeA (n k:Nat) (C:CC):CC:=match C.A with|x::t=>(if bZ n C.F x=k then { C with A:=t,N:=C.N++[x] } else C)|[]=>C
def takeB (n k:Nat) (C:CC):CC:=match C.B with|x::t=>(if bZ n C.F x=k then { C with B:=t,N:=C.N++[x] } else C)|[]=>C
def fe (C:CC):CC:=match C.N with|[x]=>{ C with N:=[],O:=C.O++[x] }|[x,y,z]=>{ C with N:=[y,z],O:=C.O++[x] }|_=>C
def mP (lt:Int->Int->Bool) (C:CC):CC:=match C.N with
 | [x,y]=>{ C with F:=gQ C.F (jF lt x.toNat y.toNat) (mJ lt x.toNat y.toNat),N:=[(jF lt x.toNat y.toNat:Int)],q:=C.q+1 }
 | _=>C
def GU (lt:Int->Int->Bool) (n k:Nat) (C:CC):CC:=mP lt (fe (takeB n k (takeA n k C)))
def gG (lt:Int->Int->Bool) (n:Nat):Nat->CC->CC
 | 0,C=>C
 | k+1,C=>GU lt n k (gG lt n k C)
structure Lg (dom:Int->Prop) (lt:Int->Int->Bool) (n k:Nat) (C:CC):Prop where
 few:C.N.length<=1
 join:∀x y,(fe (takeB n k (takeA n k C))).N=[x,y]->∃a b:Nat,x=a/\y=b/\dom a/\dom b/\a<n/\b<n/\a≠b/\zM n (fe (takeB n k (takeA n k C))).F a=true/\zM n (fe (takeB n k (takeA n k C))).F b=true/\
  bZ n (fe (takeB n k (takeA n k C))).F a=bZ n (fe (takeB n k (takeA n k C))).F b/\((fe (takeB n k (takeA n k C))).F.k a).length+1<=n/\((fe (takeB n k (takeA n k C))).F.k b).length+1<=n
 small:C.A.length+C.B.length+C.O.length<=100000
 asked:C.q<=1000000
 ends:C.A≠[]\/C.B≠[]\/C.N≠[]->k<=n
def tA (n k:Nat) (A:List Int) (F:CF):Bool:=match A with|x::_=>bZ n F x == (k:Int)|[]=>false
def tot (C:CC):Nat:=C.A.length+C.B.length+C.N.length+C.O.length
theorem yf (n k:Nat) (C:CC):tot (takeA n k C)=tot C/\(takeA n k C).N.length<=C.N.length+1:=by
 unfold takeA tot
 split
 ·rename_i x t h
  split
  ·simp only [h,υ,Ω,List.length_nil];omega
  ·simp
 ·simp
theorem xO (n k:Nat) (C:CC):tot (takeB n k C)=tot C/\(takeB n k C).N.length<=C.N.length+1:=by
 unfold takeB tot
 split
 ·rename_i x t h
  split
  ·simp only [h,υ,Ω,List.length_nil];omega
  ·simp
 ·simp
theorem NG (C:CC) (h3:C.N.length<=3):tot (fe C)=tot C/\(fe C).N.length<=2:=by
 obtain ⟨F,A,B,N,O,q⟩:=C;simp only at h3
 match N,h3 with
 | [],_=>simp [fe,tot]
 | [x],_=>simp [fe,tot];try omega
 | [x,y],_=>simp [fe,tot]
 | [x,y,z],_=>simp [fe,tot];try omega
 | _::_::_::_::_,h3=>simp at h3;try omega
theorem Uq (n k:Nat) (C:CC):(fe (takeB n k (takeA n k C))).q=C.q:=by
 have h1:∀C,(fe C).q=C.q:=fun C=>by unfold fe;split<;>rfl
 have h2:∀C,(takeB n k C).q=C.q:=fun C=>by
  unfold takeB;split
  ·split<;>rfl
  ·rfl
 have h3:∀C,(takeA n k C).q=C.q:=fun C=>by
  unfold takeA;split
  ·split<;>rfl
  ·rfl
 rw [h1,h2,h3]
end Go.Proofs.YtklibcncmbofpaaGreat
namespace Go.Proofs.YtklibcncmbofpaaGreat
open Go Go.RowKit
structure uJ where
 ty:TypeId
 p:Nat
 rd:List Nat
 wr:List Nat
 lt:Int->Int->Bool
 dom:Int->Prop
 at_:World->Nat->Prop
 sub:∀x,x∈wr->x∈rd
 low:∀ {w:World} {q:Nat},at_ w q->∀x,x∈rd->x<w.heap.size
 upd:∀ {w w':World} {S:List Nat} {q:Nat},at_ w q->aa S w w'->(∀x,x∈S->x∉rd)->at_ w' q
 asym:∀a b,lt a b=true->lt b a=false
 ahead:∀ {w:World} {q:Nat} (x y:Int),at_ w q->dom x->dom y->q<=1000000->OO ty p "Ahead" w (fun v=>#[v,.int .i64 x,.int .i64 y]) fun w e w'=>e=.returned (.bool (lt x y))/\at_ w' (q+1)/\aa wr w w'
structure Apart (O:uJ) (bt ba n:Nat) (S:CS):Prop where
 bt:bt∉O.rd
 ba:ba∉O.rd
 blk:∀g,g∈S.blk n->g∉O.rd
theorem Apart.rd {O:uJ} {bt ba n:Nat} {S:CS} (h:Apart O bt ba n S):∀g,g∈ba::S.blk n->g∉O.rd:=fun g hg=>by
 rcases ρ.1 hg with rfl|hg
 ·exact h.ba
 ·exact h.blk g hg
theorem Apart.wr {O:uJ} {bt ba n:Nat} {S:CS} (h:Apart O bt ba n S):bt∉O.wr/\ba∉O.wr/\∀g,g∈S.blk n->g∉O.wr:=
 ⟨fun hm=>h.bt (O.sub _ hm),fun hm=>h.ba (O.sub _ hm),fun g hg hm=>h.blk g hg (O.sub _ hm)⟩
theorem TM (O:uJ) (bt ba lo n:Nat) (S:CS) (asked a b:Nat) (w:World) (h:aR w bt ba lo n S) (hO:O.at_ w asked) (hda:O.dom a) (hdb:O.dom b) (hk:asked<=1000000)
  (ha:a<n) (hb:b<n) (hra:oz n S a=true) (hrb:oz n S b=true) (hne:a≠b) (hd:oD n S a=oD n S b) (hl1:(S.k a).length+1<=n) (hl2:(S.k b).length+1<=n)
  (hA:Apart O bt ba n S) :
  Calls Tryz.prog 205 #[.pointer (some ⟨bt,0,none⟩),.iface O.ty (.pointer (some ⟨O.p,0,none⟩)),.int .i64 (a:Int),.int .i64 (b:Int)] w fun e w'=>
   ∃v,e=.returned (.int .i64 (jF O.lt a b:Int))/\aR w' bt ba lo n (ow S v (jF O.lt a b) (mJ O.lt a b))/\O.at_ w' (asked+1)/\aa (O.wr++ba::S.blk n) w w'/\(∀g,g∈(ow S v (jF O.lt a b) (mJ O.lt a b)).blk n->g∈S.blk n\/w.heap.size<=g):=by
 obtain ⟨f,fv,hen,hm,hc⟩:=(O.ahead (b:Int) (a:Int) hO hdb hda hk).now;unfold Enters at hen;have hF:=fun W (hW:aa O.wr w W)=>h.upd hW hA.wr.1 hA.wr.2.1 hA.wr.2.2;have kL1:=fun W (hW:aa O.wr w W)=>Fz bt ba lo n S a b W (hF W hW) ha hb hra hrb hne hd hl1;have kL2:=fun W (hW:aa O.wr w W)=>Fz bt ba lo n S b a W (hF W hW) hb ha hrb hra (Ne.symm hne) hd.symm hl2;have HS:=χ hA.rd;clear hF h hO hA hd hra hrb hda hdb;unfold jF mJ;generalize O.ty=ty at *;cases hab:O.lt b a with
 | true=>
  rw [hab] at hc;rw [Δ rfl,Δ rfl];clear hab kL1
  go_enter Tryz.func205,Tryz.ntmps205
  go_wp2_with (first
   | ((with_reducible refine (hc).mono ?_);rintro e w1 ⟨rfl,hL1,hu1⟩)
   | ((go_at_call 206;(with_reducible refine (kL2 _ hu1).mono ?_));rintro e w2 ⟨v2,rfl,hF2,hu2,hb2⟩))
  go_ret;refine ⟨_,rfl,hF2,O.upd hL1 hu2 HS.out,(hu1.mono (by simp +contextual)).trans (hu2.mono (fun g hg=>τ.2 (Β hg))),fun g hg=>?_⟩;rcases hb2 g hg with h|h
  ·exact Α h
  ·exact Β (Χ hu1.size h)
 | false=>
  rw [hab] at hc;rw [Γ σ,Γ σ];clear hab kL2
  go_enter Tryz.func205,Tryz.ntmps205
  go_wp2_with (first
   | ((with_reducible refine (hc).mono ?_);rintro e w1 ⟨rfl,hL1,hu1⟩)
   | ((go_at_call 206;(with_reducible refine (kL1 _ hu1).mono ?_));rintro e w2 ⟨v2,rfl,hF2,hu2,hb2⟩))
  go_ret;refine ⟨_,rfl,hF2,O.upd hL1 hu2 HS.out,(hu1.mono (by simp +contextual)).trans (hu2.mono (fun g hg=>τ.2 (Β hg))),fun g hg=>?_⟩;rcases hb2 g hg with h|h
  ·exact Α h
  ·exact Β (Χ hu1.size h)
theorem fw.shape {w:World} {F:List Nat} {v:Value} {xs:List Int} (h:fw w F v xs):∃a cap,v=.slice a xs.length cap/\cap<=9223372036854775807:=by
 obtain ⟨a,cap,rfl,_,h2,_⟩:=h;exact ⟨a,cap,rfl,h2⟩
structure KM (O:uJ) (w0 w:World) (bt ba lo n:Nat) (F0:List Nat) (va vb vn vo:Value) (C:CC):Prop where
 vz:∃S:CS,S.f=C.F/\aR w bt ba lo n S/\Apart O bt ba n S/\(∀g,g∈S.blk n->g∈F0\/w0.heap.size<g)/\(∀g,vn.ownBlock=some g->g∉S.blk n)/\(∀g,vo.ownBlock=some g->g∉S.blk n)
 les:O.at_ w C.q
 a:fw w0 F0 va C.A
 b:fw w0 F0 vb C.B
 box:aI w w0.heap.size 26 1 (fun _=>vb)
 now:aW w (w0.heap.size+1) vn C.N
 out:aW w (w0.heap.size+1) vo C.O
 sep:∀g,vn.ownBlock=some g->vo.ownBlock≠some g
 upd:aa F0 w0 w
 old:∀g,g∈F0->g<w0.heap.size
 LY:(∀x,x∈O.wr->x∈F0)/\ba∈F0
 t0:bt<w0.heap.size
 k0:∀x,x∈O.rd->x<w0.heap.size
theorem fw.head {w:World} {F:List Nat} {a:Option Addr} {n c:Nat} {x:Int} {xs:List Int} (h:fw w F (.slice a n c) (x::xs)):∃g off,a=some ⟨g,off,none⟩/\g<w.heap.size/\g∉F/\w.cell? ⟨g,off,none⟩=some (.int .i64 x):=by
 obtain ⟨a',cap,he,_,_,h3⟩:=h;obtain ⟨g,off,rfl,hg,hF,hc⟩:=h3 0 x rfl;cases he;exact ⟨g,off,rfl,hg,hF,by rw [ϖ] at hc;exact hc⟩
theorem KM.deg {w0 w:World} {O:uJ} {bt ba lo n:Nat} {F0:List Nat} {va vb vn vo:Value} {C:CC} (h:KM O w0 w bt ba lo n F0 va vb vn vo C) (x:Int) :
  Calls Tryz.prog 204 #[.pointer (some ⟨bt,0,none⟩),.int .i64 x] w fun e w'=>e=.returned (.int .i64 (bZ n C.F x))/\w'=w:=by
 obtain ⟨S,h1,h2,_⟩:=h.vz;have:=qo bt ba lo n S x w h2;rw [XZ,h1] at this;exact this
theorem KM.far {w0 w:World} {O:uJ} {bt ba lo n:Nat} {F0:List Nat} {va vb vn vo:Value} {C:CC} (h:KM O w0 w bt ba lo n F0 va vb vn vo C) {g off:Nat} {u:Value} (hg:g<w0.heap.size) (hF:g∉F0) (hc:w0.cell? ⟨g,off,none⟩=some u) {G:List Nat} {W:World} (hu:aa G w W) (hG:∀x,x∈G->w0.heap.size<=x) :
  W.cell? ⟨g,off,none⟩=some u:=by
 rw [hu.cell (Ψ hg h.upd.size) (fun hm=>by have:=hG _ hm;simp at this;omega),h.upd.cell hg hF];exact hc
theorem KM.SQ {w0 w:World} {O:uJ} {bt ba lo n:Nat} {F0:List Nat} {va vb vn vo:Value} {C:CC} (h:KM O w0 w bt ba lo n F0 va vb vn vo C) {W:World} {vn':Value} {N':List Int}
  (hu:aa vn.ownBlock.toList w W) (ho:aW W (w0.heap.size+1) vn' N') (hb:∀g,vn'.ownBlock=some g->vn.ownBlock=some g\/w.heap.size<=g):KM O w0 W bt ba lo n F0 va vb vn' vo { C with N:=N' }:=by
 obtain ⟨S,h1,h2,h3,h4,h5,h6⟩:=h.vz;have hn:∀g,g∈vn.ownBlock.toList->w0.heap.size<g/\g∉S.blk n/\vo.ownBlock≠some g:=fun g hg=>by
  have hg':vn.ownBlock=some g:=by simpa using hg
  exact ⟨by have:=(h.now.lt g hg').1;omega,h5 g hg',h.sep g hg'⟩
 have hbt:=h.t0;have IM:=h.old ba h.LY.2;have hk:=h.k0;have hsz:=h.upd.size
 refine ⟨⟨S,h1,h2.upd hu (fun hm=>by have:=hn _ hm;omega) (fun hm=>by have:=hn _ hm;omega) (fun g hg hm=>(hn g hm).2.1 hg),h3,h4,fun g hg hm=>?_,h6⟩,O.upd h.les hu (fun g hg hm=>by have:=hn g hg;have:=hk g hm;omega),h.a,h.b,h.box.upd hu (fun hm=>by have:=hn _ hm;omega),ho,
  h.out.upd hu (fun g hg hm=>(hn g hm).2.2 hg),fun g hg he=>?_,h.upd.joined hu (fun g hg=>Β (by have:=hn g hg;omega)),h.old,h.LY,h.t0,h.k0⟩
 ·rcases hb g hg with h'|h'
  ·exact h5 g h' hm
  ·have:=(h2.nN hm).2;omega
 ·rcases hb g hg with h'|h'
  ·exact h.sep g h' he
  ·have:=(h.out.lt g he).2;omega
theorem KM.aa5 {w0 w:World} {O:uJ} {bt ba lo n:Nat} {F0:List Nat} {va vb vn vo:Value} {C:CC} (h:KM O w0 w bt ba lo n F0 va vb vn vo C) {W:World} {vo':Value} {O':List Int}
  (hu:aa vo.ownBlock.toList w W) (ho:aW W (w0.heap.size+1) vo' O') (hb:∀g,vo'.ownBlock=some g->vo.ownBlock=some g\/w.heap.size<=g):KM O w0 W bt ba lo n F0 va vb vn vo' { C with O:=O' }:=by
 obtain ⟨S,h1,h2,h3,h4,h5,h6⟩:=h.vz;have hn:∀g,g∈vo.ownBlock.toList->w0.heap.size<g/\g∉S.blk n/\vn.ownBlock≠some g:=fun g hg=>by
  have hg':vo.ownBlock=some g:=by simpa using hg
  exact ⟨by have:=(h.out.lt g hg').1;omega,h6 g hg',fun e=>h.sep g e hg'⟩
 have hbt:=h.t0;have IM:=h.old ba h.LY.2;have hk:=h.k0;have hsz:=h.upd.size
 refine ⟨⟨S,h1,h2.upd hu (fun hm=>by have:=hn _ hm;omega) (fun hm=>by have:=hn _ hm;omega) (fun g hg hm=>(hn g hm).2.1 hg),h3,h4,h5,fun g hg hm=>?_⟩,O.upd h.les hu (fun g hg hm=>by have:=hn g hg;have:=hk g hm;omega),h.a,h.b,h.box.upd hu (fun hm=>by have:=hn _ hm;omega),
  h.now.upd hu (fun g hg hm=>(hn g hm).2.2 hg),ho,fun g hg he=>?_,h.upd.joined hu (fun g hg=>Β (by have:=hn g hg;omega)),h.old,h.LY,h.t0,h.k0⟩
 ·rcases hb g hg with h'|h'
  ·exact h6 g h' hm
  ·have:=(h2.nN hm).2;omega
 ·rcases hb g he with h'|h'
  ·exact h.sep g hg h'
  ·have:=(h.now.lt g hg).2;omega
theorem KM.aTo {w0 w:World} {O:uJ} {bt ba lo n:Nat} {F0:List Nat} {va vb vn vo va':Value} {C:CC} (h:KM O w0 w bt ba lo n F0 va vb vn vo C) {A':List Int} (ha:fw w0 F0 va' A'):KM O w0 w bt ba lo n F0 va' vb vn vo { C with A:=A' }:=
 ⟨h.vz,h.les,ha,h.b,h.box,h.now,h.out,h.sep,h.upd,h.old,h.LY,h.t0,h.k0⟩
theorem KM.bTo {w0 w:World} {O:uJ} {bt ba lo n:Nat} {F0:List Nat} {va vb vn vo XW:Value} {C:CC} (h:KM O w0 w bt ba lo n F0 va vb vn vo C) {B':List Int} (hb:fw w0 F0 XW B') :
  KM O w0 (w.setCell ⟨w0.heap.size,0,none⟩ XW) bt ba lo n F0 va XW vn vo { C with B:=B' }:=by
 obtain ⟨S,h1,h2,h3,h4,h5,h6⟩:=h.vz;have hu:aa [w0.heap.size] w (w.setCell ⟨w0.heap.size,0,none⟩ XW):=(aa.refl _ _).setCell (Α σ) _;have hbt:=h.t0;have IM:=h.old ba h.LY.2;have hk:=h.k0;refine ⟨⟨S,h1,h2.upd hu ζ ζ (fun g hg hm=>?_),h3,h4,h5,h6⟩,O.upd h.les hu (fun g hg hm=>by have:=hk g hm;simp at hg;omega),h.a,hb,(h.box.set 0 XW).ext (fun j hj=>ζ),h.now.upd hu (fun g hg hm=>?_),h.out.upd hu (fun g hg hm=>?_),h.sep,h.upd.joined hu (fun g hg=>Β (by simp at hg;omega)),h.old,h.LY,h.t0,h.k0⟩
 ·simp at hm;subst hm;rcases h4 _ hg with h'|h'
  ·have:=h.old _ h';omega
  ·omega
 ·have:=(h.now.lt g hg).1;simp at hm;omega
 ·have:=(h.out.lt g hg).1;simp at hm;omega
theorem KM.ZQ {w0 w:World} {O:uJ} {bt ba lo n:Nat} {F0:List Nat} {va vb vn vo:Value} {C:CC} (h:KM O w0 w bt ba lo n F0 va vb vn vo C) {S:CS} (hS:S.f=C.F) (h2:aR w bt ba lo n S) (h3:Apart O bt ba n S)
  (h4:∀g,g∈S.blk n->g∈F0\/w0.heap.size<g) (h6:∀g,vo.ownBlock=some g->g∉S.blk n) {W:World} {v:Value} {a b:Nat} (hF:aR W bt ba lo n (ow S v a b)) (hL:O.at_ W (C.q+1)) (hu:aa (O.wr++ba::S.blk n) w W)
  (hg:∀g,g∈(ow S v a b).blk n->g∈S.blk n\/w.heap.size<=g) :
  KM O w0 (W.alloc (.cells #[.int .i64 (a:Int)] 3)) bt ba lo n F0 va vb (.slice (some ⟨W.heap.size,0,none⟩) 1 1) vo { C with F:=gQ C.F a b,N:=[(a:Int)],q:=C.q+1 }:=by
 have hbt:=h.t0;have IM:=h.old ba h.LY.2;have hk:=h.k0;have hbx:=h.box.lt;have hsz:=hu.size;have hm:∀g,g∈O.wr++ba::S.blk n->g∈F0\/w0.heap.size<g:=fun g hg=>by
  rcases τ.1 hg with hg|hg
  ·exact Α (h.LY.1 _ hg)
  ·rcases ρ.1 hg with rfl|hg
   ·exact Α h.LY.2
   ·exact h4 g hg
 have hvo:∀g,vo.ownBlock=some g->g∉O.wr++ba::S.blk n:=fun g hg hm=>by
  have:=(h.out.lt g hg).1;rcases τ.1 hm with hm|hm
  ·have:=hk _ (O.sub _ hm);omega
  ·rcases ρ.1 hm with rfl|hm
   ·omega
   ·exact h6 g hg hm
 have ha:aa [] W (W.alloc (.cells #[.int .i64 (a:Int)] 3)):=(aa.refl _ _).alloc _;have hb:w0.heap.size∉O.wr++ba::S.blk n:=fun hm2=>by
  rcases hm _ hm2 with h'|h'
  ·have:=h.old _ h';omega
  ·omega
 refine ⟨⟨ow S v a b,by rw [Yk,hS],hF.aj ha,⟨h3.bt,h3.ba,fun g hg1 hm=>?_⟩,fun g hgm=>?_,fun g hg1 hgm=>?_,fun g hg1 hgm=>?_⟩,O.upd hL ha σ,h.a,h.b,(h.box.upd hu hb).upd ha σ,aW.lit W _ a ω,
  (h.out.upd hu hvo).upd ha σ,fun g hg1 hg2=>?_,(h.upd.joined hu (fun g hg=>by rcases hm g hg with h'|h';exact Α h';exact Β ω)).then ha,h.old,h.LY,h.t0,h.k0⟩
 ·rcases hg _ hg1 with h'|h'
  ·exact h3.blk g h' hm
  ·have:=hk _ hm;omega
 ·rcases hg g hgm with h'|h'
  ·exact h4 g h'
  ·exact Β ω
 ·simp [Value.ownBlock] at hg1;have:=(hF.nN hgm).2;omega
 ·rcases hg g hgm with h'|h'
  ·exact h6 g hg1 h'
  ·have:=(h.out.lt g hg1).2;omega
 ·simp [Value.ownBlock] at hg1;have:=(h.out.lt g hg2).2;omega
set_option maxRecDepth 100000 in
theorem OI (Od:uJ) (bt ba lo n:Nat) (S0:CS) (va vb:Value) (A B:List Int) (q0:Nat) (w:World) (h:aR w bt ba lo n S0) (hO:Od.at_ w q0) (hap:Apart Od bt ba n S0) (hbt:bt<w.heap.size)
    (ha:fw w (Od.wr++ba::S0.blk n) va A) (hb:fw w (Od.wr++ba::S0.blk n) vb B) (hrA:OD n S0 A=true) (hrB:OD n S0 B=true) (hno:A.any (fun x=>decide (x∈B))=false)
    (hok:∀k,Lg Od.dom Od.lt n k (gG Od.lt n k ⟨S0.f,A,B,[],[],q0⟩)) :
    Calls Tryz.prog 194 #[.pointer (some ⟨bt,0,none⟩),.iface Od.ty (.pointer (some ⟨Od.p,0,none⟩)),va,vb] w fun e w'=>
      ∃k vn va' XW vo,e=.returned (.tuple #[vo,.bool true])/\KM Od w w' bt ba lo n (Od.wr++ba::S0.blk n) va' XW vn vo (gG Od.lt n k ⟨S0.f,A,B,[],[],q0⟩)/\(gG Od.lt n k ⟨S0.f,A,B,[],[],q0⟩).A=[]/\(gG Od.lt n k ⟨S0.f,A,B,[],[],q0⟩).B=[]/\(gG Od.lt n k ⟨S0.f,A,B,[],[],q0⟩).N=[]:=by
  have hle:=h.le;have hu1:∀v,aa [] w (w.alloc (.cells #[v] 26)):=fun v=>(aa.refl _ _).alloc _;have hbx:=dH w [vb] 26;have kA:=TZ bt ba lo n S0 va A (w.alloc (.cells #[vb] 26)) (h.aj (hu1 vb)) _ (ha.upd (hu1 vb) σ);have kB:=TZ bt ba lo n S0 vb B (w.alloc (.cells #[vb] 26)) (h.aj (hu1 vb)) _ (hb.upd (hu1 vb) σ);have kF:=Bz (w.alloc (.cells #[vb] 26)) _ w.heap.size va vb A B (ha.upd (hu1 vb) σ) (hb.upd (hu1 vb) σ) (hbx.ext (fun j hj=>by simp at hj;subst hj;rfl));rw [hrA] at kA;rw [hrB] at kB;rw [hno] at kF;have hold:∀g,g∈Od.wr++ba::S0.blk n->g<w.heap.size:=fun g hg=>by
    rcases τ.1 hg with hg|hg
    · exact Od.low hO _ (Od.sub _ hg)
    · rcases ρ.1 hg with rfl|hg
      · exact h.row.lt
      · exact (h.nN hg).2
  have hM:KM Od w (w.alloc (.cells #[vb] 26)) bt ba lo n (Od.wr++ba::S0.blk n) va vb (.slice none 0 0) (.slice none 0 0) (gG Od.lt n 0 ⟨S0.f,A,B,[],[],q0⟩):=
    ⟨⟨S0,rfl,h.aj (hu1 vb),hap,(fun g hg=>Α (by simp [hg])),(fun g hg=>by cases hg),(fun g hg=>by cases hg)⟩,Od.upd hO (hu1 vb) σ,ha,hb,hbx.ext (fun j hj=>by simp at hj;subst hj;rfl),aW.nil _ _,aW.nil _ _,(fun g hg=>by cases hg),(aa.refl _ _).alloc _,hold,⟨fun x hx=>τ.2 (Α hx),σ⟩,hbt,fun x hx=>Od.low hO x hx⟩
  have HOK:=χ hok;have YG:=χ hM;have sa:=ha.shape;have sb:=hb.shape;obtain ⟨a1,c1,rfl,hc1⟩:=sa;obtain ⟨b1,d1,rfl,hd1⟩:=sb;clear hok hM ha hb hbx h hO hap hrA hrB hno hold;generalize hF0:Od.wr++ba::S0.blk n=F0 at *;clear hF0;generalize hC0:(⟨S0.f,A,B,[],[],q0⟩:CC)=C0 at *;clear hC0
  go_enter Tryz.func194,Tryz.ntmps194
  go_wp2_with (first
    | (go_at_call 200;(with_reducible refine (kA).mono ?_);rintro e w9 ⟨rfl,aG⟩;rw [aG];clear aG w9)
    | (go_at_call 200;(with_reducible refine (kB).mono ?_);rintro e w9 ⟨rfl,aG⟩;rw [aG];clear aG w9)
    | (go_at_call 201;(with_reducible refine (kF).mono ?_);rintro e w9 ⟨rfl,aG⟩;rw [aG];clear aG w9))
  clear kA kB kF
  go_loopw [2,10,11,12] (fun s2 s10 s11 s12 wr=>∃ (k:Nat) (vb:Value),s12=.int .i64 (k:Int)/\k<=n+1/\KM Od w wr bt ba lo n F0 s2 vb s11 s10 (gG Od.lt n k C0)) (fun _ _ _ s12 _=>n+2-(intOf s12).toNat)
  case atStart=>exact ⟨0,_,rfl,ω,YG.out⟩
  case round=>
    obtain ⟨k,vb,rfl,hk,hM⟩:=hrel;have hok:=HOK.out k;generalize hC:gG Od.lt n k C0=C at *;have HC:=χ hC;clear hC;obtain ⟨F,A,B,N,O,q⟩:=C;obtain ⟨a2,c2,rfl,hc2⟩:=hM.a.shape;obtain ⟨b2,d2,rfl,hd2⟩:=hM.b.shape;obtain ⟨n2,e2,rfl,hn2,he2,_⟩:=hM.now.shape;have hbx:=hM.box.cell 0 ω;have hsm:=hok.small;have hfw:=hok.few;simp only at hsm hfw
    by_cases hemp:A=[]/\B=[]/\N=[]
    · obtain ⟨rfl,rfl,rfl⟩:=hemp
      obtain ⟨o2,f2,rfl,_⟩:=hM.out.shape;have HM:=χ hM;clear hM hok;go_wp2;go_ret2;exact ⟨k,_,_,_,_,rfl,by rw [HC.out];exact HM.out,by rw [HC.out],by rw [HC.out],by rw [HC.out]⟩
    · have hpos:0<A.length+B.length+N.length:=by
        rcases A with _|⟨x,t⟩
        · rcases B with _|⟨x,t⟩
          · rcases N with _|⟨x,t⟩
            · exact absurd ⟨rfl,rfl,rfl⟩ hemp
            · simp
          · simp;omega
        · simp;omega
      have hkn:k<=n:=hok.ends (by
        rcases A with _|⟨x,t⟩
        · rcases B with _|⟨x,t⟩
          · rcases N with _|⟨x,t⟩
            · exact absurd ⟨rfl,rfl,rfl⟩ hemp
            · exact Β (Β σ)
          · exact Β (Α σ)
        · exact Α σ)
      have HOKK:=χ hok;have HM:=χ hM;clear hemp hok hM
      go_upto_region 7 with (fail)
      go_cut [50] (fun s50 wx=>s50=.bool (tA n k A F)/\KM Od w wx bt ba lo n F0 (.slice a2 A.length c2) (.slice b2 B.length d2) (.slice n2 N.length e2) u10 ⟨F,A,B,N,O,q⟩)
      case first=>
        rcases A with _|⟨x,t⟩
        · go_wp2_with fail
          go_meet
          exact ⟨rfl,HM.out⟩
        · obtain ⟨ga,oa,rfl,hgl,E9,hc⟩:=HM.out.a.head
          have hc1:=HM.out.far hgl E9 hc (aa.refl [] _) σ;have kD:=HM.out.deg x;have Kk:tA n k (x::t) F=(bZ n F x == (k:Int)):=rfl;have HT:=χ Kk;simp only at kD;clear Kk hc;generalize bZ n F x=d at *
          go_wp2_with ((go_at_call 204;(with_reducible refine (kD).mono ?_);rintro e w9 ⟨rfl,aG⟩;rw [aG];clear aG w9))
          go_meet
          exact ⟨by rw [HT.out],HM.out⟩
      case rest=>
        obtain ⟨rfl,hM1⟩:=hcut;have jJ:=χ hM1;clear hM1 HM hbx
        go_upto_if 50 with (fail)
        go_cut [2,11] (fun s2 s11 wx=>∃vb,KM Od w wx bt ba lo n F0 s2 vb s11 u10 (takeA n k ⟨F,A,B,N,O,q⟩))
        case first=>
          cases Kk:tA n k A F with
          | false=>
            go_wp2_with fail
            go_meet
            have e:takeA n k ⟨F,A,B,N,O,q⟩=⟨F,A,B,N,O,q⟩:=by
              rcases A with _|⟨x,t⟩
              · rfl
              · unfold takeA;simp only;rw [Γ (by simpa [tA] using Kk)]
            rw [e];exact ⟨_,jJ.out⟩
          | true=>
            rcases A with _|⟨x,t⟩
            · cases Kk
            · have e:takeA n k ⟨F,x::t,B,N,O,q⟩=⟨F,t,B,N++[x],O,q⟩:=by
                unfold takeA;simp only;rw [Δ (by simpa [tA] using Kk)]
              obtain ⟨ga,oa,rfl,hgl,E9,hc⟩:=jJ.out.a.head;have hown:∀g,g∈(Value.slice n2 N.length e2).ownBlock.toList->w.heap.size<=g:=fun g hg=>by have:=(jJ.out.now.lt g (by simpa using hg)).1;omega
              have r1:∀W,aa (Value.slice n2 N.length e2).ownBlock.toList wc W->W.cell? ⟨ga,oa,none⟩=some (.int .i64 x):=fun W hW=>jJ.out.far hgl E9 hc hW hown;have s0:aa (Value.slice n2 N.length e2).ownBlock.toList wc wc.drew:=(aa.refl _ _).drew;have hsl:=fun W=>wL W (some ⟨ga,oa,none⟩) (t.length+1) c2 ω (by simp at hsm;omega);have Ff:=(show fw w F0 (.slice (some ⟨ga,oa,none⟩) (t.length+1) c2) (x::t) from jJ.out.a).tail;obtain ⟨a3,Bd⟩:=qh (some ⟨ga,oa,none⟩) (t.length+1) c2;rw [Bd] at hsl Ff;simp only [Nat.add_sub_cancel] at hsl Ff;have HTA:=χ Ff;have hno:=jJ.out.now;have E:=χ e
              clear Ff e Kk Bd hc
              go_wp2_with fail
              go_region_held3 (fun W=>aa (Value.slice n2 N.length e2).ownBlock.toList wc W)
                (first|assumption|exact (aa.refl _ _).drew|(have hS:=(by assumption:aa _ _ _);exact hS.alloc _))
                (first
                  | (have hS:=s0.alloc (.cells #[.int .i64 x] 3)
                     refine qV rfl _ _ 26 rfl Tryz.underlying26 (w.heap.size+1) (.slice n2 N.length e2) N rfl (hno.upd ((aa.refl [] _).drew.alloc (.cells #[.int .i64 x] 3)) σ) wc.heap.size x rfl (lY wc [.int .i64 x] 3 0 _ rfl) ω (by have:=jJ.out.upd.size;have:=jJ.out.box.lt;simp;omega) ?_;intro v2 w2 ho2 hu2 hv2
                     have hS2:aa (Value.slice n2 N.length e2).ownBlock.toList wc w2:=hS.trans hu2))
              go_wp2_with fail
              go_meet
              rw [E.out];exact ⟨_,(jJ.out.SQ hS2 ho2 (fun g hg=>by rcases hv2 g hg with h|h;exact Α h;exact Β (by simp at h;omega))).aTo HTA.out⟩
        case rest=>
          have hT1:=yf n k ⟨F,A,B,N,O,q⟩;generalize jc:takeA n k ⟨F,A,B,N,O,q⟩=C1 at *;have HC1:=χ jc;clear jc jJ;obtain ⟨F1,A1,B1,N1,O1,q1⟩:=C1;have hs1:A1.length+B1.length+N1.length+O1.length<=100001/\N1.length<=2:=by
            obtain ⟨h1,h2⟩:=hT1;unfold tot at h1;simp only at h1 h2;omega
          obtain ⟨hs1,hf1⟩:=hs1;obtain ⟨vb1,hcut⟩:=hcut;obtain ⟨a5,c5,rfl,hc5⟩:=hcut.a.shape;obtain ⟨b5,d5,rfl,hd5⟩:=hcut.b.shape;obtain ⟨n5,e5,rfl,MS,he5,_⟩:=hcut.now.shape;simp only at MS;have hbx:=hcut.box.cell 0 ω;have jJ:=χ hcut;clear hcut hT1 hsm hfw hpos
          go_upto_region 9 with (fail)
          go_cut [70] (fun s70 wx=>s70=.bool (tA n k B1 F1)/\KM Od w wx bt ba lo n F0 (.slice a5 A1.length c5) (.slice b5 B1.length d5) (.slice n5 N1.length e5) u10 ⟨F1,A1,B1,N1,O1,q1⟩)
          case first=>
            rcases B1 with _|⟨x,t⟩
            · go_wp2_with fail
              go_meet
              exact ⟨rfl,jJ.out⟩
            · obtain ⟨ga,oa,rfl,hgl,E9,hc⟩:=jJ.out.b.head
              have hc1:=jJ.out.far hgl E9 hc (aa.refl [] _) σ;have kD:=jJ.out.deg x;have Kk:tA n k (x::t) F1=(bZ n F1 x == (k:Int)):=rfl;have HT:=χ Kk;simp only at kD;clear Kk hc;generalize bZ n F1 x=d at *
              go_wp2_with ((go_at_call 204;(with_reducible refine (kD).mono ?_);rintro e w9 ⟨rfl,aG⟩;rw [aG];clear aG w9))
              go_meet
              exact ⟨by rw [HT.out],jJ.out⟩
          case rest=>
            obtain ⟨rfl,hM2⟩:=hcut;have hbx:=hM2.box.cell 0 ω;have hbf:=hM2.box.free 0;have nE:=χ hM2;clear hM2 jJ
            go_upto_if 70 with (fail)
            go_cut [11] (fun s11 wx=>∃vb,KM Od w wx bt ba lo n F0 (.slice a5 A1.length c5) vb s11 u10 (takeB n k ⟨F1,A1,B1,N1,O1,q1⟩))
            case first=>
              cases Kk:tA n k B1 F1 with
              | false=>
                go_wp2_with fail
                go_meet
                have e:takeB n k ⟨F1,A1,B1,N1,O1,q1⟩=⟨F1,A1,B1,N1,O1,q1⟩:=by
                  rcases B1 with _|⟨x,t⟩
                  · rfl
                  · unfold takeB;simp only;rw [Γ (by simpa [tA] using Kk)]
                rw [e];exact ⟨_,nE.out⟩
              | true=>
                rcases B1 with _|⟨x,t⟩
                · cases Kk
                · have e:takeB n k ⟨F1,A1,x::t,N1,O1,q1⟩=⟨F1,A1,t,N1++[x],O1,q1⟩:=by
                    unfold takeB;simp only;rw [Δ (by simpa [tA] using Kk)]
                  obtain ⟨ga,oa,rfl,hgl,E9,hc⟩:=nE.out.b.head;have hown:∀g,g∈(Value.slice n5 N1.length e5).ownBlock.toList->w.heap.size<g:=fun g hg=>by have:=(nE.out.now.lt g (by simpa using hg)).1;omega
                  have r1:∀W,aa (Value.slice n5 N1.length e5).ownBlock.toList wc W->W.cell? ⟨ga,oa,none⟩=some (.int .i64 x):=fun W hW=>nE.out.far hgl E9 hc hW (fun g hg=>by have:=hown g hg;omega);have r2:∀W,aa (Value.slice n5 N1.length e5).ownBlock.toList wc W->W.cell? ⟨w.heap.size,0,none⟩=some (.slice (some ⟨ga,oa,none⟩) (x::t).length d5):=fun W hW=>by rw [hW.cell nE.out.box.lt (fun hm=>by have:=hown _ hm;simp at this)];exact hbx
                  have r3:∀W,aa (Value.slice n5 N1.length e5).ownBlock.toList wc W->W.frozen? ⟨w.heap.size,0,none⟩=false:=fun W hW=>by rw [hW.frozen nE.out.box.lt (fun hm=>by have:=hown _ hm;simp at this)];exact hbf
                  have s0:aa (Value.slice n5 N1.length e5).ownBlock.toList wc wc:=aa.refl _ _;have p1:=r1 _ s0;have p3:=r1 _ (s0.alloc (.cells #[.int .i64 x] 3));have p4:=r2 _ (s0.alloc (.cells #[.int .i64 x] 3));have hsl:=fun W=>wL W (some ⟨ga,oa,none⟩) (t.length+1) d5 ω (by simp at hs1;omega);have Ff:=(show fw w F0 (.slice (some ⟨ga,oa,none⟩) (t.length+1) d5) (x::t) from nE.out.b).tail;obtain ⟨a3,Bd⟩:=qh (some ⟨ga,oa,none⟩) (t.length+1) d5;rw [Bd] at hsl Ff;simp only [Nat.add_sub_cancel] at hsl Ff;have HTA:=χ Ff;have hno:=nE.out.now;have E:=χ e;clear Ff e Kk Bd hc
                  go_wp2_with fail
                  go_region_law
                    (first
                      | (refine qV rfl _ _ 26 rfl Tryz.underlying26 (w.heap.size+1) (.slice n5 N1.length e5) N1 rfl (hno.upd ((aa.refl [] _).drew.alloc (.cells #[.int .i64 x] 3)) σ) wc.heap.size x rfl (lY wc [.int .i64 x] 3 0 _ rfl) ω (by have:=nE.out.upd.size;have:=nE.out.box.lt;simp;omega) ?_
                         intro v2 w2 ho2 hu2 hv2;have hS2:aa (Value.slice n5 N1.length e5).ownBlock.toList wc w2:=(s0.drew.alloc (.cells #[.int .i64 x] 3)).trans hu2;have g1:=r1 _ hS2;have g2:=r2 _ hS2
                         have g3:=r3 _ hS2))
                  all_goals
                    go_wp2_with fail
                    go_meet
                    rw [E.out];exact ⟨_,(nE.out.SQ hS2 ho2 (fun g hg=>by rcases hv2 g hg with h|h;exact Α h;exact Β (by simp at h;omega))).bTo HTA.out⟩
            case rest=>
              have hT1:=xO n k ⟨F1,A1,B1,N1,O1,q1⟩;generalize hC2:takeB n k ⟨F1,A1,B1,N1,O1,q1⟩=C2 at *;have HC2:=χ hC2;clear hC2 nE;obtain ⟨F2,A2,B2,N2,O2,q2⟩:=C2;have hs2:A2.length+B2.length+N2.length+O2.length<=100001/\N2.length<=3:=by
                obtain ⟨h1,h2⟩:=hT1;unfold tot at h1;simp only at h1 h2;omega
              obtain ⟨hs2,hf2⟩:=hs2;obtain ⟨vb2,hcut⟩:=hcut;obtain ⟨n6,e6,rfl,hn6,he6,_⟩:=hcut.now.shape;obtain ⟨o6,p6,rfl,ho6,hp6,_⟩:=hcut.out.shape;simp only at hn6;have I5:=χ hcut;clear hcut hT1 hs1 hf1
              go_upto_region 11 with (fail)
              go_cut [82] (fun s82 wx=>s82=.bool (N2.length % 2 == 1)/\KM Od w wx bt ba lo n F0 (.slice a5 A1.length c5) vb2 (.slice n6 N2.length e6) (.slice o6 O2.length p6) ⟨F2,A2,B2,N2,O2,q2⟩)
              case first=>
                have key:∀m:Nat,N2.length=m->N2.length % 2=m % 2:=fun m h=>by rw [h]
                match N2,hf2 with
                | [],_=>go_wp2_with fail;go_meet;exact ⟨σ,I5.out⟩
                | [x],_=>go_wp2_with fail;go_meet;exact ⟨σ,I5.out⟩
                | [x,y],_=>go_wp2_with fail;go_meet;exact ⟨σ,I5.out⟩
                | [x,y,z],_=>go_wp2_with fail;go_meet;exact ⟨σ,I5.out⟩
                | _::_::_::_::_,hf2=>simp at hf2;try omega
              case rest=>
                obtain ⟨rfl,si⟩:=hcut;have PN:=χ si;clear si I5
                go_upto_if 82 with (fail)
                go_cut [10,11] (fun s10 s11 wx=>∃va vb,va=.slice a5 A1.length c5/\KM Od w wx bt ba lo n F0 va vb s11 s10 (fe ⟨F2,A2,B2,N2,O2,q2⟩))
                case first=>
                  cases UD:(N2.length % 2 == 1) with
                  | false=>
                    go_wp2_with fail
                    go_meet
                    have e:fe ⟨F2,A2,B2,N2,O2,q2⟩=⟨F2,A2,B2,N2,O2,q2⟩:=by
                      match N2,hf2,UD with
                      | [],_,_=>rfl
                      | [x],_,UD=>simp at UD
                      | [x,y],_,_=>rfl
                      | [x,y,z],_,UD=>simp at UD
                      | _::_::_::_::_,hf2,_=>simp at hf2;try omega
                    rw [e];exact ⟨_,_,rfl,PN.out⟩
                  | true=>
                    rcases N2 with _|⟨x,r⟩
                    · simp at UD
                    · have e:fe ⟨F2,A2,B2,x::r,O2,q2⟩=⟨F2,A2,B2,r,O2++[x],q2⟩:=by
                        match r,hf2,UD with
                        | [],_,_=>rfl
                        | [y],_,UD=>simp at UD
                        | [y,z],_,_=>rfl
                        | _::_::_::_,hf2,_=>simp at hf2;try omega
                      obtain ⟨n7,e7,he7,hn7,_,hcells⟩:=PN.out.now.shape;obtain ⟨gn,on,rfl,hc0⟩:=hcells 0 x rfl;cases he7;rw [ϖ] at hc0;have hsl:=fun W=>wL W (some ⟨gn,on,none⟩) (r.length+1) e6 ω (by simp at hs2;omega);have hno:=fun W (h:aW W (w.heap.size+1) (.slice (some ⟨gn,on,none⟩) (r.length+1) e6) (x::r))=>h.tail;obtain ⟨a3,Bd⟩:=qh (some ⟨gn,on,none⟩) (r.length+1) e6;rw [Bd] at hsl hno;simp only [Nat.add_sub_cancel] at hsl hno;have XG:=χ hno;have xm:=PN.out.out;have E:=χ e;clear hno e UD Bd hcells
                      go_wp2_with (at_builtin;refine vQ rfl _ _ 26 rfl Tryz.underlying26 (w.heap.size+1) (.slice o6 O2.length p6) O2 rfl (xm.upd ((aa.refl [] _).alloc (.cells #[.int .i64 x] 3)) σ) wc.heap.size x rfl (lY wc [.int .i64 x] 3 0 _ rfl) ω (by have:=PN.out.upd.size;have:=PN.out.box.lt;simp;omega) ?_;intro v2 w2 ho2 hu2 hv2)
                      go_meet
                      have hS2:aa (Value.slice o6 O2.length p6).ownBlock.toList wc w2:=((aa.refl _ _).alloc (.cells #[.int .i64 x] 3)).trans hu2;have hm1:=PN.out.aa5 hS2 ho2 (fun g hg=>by rcases hv2 g hg with h|h;exact Α h;exact Β (by simp at h;omega));have hm2:=hm1.SQ (aa.refl _ _) (XG.out _ hm1.now).1 (fun g hg=>by rw [(XG.out _ hm1.now).2] at hg;exact Α hg);rw [E.out];exact ⟨_,_,rfl,hm2⟩
                case rest=>
                  have hT1:=NG ⟨F2,A2,B2,N2,O2,q2⟩ hf2;have MK:=HOKK.out.join;rw [HC1.out,HC2.out] at MK;generalize yH:fe ⟨F2,A2,B2,N2,O2,q2⟩=C3 at *;have HC3:=χ yH;clear yH PN;obtain ⟨F3,A3,B3,N3,O3,q3⟩:=C3;simp only at MK;obtain ⟨hT1,hf3⟩:=hT1;simp only at hf3;obtain ⟨va3,vb3,rfl,hcut⟩:=hcut;obtain ⟨n8,e8,rfl,hn8,he8,_⟩:=hcut.now.shape;obtain ⟨o8,p8,rfl,ho8,hp8,_⟩:=hcut.out.shape;simp only at hn8;have vv:=χ hcut;have HJ:=χ MK;clear hcut hT1 hs2 hf2 MK
                  go_upto_region 14 with (fail)
                  go_cut [93] (fun s93 wx=>s93=.bool (N3.length == 2)/\KM Od w wx bt ba lo n F0 (.slice a5 A1.length c5) vb3 (.slice n8 N3.length e8) (.slice o8 O3.length p8) ⟨F3,A3,B3,N3,O3,q3⟩)
                  case first=>
                    match N3,hf3 with
                    | [],_=>go_wp2_with fail;go_meet;exact ⟨σ,vv.out⟩
                    | [x],_=>go_wp2_with fail;go_meet;exact ⟨σ,vv.out⟩
                    | [x,y],_=>go_wp2_with fail;go_meet;exact ⟨σ,vv.out⟩
                    | _::_::_::_,hf3=>simp at hf3;try omega
                  case rest=>
                    obtain ⟨rfl,tH⟩:=hcut;have wG:=χ tH;clear tH vv;have hst:GU Od.lt n k ⟨F,A,B,N,O,q⟩=mP Od.lt ⟨F3,A3,B3,N3,O3,q3⟩:=by
                      unfold GU;rw [HC1.out,HC2.out,HC3.out]
                    have hru:gG Od.lt n (k+1) C0=mP Od.lt ⟨F3,A3,B3,N3,O3,q3⟩:=by rw [gG,HC.out,hst]
                    have hq3:q3<=1000000:=by
                      have h:=Uq n k ⟨F,A,B,N,O,q⟩;rw [HC1.out,HC2.out,HC3.out] at h;simp only at h;rw [h];exact HOKK.out.asked
                    have Yr:=χ hru;clear hst hru HC1 HC2 HC3
                    match N3,hf3,HJ,wG,Yr with
                    | [],_,_,wG,Yr=>
                      go_wp2_with fail
                      go_roundw
                      case rel=>exact ⟨k+1,_,by go_num,ω,by rw [Yr.out];exact wG.out⟩
                      case measure=>simp [intOf];omega
                    | [x],_,_,wG,Yr=>
                      go_wp2_with fail
                      go_roundw
                      case rel=>exact ⟨k+1,_,by go_num,ω,by rw [Yr.out];exact wG.out⟩
                      case measure=>simp [intOf];omega
                    | [x,y],_,HJ,wG,Yr=>
                      obtain ⟨a,b,rfl,rfl,hda,hdb,hja,hjb,hjne,hjra,hjrb,hjd,hjl1,U5⟩:=HJ.out x y rfl;obtain ⟨S,hSf,hFo,hAp,hS4,hS5,hS6⟩:=wG.out.vz;obtain ⟨n9,e9,he9,hn9,_,hcells⟩:=wG.out.now.shape;obtain ⟨gn,on,rfl,hc0⟩:=hcells 0 (a:Int) rfl;obtain ⟨gn2,on2,heq,hc1⟩:=hcells 1 (b:Int) rfl;cases heq;cases he9;rw [ϖ] at hc0;simp only at hSf;rw [←hSf] at hjra hjrb hjd hjl1 U5;have hgn:∀g,g∈Od.wr++ba::S.blk n->g≠gn:=fun g hg e=>by
                        subst e;have hl:=(wG.out.now.lt g rfl).1;rcases τ.1 hg with hg|hg
                        · have:=wG.out.old _ (wG.out.LY.1 _ hg);omega
                        · rcases ρ.1 hg with rfl|hg
                          · have:=wG.out.old _ wG.out.LY.2;omega
                          · exact hS5 g rfl hg
                      have hgl:=(wG.out.now.lt gn rfl).2;have r1:∀W,aa (Od.wr++ba::S.blk n) wc W->W.cell? ⟨gn,on,none⟩=some (.int .i64 (a:Int)):=fun W hW=>by rw [hW.cell hgl (fun hm=>hgn _ hm rfl)];exact hc0
                      have r2:∀W,aa (Od.wr++ba::S.blk n) wc W->W.cell? ⟨gn,on+1,none⟩=some (.int .i64 (b:Int)):=fun W hW=>by rw [hW.cell hgl (fun hm=>hgn _ hm rfl)];exact hc1
                      have kJ:=TM Od bt ba lo n S q3 a b wc.drew (hFo.aj (aa.refl [] _).drew) (Od.upd wG.out.les (aa.refl [] _).drew σ) hda hdb hq3 hja hjb hjra hjrb hjne hjd hjl1 U5 hAp;clear hcells
                      go_wp2_with fail
                      go_region_held3 (fun W=>aa (Od.wr++ba::S.blk n) wc W)
                        (first|assumption|exact (aa.refl _ _).drew|(have hS:=(by assumption:aa _ _ _);exact hS.alloc _))
                        (first
                          | ((go_at_call 205;(with_reducible refine (kJ).mono ?_));rintro e w2 ⟨v2,rfl,hF2,hL2,hu2,hg2⟩;have hS2:aa (Od.wr++ba::S.blk n) wc w2:=(aa.refl _ _).drew.trans hu2))
                      go_wp2_with fail
                      go_roundw
                      case rel=>
                        refine ⟨k+1,vb3,by go_num,ω,?_⟩;rw [Yr.out];exact wG.out.ZQ hSf hFo hAp hS4 hS6 hF2 hL2 hS2 hg2
                      case measure=>simp [intOf];omega
                    | _::_::_::_,hf3,_,_,_=>simp at hf3;try omega
end Go.Proofs.YtklibcncmbofpaaGreat
namespace Go.Proofs.YtklibcncmbofpaaGreat
theorem rG:∀ (n:Nat) (l:List Int),l.Nodup->(∀x,x∈l->0<=x/\x<n)->l.length<=n
 | 0,l,_,h=>by
  cases l with
  | nil=>simp
  | cons x r=>have:=h x σ;omega
 | n+1,l,hn,h=>by
  have h1:=rG n (l.filter (fun x=>x != (n:Int))) (hn.filter _) (fun x hx=>by
   simp only [List.mem_filter] at hx;have:=h x hx.1;have h2:x≠n:=by simpa using hx.2
   omega)
  have h2:l.length<=(l.filter (fun x=>x != (n:Int))).length+1:=by
   clear h1 h
   induction l with
   | nil=>simp
   | cons y r ih=>
    rw [Ζ] at hn
    by_cases hy:y=n
    ·subst hy;have e:r.filter (fun x=>x != (n:Int))=r:=by
      rw [List.filter_eq_self];intro a ha;simp;intro e;subst e;exact hn.1 ha
     rw [List.filter_cons_of_neg σ,e];simp
    ·have:=ih hn.2;rw [List.filter_cons_of_pos (by simpa using hy)];simp only [Ω];omega
  omega
structure ou (n:Nat) (F:CF):Prop where
 wK:∀x,x<n->∀y,y∈F.k x->0<=y/\y<n/\F.u y.toNat=x
 nd:∀x,x<n->(F.k x).Nodup
 up:∀y,y<n->F.u y=-1\/∃p:Nat,p<n/\F.u y=p/\(y:Int)∈F.k p
 xE:∀x,x<n->∀i z,(F.k x)[i]?=some z->(F.k z.toNat).length=i
theorem Sa (n:Nat):ou n CS.none.f:=⟨fun x _ y hy=>(by cases hy),fun x _=>Ϣ,fun y _=>Α rfl,fun x _ i z h=>by simp [CS.none,CS.f] at h⟩
theorem ou.self {n:Nat} {F:CF} (h:ou n F) {x:Nat} (hx:x<n):(x:Int)∉F.k x:=fun hm=>by
 obtain ⟨i,hi,he⟩:=List.getElem_of_mem hm;have:=h.xE x hx i x (by rw [ε hi,he]);simp at this;omega
theorem ou.len {n:Nat} {F:CF} (h:ou n F) {x:Nat} (hx:x<n):(F.k x).length+1<=n:=by
 have:=rG n ((x:Int)::F.k x) (List.nodup_cons.2 ⟨h.self hx,h.nd x hx⟩) (fun y hy=>by
  rcases ρ.1 hy with rfl|hy
  ·omega
  ·have:=h.wK x hx y hy;omega)
 simpa using this
theorem ou.link {n:Nat} {F:CF} (h:ou n F) {a b:Nat} (ha:a<n) (hb:b<n) (hne:a≠b) (ra:F.u a=-1) (rb:F.u b=-1) (hd:(F.k a).length=(F.k b).length):ou n (gQ F a b):=by
 have nb:∀x,x<n->(b:Int)∉F.k x:=fun x hx hm=>by
  have:=(h.wK x hx b hm).2.2;simp at this;omega
 have na:∀x,x<n->(a:Int)∉F.k x:=fun x hx hm=>by
  have:=(h.wK x hx a hm).2.2;simp at this;omega
 refine ⟨fun x hx y hy=>?_,fun x hx=>?_,fun y hy=>?_,fun x hx i z hz=>?_⟩
 ·unfold gQ at hy ⊢;simp only at hy ⊢
  split at hy
  ·rename_i e
   subst e;rcases τ.1 hy with hy|hy
   ·obtain ⟨h1,h2,h3⟩:=h.wK x hx y hy;refine ⟨h1,h2,?_⟩;rw [Γ (fun e=>by rw [e,rb] at h3;omega)];exact h3
   ·simp at hy;subst hy;exact ⟨ω,ω,σ⟩
  ·obtain ⟨h1,h2,h3⟩:=h.wK x hx y hy;refine ⟨h1,h2,?_⟩;rw [Γ (fun e=>by rw [e,rb] at h3;omega)];exact h3
 ·unfold gQ;simp only
  split
  ·rw [θ];exact ⟨h.nd a ha,σ,fun y hy z hz e=>by simp at hz;subst hz;subst e;exact nb a ha hy⟩
  ·exact h.nd x hx
 ·unfold gQ;simp only
  by_cases hyb:y=b
  ·subst hyb;exact Β ⟨a,ha,σ,σ⟩
  ·rw [Γ hyb];rcases h.up y hy with h1|⟨p,hp,h1,h2⟩
   ·exact Α h1
   ·refine Β ⟨p,hp,h1,?_⟩
    split
    ·rename_i e;subst e;exact τ.2 (Α h2)
    ·exact h2
 ·have kz:∀z,z∈F.k x->(gQ F a b).k z.toNat=F.k z.toNat:=fun z hz=>by
   unfold gQ;simp only
   rw [Γ (fun e=>by
    have:=h.wK x hx z hz
    exact na x hx (by rw [←e,show ((z.toNat:Nat):Int)=z by omega];exact hz))]
  have hz':=hz;unfold gQ at hz';simp only at hz'
  split at hz'
  ·rename_i e
   subst e;rcases ϗ i (F.k x).length with hi|hi
   ·rw [Ρ hi] at hz';rw [kz z (Η hz')];exact h.xE x hx i z hz'
   ·have hil:i=(F.k x).length:=by
     have:=(List.getElem?_eq_some_iff.1 hz').1;simp at this;omega
    subst hil;rw [ϊ (Θ _)] at hz';simp at hz';subst hz';unfold gQ;simp only [π];rw [Γ (fun e=>hne ω),hd]
  ·rw [kz z (Η hz')];exact h.xE x hx i z hz'
def CC.L (C:CC):List Int:=C.A++(C.B++(C.N++C.O))
structure G (n ka kb kn ko:Nat) (C:CC):Prop where
 f:ou n C.F
 rt:∀x,x∈C.L->0<=x/\x<n/\C.F.u x.toNat=-1
 nd:C.L.Nodup
 a1:C.A.Pairwise (fun x y=>bZ n C.F x<bZ n C.F y)
 a2:∀x,x∈C.A->(ka:Int)<=bZ n C.F x
 b1:C.B.Pairwise (fun x y=>bZ n C.F x<bZ n C.F y)
 b2:∀x,x∈C.B->(kb:Int)<=bZ n C.F x
 n1:∀x,x∈C.N->bZ n C.F x=kn
 o1:C.O.Pairwise (fun x y=>bZ n C.F x<bZ n C.F y)
 o2:∀x,x∈C.O->bZ n C.F x<ko
theorem qP (n k:Nat) (C:CC):(takeA n k C).L.Perm C.L:=by
 obtain ⟨F,A,B,N,O,q⟩:=C;unfold takeA
 split
 ·rename_i x t h
  simp only at h;subst h
  split
  ·unfold CC.L;simp only;rw [List.perm_iff_count];intro y;simp [List.count_append,List.count_cons];omega
  ·exact ό _
 ·exact ό _
theorem qJ (n k:Nat) (C:CC):(takeB n k C).L.Perm C.L:=by
 obtain ⟨F,A,B,N,O,q⟩:=C;unfold takeB
 split
 ·rename_i x t h
  simp only at h;subst h
  split
  ·unfold CC.L;simp only;rw [List.perm_iff_count];intro y;simp [List.count_append,List.count_cons];omega
  ·exact ό _
 ·exact ό _
theorem qC (C:CC):(fe C).L.Perm C.L:=by
 obtain ⟨F,A,B,N,O,q⟩:=C;unfold fe
 split
 ·rename_i x h
  simp only at h;subst h;unfold CC.L;simp only;rw [List.perm_iff_count];intro y;simp [List.count_append,List.count_cons]
  try omega
 ·rename_i x y z h
  simp only at h;subst h;unfold CC.L;simp only;rw [List.perm_iff_count];intro y;simp [List.count_append,List.count_cons]
  try omega
 ·exact ό _
theorem Lb (n k:Nat) (C:CC):(takeA n k C).F=C.F:=by unfold takeA;split;(split<;>rfl);rfl
theorem Mt (n k:Nat) (C:CC):(takeB n k C).F=C.F:=by unfold takeB;split;(split<;>rfl);rfl
theorem L9 (C:CC):(fe C).F=C.F:=by unfold fe;split<;>rfl
theorem Eu {n k:Nat} {C:CC} (h:G n k k k k C):G n (k+1) k k k (takeA n k C):=by
 have hp:=qP n k C;have hF:=Lb n k C;have rt:=fun x (hx:x∈(takeA n k C).L)=>h.rt x (hp.mem_iff.1 hx);have nd:=hp.nodup_iff.2 h.nd;have key:((takeA n k C).A.Pairwise (fun x y=>bZ n C.F x<bZ n C.F y))/\(∀x,x∈(takeA n k C).A->((k+1:Nat):Int)<=bZ n C.F x)/\(takeA n k C).B=C.B/\(∀x,x∈(takeA n k C).N->bZ n C.F x=k)/\(takeA n k C).O=C.O:=by
  obtain ⟨F,A,B,N,O,q⟩:=C;have a1:=h.a1;have a2:=h.a2;have n1:=h.n1;simp only at a1 a2 n1;unfold takeA;rcases A with _|⟨x,t⟩
  ·exact ⟨List.Pairwise.nil,fun x hx=>by (cases hx),rfl,n1,rfl⟩
  ·simp only;rw [List.pairwise_cons] at a1;have hx:=a2 x σ
   split
   ·rename_i hd
    refine ⟨a1.2,fun y hy=>?_,rfl,fun y hy=>?_,rfl⟩
    ·have:=a1.1 y hy;omega
    ·simp only at hy;rcases τ.1 hy with hy|hy
     ·exact n1 y hy
     ·simp at hy;subst hy;exact hd
   ·rename_i hd
    refine ⟨List.pairwise_cons.2 a1,fun y hy=>?_,rfl,n1,rfl⟩;rcases ρ.1 hy with rfl|hy
    ·omega
    ·have:=a1.1 y hy;omega
 obtain ⟨k1,k2,k3,k4,k5⟩:=key;rw [←hF] at k1 k2 k4;exact ⟨by rw [hF];exact h.f,fun x hx=>by rw [hF];exact rt x hx,nd,k1,k2,by rw [k3,hF];exact h.b1,by rw [k3,hF];exact h.b2,k4,by rw [k5,hF];exact h.o1,by rw [k5,hF];exact h.o2⟩
theorem DD {n k:Nat} {C:CC} (h:G n (k+1) k k k C):G n (k+1) (k+1) k k (takeB n k C):=by
 have hp:=qJ n k C;have hF:=Mt n k C;have rt:=fun x (hx:x∈(takeB n k C).L)=>h.rt x (hp.mem_iff.1 hx);have nd:=hp.nodup_iff.2 h.nd;have key:((takeB n k C).B.Pairwise (fun x y=>bZ n C.F x<bZ n C.F y))/\(∀x,x∈(takeB n k C).B->((k+1:Nat):Int)<=bZ n C.F x)/\(takeB n k C).A=C.A/\(∀x,x∈(takeB n k C).N->bZ n C.F x=k)/\(takeB n k C).O=C.O:=by
  obtain ⟨F,A,B,N,O,q⟩:=C;have a1:=h.b1;have a2:=h.b2;have n1:=h.n1;simp only at a1 a2 n1;unfold takeB;rcases B with _|⟨x,t⟩
  ·exact ⟨List.Pairwise.nil,fun x hx=>by (cases hx),rfl,n1,rfl⟩
  ·simp only;rw [List.pairwise_cons] at a1;have hx:=a2 x σ
   split
   ·rename_i hd
    refine ⟨a1.2,fun y hy=>?_,rfl,fun y hy=>?_,rfl⟩
    ·have:=a1.1 y hy;omega
    ·simp only at hy;rcases τ.1 hy with hy|hy
     ·exact n1 y hy
     ·simp at hy;subst hy;exact hd
   ·rename_i hd
    refine ⟨List.pairwise_cons.2 a1,fun y hy=>?_,rfl,n1,rfl⟩;rcases ρ.1 hy with rfl|hy
    ·omega
    ·have:=a1.1 y hy;omega
 obtain ⟨k1,k2,k3,k4,k5⟩:=key;rw [←hF] at k1 k2 k4;exact ⟨by rw [hF];exact h.f,fun x hx=>by rw [hF];exact rt x hx,nd,by rw [k3,hF];exact h.a1,by rw [k3,hF];exact h.a2,k1,k2,k4,by rw [k5,hF];exact h.o1,by rw [k5,hF];exact h.o2⟩
theorem EM {n k:Nat} {C:CC} (h:G n (k+1) (k+1) k k C):G n (k+1) (k+1) k (k+1) (fe C):=by
 have hp:=qC C;have hF:=L9 C;have rt:=fun x (hx:x∈(fe C).L)=>h.rt x (hp.mem_iff.1 hx);have nd:=hp.nodup_iff.2 h.nd;have key:(fe C).A=C.A/\(fe C).B=C.B/\(∀x,x∈(fe C).N->x∈C.N)/\((fe C).O=C.O\/∃x,x∈C.N/\(fe C).O=C.O++[x]):=by
  unfold fe
  split
  ·rename_i x hx
   exact ⟨rfl,rfl,fun y hy=>by (cases hy),Β ⟨x,by rw [hx];simp,rfl⟩⟩
  ·rename_i x y z hx
   exact ⟨rfl,rfl,fun u hu=>by rw [hx];exact Λ _ hu,Β ⟨x,by rw [hx];simp,rfl⟩⟩
  ·exact ⟨rfl,rfl,fun y hy=>hy,Α rfl⟩
 obtain ⟨k1,k2,k3,k4⟩:=key;refine ⟨by rw [hF];exact h.f,fun x hx=>by rw [hF];exact rt x hx,nd,by rw [k1,hF];exact h.a1,by rw [k1,hF];exact h.a2,by rw [k2,hF];exact h.b1,by rw [k2,hF];exact h.b2,fun x hx=>by rw [hF];exact h.n1 x (k3 x hx),?_,?_⟩
 ·rw [hF];rcases k4 with e|⟨x,hx,e⟩
  ·rw [e];exact h.o1
  ·rw [e,List.pairwise_append];exact ⟨h.o1,List.pairwise_singleton _ _,fun y hy z hz=>by simp at hz;subst hz;rw [h.n1 z hx];exact h.o2 y hy⟩
 ·rw [hF];intro y hy;rcases k4 with e|⟨x,hx,e⟩
  ·rw [e] at hy;have:=h.o2 y hy;omega
  ·rw [e] at hy;rcases τ.1 hy with hy|hy
   ·have:=h.o2 y hy;omega
   ·simp at hy;subst hy;rw [h.n1 y hx];omega
theorem zI {C:CC} (h:C.N.length<=3):(fe C).N=[]\/∃x y,(fe C).N=[x,y]:=by
 obtain ⟨F,A,B,N,O,q⟩:=C;simp only at h
 match N,h with
 | [],_=>exact Α rfl
 | [x],_=>exact Α rfl
 | [x,y],_=>exact Β ⟨x,y,rfl⟩
 | [x,y,z],_=>exact Β ⟨y,z,rfl⟩
 | _::_::_::_::_,h=>simp at h;try omega
theorem dZ (n:Nat) (F:CF) {x:Nat} (hx:x<n):bZ n F x=(F.k x).length:=by unfold bZ;rw [Δ ω];simp
theorem vX (n:Nat) (F:CF) {a b:Nat} (ha:a<n) (x:Int) (hx:0<=x/\x<n):bZ n (gQ F a b) x=if x=a then bZ n F a+1 else bZ n F x:=by
 obtain ⟨y,rfl⟩:=Int.eq_ofNat_of_zero_le hx.1;have hy:y<n:=ω;rw [dZ _ _ hy,dZ _ _ ha,dZ _ _ hy];unfold gQ;simp only
 by_cases e:y=a
 ·subst e;simp
 ·rw [Γ e,Γ ω]
theorem Kq {n k:Nat} {C:CC} (h:G n (k+1) (k+1) k (k+1) C) {x y:Int} (hN:C.N=[x,y]):∃a b:Nat,x=a/\y=b/\a<n/\b<n/\a≠b/\C.F.u a=-1/\C.F.u b=-1/\(C.F.k a).length=k/\(C.F.k b).length=k:=by
 have hx:=h.rt x (by unfold CC.L;rw [hN];simp);have hy:=h.rt y (by unfold CC.L;rw [hN];simp);have dx:=h.n1 x (by rw [hN];simp);have dy:=h.n1 y (by rw [hN];simp);obtain ⟨a,rfl⟩:=Int.eq_ofNat_of_zero_le hx.1;obtain ⟨b,rfl⟩:=Int.eq_ofNat_of_zero_le hy.1;have ha:a<n:=ω;have hb:b<n:=ω;rw [dZ _ _ ha] at dx;rw [dZ _ _ hb] at dy;refine ⟨a,b,rfl,rfl,ha,hb,fun e=>?_,by simpa using hx.2.2,by simpa using hy.2.2,ω,ω⟩;subst e;have:=h.nd;unfold CC.L at this;rw [hN] at this;rw [θ] at this;have:=this.2.1;rw [θ] at this;have:=this.2.1;simp at this
theorem Pb (lt:Int->Int->Bool) (a b:Nat):(jF lt a b=a/\mJ lt a b=b)\/(jF lt a b=b/\mJ lt a b=a):=by
 unfold jF mJ
 split
 ·exact Β ⟨rfl,rfl⟩
 ·exact Α ⟨rfl,rfl⟩
theorem ZE {lt:Int->Int->Bool} {n k:Nat} {C:CC} (h:G n (k+1) (k+1) k (k+1) C) (hN:C.N=[]\/∃x y,C.N=[x,y]):G n (k+1) (k+1) (k+1) (k+1) (mP lt C)/\(mP lt C).N.length<=1/\(mP lt C).q+(mP lt C).L.length=C.q+C.L.length:=by
 rcases hN with hN|⟨x,y,hN⟩
 ·have e:mP lt C=C:=by unfold mP;rw [hN]
  rw [e];exact ⟨⟨h.f,h.rt,h.nd,h.a1,h.a2,h.b1,h.b2,fun x hx=>(by rw [hN] at hx;cases hx),h.o1,h.o2⟩,by rw [hN];simp,rfl⟩
 ·obtain ⟨a,b,rfl,rfl,ha,hb,hne,ra,rb,da,db⟩:=Kq h hN;have e:mP lt C={ C with F:=gQ C.F (jF lt a b) (mJ lt a b),N:=[(jF lt a b:Int)],q:=C.q+1 }:=by unfold mP;rw [hN];simp
  have hm:∀z,z∈C.A++(C.B++C.O)->z∈C.L/\z≠a/\z≠b:=fun z hz=>by
   have hnd:=h.nd;unfold CC.L at hnd ⊢;rw [hN] at hnd ⊢;have hp:(C.A++(C.B++([(a:Int),(b:Int)]++C.O))).Perm ((a:Int)::(b:Int)::(C.A++(C.B++C.O))):=by
    rw [List.perm_iff_count];intro y;simp [List.count_append,List.count_cons];omega
   have DF:=hp.nodup_iff.1 hnd;rw [Ζ,Ζ] at DF;refine ⟨hp.mem_iff.2 (Λ _ (Λ _ hz)),fun e=>?_,fun e=>?_⟩
   ·subst e;exact DF.1 (Λ _ hz)
   ·subst e;exact DF.2.1 hz
  have hmA:∀z,z∈C.A->z∈C.A++(C.B++C.O):=fun z hz=>by simp [hz]
  have hmB:∀z,z∈C.B->z∈C.A++(C.B++C.O):=fun z hz=>by simp [hz]
  have hmO:∀z,z∈C.O->z∈C.A++(C.B++C.O):=fun z hz=>by simp [hz]
  obtain ⟨hi,lo,ehi,elo,hhi,hlo,hne2,rhi,rlo,dhi,dlo,Y4⟩:∃hi lo,jF lt a b=hi/\mJ lt a b=lo/\hi<n/\lo<n/\hi≠lo/\C.F.u hi=-1/\C.F.u lo=-1/\(C.F.k hi).length=k/\(C.F.k lo).length=k/\((hi=a/\lo=b)\/(hi=b/\lo=a)):=by
   rcases Pb lt a b with ⟨h1,h2⟩|⟨h1,h2⟩
   ·exact ⟨a,b,h1,h2,ha,hb,hne,ra,rb,da,db,Α ⟨rfl,rfl⟩⟩
   ·exact ⟨b,a,h1,h2,hb,ha,Ne.symm hne,rb,ra,db,da,Β ⟨rfl,rfl⟩⟩
  have Et:∀z,z∈C.A++(C.B++C.O)->z≠(hi:Int)/\z≠(lo:Int):=fun z hz=>by
   have:=hm z hz;rcases Y4 with ⟨rfl,rfl⟩|⟨rfl,rfl⟩
   ·exact this.2
   ·exact ⟨this.2.2,this.2.1⟩
  have D9:∀z,z∈C.A++(C.B++C.O)->bZ n (gQ C.F hi lo) z=bZ n C.F z:=fun z hz=>by
   have hr:=h.rt z (hm z hz).1;rw [vX n C.F hhi z ⟨hr.1,hr.2.1⟩,Γ (Et z hz).1]
  rw [e,ehi,elo];have hL:(CC.L { C with F:=gQ C.F hi lo,N:=[(hi:Int)],q:=C.q+1 }).Perm ((hi:Int)::(C.A++(C.B++C.O))):=by
   unfold CC.L;simp only;rw [List.perm_iff_count];intro y;simp [List.count_append,List.count_cons];omega
  refine ⟨⟨h.f.link hhi hlo hne2 rhi rlo (by rw [dhi,dlo]),fun z hz=>?_,hL.nodup_iff.2 (List.nodup_cons.2 ⟨fun hm2=>(Et _ hm2).1 rfl,?_⟩),?_,?_,?_,?_,?_,?_,?_⟩,σ,?_⟩
  ·rcases ρ.1 (hL.mem_iff.1 hz) with rfl|hz
   ·refine ⟨ω,ω,?_⟩;unfold gQ;simp only [π];rw [Γ hne2];exact rhi
   ·have hr:=h.rt z (hm z hz).1;refine ⟨hr.1,hr.2.1,?_⟩;unfold gQ;simp only;rw [Γ (fun e=>by have:=(Et z hz).2;omega)];exact hr.2.2
  ·have hnd:=h.nd;unfold CC.L at hnd;rw [hN] at hnd;have hp:(C.A++(C.B++([(a:Int),(b:Int)]++C.O))).Perm ((a:Int)::(b:Int)::(C.A++(C.B++C.O))):=by
    rw [List.perm_iff_count];intro y;simp [List.count_append,List.count_cons];omega
   have DF:=hp.nodup_iff.1 hnd;rw [Ζ,Ζ] at DF;exact DF.2.2
  ·exact h.a1.imp_of_mem (fun {x y} hx hy hxy=>by rw [D9 x (hmA x hx),D9 y (hmA y hy)];exact hxy)
  ·intro x hx
   show _<=bZ n (gQ C.F hi lo) x
   rw [D9 x (hmA x hx)];exact h.a2 x hx
  ·exact h.b1.imp_of_mem (fun {x y} hx hy hxy=>by rw [D9 x (hmB x hx),D9 y (hmB y hy)];exact hxy)
  ·intro x hx
   show _<=bZ n (gQ C.F hi lo) x
   rw [D9 x (hmB x hx)];exact h.b2 x hx
  ·intro x hx;simp at hx;subst hx
   show bZ n (gQ C.F hi lo) (hi:Int)=_
   rw [vX n C.F hhi hi ω,Δ rfl,dZ n C.F hhi,dhi];omega
  ·exact h.o1.imp_of_mem (fun {x y} hx hy hxy=>by rw [D9 x (hmO x hx),D9 y (hmO y hy)];exact hxy)
  ·intro x hx
   show bZ n (gQ C.F hi lo) x<_
   rw [D9 x (hmO x hx)];exact h.o2 x hx
  ·unfold CC.L;simp only [υ,Ω,List.length_nil,hN];omega
theorem Gd {lt:Int->Int->Bool} {n:Nat} {C0:CC} (h:G n 0 0 0 0 C0) (hN:C0.N=[]):∀k,G n k k k k (gG lt n k C0)/\(gG lt n k C0).N.length<=1/\(gG lt n k C0).q+(gG lt n k C0).L.length=C0.q+C0.L.length
 | 0=>⟨h,by rw [gG,hN];simp,rfl⟩
 | k+1=>by
  obtain ⟨g,h1,h2⟩:=Gd (lt:=lt) h hN k;have g1:=Eu g;have g2:=DD g1;have g3:=EM g2;have t1:=(yf n k (gG lt n k C0)).2;have t2:=(xO n k (takeA n k (gG lt n k C0))).2;have ev:=zI (C:=takeB n k (takeA n k (gG lt n k C0))) ω;obtain ⟨g4,h3,h4⟩:=ZE (lt:=lt) g3 ev;refine ⟨g4,h3,?_⟩;rw [gG];unfold GU;rw [h4,Uq,(qC _).length_eq,(qJ _ _ _).length_eq,(qP _ _ _).length_eq];exact h2
def wt (n:Nat) (F:CF) (l:List Int):Nat:=(l.map (fun x=>2 ^ (bZ n F x).toNat)).sum
theorem Dy {n:Nat} {F:CF} {l m:List Int} (h:l.Perm m):wt n F l=wt n F m:=by
 unfold wt;exact (h.map _).sum_nat
theorem AB {n:Nat} {F F':CF} {l:List Int} (h:∀x,x∈l->bZ n F x=bZ n F' x):wt n F l=wt n F' l:=by
 unfold wt
 congr 1
 exact List.map_congr_left (fun x hx=>by rw [h x hx])
structure RI (lt:Int->Int->Bool) (n:Nat) (C0 C:CC):Prop where
 sub:∀x,x∈C.L->x∈C0.L
 out:∀x:Nat,(x:Int)∉C0.L->C.F.u x=C0.F.u x/\C.F.k x=C0.F.k x
 wt:wt n C.F C.L=wt n C0.F C0.L
 nl:∀y p:Nat,y<n->C.F.u y=p->C0.F.u y=p\/((y:Int)∈C0.L/\(p:Int)∈C0.L/\y≠p/\lt y p=false)
 ro:∀y:Nat,(y:Int)∈C0.L->(y:Int)∈C.L\/∃p:Nat,p<n/\C.F.u y=p
theorem RI.refl (lt:Int->Int->Bool) (n:Nat) (C:CC):RI lt n C C:=⟨fun x h=>h,fun x _=>⟨rfl,rfl⟩,rfl,fun y p _ h=>Α h,fun y h=>Α h⟩
theorem RI.trans {lt:Int->Int->Bool} {n:Nat} {A B C:CC} (h:RI lt n A B) (k:RI lt n B C):RI lt n A C:=
 ⟨fun x hx=>h.sub x (k.sub x hx),fun x hx=>by
  have h1:=h.out x hx;have h2:=k.out x (fun hm=>hx (h.sub _ hm));exact ⟨h2.1.trans h1.1,h2.2.trans h1.2⟩,k.wt.trans h.wt,fun y p hy hu=>by
  rcases k.nl y p hy hu with h1|⟨h1,h2,h3,h4⟩
  ·exact h.nl y p hy h1
  ·exact Β ⟨h.sub _ h1,h.sub _ h2,h3,h4⟩,fun y hy=>by
  by_cases hB:(y:Int)∈B.L
  ·exact k.ro y hB
  ·rcases h.ro y hy with h1|⟨p,hp,h1⟩
   ·exact absurd h1 hB
   ·exact Β ⟨p,hp,by rw [(k.out y hB).1];exact h1⟩⟩
theorem RI.perm {lt:Int->Int->Bool} {n:Nat} {C D:CC} (hp:D.L.Perm C.L) (hF:D.F=C.F):RI lt n C D:=
 ⟨fun x hx=>hp.mem_iff.1 hx,fun x _=>by rw [hF];exact ⟨rfl,rfl⟩,by rw [hF];exact Dy hp,fun y p _ h=>by rw [hF] at h;exact Α h,fun y h=>Α (hp.mem_iff.2 h)⟩
theorem UY {lt:Int->Int->Bool} {n k:Nat} {C:CC} (has:∀a b,lt a b=true->lt b a=false) (h:G n (k+1) (k+1) k (k+1) C) (hN:C.N=[]\/∃x y,C.N=[x,y]):RI lt n C (mP lt C):=by
 rcases hN with hN|⟨x,y,hN⟩
 ·have e:mP lt C=C:=by unfold mP;rw [hN]
  rw [e];exact RI.refl _ _ _
 ·obtain ⟨a,b,rfl,rfl,ha,hb,hne,ra,rb,da,db⟩:=Kq h hN;have e:mP lt C={ C with F:=gQ C.F (jF lt a b) (mJ lt a b),N:=[(jF lt a b:Int)],q:=C.q+1 }:=by unfold mP;rw [hN];simp
  rw [e];obtain ⟨hi,lo,ehi,elo,hhi,hlo,hne2,dhi,dlo,hah,Y4⟩:∃hi lo,jF lt a b=hi/\mJ lt a b=lo/\hi<n/\lo<n/\hi≠lo/\(C.F.k hi).length=k/\(C.F.k lo).length=k/\lt lo hi=false/\((hi=a/\lo=b)\/(hi=b/\lo=a)):=by
   unfold jF mJ
   by_cases hab:lt b a=true
   ·rw [Δ hab,Δ hab];exact ⟨b,a,rfl,rfl,hb,ha,Ne.symm hne,db,da,has _ _ hab,Β ⟨rfl,rfl⟩⟩
   ·rw [Γ hab,Γ hab];exact ⟨a,b,rfl,rfl,ha,hb,hne,da,db,by simpa using hab,Α ⟨rfl,rfl⟩⟩
  have PS:C.L.Perm ((hi:Int)::(lo:Int)::(C.A++(C.B++C.O))):=by
   unfold CC.L;rw [hN,List.perm_iff_count];intro y;rcases Y4 with ⟨rfl,rfl⟩|⟨rfl,rfl⟩<;>simp [List.count_append,List.count_cons]<;>omega
  have hL:(CC.L { C with F:=gQ C.F hi lo,N:=[(hi:Int)],q:=C.q+1 }).Perm ((hi:Int)::(C.A++(C.B++C.O))):=by
   unfold CC.L;simp only;rw [List.perm_iff_count];intro y;simp [List.count_append,List.count_cons];omega
  have DF:=PS.nodup_iff.1 h.nd;rw [Ζ,Ζ] at DF;rw [ehi,elo];refine ⟨fun x hx=>PS.mem_iff.2 ?_,fun x hx=>?_,?_,fun y p hy hu=>?_,fun y hy=>?_⟩
  ·rcases ρ.1 (hL.mem_iff.1 hx) with rfl|hx
   ·simp
   ·exact Λ _ (Λ _ hx)
  ·unfold gQ;simp only;rw [Γ (fun e=>hx (by subst e;exact PS.mem_iff.2 σ)),Γ (fun e=>hx (by subst e;exact PS.mem_iff.2 σ))];exact ⟨rfl,rfl⟩
  ·rw [Dy hL,Dy PS];have hd:∀z,z∈C.A++(C.B++C.O)->bZ n (gQ C.F hi lo) z=bZ n C.F z:=fun z hz=>by
    have hr:=h.rt z (PS.mem_iff.2 (Λ _ (Λ _ hz)));rw [vX n C.F hhi z ⟨hr.1,hr.2.1⟩,Γ (fun e=>by subst e;exact DF.1 (Λ _ hz))]
   have e1:=AB hd;have e2:bZ n (gQ C.F hi lo) (hi:Int)=(k:Int)+1:=by rw [vX n C.F hhi hi ω,Δ rfl,dZ n C.F hhi,dhi]
   have e3:bZ n C.F (hi:Int)=(k:Int):=by rw [dZ n C.F hhi,dhi]
   have e4:bZ n C.F (lo:Int)=(k:Int):=by rw [dZ n C.F hlo,dlo]
   have:∀ (F:CF) (x:Int) (l:List Int),wt n F (x::l)=2 ^ (bZ n F x).toNat + wt n F l:=fun F x l=>by unfold wt;simp
   rw [this,this,this,e1,e2,e3,e4];have e5:((k:Int)+1).toNat=k+1:=ω;rw [e5,π,Nat.pow_succ];omega
  ·unfold gQ at hu;simp only at hu
   split at hu
   ·rename_i e
    subst e;obtain rfl:hi=p:=ω;exact Β ⟨PS.mem_iff.2 σ,PS.mem_iff.2 σ,Ne.symm hne2,hah⟩
   ·exact Α hu
  ·rcases ρ.1 (PS.mem_iff.1 hy) with e|hy
   ·exact Α (hL.mem_iff.2 (by rw [e];simp))
   ·rcases ρ.1 hy with e|hy
    ·refine Β ⟨hi,hhi,?_⟩;unfold gQ;simp only;rw [Δ ω]
    ·exact Α (hL.mem_iff.2 (Λ _ hy))
theorem JJ {lt:Int->Int->Bool} {n:Nat} {C0:CC} (has:∀a b,lt a b=true->lt b a=false) (h:G n 0 0 0 0 C0) (hN:C0.N=[]):∀k,RI lt n C0 (gG lt n k C0)
 | 0=>RI.refl _ _ _
 | k+1=>by
  obtain ⟨g,h1,h2⟩:=Gd (lt:=lt) h hN k;have g1:=Eu g;have g2:=DD g1;have g3:=EM g2;have t1:=(yf n k (gG lt n k C0)).2;have t2:=(xO n k (takeA n k (gG lt n k C0))).2;have ev:=zI (C:=takeB n k (takeA n k (gG lt n k C0))) ω;have r4:=UY has g3 ev;exact ((((JJ has h hN k).trans (RI.perm (qP n k _) (Lb n k _))).trans (RI.perm (qJ n k _) (Mt n k _))).trans (RI.perm (qC _) (L9 _))).trans r4
theorem g_ok {lt:Int->Int->Bool} {n:Nat} {C0:CC} {dom:Int->Prop} (has:∀a b,lt a b=true->lt b a=false) (hdm:∀x,x∈C0.L->dom x) (h:G n 0 0 0 0 C0) (hN:C0.N=[]) (hn:n<=65536) (hq:C0.q<=900000) (k:Nat):Lg dom lt n k (gG lt n k C0):=by
 obtain ⟨g,h1,h2⟩:=Gd (lt:=lt) h hN k;have hL0:C0.L.length<=n:=rG n _ h.nd (fun x hx=>by have:=h.rt x hx;omega);have hL:(gG lt n k C0).L.length<=n:=rG n _ g.nd (fun x hx=>by have:=g.rt x hx;omega);have hLL:(gG lt n k C0).L.length=(gG lt n k C0).A.length+((gG lt n k C0).B.length+((gG lt n k C0).N.length+(gG lt n k C0).O.length)):=by unfold CC.L;simp
 have dn:∀x,x∈(gG lt n k C0).L->bZ n (gG lt n k C0).F x<=n:=fun x hx=>by
  have hr:=g.rt x hx;obtain ⟨y,rfl⟩:=Int.eq_ofNat_of_zero_le hr.1;have hy:y<n:=ω;rw [dZ _ _ hy];have:=g.f.len hy;omega
 refine ⟨h1,fun x y hxy=>?_,ω,ω,fun hne=>?_⟩
 ·have g3:=EM (DD (Eu g));obtain ⟨a,b,e1,e2,ha,hb,hab,ra,rb,da,db⟩:=Kq g3 hxy;have hsub:∀z,z∈(fe (takeB n k (takeA n k (gG lt n k C0)))).L->dom z:=fun z hz=>hdm z ((JJ has h hN k).sub z ((qP n k _).mem_iff.1 ((qJ n k _).mem_iff.1 ((qC _).mem_iff.1 hz))));have da':dom (a:Int):=by rw [←e1];exact hsub x (by unfold CC.L;rw [hxy];simp)
  have db':dom (b:Int):=by rw [←e2];exact hsub y (by unfold CC.L;rw [hxy];simp)
  refine ⟨a,b,e1,e2,da',db',ha,hb,hab,?_,?_,?_,g3.f.len ha,g3.f.len hb⟩
  ·unfold zM;rw [Ν ω];simp [ra]
  ·unfold zM;rw [Ν ω];simp [rb]
  ·rw [dZ _ _ ha,dZ _ _ hb,da,db]
 ·rcases hne with hne|hne|hne
  ·obtain ⟨x,t,e⟩:=List.exists_cons_of_ne_nil hne;have h3:=g.a2 x (by rw [e];simp);have h4:=dn x (by unfold CC.L;rw [e];simp);omega
  ·obtain ⟨x,t,e⟩:=List.exists_cons_of_ne_nil hne;have h3:=g.b2 x (by rw [e];simp);have h4:=dn x (by unfold CC.L;rw [e];simp);omega
  ·obtain ⟨x,t,e⟩:=List.exists_cons_of_ne_nil hne;have h3:=g.n1 x (by rw [e];simp);have h4:=dn x (by unfold CC.L;rw [e];simp);omega
end Go.Proofs.YtklibcncmbofpaaGreat
namespace Go.Proofs.YtklibcncmbofpaaGreat
open Go Go.RowKit
def lq (n:Nat) (F:CF) (l:List Int):Prop:=(∀x,x∈l->0<=x/\x<n/\F.u x.toNat=-1)/\l.Pairwise (fun x y=>bZ n F x<bZ n F y)
theorem Dh (n:Nat) (F:CF) (x:Int):zM n F x=true↔0<=x/\x<n/\F.u x.toNat=-1:=by
 unfold zM;simp only [Τ,Ο,beq_iff_eq];exact ⟨fun h=>⟨h.1.1,h.1.2,h.2⟩,fun h=>⟨⟨h.1,h.2.1⟩,h.2.2⟩⟩
theorem mF {l:List Int} {i:Nat} (h:i<l.length):l.getD i 0=l[i]:=by simp [φ,h]
theorem FQ (n:Nat) (S:CS) (l:List Int):OD n S l=true↔lq n S.f l:=by
 unfold OD wR rowOk;simp only [YM,XZ];rw [List.all_eq_true];simp only [List.mem_range,Τ,Bool.or_eq_true,beq_iff_eq,Ο];constructor
 ·intro h;refine ⟨fun x hx=>?_,?_⟩
  ·obtain ⟨i,hi,rfl⟩:=List.getElem_of_mem hx;have:=(h i hi).1;rw [mF hi] at this;exact (Dh n S.f _).1 this
  ·rw [List.pairwise_iff_getElem];have key:∀ (d i:Nat) (hi:i<l.length) (hj:i+d+1<l.length),bZ n S.f l[i]<bZ n S.f l[i+d+1]:=fun d=>by
    induction d with
    | zero=>
     intro i hi hj;rcases (h (i+1) hj).2 with h2|h2
     ·omega
     ·rw [Nat.add_sub_cancel,mF hi,mF hj] at h2;exact ϡ h2
    | succ d ih=>
     intro i hi hj;have h1:=ih i hi ω;rcases (h (i+d+1+1) ω).2 with h2|h2
     ·omega
     ·rw [Nat.add_sub_cancel,mF (show i+d+1<l.length by omega),mF (show i+d+1+1<l.length by omega)] at h2;exact Int.lt_trans h1 (ϡ h2)
   intro i j hi hj hij;have:=key (j-i-1) i hi ω;simpa [show i+(j-i-1)+1=j by omega] using this
 ·rintro ⟨h1,h2⟩ i hi;refine ⟨?_,?_⟩
  ·rw [mF hi];exact (Dh n S.f _).2 (h1 _ (ϙ hi))
  ·rcases Nat.eq_zero_or_pos i with h0|h0
   ·exact Α h0
   ·rw [mF hi,mF (show i-1<l.length by omega)];exact Β (Ν ((List.pairwise_iff_getElem.1 h2) (i-1) i ω hi ω))
theorem lq.nodup {n:Nat} {F:CF} {l:List Int} (h:lq n F l):l.Nodup:=h.2.imp (fun {a b} hab e=>by subst e;omega)
theorem any_false {A B:List Int}:A.any (fun x=>decide (x∈B))=false↔∀x,x∈A->x∉B:=by
 rw [List.any_eq_false];simp
theorem Lp {n:Nat} {F:CF} {A B:List Int} {q:Nat} (f:ou n F) (hA:lq n F A) (hB:lq n F B) (hd:∀x,x∈A->x∉B):G n 0 0 0 0 ⟨F,A,B,[],[],q⟩:=by
 have d0:∀x,0<=bZ n F x:=fun x=>by unfold bZ;split<;>omega
 refine ⟨f,fun x hx=>?_,?_,hA.2,fun x _=>by simpa using d0 x,hB.2,fun x _=>by simpa using d0 x,fun x hx=>(by cases hx),List.Pairwise.nil,fun x hx=>(by cases hx)⟩
 ·unfold CC.L at hx;simp only [Υ,τ] at hx;rcases hx with hx|hx
  ·exact hA.1 x hx
  ·exact hB.1 x hx
 ·unfold CC.L;simp only [Υ];rw [θ];exact ⟨hA.nodup,hB.nodup,fun x hx y hy e=>by subst e;exact hd x hx hy⟩
def CC.done (C:CC):Prop:=C.A=[]/\C.B=[]/\C.N=[]
instance (C:CC):Decidable C.done:=by unfold CC.done;exact inferInstance
theorem step_done {lt:Int->Int->Bool} {n k:Nat} {C:CC} (h:C.done):GU lt n k C=C:=by
 obtain ⟨F,A,B,N,O,q⟩:=C;obtain ⟨h1,h2,h3⟩:=h;simp only at h1 h2 h3;subst h1 h2 h3
 rfl
theorem zJ {lt:Int->Int->Bool} {n k:Nat} {C0:CC} (h:(gG lt n k C0).done):∀j,gG lt n (k+j) C0=gG lt n k C0
 | 0=>rfl
 | j+1=>by
  have ih:=zJ h j;rw [Nat.add_succ,gG,ih,step_done h]
theorem RY {lt:Int->Int->Bool} {n k m:Nat} {C0:CC} (hk:(gG lt n k C0).done) (hm:(gG lt n m C0).done):gG lt n k C0=gG lt n m C0:=by
 rcases Nat.le_total k m with h|h
 ·have:=zJ hk (m-k);rw [show k+(m-k)=m by omega] at this;exact this.symm
 ·have:=zJ hm (k-m);rw [show m+(k-m)=k by omega] at this;exact this
def wY (lt:Int->Int->Bool) (n:Nat) (C0:CC) (F:CF) (O:List Int) (q:Nat):Prop:=∃k,gG lt n k C0=⟨F,[],[],[],O,q⟩
theorem wY.eq {lt:Int->Int->Bool} {n:Nat} {C0:CC} {F:CF} {O:List Int} {q:Nat} (h:wY lt n C0 F O q) {m:Nat} (hm:(gG lt n m C0).done):gG lt n m C0=⟨F,[],[],[],O,q⟩:=by
 obtain ⟨k,hk⟩:=h;rw [←hk];exact RY hm (by rw [hk];exact ⟨rfl,rfl,rfl⟩)
structure FL (O:uJ) (w:World) (bt ba lo n:Nat) (S:CS) (q:Nat):Prop where
 f:aR w bt ba lo n S
 l:O.at_ w q
 a:Apart O bt ba n S
 t:bt<w.heap.size
 ok:ou n S.f
theorem NU (O:uJ) (bt ba lo n:Nat) (S:CS) (va vb:Value) (A B:List Int) (q:Nat) (w:World) (h:FL O w bt ba lo n S q)
  (ha:fw w (O.wr++ba::S.blk n) va A) (hb:fw w (O.wr++ba::S.blk n) vb B) (hA:lq n S.f A) (hB:lq n S.f B) (hd:∀x,x∈A->x∉B) (hq:q<=900000) (hdA:∀x,x∈A->O.dom x) (hdB:∀x,x∈B->O.dom x) :
  Calls Tryz.prog 194 #[.pointer (some ⟨bt,0,none⟩),.iface O.ty (.pointer (some ⟨O.p,0,none⟩)),va,vb] w fun e w'=>
   ∃S' vo X q',e=.returned (.tuple #[vo,.bool true])/\FL O w' bt ba lo n S' q'/\wY O.lt n ⟨S.f,A,B,[],[],q⟩ S'.f X q'/\G n 0 0 0 0 ⟨S.f,A,B,[],[],q⟩/\aW w' w.heap.size vo X/\fw w' (O.wr++ba::S'.blk n) vo X/\aa (O.wr++ba::S.blk n) w w'/\(∀g,g∈S'.blk n->g∈S.blk n\/w.heap.size<=g)/\(∀g,vo.ownBlock=some g->g∉S'.blk n):=by
 have g0:=Lp (q:=q) h.ok hA hB hd
 refine (OI O bt ba lo n S va vb A B q w h.f h.l h.a h.t ha hb ((FQ n S A).2 hA) ((FQ n S B).2 hB) (any_false.2 hd) (g_ok O.asym (fun x hx=>by
  have e:CC.L ⟨S.f,A,B,[],[],q⟩=A++B:=by unfold CC.L;simp
  rw [e] at hx;rcases τ.1 hx with hx|hx
  ·exact hdA x hx
  ·exact hdB x hx) g0 rfl h.f.le hq)).mono ?_
 rintro e w' ⟨k,vn,va',XW,vo,rfl,hM,e1,e2,e3⟩;have gk:=(Gd (lt:=O.lt) g0 rfl k).1;generalize hC:gG O.lt n k ⟨S.f,A,B,[],[],q⟩=C at *;obtain ⟨F,A1,B1,N1,O1,q1⟩:=C;simp only at e1 e2 e3;subst e1 e2 e3;obtain ⟨S',hS,hF,hAp,h4,h5,h6⟩:=hM.vz;simp only at hS;subst hS;have IM:=hM.old _ hM.LY.2;have hlt2:=hF.Mw;have hblk:∀g,g∈S'.blk n->g∈S.blk n\/w.heap.size<=g:=fun g hg=>by
  rcases h4 g hg with h'|h'
  ·rcases τ.1 h' with h'|h'
   ·exact absurd (O.sub _ h') (hAp.blk g hg)
   ·rcases ρ.1 h' with rfl|h'
    ·have:=(hF.nN hg).1;omega
    ·exact Α h'
  ·exact Β ω
 refine ⟨S',vo,O1,q1,rfl,⟨hF,hM.les,hAp,Ψ h.t hM.upd.size,gk.f⟩,⟨k,hC⟩,g0,hM.out.mono ω,?_,hM.upd,hblk,h6⟩;obtain ⟨a,cap,rfl,h1,h2,h3⟩:=hM.out.shape;refine ⟨a,cap,rfl,h1,h2,fun j u hj=>?_⟩;obtain ⟨g,off,rfl,hc⟩:=h3 j u hj;have hg:=hM.out.lt g rfl;refine ⟨g,off,rfl,hg.2,fun hm=>?_,hc⟩;rcases τ.1 hm with hm|hm
 ·have:=hM.k0 _ (O.sub _ hm);omega
 ·rcases ρ.1 hm with rfl|hm
  ·omega
  ·exact h6 g rfl hm
structure EJ (lt:Int->Int->Bool) (n:Nat) (F:CF) (A B:List Int) (q:Nat) (F':CF) (O:List Int) (q':Nat):Prop where
 row:lq n F' O
 ok:ou n F'
 cnt:q'+O.length=q+(A.length+B.length)
 sub:∀x,x∈O->x∈A\/x∈B
 out:∀x:Nat,(x:Int)∉A->(x:Int)∉B->F'.u x=F.u x/\F'.k x=F.k x
 wt:wt n F' O=wt n F A+wt n F B
 nl:∀y p:Nat,y<n->F'.u y=p->F.u y=p\/(((y:Int)∈A\/(y:Int)∈B)/\((p:Int)∈A\/(p:Int)∈B)/\y≠p/\lt y p=false)
 ro:∀y:Nat,((y:Int)∈A\/(y:Int)∈B)->(y:Int)∈O\/∃p:Nat,p<n/\F'.u y=p
theorem carried {lt:Int->Int->Bool} (has:∀a b,lt a b=true->lt b a=false) {n:Nat} {F:CF} {A B:List Int} {q:Nat} {F':CF} {O:List Int} {q':Nat} (g:G n 0 0 0 0 ⟨F,A,B,[],[],q⟩) (h:wY lt n ⟨F,A,B,[],[],q⟩ F' O q'):EJ lt n F A B q F' O q':=by
 obtain ⟨k,hk⟩:=h;have g1:=Gd (lt:=lt) g rfl k;have r:=JJ has g rfl k;rw [hk] at g1 r;obtain ⟨g1,_,g2⟩:=g1;have eL:CC.L ⟨F',[],[],[],O,q'⟩=O:=by unfold CC.L;simp
 have eL0:CC.L ⟨F,A,B,[],[],q⟩=A++B:=by unfold CC.L;simp
 have s:=r.sub;have o:=r.out;have w:=r.wt;rw [eL] at s w g2;rw [eL0] at s o w g2;refine ⟨⟨fun x hx=>g1.rt x (by rw [eL];exact hx),g1.o1⟩,g1.f,by simpa using g2,fun x hx=>by simpa using s x hx,fun x h1 h2=>o x (by simp;exact ⟨h1,h2⟩),?_,fun y p hy hu=>by have:=r.nl y p hy hu;rw [eL0] at this;simpa using this,fun y hy=>by have:=r.ro y (by rw [eL0];simpa using hy);rw [eL] at this;exact this⟩;rw [w];unfold wt;simp
end Go.Proofs.YtklibcncmbofpaaGreat
namespace Go.Proofs.YtklibcncmbofpaaGreat
def PH (l:List Int) (x y:Int):List Int:=l.map (fun z=>if z=x then y else z)
theorem ou.split {n:Nat} {S:CS} (h:ou n S.f) {x:Nat} (hx:x<n) (hr:S.u x=-1):ou n (gL S x).f:=by
 have nx:∀z,z<n->(x:Int)∉S.k z:=fun z hz hm=>by
  have:=(h.wK z hz _ hm).2.2;rw [π] at this;have e:S.f.u x=S.u x:=rfl;omega
 have uk:∀y z,y<n->z<n->(y:Int)∈S.k z->S.u y=z:=fun y z hy hz hm=>by
  have:=(h.wK z hz _ hm).2.2;rwa [π] at this
 refine ⟨fun z hz y hy=>?_,fun z hz=>?_,fun y hy=>?_,fun z hz i w hw=>?_⟩
 ·show 0<=y/\y<n/\(if ((y.toNat:Nat):Int)∈S.k x then (-1:Int) else S.u y.toNat)=z
  have hy':y∈(if z=x then ([]:List Int) else S.k z):=hy
  by_cases e:z=x
  ·rw [Δ e] at hy';cases hy'
  ·rw [Γ e] at hy';obtain ⟨h1,h2,h3⟩:=h.wK z hz y hy';refine ⟨h1,h2,?_⟩;rw [Γ (fun hm=>?_)]
   ·exact h3
   ·have:=uk y.toNat x ω hx hm;have e3:S.f.u y.toNat=S.u y.toNat:=rfl;omega
 ·show (if z=x then ([]:List Int) else S.k z).Nodup
  split
  ·exact Ϣ
  ·exact h.nd z hz
 ·show (if (y:Int)∈S.k x then (-1:Int) else S.u y)=-1\/∃p:Nat,p<n/\(if (y:Int)∈S.k x then (-1:Int) else S.u y)=p/\(y:Int)∈(if p=x then ([]:List Int) else S.k p)
  by_cases hm:(y:Int)∈S.k x
  ·rw [Δ hm];exact Α rfl
  ·rw [Γ hm];rcases h.up y hy with h1|⟨p,hp,h1,h2⟩
   ·exact Α h1
   ·refine Β ⟨p,hp,h1,?_⟩;rw [Γ (fun e=>by subst e;exact hm h2)];exact h2
 ·have hw':(if z=x then ([]:List Int) else S.k z)[i]?=some w:=hw
  show (if w.toNat=x then ([]:List Int) else S.k w.toNat).length=i
  by_cases e:z=x
  ·rw [Δ e] at hw';simp at hw'
  ·rw [Γ e] at hw';have hm:=Η hw';have hr:=h.wK z hz w hm;rw [Γ (fun e2=>nx z hz (by rw [←e2,show ((w.toNat:Nat):Int)=w by omega];exact hm))];exact h.xE z hz i w hw'
theorem yJ {l:List Int} (h:l.Nodup) (x y:Int) (hx:x∈l):PH l x y=setAt l x y:=by
 obtain ⟨i,hi,he,hxi⟩:=wh l x hx;unfold PH setAt;rw [he,π];apply List.ext_getElem σ;intro j h1 h2;rw [List.getElem_map,List.getElem_set];have hil:l[i]=x:=(List.getElem?_eq_some_iff.1 hxi).2
 by_cases e:i=j
 ·subst e;rw [Δ hil,Δ rfl]
 ·rw [Γ e,Γ (fun e2=>e ?_)];have hj:j<l.length:=by simpa using h1
  have hp:=List.pairwise_iff_getElem.1 (List.nodup_iff_pairwise_ne.1 h);rcases Nat.lt_trichotomy i j with h'|h'|h'
  ·exact absurd (hil.trans e2.symm) (hp i j hi hj h')
  ·exact h'
  ·exact absurd (e2.trans hil.symm) (hp j i hj hi h')
theorem oZ {l:List Int} (h:l.Nodup) {x y z:Int} (hx:x∈l):z∈setAt l x y↔z=y\/(z∈l/\z≠x):=by
 rw [←yJ h x y hx];unfold PH;rw [List.mem_map];constructor
 ·rintro ⟨w,hw,rfl⟩
  by_cases e:w=x
  ·rw [Δ e];exact Α rfl
  ·rw [Γ e];exact Β ⟨hw,e⟩
 ·rintro (rfl|⟨h1,h2⟩)
  ·exact ⟨x,hx,by rw [Δ rfl]⟩
  ·exact ⟨z,h1,by rw [Γ h2]⟩
theorem Hd {l:List Int} (h:l.Nodup) {x y z:Int} (hx:x∈l) {i:Nat} (hz:(setAt l x y)[i]?=some z):(l[i]?=some x/\z=y)\/(l[i]?=some z/\z≠x):=by
 rw [←yJ h x y hx] at hz;unfold PH at hz;rw [ϓ] at hz;cases hq:l[i]? with
 | none=>rw [hq] at hz;cases hz
 | some w=>
  rw [hq] at hz;simp at hz
  by_cases e:w=x
  ·rw [Δ e] at hz;subst e;exact Α ⟨rfl,hz.symm⟩
  ·rw [Γ e] at hz;subst hz;exact Β ⟨rfl,e⟩
theorem yB {l:List Int} (h:l.Nodup) {x y:Int} (hx:x∈l) (hy:y∉l):(setAt l x y).Nodup:=by
 rw [←yJ h x y hx];unfold PH;rw [List.nodup_iff_pairwise_ne,List.pairwise_map];refine (List.nodup_iff_pairwise_ne.1 h).imp_of_mem (fun {a b} ha hb hab=>?_)
 by_cases e1:a=x
 ·rw [Δ e1]
  by_cases e2:b=x
  ·exact absurd (e1.trans e2.symm) hab
  ·rw [Γ e2];intro e;subst e;exact hy hb
 ·rw [Γ e1]
  by_cases e2:b=x
  ·rw [Δ e2];intro e;subst e;exact hy ha
  ·rw [Γ e2];exact hab
theorem ou.lift {n:Nat} {S:CS} (h:ou n S.f) {x p:Nat} {above:Int} (ok:Bc n S x p above):ou n (gU S x p above).f:=by
 have hx:=ok.hx;have hp:=ok.hp;have hne:=ok.ne;have uk:∀y z:Nat,y<n->z<n->(y:Int)∈S.k z->S.u y=z:=fun y z hy hz hm=>by
  have:=(h.wK z hz _ hm).2.2;rwa [π] at this
 have rg:∀z,z<n->∀w,w∈S.k z->∃y:Nat,w=y/\y<n/\S.u y=z:=fun z hz w hw=>by
  obtain ⟨h1,h2,h3⟩:=h.wK z hz w hw;exact ⟨w.toNat,ω,ω,h3⟩
 have dg:∀y z:Nat,z<n->(y:Int)∈S.k z->(S.k y).length<(S.k z).length:=fun y z hz hm=>by
  obtain ⟨i,hi,he⟩:=List.getElem_of_mem hm;have hge:(S.k z)[i]?=some (y:Int):=by rw [ε hi,he]
  have:=h.xE z hz i (y:Int) hge;rw [π] at this;have abr:(S.k y).length=i:=this;have hi':i<(S.k z).length:=hi;omega
 have pk:(p:Int)∉S.k p:=h.self hp;have px:(p:Int)∉S.k x:=fun hm=>by
  have h1:=dg p x hx hm;have h2:=dg x p hp ok.mem;omega
 have ux:S.u x=p:=ok.up;have up:S.u p=above:=ok.ab;have nd:=h.nd p hp;have top:∀q:Nat,(q:Int)=above->q<n/\q≠x/\q≠p/\(p:Int)∈S.k q:=fun q hq=>by
  rcases ok.top with e|⟨q',e,h1,h2,h3,h4⟩
  ·omega
  ·obtain rfl:q=q':=ω;exact ⟨h1,h2,h3,h4⟩
 have K:∀z:Nat,(gU S x p above).f.k z=if z=x then setAt (S.k p) x p else if z=p then S.k x else if (z:Int)=above then setAt (S.k z) p x else S.k z:=fun z=>rfl;have U:∀z:Nat,(gU S x p above).f.u z=if z=x then above else if (z:Int)∈S.k x then (p:Int) else if (z:Int)∈setAt (S.k p) x p then (x:Int) else S.u z:=fun z=>rfl;have mo:∀z:Int,z∈setAt (S.k p) x p↔z=p\/(z∈S.k p/\z≠x):=fun z=>oZ nd ok.mem;have D:∀y:Nat,((gU S x p above).f.k y).length=if y=x then (S.k p).length else if y=p then (S.k x).length else (S.k y).length:=fun y=>by
  rw [K]
  split
  ·rw [kE]
  ·split
   ·rfl
   ·split
    ·rw [kE]
    ·rfl
 have U1:∀y:Nat,y<n->(y:Int)∈S.k x->(gU S x p above).f.u y=p:=fun y hy hm=>by
  rw [U,Γ (fun e=>by subst e;exact h.self hx hm),Δ hm]
 have U2:∀y:Nat,y<n->(y:Int)∈setAt (S.k p) x p->(gU S x p above).f.u y=x:=fun y hy hm=>by
  rcases (mo y).1 hm with e|⟨h1,h2⟩
  ·obtain rfl:y=p:=ω;rw [U,Γ (Ne.symm hne),Γ px,Δ hm]
  ·rw [U,Γ (fun e=>h2 (by rw [e])),Γ (fun hm2=>by have:=uk y x hy hx hm2;have:=uk y p hy hp h1;omega),Δ hm]
 have U3:∀y:Nat,y<n->y≠x->y≠p->S.u y≠x->S.u y≠p->(gU S x p above).f.u y=S.u y:=fun y hy h1 h2 h3 h4=>by
  rw [U,Γ h1,Γ (fun hm=>h3 (uk y x hy hx hm)),Γ (fun hm=>by
   rcases (mo y).1 hm with e|⟨h5,_⟩
   ·omega
   ·exact h4 (uk y p hy hp h5))]
 refine ⟨fun z hz w hw=>?_,fun z hz=>?_,fun y hy=>?_,fun z hz i w hw=>?_⟩
 ·rw [K] at hw
  split at hw
  ·rename_i e;subst e
   have PL:=hw;rcases (mo w).1 hw with rfl|⟨h1,h2⟩
   ·exact ⟨ω,ω,by rw [π];exact U2 p hp PL⟩
   ·obtain ⟨y,rfl,hy,_⟩:=rg p hp w h1;exact ⟨ω,ω,by rw [π];exact U2 y hy PL⟩
  ·rename_i hzx
   split at hw
   ·rename_i e;subst e
    obtain ⟨y,rfl,hy,_⟩:=rg x hx w hw;exact ⟨ω,ω,by rw [π];exact U1 y hy hw⟩
   ·rename_i hzp
    split at hw
    ·rename_i e
     obtain ⟨_,_,_,hm⟩:=top z e;rcases (oZ (h.nd z hz) hm).1 hw with rfl|⟨h1,h2⟩
     ·exact ⟨ω,ω,by rw [π,U,Δ rfl];exact e.symm⟩
     ·obtain ⟨y,rfl,hy,hu⟩:=rg z hz w h1;have hyx:y≠x:=fun e=>by subst e;omega
      exact ⟨ω,ω,by rw [π,U3 y hy hyx (fun e=>h2 (by rw [e])) ω ω];exact hu⟩
    ·rename_i hza
     obtain ⟨y,rfl,hy,hu⟩:=rg z hz w hw;have hyx:y≠x:=fun e=>by subst e;omega
     have hyp:y≠p:=fun e=>by subst e;omega
     exact ⟨ω,ω,by rw [π,U3 y hy hyx hyp ω ω];exact hu⟩
 ·rw [K]
  split
  ·exact yB nd ok.mem pk
  ·split
   ·exact h.nd x hx
   ·split
    ·rename_i e
     obtain ⟨h1,h2,h3,hm⟩:=top z e;exact yB (h.nd z hz) hm (fun hm2=>by have:=uk x z hx hz hm2;omega)
    ·exact h.nd z hz
 ·by_cases hyx:y=x
  ·subst hyx;rw [U,Δ rfl];rcases ok.top with e|⟨q,e,h1,h2,h3,h4⟩
   ·exact Α e
   ·refine Β ⟨q,h1,e,?_⟩;rw [K,Γ h2,Γ h3,Δ e.symm];exact (oZ (h.nd q h1) h4).2 (Α rfl)
  ·by_cases hm1:(y:Int)∈S.k x
   ·refine Β ⟨p,hp,U1 y hy hm1,?_⟩;rw [K,Γ (Ne.symm hne),Δ rfl];exact hm1
   ·by_cases hm2:(y:Int)∈setAt (S.k p) x p
    ·refine Β ⟨x,hx,U2 y hy hm2,?_⟩;rw [K,Δ rfl];exact hm2
    ·have e:(gU S x p above).f.u y=S.u y:=by rw [U,Γ hyx,Γ hm1,Γ hm2]
     rw [e];rcases h.up y hy with h1|⟨r,hr,h1,h2⟩
     ·exact Α h1
     ·refine Β ⟨r,hr,h1,?_⟩;have hrx:r≠x:=fun e=>by subst e;exact hm1 h2
      have hrp:r≠p:=fun e=>by subst e;exact hm2 ((mo y).2 (Β ⟨h2,fun e=>hyx ω⟩))
      rw [K,Γ hrx,Γ hrp]
      split
      ·rename_i e
       obtain ⟨_,_,_,hm⟩:=top r e;exact (oZ (h.nd r hr) hm).2 (Β ⟨h2,fun e2=>hm2 ((mo y).2 (Α e2))⟩)
      ·exact h2
 ·have other:∀ (z:Nat) (w:Int),z<n->z≠x->(S.k z)[i]?=some w->w≠p->w≠x->((gU S x p above).f.k w.toNat).length=i:=fun z w hz _ hw h1 h2=>by
   obtain ⟨y,rfl,hy,_⟩:=rg z hz w (Η hw);rw [π,D,Γ (fun e=>h2 (by rw [e])),Γ (fun e=>h1 (by rw [e]))];have:=h.xE z hz i (y:Int) hw;rwa [π] at this
  have xi:∀i,(S.k p)[i]?=some (x:Int)->(S.k x).length=i:=fun i hi=>by
   have:=h.xE p hp i (x:Int) hi;rwa [π] at this
  rw [K] at hw
  split at hw
  ·rename_i e;subst e
   rcases Hd nd ok.mem hw with ⟨h1,rfl⟩|⟨h1,h2⟩
   ·rw [π,D,Γ (Ne.symm hne),Δ rfl];exact xi i h1
   ·exact other p w hp (Ne.symm hne) h1 (fun e=>pk (by rw [←e];exact Η h1)) h2
  ·rename_i hzx
   split at hw
   ·rename_i e;subst e
    have hm:=Η hw;obtain ⟨y,rfl,hy,_⟩:=rg x hx w hm;rw [π,D,Γ (fun e=>by subst e;exact h.self hx hm),Γ (fun e=>by subst e;exact px hm)];have:=h.xE x hx i (y:Int) hw;rwa [π] at this
   ·rename_i hzp
    split at hw
    ·rename_i e
     obtain ⟨_,_,_,hm⟩:=top z e;rcases Hd (h.nd z hz) hm hw with ⟨h1,rfl⟩|⟨h1,h2⟩
     ·rw [π,D,Δ rfl];have:=h.xE z hz i (p:Int) h1;rwa [π] at this
     ·exact other z w hz hzx h1 h2 (fun e2=>by have:=uk x z hx hz (by rw [←e2];exact Η h1);omega)
    ·rename_i hza
     have hm:=Η hw;exact other z w hz hzx hw (fun e2=>by have:=uk p z hp hz (by rw [←e2];exact hm);omega) (fun e2=>by have:=uk x z hx hz (by rw [←e2];exact hm);omega)
theorem Mv {n:Nat} {S:CS} (h:ou n S.f) {x:Nat} (hx:x<n) {p:Nat} (hp:p<n) (hu:S.u x=p) (hm:(x:Int)∈S.k p):Bc n S x p (S.u p):=by
 have dg:∀y z:Nat,z<n->(y:Int)∈S.k z->(S.k y).length<(S.k z).length:=fun y z hz hm=>by
  obtain ⟨i,hi,he⟩:=List.getElem_of_mem hm;have hge:(S.k z)[i]?=some (y:Int):=by rw [ε hi,he]
  have:=h.xE z hz i (y:Int) hge;rw [π] at this;have abr:(S.k y).length=i:=this;omega
 refine ⟨hx,hp,fun e=>by subst e;exact h.self hx hm,hu,rfl,hm,fun k hk=>by have:=h.wK x hx k hk;omega,fun k hk=>by have:=h.wK p hp k hk;omega,?_⟩;rcases h.up p hp with h1|⟨q,hq,h1,h2⟩
 ·exact Α h1
 ·have d1:=dg x p hp hm;have d2:=dg p q hq h2;exact Β ⟨q,h1,hq,fun e=>by subst e;omega,fun e=>by subst e;omega,h2⟩
theorem P7 (S:CS) (x p:Nat) (above:Int) (y:Nat):((gU S x p above).k y).length=if y=x then (S.k p).length else if y=p then (S.k x).length else (S.k y).length:=by
 show (if y=x then setAt (S.k p) x p else if y=p then S.k x else if (y:Int)=above then setAt (S.k y) p x else S.k y).length=_
 split
 ·rw [kE]
 ·split
  ·rfl
  ·split
   ·rw [kE]
   ·rfl
structure FH (n:Nat) (F:CF) (bH:Nat->Int) (L:Nat->Nat->Prop):Prop where
 f:ou n F
 home:∀y p:Nat,y<n->F.u y=p->bH y=bH p/\0<bH y
 ord:∀y p:Nat,y<n->F.u y=p->L p y
 alone:∀y:Nat,y<n->¬0<bH y->F.u y=-1/\F.k y=[]
theorem ou.above {n:Nat} {F:CF} (h:ou n F) {y p:Nat} (hy:y<n) (hu:F.u y=p):p<n/\(y:Int)∈F.k p:=by
 rcases h.up y hy with h1|⟨q,hq,h1,h2⟩
 ·omega
 ·obtain rfl:q=p:=ω;exact ⟨hq,h2⟩
theorem ou.below {n:Nat} {F:CF} (h:ou n F) {p:Nat} (hp:p<n) {z:Int} (hz:z∈F.k p):∃y:Nat,z=y/\y<n/\F.u y=p/\(F.k y).length<(F.k p).length:=by
 obtain ⟨r1,r2,r3⟩:=h.wK p hp z hz;obtain ⟨i,hi,he⟩:=List.getElem_of_mem hz;have hc:=h.xE p hp i z (by rw [ε hi,he]);obtain ⟨y,rfl⟩:=Int.eq_ofNat_of_zero_le r1;rw [π] at r3 hc;exact ⟨y,rfl,ω,r3,ω⟩
theorem ou.O4 {n:Nat} {F:CF} (h:ou n F) {y p:Nat} (hy:y<n) (hu:F.u y=p):(F.k y).length<(F.k p).length:=by
 obtain ⟨h1,h2⟩:=h.above hy hu;obtain ⟨z,e,_,_,hd⟩:=h.below h1 h2;obtain rfl:y=z:=ω;exact hd
theorem lq.ext {n:Nat} {F F':CF} {l:List Int} (h:lq n F l) (e:∀x,x∈l->F'.u x.toNat=F.u x.toNat/\F'.k x.toNat=F.k x.toNat):lq n F' l:=by
 refine ⟨fun x hx=>?_,h.2.imp_of_mem (fun {a b} ha hb hab=>?_)⟩
 ·have:=h.1 x hx;exact ⟨this.1,this.2.1,by rw [(e x hx).1];exact this.2.2⟩
 ·unfold bZ at hab ⊢;rw [(e a ha).2,(e b hb).2];exact hab
theorem Vp {n:Nat} {F F':CF} {x:Int} (e:F'.k x.toNat=F.k x.toNat):bZ n F' x=bZ n F x:=by unfold bZ;rw [e]
theorem TK {n:Nat} {F:CF} {bH:Nat->Int} {L:Nat->Nat->Prop} {lt:Int->Int->Bool} {h:Int} {A0 B0:List Int} {q:Nat} {F':CF} {O:List Int} {q':Nat} (H:FH n F bH L)
  (hL:∀y p:Nat,y<n->p<n->bH y=h->bH p=h->y≠p->lt y p=false->L p y) (h1:1<=h)
  (m:∀y:Nat,y<n/\F.u y=-1/\bH y=h↔(y:Int)∈A0\/(y:Int)∈B0) (C:EJ lt n F A0 B0 q F' O q') :
  FH n F' bH L/\(∀y:Nat,(y:Int)∈O↔y<n/\F'.u y=-1/\bH y=h)/\(∀y:Nat,y<n->bH y≠h->F'.u y=F.u y/\F'.k y=F.k y):=by
 have far:∀y:Nat,y<n->bH y≠h->F'.u y=F.u y/\F'.k y=F.k y:=fun y hy hh=>C.out y (fun hm=>hh ((m y).2 (Α hm)).2.2) (fun hm=>hh ((m y).2 (Β hm)).2.2);have key:∀y p:Nat,y<n->F'.u y=p->F.u y=p\/(y<n/\p<n/\bH y=h/\bH p=h/\y≠p/\lt y p=false):=fun y p hy hu=>by
  rcases C.nl y p hy hu with e|⟨k1,k2,k3,k4⟩
  ·exact Α e
  ·have a1:=(m y).2 k1;have a2:=(m p).2 k2;exact Β ⟨hy,a2.1,a1.2.2,a2.2.2,k3,k4⟩
 refine ⟨⟨C.ok,fun y p hy hu=>?_,fun y p hy hu=>?_,fun y hy hh=>?_⟩,fun y=>⟨fun hm=>?_,fun hm=>?_⟩,far⟩
 ·rcases key y p hy hu with e|⟨_,_,k1,k2,_,_⟩
  ·exact H.home y p hy e
  ·rw [k1,k2];exact ⟨rfl,ω⟩
 ·rcases key y p hy hu with e|⟨k0,kp,k1,k2,k3,k4⟩
  ·exact H.ord y p hy e
  ·exact hL y p k0 kp k1 k2 k3 k4
 ·have:=far y hy ω;rw [this.1,this.2];exact H.alone y hy hh
 ·have r:=C.row.1 _ hm;have a:=(m y).2 (C.sub _ hm);exact ⟨a.1,by simpa using r.2.2,a.2.2⟩
 ·obtain ⟨hy,hu,hh⟩:=hm
  by_cases hAB:(y:Int)∈A0\/(y:Int)∈B0
  ·rcases C.ro y hAB with h2|⟨p,hp,h2⟩
   ·exact h2
   ·omega
  ·have h2:=C.out y (fun h=>hAB (Α h)) (fun h=>hAB (Β h));exact absurd ((m y).1 ⟨hy,by rw [←h2.1];exact hu,hh⟩) hAB
structure BG where
 F:CF
 R:Nat->List Int
structure RH (n:Nat) (G:BG) (bH:Nat->Int):Prop where
 row:∀h,lq n G.F (G.R h)
 mem:∀h y:Nat,(y:Int)∈G.R h↔1<=h/\y<n/\G.F.u y=-1/\bH y=h
def BG.none:BG:=⟨CS.none.f,fun _=>[]⟩
def bX (R:Nat->List Int) (h:Nat) (l:List Int):Nat->List Int:=fun k=>if k=h then l else R k
def kH (lt:Int->Int->Bool) (n:Nat) (F:CF) (A B:List Int):CC:=gG lt n (n+1) ⟨F,A,B,[],[],0⟩
theorem G6 {lt:Int->Int->Bool} {n:Nat} {F:CF} {A B:List Int} (g:G n 0 0 0 0 ⟨F,A,B,[],[],0⟩) (has:∀a b,lt a b=true->lt b a=false) (hn:n<=65536):(kH lt n F A B).done:=by
 have r:=g_ok (dom:=fun _=>True) has (fun x hx=>trivial) g rfl hn (Nat.zero_le _) (n+1);unfold kH CC.done;refine ⟨?_,?_,?_⟩
 all_goals
  apply Ϛ;intro hne;have:=r.ends (by first|exact Α hne|exact Β (Α hne)|exact Β (Β hne));omega
theorem Yw {lt:Int->Int->Bool} {n:Nat} {F:CF} {A B:List Int} {F':CF} {O:List Int} {q:Nat} (g:G n 0 0 0 0 ⟨F,A,B,[],[],0⟩) (has:∀a b,lt a b=true->lt b a=false) (hn:n<=65536) (h:wY lt n ⟨F,A,B,[],[],0⟩ F' O q) :
  (kH lt n F A B).F=F'/\(kH lt n F A B).O=O/\(kH lt n F A B).q=q:=by
 have:=h.eq (m:=n+1) (G6 g has hn);unfold kH;rw [this];exact ⟨rfl,rfl,rfl⟩
theorem aaa {lt:Int->Int->Bool} {n:Nat} {F:CF} {A B:List Int} (g:G n 0 0 0 0 ⟨F,A,B,[],[],0⟩) (has:∀a b,lt a b=true->lt b a=false) (hn:n<=65536):EJ lt n F A B 0 (kH lt n F A B).F (kH lt n F A B).O (kH lt n F A B).q:=by
 refine carried has g ⟨n+1,?_⟩;obtain ⟨h1,h2,h3⟩:=G6 g has hn;unfold kH at *;generalize gG lt n (n+1) ⟨F,A,B,[],[],0⟩=C at *;obtain ⟨F1,A1,B1,N1,O1,q1⟩:=C;simp only at h1 h2 h3;subst h1 h2 h3
 rfl
def yI (lt:Int->Int->Bool) (n h:Nat) (l:List Int) (G:BG):BG:=⟨(kH lt n G.F (G.R h) l).F,bX G.R h (kH lt n G.F (G.R h) l).O⟩
theorem Dn {n:Nat} {G:BG} {bH:Nat->Int} {L:Nat->Nat->Prop} {lt:Int->Int->Bool} {h:Nat} {l:List Int} (H:FH n G.F bH L) (hn:n<=65536) (has:∀a b,lt a b=true->lt b a=false)
  (hL:∀y p:Nat,y<n->p<n->bH y=h->bH p=h->y≠p->lt y p=false->L p y) (h1:1<=h)
  (hrow:∀k,lq n G.F (G.R k)) (hmem:∀k y:Nat,k≠h->((y:Int)∈G.R k↔1<=k/\y<n/\G.F.u y=-1/\bH y=k))
  (m:∀y:Nat,y<n/\G.F.u y=-1/\bH y=h↔(y:Int)∈G.R h\/(y:Int)∈l) (hl:lq n G.F l) (hd:∀x,x∈G.R h->x∉l) :
  FH n (yI lt n h l G).F bH L/\RH n (yI lt n h l G) bH/\(∀k,wt n (yI lt n h l G).F ((yI lt n h l G).R k)=if k=h then wt n G.F (G.R h)+wt n G.F l else wt n G.F (G.R k))/\
   (kH lt n G.F (G.R h) l).q+((yI lt n h l G).R h).length=(G.R h).length+l.length:=by
 have g:=Lp (q:=0) H.f (hrow h) hl hd;have C:=aaa g has hn;obtain ⟨h2,h3,h4⟩:=TK H hL ω m C;have far:∀k:Nat,k≠h->∀x,x∈G.R k->(kH lt n G.F (G.R h) l).F.u x.toNat=G.F.u x.toNat/\(kH lt n G.F (G.R h) l).F.k x.toNat=G.F.k x.toNat:=fun k hk x hx=>by
  have hr:=(hrow k).1 x hx;have:=(hmem k x.toNat hk).1 (by rw [show ((x.toNat:Nat):Int)=x by omega];exact hx);exact h4 x.toNat this.2.1 ω
 unfold yI;refine ⟨h2,⟨fun k=>?_,fun k y=>?_⟩,fun k=>?_,?_⟩
 ·simp only [bX]
  split
  ·exact C.row
  ·rename_i hk
   exact (hrow k).ext (far k hk)
 ·simp only [bX]
  split
  ·rename_i hk
   subst hk;rw [h3 y];exact ⟨fun a=>⟨h1,a⟩,fun a=>a.2⟩
  ·rename_i hk
   rw [hmem k y hk];constructor
   ·rintro ⟨a1,a2,a3,a4⟩;exact ⟨a1,a2,by rw [(h4 y a2 ω).1];exact a3,a4⟩
   ·rintro ⟨a1,a2,a3,a4⟩;exact ⟨a1,a2,by rw [←(h4 y a2 ω).1];exact a3,a4⟩
 ·simp only [bX]
  split
  ·exact C.wt
  ·rename_i hk
   exact AB (fun x hx=>Vp (far k hk x hx).2)
 ·simp only [bX,if_true];have:=C.cnt;omega
theorem Ma:∀d:Nat,((List.range d).map (fun i=>2 ^ i)).sum+1=2 ^ d
 | 0=>rfl
 | d+1=>by
  have ih:=Ma d;rw [List.range_succ,List.map_append,List.sum_append,Nat.pow_succ];simp only [List.map_cons,List.map_nil,List.sum_cons,List.sum_nil];omega
def eZ (F:CF) (x:Nat):CF:=⟨fun y=>if y=x then [] else F.k y,fun y=>if (y:Int)∈F.k x then -1 else F.u y⟩
theorem y5 (S:CS) (x:Nat):(gL S x).f=eZ S.f x:=rfl
theorem Vg {n:Nat} {F:CF} (ok:ou n F) {x:Nat} (hx:x<n) {F':CF} (e:∀z,z∈F.k x->bZ n F' z=bZ n F z):wt n F' (F.k x)+1=2 ^ (F.k x).length:=by
 rw [←Ma]
 congr 1
 rw [AB e];unfold wt
 congr 1
 apply List.ext_getElem σ;intro i h1 h2;rw [List.getElem_map,List.getElem_map,List.getElem_range];have hi:i<(F.k x).length:=by simpa using h1
 have hm:(F.k x)[i]∈F.k x:=ϙ hi;have hc:=ok.xE x hx i _ (ε hi);have hr:=ok.wK x hx _ hm;unfold bZ;rw [Δ ⟨hr.1,hr.2.1⟩,hc];simp
theorem TN {n:Nat} {F:CF} (ok:ou n F) {x:Nat} (hx:x<n) {F':CF} (e:∀z,z∈F.k x->bZ n F' z=bZ n F z) (u:∀z,z∈F.k x->F'.u z.toNat=-1):lq n F' (F.k x):=by
 refine ⟨fun z hz=>⟨(ok.wK x hx z hz).1,(ok.wK x hx z hz).2.1,u z hz⟩,?_⟩;rw [List.pairwise_iff_getElem];intro i j hi hj hij;have d:∀i (hi:i<(F.k x).length),bZ n F' (F.k x)[i]=i:=fun i hi=>by
  have hm:(F.k x)[i]∈F.k x:=ϙ hi;have hc:=ok.xE x hx i _ (ε hi);have hr:=ok.wK x hx _ hm;rw [e _ hm];unfold bZ;rw [Δ ⟨hr.1,hr.2.1⟩,hc]
 rw [d i hi,d j hj];omega
theorem ou.RF {n:Nat} {F:CF} (h:ou n F) {x:Nat} (hx:x<n) (hr:F.u x=-1):ou n (eZ F x):=by
 have:=ou.split (n:=n) (S:=⟨fun _=>.slice none 0 0,F.k,F.u⟩) h hx hr;exact this
structure Cq (A:NS) (G:BG):Prop where
 fh:FH A.cs.length G.F (fun y=>(A.c y).i) (bU A)
 rh:RH A.cs.length G (fun y=>(A.c y).i)
 w:∀h:Nat,1<=h->wt A.cs.length G.F (G.R h)=dF A h
structure Fq (A:NS) (G:BG) (x:Nat):Prop where
 fh:FH A.cs.length G.F (fun y=>(A.c y).i) (fun p y=>y≠x->p≠x->bU A p y)
 two:∀p c:Nat,c<A.cs.length->G.F.u x=p->G.F.u c=x->bU A p c
 rh:RH A.cs.length G (fun y=>(A.c y).i)
 w:∀h:Nat,1<=h->wt A.cs.length G.F (G.R h)=dF A h
theorem Cq.x {A:NS} {G:BG} (h:Cq A G) {x:Nat} (hx:x<A.cs.length):Fq A G x:=
 ⟨⟨h.fh.f,h.fh.home,fun y p hy hu _ _=>h.fh.ord y p hy hu,h.fh.alone⟩,fun p c hc h1 h2=>bQ (h.fh.ord x p hx h1) (h.fh.ord c x hc h2),h.rh,h.w⟩
def sF (F:CF) (x p:Nat) (above:Int):CF:=
  ⟨fun y=>if y=x then setAt (F.k p) x p else if y=p then F.k x else if (y:Int)=above then setAt (F.k y) p x else F.k y,
   fun y=>if y=x then above else if (y:Int)∈F.k x then p else if (y:Int)∈setAt (F.k p) x p then x else F.u y⟩
theorem Zp (S:CS) (x p:Nat) (above:Int):(gU S x p above).f=sF S.f x p above:=rfl
def JH (x p:Nat) (above:Int) (z:Int):Int:=if z=p/\above=-1 then (x:Int) else z
def qW (G:BG) (x p:Nat):BG:=⟨sF G.F x p (G.F.u p),fun k=>(G.R k).map (JH x p (G.F.u p))⟩
section
variable {n:Nat} {F:CF}
theorem SE (h:ou n F) {x p:Nat} (hx:x<n) (hu:F.u x=p):Bc n ⟨fun _=>.slice none 0 0,F.k,F.u⟩ x p (F.u p):=by
 obtain ⟨hp,hm⟩:=h.above hx hu;exact Mv (S:=⟨fun _=>.slice none 0 0,F.k,F.u⟩) h hx hp hu hm
theorem R7 (h:ou n F) {x p:Nat} (hx:x<n) (hu:F.u x=p):ou n (sF F x p (F.u p)):=
 ou.lift (S:=⟨fun _=>.slice none 0 0,F.k,F.u⟩) h (SE h hx hu)
theorem sW (x p:Nat) (above:Int) (y:Nat):((sF F x p above).k y).length=if y=x then (F.k p).length else if y=p then (F.k x).length else (F.k y).length:=
 P7 ⟨fun _=>.slice none 0 0,F.k,F.u⟩ x p above y
theorem wI (h:ou n F) {x y:Nat} (hx:x<n) (hy:y<n):(y:Int)∈F.k x↔F.u y=x:=by
 constructor
 ·intro hm;obtain ⟨z,e,_,h2,_⟩:=h.below hx hm;obtain rfl:y=z:=ω;exact h2
 ·intro hu;exact (h.above hy hu).2
theorem Ei (h:ou n F) {x p:Nat} (hx:x<n) (hu:F.u x=p) {y:Nat} (hy:y<n) :
  (sF F x p (F.u p)).u y=if y=x then F.u p else if F.u y=x then (p:Int) else if y=p\/F.u y=p then (x:Int) else F.u y:=by
 obtain ⟨hp,hm⟩:=h.above hx hu
 show (if y=x then F.u p else if (y:Int)∈F.k x then (p:Int) else if (y:Int)∈setAt (F.k p) x p then (x:Int) else F.u y)=_
 by_cases e:y=x
 ·rw [Δ e,Δ e]
 ·rw [Γ e,Γ e]
  by_cases e2:F.u y=x
  ·rw [Δ ((wI h hx hy).2 e2),Δ e2]
  ·rw [Γ (fun hm2=>e2 ((wI h hx hy).1 hm2)),Γ e2];have e3:(y:Int)∈setAt (F.k p) x p↔(y=p\/F.u y=p):=by
    rw [oZ (h.nd p hp) hm,wI h hp hy];constructor
    ·rintro (h1|⟨h1,_⟩)
     ·exact Α ω
     ·exact Β h1
    ·rintro (h1|h1)
     ·exact Α ω
     ·exact Β ⟨h1,ω⟩
   by_cases e4:y=p\/F.u y=p
   ·rw [Δ (e3.2 e4),Δ e4]
   ·rw [Γ (fun hm2=>e4 (e3.1 hm2)),Γ e4]
theorem tK (h:ou n F) {x p:Nat} (hx:x<n) (hu:F.u x=p) {y r:Nat} (hy:y<n) (hr:(sF F x p (F.u p)).u y=r) :
  (y=x/\F.u p=r)\/(y≠x/\F.u y=x/\r=p)\/(y=p/\r=x)\/(y≠x/\y≠p/\F.u y=p/\r=x)\/(y≠x/\y≠p/\F.u y=r/\r≠x/\r≠p):=by
 rw [Ei h hx hu hy] at hr
 by_cases e:y=x
 ·rw [Δ e] at hr;exact Α ⟨e,hr⟩
 ·rw [Γ e] at hr
  by_cases e2:F.u y=x
  ·rw [Δ e2] at hr;exact Β (Α ⟨e,e2,ω⟩)
  ·rw [Γ e2] at hr
   by_cases e3:y=p\/F.u y=p
   ·rw [Δ e3] at hr
    by_cases e4:y=p
    ·exact Β (Β (Α ⟨e4,ω⟩))
    ·exact Β (Β (Β (Α ⟨e,e4,e3.resolve_left e4,ω⟩)))
   ·rw [Γ e3] at hr;exact Β (Β (Β (Β ⟨e,fun e4=>e3 (Α e4),hr,fun e5=>e2 ω,fun e5=>e3 (Β ω)⟩)))
theorem qp (h:ou n F) {x p:Nat} (hx:x<n) (hu:F.u x=p) {y:Nat} (hy:y<n):(sF F x p (F.u p)).u y=-1↔(y=x/\F.u p=-1)\/(y≠x/\y≠p/\F.u y=-1):=by
 rw [Ei h hx hu hy]
 by_cases e:y=x
 ·rw [Δ e];exact ⟨fun h=>Α ⟨e,h⟩,fun h=>by rcases h with h|h;exact h.2;exact absurd e h.1⟩
 ·rw [Γ e]
  by_cases e2:F.u y=x
  ·rw [Δ e2];exact ⟨fun h=>ω,fun h=>by rcases h with h|h;exact absurd h.1 e;omega⟩
  ·rw [Γ e2]
   by_cases e3:y=p\/F.u y=p
   ·rw [Δ e3];exact ⟨fun h=>ω,fun h=>by rcases h with h|h;exact absurd h.1 e;rcases e3 with e3|e3;exact absurd e3 h.2.1;omega⟩
   ·rw [Γ e3];exact ⟨fun h=>Β ⟨e,fun e4=>e3 (Α e4),h⟩,fun h=>by rcases h with h|h;exact absurd h.1 e;exact h.2.2⟩
end
section
variable {A:NS} {G:BG} {x p:Nat}
theorem zL (h:Fq A G x) (hx:x<A.cs.length) (hu:G.F.u x=p) {k:Nat} {z:Int} (hz:z∈G.R k) :
  0<=JH x p (G.F.u p) z/\JH x p (G.F.u p) z<A.cs.length/\(qW G x p).F.u (JH x p (G.F.u p) z).toNat=-1/\bZ A.cs.length (qW G x p).F (JH x p (G.F.u p) z)=bZ A.cs.length G.F z/\(A.c (JH x p (G.F.u p) z).toNat).i=(A.c z.toNat).i:=by
 obtain ⟨hp,hm⟩:=h.fh.f.above hx hu;have hne:p≠x:=fun e=>by subst e;exact h.fh.f.self hx hm
 have hr:=(h.rh.row k).1 z hz;obtain ⟨y,rfl⟩:=Int.eq_ofNat_of_zero_le hr.1;rw [π] at hr;have hy:y<A.cs.length:=ω;unfold JH
 by_cases e:(y:Int)=p/\G.F.u p=-1
 ·rw [Δ e,π,π];obtain rfl:y=p:=ω;refine ⟨ω,ω,(qp h.fh.f hx hu hx).2 (Α ⟨rfl,e.2⟩),?_,(h.fh.home x y hx hu).1⟩;rw [dZ _ _ hx,dZ _ _ hy]
  show (((sF G.F x y (G.F.u y)).k x).length:Int)=_
  rw [sW,Δ rfl]
 ·rw [Γ e,π];have hyp:y≠p:=fun e2=>by subst e2;exact e ⟨rfl,hr.2.2⟩
  have hyx:y≠x:=fun e2=>by subst e2;omega
  refine ⟨ω,ω,(qp h.fh.f hx hu hy).2 (Β ⟨hyx,hyp,hr.2.2⟩),?_,rfl⟩;rw [dZ _ _ hy,dZ _ _ hy]
  show (((sF G.F x p (G.F.u p)).k y).length:Int)=_
  rw [sW,Γ hyx,Γ hyp]
theorem zH (h:Fq A G x) (hx:x<A.cs.length) (hu:G.F.u x=p):Fq A (qW G x p) x:=by
 obtain ⟨hp,hm⟩:=h.fh.f.above hx hu;have hne:p≠x:=fun e=>by subst e;exact h.fh.f.self hx hm
 have hxp:=h.fh.home x p hx hu;have hqx:∀q:Nat,G.F.u p=q->q≠x:=fun q hq e=>by
  have d1:=h.fh.f.O4 hx hu;have d2:=h.fh.f.O4 hp hq;subst e;omega
 refine ⟨⟨R7 h.fh.f hx hu,fun y r hy hr=>?_,fun y r hy hr hyx hrx=>?_,fun y hy hh=>?_⟩,fun q c hc h1 h2=>?_,⟨fun k=>⟨fun z hz=>?_,?_⟩,fun k y=>⟨fun hm2=>?_,fun hm2=>?_⟩⟩,fun k hk=>?_⟩
 ·rcases tK h.fh.f hx hu hy hr with ⟨e,h2⟩|⟨_,h2,e⟩|⟨e,e2⟩|⟨_,_,h2,e⟩|⟨_,_,h2,_,_⟩
  ·subst e;have:=h.fh.home p r hp h2;exact ⟨hxp.1.trans this.1,hxp.2⟩
  ·subst e;have:=h.fh.home y x hy h2;exact ⟨this.1.trans hxp.1,this.2⟩
  ·subst e e2;exact ⟨hxp.1.symm,by rw [←hxp.1];exact hxp.2⟩
  ·subst e;have:=h.fh.home y p hy h2;exact ⟨this.1.trans hxp.1.symm,this.2⟩
  ·exact h.fh.home y r hy h2
 ·rcases tK h.fh.f hx hu hy hr with ⟨e,h2⟩|⟨_,h2,e⟩|⟨e,e2⟩|⟨_,_,h2,e⟩|⟨_,_,h2,_,_⟩
  ·exact absurd e hyx
  ·subst e;exact h.two r y hy hu h2
  ·exact absurd e2 hrx
  ·exact absurd e hrx
  ·exact h.fh.ord y r hy h2 hyx hrx
 ·have h0:=h.fh.alone y hy hh;have hyx:y≠x:=fun e=>by subst e;exact hh hxp.2
  have hyp:y≠p:=fun e=>by subst e;exact hh (by rw [←hxp.1];exact hxp.2)
  refine ⟨(qp h.fh.f hx hu hy).2 (Β ⟨hyx,hyp,h0.1⟩),?_⟩;have:((sF G.F x p (G.F.u p)).k y).length=0:=by rw [sW,Γ hyx,Γ hyp,h0.2];rfl
  exact ϛ this
 ·have h3:G.F.u p=q:=by
   have:=Ei h.fh.f hx hu hx;rw [Δ rfl] at this;rw [←this];exact h1
  have hpq:=h.fh.ord p q hp h3 hne (hqx q h3);rcases tK h.fh.f hx hu hc h2 with ⟨e,h4⟩|⟨_,h4,e⟩|⟨e,e2⟩|⟨e3,_,h4,e⟩|⟨_,_,h4,e3,_⟩
  ·exact absurd rfl (hqx x h4)
  ·exact absurd e.symm hne
  ·subst e;exact hpq
  ·exact bQ hpq (h.fh.ord c p hc h4 e3 hne)
  ·exact absurd rfl e3
 ·obtain ⟨z0,hz0,rfl⟩:=List.mem_map.1 hz;have:=zL h hx hu hz0;exact ⟨this.1,this.2.1,this.2.2.1⟩
 ·show ((G.R k).map _).Pairwise _
  rw [List.pairwise_map];exact (h.rh.row k).2.imp_of_mem (fun {a b} ha hb hab=>by rw [(zL h hx hu ha).2.2.2.1,(zL h hx hu hb).2.2.2.1];exact hab)
 ·obtain ⟨z0,hz0,e⟩:=List.mem_map.1 hm2;have h1:=zL h hx hu hz0;rw [e] at h1;rw [π] at h1;have hr:=(h.rh.row k).1 z0 hz0;have h2:=(h.rh.mem k z0.toNat).1 (by rw [show ((z0.toNat:Nat):Int)=z0 by omega];exact hz0);exact ⟨h2.1,ω,h1.2.2.1,by show (A.c y).i=(k:Int);rw [h1.2.2.2.2];exact h2.2.2.2⟩
 ·obtain ⟨k1,hy,hr,hh⟩:=hm2
  show (y:Int)∈(G.R k).map _
  rw [List.mem_map];rcases (qp h.fh.f hx hu hy).1 hr with ⟨e,h2⟩|⟨hyx,hyp,h2⟩
  ·subst e;refine ⟨(p:Int),(h.rh.mem k p).2 ⟨k1,hp,h2,?_⟩,by unfold JH;rw [Δ ⟨rfl,h2⟩]⟩;have e9:(A.c y).i=(A.c p).i:=hxp.1
   show (A.c p).i=(k:Int)
   rw [←e9];exact hh
  ·exact ⟨(y:Int),(h.rh.mem k y).2 ⟨k1,hy,h2,hh⟩,by unfold JH;rw [Γ (fun e=>hyp ω)]⟩
 ·rw [←h.w k hk];unfold wt
  show (((G.R k).map _).map _).sum=_
  rw [List.map_map]
  congr 1
  exact List.map_congr_left (fun z hz=>by simp only [Function.comp];rw [(zL h hx hu hz).2.2.2.1])
theorem Ni (h:Fq A G x) (hx:x<A.cs.length) (hu:G.F.u x=p) (hk:∀c:Nat,c<A.cs.length->G.F.u c=x->bU A x c) (hl:bU A x p) :
  ∀c:Nat,c<A.cs.length->(qW G x p).F.u c=x->bU A x c:=fun c hc h2=>by
 obtain ⟨hp,hm⟩:=h.fh.f.above hx hu;have hne:p≠x:=fun e=>by subst e;exact h.fh.f.self hx hm
 rcases tK h.fh.f hx hu hc h2 with ⟨e,h4⟩|⟨_,h4,e⟩|⟨e,e2⟩|⟨e3,_,h4,e⟩|⟨_,_,h4,e3,_⟩
 ·have d1:=h.fh.f.O4 hx hu;have d2:=h.fh.f.O4 hp h4;omega
 ·exact absurd e.symm hne
 ·subst e;exact hl
 ·exact bQ hl (h.fh.ord c p hc h4 e3 hne)
 ·exact absurd rfl e3
theorem Fq.done (h:Fq A G x) (hx:x<A.cs.length) (hk:∀c:Nat,c<A.cs.length->G.F.u c=x->bU A x c) (ht:∀p:Nat,G.F.u x=p->bU A p x):Cq A G:=by
 refine ⟨⟨h.fh.f,h.fh.home,fun y r hy hr=>?_,h.fh.alone⟩,h.rh,h.w⟩
 by_cases e1:y=x
 ·subst e1;exact ht r hr
 ·by_cases e2:r=x
  ·subst e2;exact hk y hy hr
  ·exact h.fh.ord y r hy hr e1 e2
theorem CU {k s:Int} (h:Cq A G) (hB:iT A x k s=true) (hx:x<A.cs.length):Fq (ak A x k s) G x/\∀c:Nat,c<A.cs.length->G.F.u c=x->bU (ak A x k s) x c:=by
 have hc:=fun y=>qU hB hx y;have hi:=fun y=>iw hB hx y;have hle:=tN hB;rw [π] at hle;have hne:∀y r:Nat,y<A.cs.length->G.F.u y=r->y≠r:=fun y r hy hu e=>by
  subst e;exact h.fh.f.self hy (h.fh.f.above hy hu).2
 have low:∀y:Nat,y≠x->bU A x y->bU (ak A x k s) x y:=fun y hy hl=>lS hl (by rw [hc,Γ hy]) (by rw [hc,Δ rfl];exact hle);have same:∀y r:Nat,y≠x->r≠x->bU A y r->bU (ak A x k s) y r:=fun y r h1 h2 hl=>(eY (by rw [hc,Γ h1]) (by rw [hc,Γ h2])).2 hl;have hn:=dY A x k s;have hw:∀q:Nat,dF (ak A x k s) q=dF A q:=fun q=>by
  unfold ak;rw [Δ hB,π];have e:=mZ A x ⟨(A.c x).i,k,s⟩ q hx;simp only at e;omega
 refine ⟨⟨⟨by rw [hn];exact h.fh.f,fun y r hy hr=>?_,fun y r hy hr e1 e2=>?_,fun y hy hh=>?_⟩,fun q c hc' h1 h2=>?_,⟨fun q=>by rw [hn];exact h.rh.row q,fun q y=>?_⟩,fun q hq=>by rw [hn,hw];exact h.w q hq⟩,fun c hc' hu=>?_⟩
 ·rw [hn] at hy;simp only [hi];exact h.fh.home y r hy hr
 ·rw [hn] at hy;exact same r y e2 e1 (h.fh.ord y r hy hr)
 ·rw [hn] at hy;simp only [hi] at hh;exact h.fh.alone y hy hh
 ·rw [hn] at hc';have h3:=h.fh.ord x q hx h1;have h4:=h.fh.ord c x hc' h2;exact same q c (fun e=>hne x q hx h1 e.symm) (hne c x hc' h2) (bQ h3 h4)
 ·rw [hn];simp only [hi];exact h.rh.mem q y
 ·exact low c (hne c x hc' hu) (h.fh.ord c x hc' hu)
end
theorem oF (A:NS) (a b:Int) (h:bR A a b=true):bR A b a=false:=by
 unfold bR at *;simp only [Τ,Ο] at h;have:=pJ h.2;simp [this]
theorem zX {A:NS} {y p:Nat} (hy:bM A (y:Int)=true) (hp:bM A (p:Int)=true) (hne:y≠p) (h:bR A y p=false):bU A p y:=by
 rw [lI,hy,hp] at h;simp only [Bool.and_self,Bool.true_and,decide_eq_false_iff_not] at h;exact (iP hne).resolve_left h
def ig (G:BG) (h x:Nat):BG:=⟨eZ G.F x,bX G.R h ((G.R h).filter (fun z=>z != (x:Int)))⟩
def qX (A:NS) (h x:Nat) (G:BG):BG:=yI (bR A) A.cs.length h (G.F.k x) (ig G h x)
def yz (A:NS) (h x:Nat) (G:BG):Nat:=(kH (bR A) A.cs.length (ig G h x).F ((ig G h x).R h) (G.F.k x)).q
theorem Jl {l:List Int} (hn:l.Nodup) {x:Int} (hx:x∈l):(l.filter (fun z=>z != x)).length+1=l.length:=by
 induction l with
 | nil=>cases hx
 | cons y r ih=>
  rw [Ζ] at hn;rcases ρ.1 hx with e|h
  ·subst e;have:r.filter (fun z=>z != x)=r:=by
    rw [List.filter_eq_self];intro a ha;simp;intro e;subst e;exact hn.1 ha
   rw [List.filter_cons_of_neg σ,this];simp
  ·have hne:y≠x:=fun e=>by subst e;exact hn.1 h
   rw [List.filter_cons_of_pos (by simpa using hne)];have:=ih hn.2 h;simp only [Ω];omega
theorem N9 {n:Nat} {F:CF} {l:List Int} (hn:l.Nodup) {x:Int} (hx:x∈l):wt n F (l.filter (fun z=>z != x))+2 ^ (bZ n F x).toNat=wt n F l:=by
 have hc:∀ (y:Int) (l:List Int),wt n F (y::l)=2 ^ (bZ n F y).toNat + wt n F l:=fun y l=>by unfold wt;simp
 induction l with
 | nil=>cases hx
 | cons y r ih=>
  rw [Ζ] at hn;rcases ρ.1 hx with e|h
  ·subst e;have:r.filter (fun z=>z != x)=r:=by
    rw [List.filter_eq_self];intro a ha;simp;intro e;subst e;exact hn.1 ha
   rw [List.filter_cons_of_neg σ,this,hc];omega
  ·have hne:y≠x:=fun e=>by subst e;exact hn.1 h
   rw [List.filter_cons_of_pos (by simpa using hne),hc,hc];have:=ih hn.2 h;omega
section
variable {A:NS} {G:BG} {h x:Nat}
theorem LC (B:Fq A G x) (ok:A.Ok) (hx:x<A.cs.length) (hr:G.F.u x=-1) (hin:0<(A.c x).i) (hh:(A.c x).i=h) :
  Cq (aY A x) (qX A h x G)/\yz A h x G+((qX A h x G).R h).length+1=(G.R h).length+(G.F.k x).length/\(x:Int)∈G.R h/\
   lq A.cs.length (eZ G.F x) ((G.R h).filter (fun z=>z != (x:Int)))/\lq A.cs.length (eZ G.F x) (G.F.k x)/\(∀z,z∈(G.R h).filter (fun z=>z != (x:Int))->z∉G.F.k x)/\ou A.cs.length (eZ G.F x)/\
   (∀z,z∈G.R h\/z∈G.F.k x->bM A z=true):=by
 have Fp:1<=h:=ω;have hn:=ok.c1;have inx:bM A (x:Int)=true:=(ae _ _).2 ⟨hx,hin⟩;have hc:=fun y=>xH inx y;have hcs:=eO A (x:Int);have dn:=B.fh.f.nd x hx;have ku:∀z,z∈G.F.k x->∃y:Nat,z=y/\y<A.cs.length/\G.F.u y=x:=fun z hz=>by
  obtain ⟨y,h1,h2,h3,_⟩:=B.fh.f.below hx hz;exact ⟨y,h1,h2,h3⟩
 have sx:(x:Int)∉G.F.k x:=B.fh.f.self hx;have dS:∀z:Int,z≠x->bZ A.cs.length (eZ G.F x) z=bZ A.cs.length G.F z:=fun z hz=>by
  unfold bZ eZ;simp only
  by_cases h0:0<=z/\z<A.cs.length
  ·rw [Δ h0,Δ h0,Γ ω]
  ·rw [Γ h0,Γ h0]
 have uS:∀z:Int,0<=z->G.F.u z.toNat=-1->(eZ G.F x).u z.toNat=-1:=fun z h0 hu=>by
  unfold eZ;simp only
  split
  ·rfl
  ·exact hu
 have kU:∀z,z∈G.F.k x->(eZ G.F x).u z.toNat=-1:=fun z hz=>by
  obtain ⟨y,rfl,_,_⟩:=ku z hz;unfold eZ;simp only [π];rw [Δ hz]
 have mx:(x:Int)∈G.R h:=(B.rh.mem h x).2 ⟨Fp,hx,hr,hh⟩;have hrow:∀k,lq A.cs.length (eZ G.F x) ((ig G h x).R k):=fun k=>by
  have base:∀l:List Int,lq A.cs.length G.F l->(x:Int)∉l->lq A.cs.length (eZ G.F x) l:=fun l hl hxl=>by
   refine ⟨fun z hz=>?_,hl.2.imp_of_mem (fun {a b} ha hb hab=>?_)⟩
   ·have:=hl.1 z hz;exact ⟨this.1,this.2.1,uS z this.1 this.2.2⟩
   ·rw [dS a (fun e=>hxl (e▸ha)),dS b (fun e=>hxl (e▸hb))];exact hab
  unfold ig bX;simp only
  split
  ·refine base _ ⟨fun z hz=>(B.rh.row h).1 z (List.mem_filter.1 hz).1,(B.rh.row h).2.filter _⟩ (fun hm=>by simp at hm)
  ·rename_i hk
   exact base _ (B.rh.row k) (fun hm=>hk (by have:=((B.rh.mem k x).1 hm).2.2.2;omega))
 have hl:lq A.cs.length (eZ G.F x) (G.F.k x):=TN B.fh.f hx (fun z hz=>dS z (fun e=>sx (e▸hz))) kU;have hd:∀z,z∈(ig G h x).R h->z∉G.F.k x:=fun z hz hk=>by
  unfold ig bX at hz;simp only [if_true] at hz;obtain ⟨y,rfl,hy,hu⟩:=ku z hk;have:=((B.rh.mem h y).1 (List.mem_filter.1 hz).1).2.2.1;omega
 have hF:FH A.cs.length (eZ G.F x) (fun y=>((aY A x).c y).i) (bU (aY A x)):=by
  refine ⟨B.fh.f.RF hx hr,fun y p hy hu=>?_,fun y p hy hu=>?_,fun y hy h0=>?_⟩
  all_goals unfold eZ at *;simp only at *
  ·split at hu
   ·omega
   ·rename_i hk
    have hyx:y≠x:=fun e=>by subst e;omega
    have hpx:p≠x:=fun e=>by subst e;exact hk (B.fh.f.above hy hu).2
    rw [hc,hc,Γ hyx,Γ hpx];exact B.fh.home y p hy hu
  ·split at hu
   ·omega
   ·rename_i hk
    have hyx:y≠x:=fun e=>by subst e;omega
    have hpx:p≠x:=fun e=>by subst e;exact hk (B.fh.f.above hy hu).2
    exact (eY (by rw [hc,Γ hpx]) (by rw [hc,Γ hyx])).2 (B.fh.ord y p hy hu hyx hpx)
  ·by_cases hyx:y=x
   ·subst hyx;exact ⟨by rw [Γ sx];exact hr,by rw [Δ rfl]⟩
   ·rw [hc,Γ hyx] at h0;have:=B.fh.alone y hy h0;rw [Γ hyx,this.2];exact ⟨by split;rfl;exact this.1,rfl⟩
 have hL:∀y p:Nat,y<A.cs.length->p<A.cs.length->((aY A x).c y).i=(h:Int)->((aY A x).c p).i=(h:Int)->y≠p->bR A y p=false->bU (aY A x) p y:=fun y p hy hp h1 h2 hne ha=>by
  have hyx:y≠x:=fun e=>by rw [hc,Δ e] at h1;simp [Cl.z] at h1;omega
  have hpx:p≠x:=fun e=>by rw [hc,Δ e] at h2;simp [Cl.z] at h2;omega
  rw [hc,Γ hyx] at h1;rw [hc,Γ hpx] at h2;exact (eY (by rw [hc,Γ hpx]) (by rw [hc,Γ hyx])).2 (zX ((ae _ _).2 ⟨hy,ω⟩) ((ae _ _).2 ⟨hp,ω⟩) hne ha)
 have hroot:∀y:Nat,y<A.cs.length->((eZ G.F x).u y=-1↔G.F.u y=-1\/G.F.u y=x):=fun y hy=>by
  unfold eZ;simp only;have hk:=wI B.fh.f hx hy
  by_cases e:G.F.u y=x
  ·rw [Δ (hk.2 e)];exact ⟨fun _=>Β e,fun _=>rfl⟩
  ·rw [Γ (fun hm=>e (hk.1 hm))];exact ⟨fun h=>Α h,fun h=>h.resolve_right e⟩
 have hmem:∀k y:Nat,k≠h->((y:Int)∈(ig G h x).R k↔1<=k/\y<A.cs.length/\(eZ G.F x).u y=-1/\((aY A x).c y).i=(k:Int)):=fun k y hk=>by
  unfold ig bX;simp only [Γ hk];rw [B.rh.mem k y];constructor
  ·rintro ⟨a1,a2,a3,a4⟩;have hyx:y≠x:=fun e=>by subst e;omega
   exact ⟨a1,a2,(hroot y a2).2 (Α a3),by rw [hc,Γ hyx];exact a4⟩
  ·rintro ⟨a1,a2,a3,a4⟩;have hyx:y≠x:=fun e=>by rw [hc,Δ e] at a4;simp [Cl.z] at a4;omega
   rw [hc,Γ hyx] at a4;refine ⟨a1,a2,((hroot y a2).1 a3).resolve_right (fun e=>?_),a4⟩;have:=(B.fh.home y x a2 e).1;omega
 have hm:∀y:Nat,y<A.cs.length/\(eZ G.F x).u y=-1/\((aY A x).c y).i=(h:Int)↔(y:Int)∈(ig G h x).R h\/(y:Int)∈G.F.k x:=fun y=>by
  unfold ig bX;simp only [if_true,List.mem_filter,bne_iff_ne,ne_eq];rw [B.rh.mem h y];constructor
  ·rintro ⟨a2,a3,a4⟩;have hyx:y≠x:=fun e=>by rw [hc,Δ e] at a4;simp [Cl.z] at a4;omega
   rw [hc,Γ hyx] at a4;rcases (hroot y a2).1 a3 with e|e
   ·exact Α ⟨⟨Fp,a2,e,a4⟩,ω⟩
   ·exact Β ((wI B.fh.f hx a2).2 e)
  ·rintro (⟨⟨_,a2,a3,a4⟩,a5⟩|a1)
   ·exact ⟨a2,(hroot y a2).2 (Α a3),by rw [hc,Γ ω];exact a4⟩
   ·obtain ⟨z,e,a2,a3⟩:=ku _ a1;obtain rfl:y=z:=ω;have hyx:y≠x:=fun e=>by subst e;exact sx a1
    refine ⟨a2,(hroot y a2).2 (Β a3),?_⟩;rw [hc,Γ hyx];have:=(B.fh.home y x a2 a3).1;omega
 obtain ⟨r1,r2,r3,r4⟩:=Dn (G:=ig G h x) hF hn (oF A) hL Fp hrow hmem hm hl hd;have nd:(G.R h).Nodup:=(B.rh.row h).nodup;have eR:(ig G h x).R h=(G.R h).filter (fun z=>z != (x:Int)):=by unfold ig bX;simp
 have fl:=Jl nd mx;refine ⟨⟨by rw [hcs];exact r1,by rw [hcs];exact r2,fun k hk=>?_⟩,?_,mx,by rw [←eR];exact hrow h,hl,by rw [←eR];exact hd,hF.f,fun z hz=>?_⟩
 ·rw [hcs];have e1:wt A.cs.length (qX A h x G).F ((qX A h x G).R k)=_:=r3 k;rw [e1];have hlen:=mZ A x Cl.z (k:Int) hx;have e2:aY A x=iN A x Cl.z:=by unfold aY;rw [Δ inx,π]
  rw [e2]
  by_cases ek:k=h
  ·subst ek;rw [Δ rfl,eR];rw [Δ ω,Γ (by simp [Cl.z];omega)] at hlen;have w1:=N9 (F:=G.F) (n:=A.cs.length) nd mx;rw [dZ _ _ hx,π] at w1;have w2:=Vg (F':=eZ G.F x) B.fh.f hx (fun z hz=>dS z (fun e=>sx (e▸hz)));have w3:wt A.cs.length (eZ G.F x) ((G.R k).filter (fun z=>z != (x:Int)))=wt A.cs.length G.F ((G.R k).filter (fun z=>z != (x:Int))):=AB (fun z hz=>dS z (by simpa using (List.mem_filter.1 hz).2));have w4:=B.w k hk
   show wt A.cs.length (eZ G.F x) _+wt A.cs.length (eZ G.F x) _=_
   omega
  ·rw [Γ ek];rw [Γ ω,Γ (by simp [Cl.z];omega)] at hlen;have eK:(ig G h x).R k=G.R k:=by unfold ig bX;simp only [Γ ek]
   rw [eK];have w4:=B.w k hk
   have w3:wt A.cs.length (eZ G.F x) (G.R k)=wt A.cs.length G.F (G.R k):=AB (fun z hz=>dS z (fun e=>by
    subst e;have:=((B.rh.mem k x).1 hz).2.2.2
    omega))
   show wt A.cs.length (eZ G.F x) _=_
   omega
 ·rw [eR] at r4;have e3:yz A h x G=(kH (bR A) A.cs.length (ig G h x).F ((G.R h).filter (fun z=>z != (x:Int))) (G.F.k x)).q:=by unfold yz;rw [eR]
  rw [e3];have e4:(qX A h x G).R h=(yI (bR A) A.cs.length h (G.F.k x) (ig G h x)).R h:=rfl;rw [e4];omega
 ·rcases hz with hz|hz
  ·have hr:=(B.rh.row h).1 z hz;have:=(B.rh.mem h z.toNat).1 (by rw [show ((z.toNat:Nat):Int)=z by omega];exact hz);exact (yO _ _).2 ⟨hr.1,hr.2.1,by have:=this.2.2.2;omega⟩
  ·obtain ⟨y,rfl,hy,hu⟩:=ku z hz;exact (ae _ _).2 ⟨hy,(B.fh.home y x hy hu).2⟩
end
def QV (A':NS) (h x:Nat) (G:BG):BG:=yI (bR A') A'.cs.length h [(x:Int)] G
def Wh (A':NS) (h x:Nat) (G:BG):Nat:=(kH (bR A') A'.cs.length G.F (G.R h) [(x:Int)]).q
theorem Qd (n:Nat) (F:CF):lq n F []:=⟨fun x hx=>(by cases hx),List.Pairwise.nil⟩
theorem ZB (n:Nat):Cq (NS.new n) BG.none:=by
 have hc:=fun y=>NS.yA n y;have hn:(NS.new n).cs.length=n:=by simp [NS.new]
 refine ⟨⟨by rw [hn];exact Sa n,fun y p hy hu=>?_,fun y p hy hu=>?_,fun y hy hh=>⟨rfl,rfl⟩⟩,⟨fun h=>Qd _ _,fun h y=>⟨fun hm=>(by cases hm),fun hm=>?_⟩⟩,fun h hh=>?_⟩
 ·have:(-1:Int)=p:=hu;omega
 ·have:(-1:Int)=p:=hu;omega
 ·have h2:=hm.2.2.2;rw [hc] at h2;simp [Cl.z] at h2;omega
 ·have:¬0<dF (NS.new n) (h:Int):=fun hp=>by
   obtain ⟨y,_,h2,h3⟩:=eH.1 hp;rw [hc] at h2;simp [Cl.z] at h2;omega
  show (0:Nat)=_
  omega
theorem Zh (A:NS) (y:Nat):(aL A).c y=A.c y:=by unfold aL;split<;>rfl
theorem MH (A:NS):(aL A).cs=A.cs:=by unfold aL;split<;>rfl
section
variable {A:NS} {G:BG}
theorem Wo (B:Cq A G):Cq (aL A) G:=by
 have hc:=Zh A;have hs:(aL A).cs.length=A.cs.length:=by rw [MH]
 refine ⟨⟨by rw [hs];exact B.fh.f,fun y p hy hu=>by rw [hc,hc];exact B.fh.home y p (by rw [←hs];exact hy) hu,fun y p hy hu=>(eY (hc p) (hc y)).2 (B.fh.ord y p (by rw [←hs];exact hy) hu),fun y hy hh=>B.fh.alone y (by rw [←hs];exact hy) (by rw [←hc];exact hh)⟩,
  ⟨fun h=>by rw [hs];exact B.rh.row h,fun h y=>by rw [hs,hc];exact B.rh.mem h y⟩,fun h hh=>by rw [hs,OM];exact B.w h hh⟩
theorem YJ {h x:Nat} (k s:Int) (B:Cq A G) (ok:A.Ok) (hB:nY A h x=true) :
  Cq (aH A h x k s) (QV (aH A h x k s) h x G)/\Wh (aH A h x k s) h x G+((QV (aH A h x k s) h x G).R h).length=(G.R h).length+1/\
   lq A.cs.length G.F [(x:Int)]/\(∀z,z∈G.R h->z∉[(x:Int)])/\(∀z,z∈G.R h\/z∈[(x:Int)]->bM (aH A h x k s) z=true)/\(aH A h x k s).cs.length=A.cs.length:=by
 obtain ⟨b1,b2,b3⟩:=(dV _ _ _).1 hB;have b4:=(aP _ _).1 b1;have hx:x<A.cs.length:=by have:=(gF _ _).1 b2;omega
 have Fp:1<=h:=ω;have h0:¬0<(A.c x).i:=fun hp=>by rw [(ae _ _).2 ⟨hx,hp⟩] at b3;cases b3
 have eA:aH A h x k s=iN A x ⟨h,k,s⟩:=by unfold aH;rw [Δ hB,π]
 have hcs:(aH A h x k s).cs.length=A.cs.length:=by rw [eA];exact eU _ _ _
 have hc:∀y,(aH A h x k s).c y=if y=x then ⟨h,k,s⟩ else A.c y:=fun y=>by
  rw [eA,jT]
  by_cases e:y=x
  ·rw [Δ ⟨e,hx⟩,Δ e]
  ·rw [Γ (fun h=>e h.1),Γ e]
 have al:=B.fh.alone x hx h0
 have hne:∀y p:Nat,y<A.cs.length->G.F.u y=p->y≠x/\p≠x:=fun y p hy hu=>⟨fun e=>by subst e;rw [al.1] at hu;omega,fun e=>by
  subst e;have:=(B.fh.f.above hy hu).2
  rw [al.2] at this;cases this⟩
 have hF:FH A.cs.length G.F (fun y=>((aH A h x k s).c y).i) (bU (aH A h x k s)):=by
  refine ⟨B.fh.f,fun y p hy hu=>?_,fun y p hy hu=>?_,fun y hy hh=>?_⟩
  ·obtain ⟨e1,e2⟩:=hne y p hy hu;rw [hc,hc,Γ e1,Γ e2];exact B.fh.home y p hy hu
  ·obtain ⟨e1,e2⟩:=hne y p hy hu;exact (eY (by rw [hc,Γ e2]) (by rw [hc,Γ e1])).2 (B.fh.ord y p hy hu)
  ·by_cases e:y=x
   ·rw [hc,Δ e] at hh;simp only at hh;omega
   ·rw [hc,Γ e] at hh;exact B.fh.alone y hy hh
 have hin:∀y:Nat,y<A.cs.length->((aH A h x k s).c y).i=(h:Int)->bM (aH A h x k s) (y:Int)=true:=fun y hy e=>(ae _ _).2 ⟨ω,ω⟩;have hl:lq A.cs.length G.F [(x:Int)]:=⟨fun z hz=>by simp at hz;subst hz;exact ⟨ω,ω,by simpa using al.1⟩,List.pairwise_singleton _ _⟩;have hd:∀z,z∈G.R h->z∉[(x:Int)]:=fun z hz hm=>by
  simp at hm;subst hm;have:=((B.rh.mem h x).1 hz).2.2.2;omega
 have hm:∀y:Nat,y<A.cs.length/\G.F.u y=-1/\((aH A h x k s).c y).i=(h:Int)↔(y:Int)∈G.R h\/(y:Int)∈[(x:Int)]:=fun y=>by
  rw [B.rh.mem h y];simp only [ϔ]
  by_cases e:y=x
  ·subst e;rw [hc,Δ rfl];exact ⟨fun _=>Β rfl,fun _=>⟨hx,al.1,rfl⟩⟩
  ·rw [hc,Γ e];constructor
   ·rintro ⟨a1,a2,a3⟩;exact Α ⟨Fp,a1,a2,a3⟩
   ·rintro (⟨_,a1,a2,a3⟩|a4)
    ·exact ⟨a1,a2,a3⟩
    ·omega
 obtain ⟨r1,r2,r3,r4⟩:=Dn (G:=G) (lt:=bR (aH A h x k s)) (h:=h) hF ok.c1 (oF _) (fun y p hy hp h1 h2 hne ha=>zX (hin y hy h1) (hin p hp h2) hne ha) Fp B.rh.row (fun q y hq=>by
  rw [B.rh.mem q y]
  by_cases e:y=x
  ·subst e;rw [hc,Δ rfl];constructor
   ·rintro ⟨a1,_,_,a3⟩;omega
   ·rintro ⟨a1,_,_,a3⟩;simp only at a3;omega
  ·rw [hc,Γ e]) hm hl hd
 unfold QV Wh;rw [hcs];refine ⟨⟨by rw [hcs];exact r1,by rw [hcs];exact r2,fun q hq=>?_⟩,by simpa using r4,hl,hd,fun z hz=>?_,rfl⟩
 ·rw [hcs,r3 q];have hlen:=mZ A x ⟨h,k,s⟩ (q:Int) hx;rw [←eA] at hlen;rw [Γ ω] at hlen;have wx:wt A.cs.length G.F [(x:Int)]=1:=by
   unfold wt;simp only [List.map_cons,List.map_nil,List.sum_cons,List.sum_nil];rw [dZ _ _ hx,al.2];rfl
  have wq:=B.w q hq
  by_cases e:q=h
  ·subst e;rw [Δ ⟨rfl,ω⟩] at hlen;rw [Δ rfl,wx];omega
  ·rw [Γ (fun h=>e (by have:=h.1;simp only at this;omega))] at hlen;rw [Γ e];omega
 ·have key:∃y:Nat,z=y/\y<A.cs.length/\((aH A h x k s).c y).i=(h:Int):=by
   rcases hz with hz|hz
   ·have hr:=(B.rh.row h).1 z hz;obtain ⟨y,rfl⟩:=Int.eq_ofNat_of_zero_le hr.1;have:=(hm y).2 (Α hz);exact ⟨y,rfl,this.1,this.2.2⟩
   ·simp at hz;subst hz;have:=(hm x).2 (Β σ);exact ⟨x,rfl,this.1,this.2.2⟩
  obtain ⟨y,rfl,h1,h2⟩:=key;exact hin y h1 h2
theorem Uc (B:Cq A G):∀ (m y:Nat),A.cs.length<=m+(G.F.k y).length->y<A.cs.length->0<(A.c y).i->∃T,T<A.cs.length/\G.F.u T=-1/\(A.c T).i=(A.c y).i/\(T=y\/bU A T y)
 | m,y,hm,hy,hh=>by
  rcases B.fh.f.up y hy with h1|⟨p,hp,h1,h2⟩
  ·exact ⟨y,hy,h1,rfl,Α rfl⟩
  ·have hd:=B.fh.f.O4 hy h1;have hl:=B.fh.f.len hp;have ho:(A.c y).i=(A.c p).i/\0<(A.c y).i:=B.fh.home y p hy h1
   match m,hm with
   | 0,hm=>omega
   | m+1,hm=>
    obtain ⟨T,t1,t2,t3,t4⟩:=Uc B m p ω hp ω;refine ⟨T,t1,t2,by rw [t3,ho.1],Β ?_⟩;have hl:=B.fh.ord y p hy h1;rcases t4 with e|e
    ·rw [e];exact hl
    ·exact bQ e hl
def mG (lt:Int->Int->Bool):Int->List Int->Int
 | b,[]=>b
 | b,x::t=>mG lt (if lt x b then x else b) t
theorem Ay (lt:Int->Int->Bool):∀ (l:List Int) (b:Int),mG lt b l∈b::l
 | [],b=>by simp [mG]
 | x::t,b=>by
  have key:∀c,mG lt c t∈c::t:=fun c=>Ay lt t c;unfold mG;cases e:lt x b with
  | true=>
   rw [Δ rfl];exact Λ _ (key x)
  | false=>
   rw [Γ σ];rcases ρ.1 (key b) with h|h
   ·rw [h];simp
   ·exact Λ _ (Λ _ h)
theorem yw {lt:Int->Int->Bool} {P:Int->Prop} (tr:∀a b c,P a->P b->P c->lt a b=true->lt b c=true->lt a c=true) (tot:∀a b,P a->P b->a≠b->lt a b=false->lt b a=true) :
  ∀ (l:List Int) (b:Int),P b->(∀x,x∈l->P x)->∀x,x∈b::l->x=mG lt b l\/lt (mG lt b l) x=true
 | [],b,_,_,x,hx=>by simp at hx;subst hx;exact Α rfl
 | y::t,b,hb,hl,x,hx=>by
  have hy:=hl y σ;have ht:=fun z hz=>hl z (Λ _ hz);unfold mG;have hP:P (if lt y b then y else b):=by split;exact hy;exact hb
  have ih:=yw tr tot t (if lt y b then y else b) hP ht;have ab6:P (mG lt (if lt y b then y else b) t):=by
   rcases ρ.1 (Ay lt t (if lt y b then y else b)) with e|e
   ·rw [e];exact hP
   ·exact ht _ e
  have via:∀z,P z->lt (if lt y b then y else b) z=true->z=mG lt (if lt y b then y else b) t\/lt (mG lt (if lt y b then y else b) t) z=true:=fun z hz h=>by
   rcases ih _ (List.mem_cons_self) with e|e
   ·rw [←e];exact Β h
   ·exact Β (tr _ _ _ ab6 hP hz e h)
  by_cases e:lt y b=true
  ·rw [Δ e] at ih via ⊢;rcases ρ.1 hx with e1|hx
   ·subst e1;exact via x hb e
   ·exact ih x hx
  ·rw [Γ e] at ih via ⊢;have e:lt y b=false:=by simpa using e
   rcases ρ.1 hx with e1|hx
   ·subst e1;exact ih x σ
   ·rcases ρ.1 hx with e1|hx
    ·subst e1
     by_cases exb:x=b
     ·subst exb;exact ih x σ
     ·exact via x hy (tot x b hy hb exb e)
    ·exact ih x (Λ _ hx)
theorem Rw (B:Cq A G) {h:Nat} {z:Int} (hz:z∈G.R h):∃y:Nat,z=y/\y<A.cs.length/\bM A z=true/\(A.c y).i=h/\G.F.u y=-1:=by
 have hr:=(B.rh.row h).1 z hz;obtain ⟨y,rfl⟩:=Int.eq_ofNat_of_zero_le hr.1;have:=(B.rh.mem h y).1 hz;have h4:(A.c y).i=h:=this.2.2.2;exact ⟨y,rfl,this.2.1,(ae _ _).2 ⟨this.2.1,ω⟩,h4,this.2.2.1⟩
theorem QB (B:Cq A G) {h:Nat} (h1:1<=h) {x:Int} {t:List Int} (hR:G.R h=x::t):∃m:Nat,mG (bR A) x t=m/\dD A (h:Int)=some m/\m<A.cs.length/\G.F.u m=-1/\(A.c m).i=h:=by
 have hin:∀z,z∈x::t->∃y:Nat,z=y/\y<A.cs.length/\bM A z=true/\(A.c y).i=h/\G.F.u y=-1:=fun z hz=>Rw B (by rw [hR];exact hz);obtain ⟨m,e,m1,m2,m3,m4⟩:=hin _ (Ay (bR A) t x);refine ⟨m,e,(iE ω).2 ⟨m1,m3,fun y hy hh=>?_⟩,m1,m4,m3⟩
 have F:=yw (lt:=bR A) (P:=fun z=>∃y:Nat,z=y/\bM A z=true) (fun a b c ha hb hc h1 h2=>by
  obtain ⟨a,rfl,_⟩:=ha;obtain ⟨b,rfl,_⟩:=hb;obtain ⟨c,rfl,_⟩:=hc;rw [lI] at h1 h2 ⊢;simp only [Τ,Ο] at h1 h2 ⊢;exact ⟨⟨h1.1.1,h2.1.2⟩,bQ h1.2 h2.2⟩) (fun a b ha hb hne h1=>by
  obtain ⟨a,rfl,ia⟩:=ha;obtain ⟨b,rfl,ib⟩:=hb;have:=zX ia ib (fun e=>hne (by rw [e])) h1;rw [lI,ia,ib]
  simpa using this) t x (by obtain ⟨y,e,_,i,_⟩:=hin x σ;exact ⟨y,e,i⟩) (fun z hz=>by obtain ⟨y,e,_,i,_⟩:=hin z (Λ _ hz);exact ⟨y,e,i⟩)
 obtain ⟨T,t1,t2,t3,t4⟩:=Uc B A.cs.length y ω hy ω;have hT:(T:Int)∈x::t:=by rw [←hR];exact (B.rh.mem h T).2 ⟨h1,t1,t2,by rw [t3];exact hh⟩
 have hmT:T=m\/bU A m T:=by
  rcases F _ hT with e2|e2
  ·rw [e] at e2;exact Α ω
  ·rw [e,lI] at e2;simp only [Τ,Ο] at e2;exact Β e2.2
 rcases t4 with e1|e1
 ·subst e1;exact hmT
 ·rcases hmT with e2|e2
  ·subst e2;exact Β e1
  ·exact Β (bQ e2 e1)
theorem LG (B:Cq A G) {h:Nat} (h1:1<=h) (hR:G.R h=[]):dD A (h:Int)=none:=by
 have:=B.w h h1;rw [hR] at this;exact (jD ω).2 this.symm
end
end Go.Proofs.YtklibcncmbofpaaGreat
namespace Go.Proofs.YtklibcncmbofpaaGreat
open Go Go.RowKit
theorem Wl {w:World} {base size n g cap:Nat} {e:TypeId} {xs:List Value} (h:w.ownsRow base e size (.slice (some ⟨g,0,none⟩) n cap) n xs) (j:Nat) (u:Value) :
  (w.setCell ⟨g,j,none⟩ u).ownsRow base e size (.slice (some ⟨g,0,none⟩) n cap) n (xs.set j u):=by
 rcases h.2 with ⟨h1,_⟩|⟨g',cap',cur,h1,hb,hg,hn,hc,hs,ht⟩
 ·cases h1
 ·cases h1;refine ⟨by rw [Ι];exact h.1,Β ⟨g,cap,cur.setIfInBounds j u,rfl,hb,?_,hn,hc,by simp;exact hs,?_⟩⟩
  ·simp [World.setCell,Array.getElem?_modify,hg]
  ·rw [Array.toList_setIfInBounds]
   by_cases hj:j<n*size
   ·rw [List.take_set,ht]
   ·have hl:=h.1;rw [List.take_set_of_le ω,ht,List.set_eq_of_length_le ω]
end Go.Proofs.YtklibcncmbofpaaGreat
