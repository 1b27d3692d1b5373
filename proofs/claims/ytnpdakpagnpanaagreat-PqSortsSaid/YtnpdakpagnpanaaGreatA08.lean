/-
  Lemmas for PqSorts: Words, Carry, Carry2, Carry3, Carry4, Carry5, Carry6, Off, Carry8, CarryLink, KarDef, KOrd, Kar7, Kar9, Kar10, KarPl, KarPl2, KarLaw, FrOk, BnP, BnQ, BnR, BnS. Conditions: those of each lemma.
-/
import Derived.Deep.RegionHeldLaw
import Derived.Deep.RegionLaw
import Derived.ArgAppend
import Derived.Deep.DeepCutAuto
import Derived.Outline
import Derived.Test.YtnpdakpagnpanaaGreatA01
set_option linter.all false
set_option maxHeartbeats 8000000
set_option maxRecDepth 10000
namespace Go.Proofs.YtnpdakpagnpanaaGreat
open Go Go.RowKit
def ov (o:Option Int):Int:=o.getD 0
def ob (o:Option Int):Bool:=o.isSome
structure CS where
 v:Nat->Value
 k:Nat->List Int
 u:Nat->Int
def CS.none:CS:=⟨λ_=>.slice Option.none 0 0,λ_=>[],λ_=>-1⟩
def cu (S:CS) (j:Nat):Value:=if j % 2=0 then S.v (j / 2) else .int .i64 (S.u (j / 2))
theorem lH (S:CS) (x:Nat):cu S (x*2)=S.v x:=by unfold cu;rw [Δ ω,show x*2 / 2=x by omega]
theorem ry (S:CS) (x:Nat):cu S (x*2+1)=.int .i64 (S.u x):=by unfold cu;rw [Γ ω,show (x*2+1) / 2=x by omega]
def CS.blk (S:CS) (n:Nat):List Nat:=(List.range n).filterMap (λx=>(S.v x).ownBlock)
theorem CS.iY (S:CS) (n g:Nat):g∈S.blk n↔∃x,x<n/\(S.v x).ownBlock=some g:=by unfold CS.blk;simp
structure aN (w:World) (bt ba lo n:Nat) (S:CS):Prop where
 head:aJ w bt 231 1 (λ_=>.slice (some ⟨ba,0,none⟩) n n)
 row:aJ w ba 233 (n*2) (cu S)
 own:∀x,x<n->w.ownsRow lo 3 1 (S.v x) (S.k x).length (aT (S.k x))
 sep:∀x y,x<n->y<n->x≠y->∀g,(S.v x).ownBlock=some g->(S.v y).ownBlock≠some g
 ne:bt≠ba
 PS:bt<lo
 IJ:ba<lo
 low:lo<=w.heap.size
 le:n<=65536
 len:∀x,x<n->(S.k x).length<=n
theorem aN.lU {w:World} {bt ba lo n:Nat} {S:CS} (h:aN w bt ba lo n S) {g:Nat} (hg:g∈S.blk n):lo<=g/\g<w.heap.size:=by
 obtain ⟨x,hx,he⟩:=(S.iY n g).1 hg;exact (h.own x hx).lt g he
theorem aN.upd {w w':World} {F:List Nat} {bt ba lo n:Nat} {S:CS} (h:aN w bt ba lo n S) (hu:aa F w w') (h1:bt∉F) (h2:ba∉F) (h3:∀g,g∈S.blk n->g∉F):aN w' bt ba lo n S:=
 ⟨h.head.upd hu h1,h.row.upd hu h2,λx hx=>au (h.own x hx) hu (λk hk=>h3 k ((S.iY n k).2 ⟨x,hx,hk⟩)),h.sep,h.ne,h.PS,h.IJ,Χ h.low hu.size,h.le,h.len⟩
theorem aN.ai {w w':World} {bt ba lo n:Nat} {S:CS} (h:aN w bt ba lo n S) (hu:aa [] w w'):aN w' bt ba lo n S:=h.upd hu σ σ σ
theorem nodeInfo:(Tryz.prog.info? 233).map (λi=>(i.zero,i.size,i.bytes))=some (some (.agg #[.slice none 0 0,.int .i64 0]),2,32):=by kernel_rfl
theorem Ct (n:Nat) (w:World) (h:n<=65536) :
  Calls Tryz.prog 86 #[.int .i64 (n:Int)] w λe w'=>∃bt ba,e=.returned (.tuple #[.pointer (some ⟨bt,0,none⟩),.int .i64 0])/\aN w' bt ba w'.heap.size n CS.none/\aa [] w w'/\w.heap.size<=bt/\w.heap.size<=ba:=by
 go_enter Tryz.func86,Tryz.ntmps86
 go_wp2_with (at_make;refine wpList_make_row rfl _ 229 rfl 233 (.agg #[.slice none 0 0,.int .i64 0]) 2 32 Tryz.underlying229 nodeInfo n rfl ω μ ?_;intro w1 hr1 hu1)
 have hlt:=hr1.lt;have hz:∀j,j<n*2->(madeCells (Value.agg #[.slice none 0 0,.int .i64 0]).cells (n*2)).toList.getD j undef=if j % 2=0 then .slice none 0 0 else .int .i64 0:=λj hj=>by
  rw [show (Value.agg #[.slice none 0 0,.int .i64 0]).cells=#[Value.slice none 0 0,Value.int .i64 0] from rfl];unfold madeCells;simp [φ,hj];rcases (ω:j % 2=0\/j % 2=1) with h2|h2<;>simp [h2]
 go_loopw [21] (λi wr=>∃ (k:Nat) (f:Nat->Value),k<=n/\i=.int .i64 k/\aJ wr w1.heap.size 231 1 (λ_=>.slice (some ⟨w.heap.size,0,none⟩) n n)/\aJ wr w.heap.size 233 (n*2) f/\(∀j,j<n*2->f j=if j % 2=0 then .slice none 0 0 else .int .i64 (if j<k*2 then -1 else 0))/\aa [] w wr) (λi _=>n-(intOf i).toNat)
 case atStart=>exact ⟨0,_,ω,rfl,dL _ _ _ |>.ext (λj hj=>by simp at hj;subst hj;rfl),hr1.alloc _,λj hj=>by rw [hz j hj,Γ (show ¬j<0*2 by omega)],hu1.alloc _⟩
 case round=>
  obtain ⟨k,f,hk,rfl,hH,hR,hf,hu⟩:=hrel;have HZ:=χ hz;clear hz
  by_cases hkn:k<n
  ·have c0:=hH.cell 0 ω;have d1:=hR.cell (k*2+1) ω;have e1:=hR.free (k*2+1);have HF:=χ hf;clear hf;go_wp2
   go_roundw
   case rel=>
    refine ⟨k+1,_,ω,by go_num,hH.far _ _ ζ,hR.set _ _,λj hj=>?_,hu.setCell (Β σ) _⟩
    by_cases hj1:j=k*2+1
    ·subst hj1;rw [Δ rfl,Γ ω,Δ ω]
    ·rw [Γ hj1,HF.out j hj]
     by_cases h2:j % 2=0
     ·rw [Δ h2,Δ h2]
     ·rw [Γ h2,Γ h2]
      by_cases h3:j<k*2
      ·rw [Δ h3,Δ ω]
      ·rw [Γ h3,Γ ω]
   case measure=>simp [intOf];omega
  ·obtain rfl:k=n:=ω;go_wp2;go_ret2;exact ⟨_,_,rfl,⟨hH,hR.ext (λj hj=>by rw [hf j hj,Δ (show j<k*2 by omega)];rfl),λx hx=>World.ownsRow_nil _ _ _ _,λx y _ _ _ g hg=>by simp [CS.none,Value.ownBlock] at hg,by omega,hH.lt,hR.lt,Θ _,h,λx hx=>Nat.zero_le _⟩,hu,hu1.size,Θ _⟩
theorem lJ (bt ba lo n:Nat) (S:CS) (x:Int) (w:World) (h:aN w bt ba lo n S) (b:Bool) (hb:b=decide (0<=x/\x<n)) :
  Calls Tryz.prog 186 #[.pointer (some ⟨bt,0,none⟩),.int .i64 x] w λe w'=>e=.returned (.bool b)/\w'=w:=by
 have hle:=h.le;have c0:=h.head.cell 0 ω;clear h;subst hb
 by_cases h0:0<=x
 ·by_cases h1:x<n
  ·go_enter Tryz.func186,Tryz.ntmps186
   go_wp2;go_ret;exact ⟨bM (by simp [h0,h1]),rfl⟩
  ·go_enter Tryz.func186,Tryz.ntmps186
   go_wp2;go_ret;exact ⟨bM (by simp [h0,h1]),rfl⟩
 ·go_enter Tryz.func186,Tryz.ntmps186
  go_wp2;go_ret;exact ⟨bM ζ,rfl⟩
def mW (n:Nat) (S:CS) (x:Int):Bool:=decide (0<=x/\x<n) && S.u x.toNat == -1
def mQ (n:Nat) (S:CS) (x:Int):Int:=if 0<=x/\x<n then (S.k x.toNat).length else 0
def E8 (n:Nat) (S:CS) (x:Int):Option Int:=if 0<=x/\x<n then (if S.u x.toNat=-1 then none else some (S.u x.toNat)) else none
theorem tO (bt ba lo n:Nat) (S:CS) (x:Int) (w:World) (h:aN w bt ba lo n S) :
  Calls Tryz.prog 189 #[.pointer (some ⟨bt,0,none⟩),.int .i64 x] w λe w'=>e=.returned (.bool (mW n S x))/\w'=w:=by
 by_cases hx:0<=x/\x<n
 ·obtain ⟨k,rfl⟩:∃k:Nat,x=k:=⟨x.toNat,ω⟩;have hk:k<n:=ω;have hle:=h.le;have c0:=h.head.cell 0 ω;have d1:=h.row.cellAt (k*2+1) ω (ry S k);have k1:=lJ bt ba lo n S k w h true (by simp [hk]);have e:mW n S k=(S.u k == -1):=by unfold mW;rw [Ν hx];simp
  rw [e];clear h e hx;generalize S.u k=u at *
  go_enter Tryz.func189,Tryz.ntmps189
  go_wp2_with (go_at_call 186;refine (k1).mono ?_;rintro e w' ⟨rfl,rfl⟩)
  go_ret;exact ⟨rfl,rfl⟩
 ·have k1:=lJ bt ba lo n S x w h false (by simpa using hx);have e:mW n S x=false:=by unfold mW;rw [Ξ hx];rfl
  rw [e];clear h e hx
  go_enter Tryz.func189,Tryz.ntmps189
  go_wp2_with (go_at_call 186;refine (k1).mono ?_;rintro e w' ⟨rfl,rfl⟩)
  go_ret;exact ⟨rfl,rfl⟩
theorem oH (bt ba lo n:Nat) (S:CS) (x:Int) (w:World) (h:aN w bt ba lo n S) :
  Calls Tryz.prog 194 #[.pointer (some ⟨bt,0,none⟩),.int .i64 x] w λe w'=>e=.returned (.int .i64 (mQ n S x))/\w'=w:=by
 by_cases hx:0<=x/\x<n
 ·obtain ⟨k,rfl⟩:∃k:Nat,x=k:=⟨x.toNat,ω⟩;have hk:k<n:=ω;have hle:=h.le;have c0:=h.head.cell 0 ω;obtain ⟨a,cap,hv,_⟩:=bz (h.own k hk);have d0:=h.row.cellAt (k*2) ω ((lH S k).trans hv);have k1:=lJ bt ba lo n S k w h true (by simp [hk]);have e:mQ n S k=((S.k k).length:Int):=by unfold mQ;rw [Δ hx];simp
  rw [e];clear h e hx hv;generalize (S.k k).length=u at *
  go_enter Tryz.func194,Tryz.ntmps194
  go_wp2_with (go_at_call 186;refine (k1).mono ?_;rintro e w' ⟨rfl,rfl⟩)
  go_ret;exact ⟨rfl,rfl⟩
 ·have k1:=lJ bt ba lo n S x w h false (by simpa using hx);have e:mQ n S x=0:=by unfold mQ;rw [Γ hx]
  rw [e];clear h e hx
  go_enter Tryz.func194,Tryz.ntmps194
  go_wp2_with (go_at_call 186;refine (k1).mono ?_;rintro e w' ⟨rfl,rfl⟩)
  go_ret;exact ⟨rfl,rfl⟩
theorem uE (bt ba lo n:Nat) (S:CS) (x:Int) (w:World) (h:aN w bt ba lo n S) :
  Calls Tryz.prog 179 #[.pointer (some ⟨bt,0,none⟩),.int .i64 x] w λe w'=>e=.returned (.tuple #[.int .i64 (ov (E8 n S x)),.bool (ob (E8 n S x))])/\w'=w:=by
 by_cases hx:0<=x/\x<n
 ·obtain ⟨k,rfl⟩:∃k:Nat,x=k:=⟨x.toNat,ω⟩;have hk:k<n:=ω;have hle:=h.le;have c0:=h.head.cell 0 ω;have d1:=h.row.cellAt (k*2+1) ω (ry S k);have k1:=lJ bt ba lo n S k w h true (by simp [hk]);have e:E8 n S k=if S.u k=-1 then none else some (S.u k):=by unfold E8;rw [Δ hx];simp
  rw [e];clear h e hx;generalize S.u k=u at *
  by_cases hu:u=-1
  ·subst hu
   go_enter Tryz.func179,Tryz.ntmps179
   go_wp2_with (go_at_call 186;refine (k1).mono ?_;rintro e w' ⟨rfl,rfl⟩)
   go_ret2;exact ⟨rfl,rfl⟩
  ·have b1:(u == -1)=false:=by simpa using hu
   rw [Γ hu];clear hu
   go_enter Tryz.func179,Tryz.ntmps179
   go_wp2_with (go_at_call 186;refine (k1).mono ?_;rintro e w' ⟨rfl,rfl⟩)
   go_ret2;exact ⟨rfl,rfl⟩
 ·have k1:=lJ bt ba lo n S x w h false (by simpa using hx);have e:E8 n S x=none:=by unfold E8;rw [Γ hx]
  rw [e];clear h e hx
  go_enter Tryz.func179,Tryz.ntmps179
  go_wp2_with (go_at_call 186;refine (k1).mono ?_;rintro e w' ⟨rfl,rfl⟩)
  go_ret2;exact ⟨rfl,rfl⟩
theorem JW (w:World) (lo:Nat) (v:Value) (z:List Int) (h:iA w lo v z.length (aT z)) (hz:z.length<=65536) :
  Calls Tryz.prog 152 #[v] w λe w'=>∃v',e=.returned v'/\iA w' w.heap.size v' z.length (aT z)/\aa [] w w':=by
 have h0:=h;obtain ⟨a,cap,rfl,hcp,hlc,hp⟩:=h.open;have hl:=fM z;generalize hzz:aT z=zs at *;have h1:∀u∈zs,u.oneCell'=true:=by rw [←hzz];exact K5 z
 generalize z.length=len at *;clear hzz;cases a with
 | none=>
  have hn:len=0:=by
   rcases Nat.eq_zero_or_pos len with h|h
   ·exact h
   ·obtain ⟨g,hg,_⟩:=hp h;cases hg
  subst hn;have hzs:zs=[]:=ϙ hl;subst hzs;have hs:=λ(W:World)=>Lib.run_eql_slice_nil (P:=Tryz.prog) W 77 3 none 0 cap 0 0 Tryz.underlying77;clear hp h h0
  go_enter Tryz.func152,Tryz.ntmps152
  go_wp2;go_ret;exact ⟨_,rfl,Α ⟨rfl,rfl,rfl⟩,aa.refl _ _⟩
 | some a=>
  have hs:=λ(W:World)=>Lib.run_eql_slice_nil (P:=Tryz.prog) W 77 3 (some a) len cap 0 0 Tryz.underlying77;have hL:=h.upd ((aa.refl [] w).alloc (.cells #[] 3)) σ;have hO:=ou w [] 3 w.heap.size 1 0 rfl (Θ _) μ;clear hp h h0
  go_enter Tryz.func152,Tryz.ntmps152
  go_wp2_with (at_builtin;refine uf rfl _ _ 77 rfl w.heap.size 3 (.int .i64 0) 1 8 Tryz.underlying77 fF rfl δ _ _ _ rfl hO lo len zs _ rfl hL ω h1 μ ω σ ?_;intro v2 w2 ho2 hu2)
  go_ret;have hu3:aa [w.heap.size] (w.alloc (.cells #[] 3)) w2:=hu2;refine ⟨_,rfl,?_,((aa.refl _ _).alloc _).joined hu3 (λx hx=>Β (by simp at hx;omega))⟩;have:=iA.qM ho2;simpa using this
def rowOk (n:Nat) (S:CS) (l:List Int) (i:Nat):Bool:=mW n S (l.getD i 0) && (i == 0 || decide (mQ n S (l.getD (i-1) 0)<mQ n S (l.getD i 0)))
def uV (n:Nat) (S:CS) (l:List Int) (j:Nat):Bool:=(List.range j).all (rowOk n S l)
theorem GY (n:Nat) (S:CS) (l:List Int) (j:Nat):uV n S l (j+1)=(uV n S l j && rowOk n S l j):=by
 unfold uV;rw [List.range_succ,List.all_append];simp
theorem Oy (n:Nat) (S:CS) (l:List Int) (j:Nat) (h:uV n S l j=true) (hj:rowOk n S l j=false) (m:Nat) (hm:j<m):uV n S l m=false:=by
 unfold uV;rw [List.all_eq_false];exact ⟨j,by simp [hm],by simp [hj]⟩
def Jp (n:Nat) (S:CS) (l:List Int):Bool:=uV n S l l.length
def CS.xW (S:CS) (x:Nat) (v:Value) (l:List Int):CS:=⟨λy=>if y=x then v else S.v y,λy=>if y=x then l else S.k y,S.u⟩
def CS.qc (S:CS) (x:Nat) (p:Int):CS:=⟨S.v,S.k,λy=>if y=x then p else S.u y⟩
theorem CS.PH (S:CS) (x:Nat) (v:Value) (l:List Int) (n g:Nat) (h:g∈(S.xW x v l).blk n):g∈S.blk n\/v.ownBlock=some g:=by
 obtain ⟨y,hy,he⟩:=(CS.iY _ n g).1 h;unfold CS.xW at he;simp only at he
 split at he
 ·exact Β he
 ·exact Α ((CS.iY _ n g).2 ⟨y,hy,he⟩)
theorem aN.bN {w:World} {bt ba lo n:Nat} {S:CS} (h:aN w bt ba lo n S) (x:Nat) (hx:x<n) (p:Int):aN (w.setCell ⟨ba,x*2+1,none⟩ (.int .i64 p)) bt ba lo n (S.qc x p):=by
 have hu:aa [ba] w (w.setCell ⟨ba,x*2+1,none⟩ (.int .i64 p)):=(aa.refl _ _).setCell (Α σ) _;refine ⟨h.head.upd hu (by simp;exact h.ne),(h.row.set _ _).ext (λj hj=>?_),λy hy=>au (h.own y hy) hu (λk hk hm=>?_),h.sep,h.ne,h.PS,h.IJ,Χ h.low hu.size,h.le,h.len⟩
 ·unfold cu CS.qc;simp only
  by_cases hj1:j=x*2+1
  ·subst hj1;rw [Δ rfl,Γ ω,show (x*2+1) / 2=x by omega,Δ rfl]
  ·rw [Γ hj1]
   by_cases h2:j % 2=0
   ·rw [Δ h2,Δ h2]
   ·rw [Γ h2,Γ h2,Γ ω]
 ·have:=((h.own y hy).lt k hk).1;have:=h.IJ;simp at hm;omega
theorem aN.QP {w w1:World} {bt ba lo n:Nat} {S:CS} (h:aN w bt ba lo n S) (x:Nat) (hx:x<n) (v:Value) (l:List Int) {F:List Nat} (hu:aa F w w1) (hF:∀g,g∈F->(S.v x).ownBlock=some g)
  (ho:w1.ownsRow lo 3 1 v l.length (aT l)) (hb:∀g,v.ownBlock=some g->(S.v x).ownBlock=some g\/w.heap.size<=g) (hl:l.length<=n):aN (w1.setCell ⟨ba,x*2,none⟩ v) bt ba lo n (S.xW x v l):=by
 have SY:∀g,g∈F->lo<=g/\g<w.heap.size:=λg hg=>(h.own x hx).lt g (hF g hg);have hl1:=h.PS;have hl2:=h.IJ;have hu2:aa [ba] w1 (w1.setCell ⟨ba,x*2,none⟩ v):=(aa.refl _ _).setCell (Α σ) _;have hr:=h.row.upd hu (λhm=>by have:=SY _ hm;omega);refine ⟨(h.head.upd hu (λhm=>by have:=SY _ hm;omega)).upd hu2 (by simp;exact h.ne),(hr.set _ _).ext (λj hj=>?_),λy hy=>?_,?_,h.ne,h.PS,h.IJ,Χ (Χ h.low hu.size) hu2.size,h.le,?_⟩
 ·unfold cu CS.xW;simp only
  by_cases hj1:j=x*2
  ·subst hj1;rw [Δ rfl,Δ ω,show (x*2) / 2=x by omega,Δ rfl]
  ·rw [Γ hj1]
   by_cases h2:j % 2=0
   ·rw [Δ h2,Δ h2,Γ ω]
   ·rw [Γ h2,Γ h2]
 ·unfold CS.xW;simp only
  by_cases hyx:y=x
  ·rw [Δ hyx,Δ hyx];exact au ho hu2 (λk hk hm=>by have:=(ho.lt k hk).1;simp at hm;omega)
  ·rw [Γ hyx,Γ hyx];have h1:=h.own y hy;have h2:=au h1 hu (λk hk hm=>h.sep y x hy hx hyx k hk (hF k hm));exact au h2 hu2 (λk hk hm=>by have:=(h1.lt k hk).1;simp at hm;omega)
 ·intro y z hy hz PD g hg;unfold CS.xW at hg ⊢;simp only at hg ⊢
  by_cases hyx:y=x
  ·rw [Δ hyx] at hg;rw [Γ (λe=>PD (by rw [hyx,e]))];rcases hb g hg with h1|h1
   ·exact h.sep x z hx hz ω g h1
   ·intro h2;have:=((h.own z hz).lt g h2).2;omega
  ·rw [Γ hyx] at hg
   by_cases hzx:z=x
   ·rw [Δ hzx];intro h2;rcases hb g h2 with h1|h1
    ·exact h.sep y x hy hx hyx g hg h1
    ·have:=((h.own y hy).lt g hg).2;omega
   ·rw [Γ hzx];exact h.sep y z hy hz PD g hg
 ·intro y hy;unfold CS.xW;simp only
  by_cases hyx:y=x
  ·rw [Δ hyx];exact hl
  ·rw [Γ hyx];exact h.len y hy
structure eQ (w:World) (bt ba n:Nat) (f:Nat->Value):Prop where
 head:aJ w bt 231 1 (λ_=>.slice (some ⟨ba,0,none⟩) n n)
 row:aJ w ba 233 (n*2) f
 ne:bt≠ba
 le:n<=65536
theorem aN.nodes {w:World} {bt ba lo n:Nat} {S:CS} (h:aN w bt ba lo n S):eQ w bt ba n (cu S):=⟨h.head,h.row,h.ne,h.le⟩
theorem eQ.upd {w w':World} {F:List Nat} {bt ba n:Nat} {f:Nat->Value} (h:eQ w bt ba n f) (hu:aa F w w') (h1:bt∉F) (h2:ba∉F):eQ w' bt ba n f:=⟨h.head.upd hu h1,h.row.upd hu h2,h.ne,h.le⟩
theorem eQ.set {w:World} {bt ba n:Nat} {f:Nat->Value} (h:eQ w bt ba n f) (j:Nat) (v:Value):eQ (w.setCell ⟨ba,j,none⟩ v) bt ba n (λi=>if i=j then v else f i):=
 ⟨h.head.far _ _ h.ne,h.row.set j v,h.ne,h.le⟩
theorem eQ.ext {w:World} {bt ba n:Nat} {f g:Nat->Value} (h:eQ w bt ba n f) (hg:∀j,j<n*2->f j=g j):eQ w bt ba n g:=⟨h.head,h.row.ext hg,h.ne,h.le⟩
def pW (f:Nat->Value) (p:Int) (ks:List Int) (i:Nat):Value:=if i % 2=1/\((i / 2:Nat):Int)∈ks then .int .i64 p else f i
def iq (f:Nat->Value) (x:Nat) (v:Value) (i:Nat):Value:=if i=x then v else f i
theorem AL (f:Nat->Value) (p:Int) (ks:List Int) (q y:Nat) (hk:ks[q]?=some (y:Int)) (i:Nat):(if i=y*2+1 then .int .i64 p else pW f p (ks.take q) i)=pW f p (ks.take (q+1)) i:=by
 unfold pW;rw [Ϗ,hk]
 by_cases h1:i=y*2+1
 ·subst h1;rw [Δ rfl,Δ ⟨ω,by simp;exact Β ω⟩]
 ·rw [Γ h1]
  by_cases h2:i % 2=1/\((i / 2:Nat):Int)∈ks.take q
  ·rw [Δ h2,Δ ⟨h2.1,by simp only [τ];exact Α h2.2⟩]
  ·rw [Γ h2,Γ (λh=>by
    obtain ⟨h3,h4⟩:=h;rcases τ.1 h4 with h4|h4
    ·exact h2 ⟨h3,h4⟩
    ·simp at h4;omega)]
theorem Ai (bt ba n lo x:Nat) (f:Nat->Value) (v:Value) (ks:List Int) (w:World) (h:eQ w bt ba n f) (hv:iA w lo v ks.length (aT ks)) (hx:x<n) (hlo:ba<lo) (hks:∀k,k∈ks->0<=k/\k<n) :
  Calls Tryz.prog 187 #[.pointer (some ⟨bt,0,none⟩),.int .i64 (x:Int),v] w λe w'=>e=.returned (.tuple #[])/\eQ w' bt ba n (pW (iq f (x*2) v) x ks)/\aa [ba] w w':=by
 obtain ⟨a,cap,rfl,hcp,hlc,hp⟩:=hv.open;have hle:=h.le;have hne:=h.ne;have c0:=h.head.cell 0 ω;have d0:=h.row.cell (x*2) ω;have e0:=h.row.free (x*2);have HN:eQ (w.setCell ⟨ba,x*2,none⟩ (.slice a ks.length cap)) bt ba n (pW (iq f (x*2) (.slice a ks.length cap)) x (ks.take 0)):=by
  refine (h.set (x*2) (.slice a ks.length cap)).ext (λj hj=>?_)
  show iq f (x*2) (.slice a ks.length cap) j=_
  unfold pW;rw [Γ σ]
 have hu0:aa [ba] w (w.setCell ⟨ba,x*2,none⟩ (.slice a ks.length cap)):=(aa.refl _ _).setCell (Α σ) _;have HP:=χ hp;have HK:=χ hks;generalize iq f (x * 2) (.slice a ks.length cap)=g at *;clear hp hv hks h;generalize hlen:ks.length=len at *;have HLEN:=χ hlen;clear hlen
 go_enter Tryz.func187,Tryz.ntmps187
 go_wp2
 go_loopw [18] (λi wr=>∃q:Nat,q<=len/\i=.int .i64 (q:Int)/\eQ wr bt ba n (pW g x (ks.take q))/\aa [ba] w wr) (λi _=>len-(intOf i).toNat)
 case atStart=>exact ⟨0,ω,rfl,HN,hu0⟩
 case round=>
  obtain ⟨q,hq,rfl,hN,hu⟩:=hrel
  by_cases hlt:q<len
  ·obtain ⟨gb,rfl,hg1,hg2,NM⟩:=HP.out ω;obtain ⟨y,nL⟩:∃y,ks[q]?=some y:=⟨ks[q]'(by rw [HLEN.out];exact hlt),σ⟩;obtain ⟨hy0,hyn⟩:=HK.out y (Η nL);obtain ⟨Y,rfl⟩:=Int.eq_ofNat_of_zero_le hy0;have hYn:Y<n:=ω;have hc:=NM q (.int .i64 (Y:Int)) (by unfold aT;rw [ϑ,nL];rfl);have hc2:wr.cell? ⟨gb,q,none⟩=some (.int .i64 (Y:Int)):=by rw [hu.cell hg2 ζ];exact hc
   have c1:=hN.head.cell 0 ω;have d1:=hN.row.cell (Y*2+1) ω;have e1:=hN.row.free (Y*2+1);have hs:=AL g x ks q Y nL;have HS:=χ hs;have HNN:=χ hN;clear hs nL NM hc hN HN;go_wp2
   go_roundw
   case rel=>exact ⟨q+1,ω,by go_num,(HNN.out.set _ _).ext (λj hj=>HS.out j),hu.setCell (Α σ) _⟩
   case measure=>simp [intOf];omega
  ·obtain rfl:q=len:=ω;rw [List.take_of_length_le (by rw [HLEN.out];omega)] at hN;go_wp2;go_end0;exact ⟨rfl,hN,hu⟩
def fZ (S:CS) (x:Nat):CS:=⟨λy=>if y=x then .slice none 0 0 else S.v y,λy=>if y=x then [] else S.k y,λy=>if (y:Int)∈S.k x then -1 else S.u y⟩
theorem oN (S:CS) (x n g:Nat) (h:g∈(fZ S x).blk n):g∈S.blk n:=by
 obtain ⟨y,hy,he⟩:=(CS.iY _ n g).1 h;unfold fZ at he;simp only at he
 split at he
 ·cases he
 ·exact (CS.iY _ n g).2 ⟨y,hy,he⟩
theorem EP (S:CS) (x:Nat) (j:Nat):pW (iq (cu S) (x*2) (.slice none 0 0)) (-1) (S.k x) j=cu (fZ S x) j:=by
 unfold pW iq cu fZ;simp only
 by_cases h:j % 2=0
 ·rw [Γ ω,Δ h]
  by_cases h2:j=x*2
  ·rw [Δ h2,Δ h,Δ ω]
  ·rw [Γ h2,Δ h,Γ ω]
 ·rw [Γ h]
  by_cases h2:((j / 2:Nat):Int)∈S.k x
  ·rw [Δ ⟨ω,h2⟩,Γ h,Δ h2]
  ·rw [Γ (λh=>h2 h.2),Γ ω,Γ h,Γ h2]
theorem aN.split {w w1:World} {bt ba lo n:Nat} {S:CS} (h:aN w bt ba lo n S) (x:Nat) (hx:x<n) (hN:eQ w1 bt ba n (cu (fZ S x))) (hu:aa [ba] w w1):aN w1 bt ba lo n (fZ S x):=by
 have h2:=h.IJ;refine ⟨hN.head,hN.row,λy hy=>?_,λy z hy hz PD g hg=>?_,h.ne,h.PS,h.IJ,Χ h.low hu.size,h.le,λy hy=>?_⟩
 ·unfold fZ;simp only
  by_cases hyx:y=x
  ·rw [Δ hyx,Δ hyx];exact World.ownsRow_nil _ _ _ _
  ·rw [Γ hyx,Γ hyx];exact au (h.own y hy) hu (λk hk hm=>by have:=((h.own y hy).lt k hk).1;simp at hm;omega)
 ·unfold fZ at hg ⊢;simp only at hg ⊢
  by_cases hyx:y=x
  ·rw [Δ hyx] at hg;cases hg
  ·rw [Γ hyx] at hg
   by_cases hzx:z=x
   ·rw [Δ hzx];intro h;cases h
   ·rw [Γ hzx];exact h.sep y z hy hz PD g hg
 ·unfold fZ;simp only
  split
  ·exact Nat.zero_le _
  ·exact h.len y hy
theorem KA (bt ba lo n:Nat) (S:CS) (x:Nat) (w:World) (h:aN w bt ba lo n S) (hx:x<n) (hr:mW n S x=true) (hks:∀k,k∈S.k x->0<=k/\k<n) :
  Calls Tryz.prog 184 #[.pointer (some ⟨bt,0,none⟩),.int .i64 (x:Int)] w λe w'=>∃v,e=.returned v/\iA w' w.heap.size v (S.k x).length (aT (S.k x))/\aN w' bt ba lo n (fZ S x)/\aa [ba] w w':=by
 have hle:=h.le;have hne:=h.ne;have hl2:=h.IJ;have hlow:=h.low;have hln:=h.len x hx;have k1:=tO bt ba lo n S x w h;rw [hr] at k1;have c0:=h.head.cell 0 ω;have hL:=iA.qM (h.own x hx);obtain ⟨a,cap,hv,hcp,hlc,hp⟩:=hL.open;have d0:=h.row.cellAt (x*2) ω ((lH S x).trans hv);have e0:=h.row.free (x*2);have hu0:aa [ba] w (w.setCell ⟨ba,x*2,none⟩ (.slice none 0 0)):=(aa.refl _ _).setCell (Α σ) _;have HN:eQ (w.setCell ⟨ba,x*2,none⟩ (.slice none 0 0)) bt ba n (pW (iq (cu S) (x*2) (.slice none 0 0)) (-1) ((S.k x).take 0)):=by
  refine (h.nodes.set (x*2) (.slice none 0 0)).ext (λj hj=>?_)
  show iq (cu S) (x*2) (.slice none 0 0) j=_
  unfold pW;rw [Γ σ]
 have HC:=λW (hW:aa [ba] w W)=>JW W lo (.slice a (S.k x).length cap) (S.k x) (by rw [hv] at hL;exact hL.upd hW (λk hk=>by simp at hk;omega)) ω;have HE:=χ (EP S x);have H:=χ h;have HP:=χ hp;have HK:=χ hks;generalize iq (cu S) (x * 2) (.slice none 0 0)=g at *;clear h hr hks hp hL hv;generalize S.k x=ks at *;generalize hlen:ks.length=len at *;have HLEN:=χ hlen;clear hlen
 go_enter Tryz.func184,Tryz.ntmps184
 go_wp2_with ((go_at_call 189;(with_reducible refine (k1).mono ?_);rintro e w9 ⟨rfl,aH⟩;rw [aH];clear aH w9))
 go_loopw [29] (λi wr=>∃q:Nat,q<=len/\i=.int .i64 (q:Int)/\eQ wr bt ba n (pW g (-1) (ks.take q))/\aa [ba] w wr) (λi _=>len-(intOf i).toNat)
 case atStart=>exact ⟨0,ω,rfl,HN,hu0⟩
 case round=>
  obtain ⟨q,hq,rfl,hN,hu⟩:=hrel
  by_cases hlt:q<len
  ·obtain ⟨gb,rfl,hg1,hg2,NM⟩:=HP.out ω;obtain ⟨y,nL⟩:∃y,ks[q]?=some y:=⟨ks[q]'(by rw [HLEN.out];exact hlt),σ⟩;obtain ⟨hy0,hyn⟩:=HK.out y (Η nL);obtain ⟨Y,rfl⟩:=Int.eq_ofNat_of_zero_le hy0;have hYn:Y<n:=ω;have hc:=NM q (.int .i64 (Y:Int)) (by unfold aT;rw [ϑ,nL];rfl);have hc2:wr.cell? ⟨gb,q,none⟩=some (.int .i64 (Y:Int)):=by rw [hu.cell hg2 ζ];exact hc
   have c1:=hN.head.cell 0 ω;have d1:=hN.row.cell (Y*2+1) ω;have e1:=hN.row.free (Y*2+1);have hs:=AL g (-1) ks q Y nL;have HS:=χ hs;have HNN:=χ hN;clear hs nL NM hc hN HN;go_wp2
   go_roundw
   case rel=>exact ⟨q+1,ω,by go_num,(HNN.out.set _ _).ext (λj hj=>HS.out j),hu.setCell (Α σ) _⟩
   case measure=>simp [intOf];omega
  ·obtain rfl:q=len:=ω;rw [List.take_of_length_le (by rw [HLEN.out];omega)] at hN;have kC:=HC wr hu;have PR:=hN.ext (λj hj=>HE.out j);have hsz:=hu.size;clear HC hN HN
   go_wp2_with (go_at_call 152;(with_reducible refine (kC).mono ?_);rintro e w2 ⟨v2,rfl,h2,h3⟩)
   go_ret;exact ⟨_,rfl,h2.mono hsz,H.out.split x hx (PR.upd h3 σ σ) (hu.then h3),hu.then h3⟩
def idxOf (l:List Int) (x:Int):Int:=match l.findIdx? (λy=>y == x) with|some i=>(i:Int)|none=>-1
theorem Dz (l:List Int) (x:Int) (k:Nat) (hn:x∉l.take k) (hk:l[k]?=some x):idxOf l x=k:=by
 have:l.findIdx? (λy=>y == x)=some k:=by
  rw [List.findIdx?_eq_some_iff_getElem];obtain ⟨h1,h2⟩:=List.getElem?_eq_some_iff.1 hk;refine ⟨h1,by simp [h2],λj hj=>?_⟩;simp only [Ϝ];intro e;exact hn (by rw [←e];exact List.mem_take_iff_getElem.2 ⟨j,ω,rfl⟩)
 unfold idxOf;rw [this]
theorem xC (l:List Int) (x:Int) (hn:x∉l):idxOf l x=-1:=by
 have:l.findIdx? (λy=>y == x)=none:=by
  rw [List.findIdx?_eq_none_iff];intro y hy;simp only [beq_eq_false_iff_ne];intro e;subst e;exact hn hy
 unfold idxOf;rw [this]
theorem zC (w:World) (lo:Nat) (v:Value) (l:List Int) (x:Int) (h:iA w lo v l.length (aT l)) :
  Calls Tryz.prog 180 #[v,.int .i64 x] w λe w'=>e=.returned (.int .i64 (idxOf l x))/\w'=w:=by
 obtain ⟨a,cap,rfl,hcp,hlc,hp⟩:=h.open;have HP:=χ hp;clear hp h;generalize hlen:l.length=len at *;have HLEN:=χ hlen;clear hlen
 go_enter Tryz.func180,Tryz.ntmps180
 go_wp2
 go_loop [8] (λi=>∃q:Nat,q<=len/\i=.int .i64 (q:Int)/\x∉l.take q) (λi=>len-(intOf i).toNat)
 case atStart=>exact ⟨0,ω,rfl,σ⟩
 case round=>
  obtain ⟨q,hq,rfl,hn⟩:=hrel
  by_cases hlt:q<len
  ·obtain ⟨gb,rfl,hg1,hg2,NM⟩:=HP.out ω;obtain ⟨y,nL⟩:∃y,l[q]?=some y:=⟨l[q]'(by rw [HLEN.out];exact hlt),σ⟩;have hc:=NM q (.int .i64 y) (by unfold aT;rw [ϑ,nL];rfl)
   by_cases hxy:x=y
   ·subst hxy;have hi:=Dz l x q hn nL;have HI:=χ hi;clear NM hn nL hi;go_wp2;go_ret;exact ⟨iX HI.out.symm,rfl⟩
   ·have b1:(x == y)=false:=by simpa using hxy
    have hn2:x∉l.take (q+1):=by rw [Ϗ,nL];simp;exact ⟨hn,hxy⟩
    have Td:=χ hn2;clear NM hn nL hn2 hxy;go_wp2
    go_round
    case rel=>exact ⟨q+1,ω,by go_num,Td.out⟩
    case measure=>simp [intOf];omega
  ·obtain rfl:q=len:=ω;rw [List.take_of_length_le (by rw [HLEN.out];omega)] at hn;have HI:=χ (xC l x hn);clear hn;go_wp2;go_ret;exact ⟨iX HI.out.symm,rfl⟩
def setAt (l:List Int) (x y:Int):List Int:=l.set (idxOf l x).toNat y
theorem jv (l:List Int) (x y:Int):(setAt l x y).length=l.length:=by unfold setAt;simp
theorem tY (l:List Int) (x:Int) (h:x∈l):∃i:Nat,i<l.length/\idxOf l x=i/\l[i]?=some x:=by
 cases hf:l.findIdx? (λy=>y == x) with
 | none=>
  rw [List.findIdx?_eq_none_iff] at hf;have:=hf x h;simp at this
 | some i=>
  have h2:=hf;rw [List.findIdx?_eq_some_iff_getElem] at h2;obtain ⟨h3,h4,_⟩:=h2;refine ⟨i,h3,by unfold idxOf;rw [hf],?_⟩;rw [ε h3];simp at h4;rw [h4]
def gB (S:CS) (x p:Nat) (above:Int):CS:=
  ⟨λy=>if y=x then S.v p else if y=p then S.v x else S.v y,
   λy=>if y=x then setAt (S.k p) x p else if y=p then S.k x else if (y:Int)=above then setAt (S.k y) p x else S.k y,
   λy=>if y=x then above else if (y:Int)∈S.k x then p else if (y:Int)∈setAt (S.k p) x p then x else S.u y⟩
def I5 (S:CS) (x p:Nat) (above:Int):Nat->Value:=
 iq (pW (iq (pW (iq (cu S) (x*2) (S.v p)) x (setAt (S.k p) x p)) (p*2) (S.v x)) p (S.k x)) (x*2+1) (.int .i64 above)
theorem nN (f:Nat->Value) (p:Int) (ks:List Int) (j:Nat) (h:j % 2=0):pW f p ks j=f j:=by unfold pW;rw [Γ ω]
theorem lD (f:Nat->Value) (x:Nat) (v:Value) (j:Nat) (h:j≠x):iq f x v j=f j:=by unfold iq;rw [Γ h]
theorem Ia (f:Nat->Value) (x:Nat) (v:Value):iq f x v x=v:=by unfold iq;rw [Δ rfl]
theorem Au (S:CS) (x p:Nat) (above:Int) (hxp:x≠p) (j:Nat):I5 S x p above j=cu (gB S x p above) j:=by
 unfold I5
 by_cases h:j % 2=0
 ·rw [lD _ _ _ _ (show j≠x*2+1 by omega),nN _ _ _ _ h];unfold cu gB;rw [Δ h];simp only
  by_cases h3:j / 2=x
  ·rw [lD _ _ _ _ (show j≠p*2 by omega),nN _ _ _ _ h,show j=x*2 by omega,Ia,Δ ω]
  ·by_cases h4:j / 2=p
   ·rw [show j=p*2 by omega,Ia,Γ ω,Δ ω]
   ·rw [lD _ _ _ _ (show j≠p*2 by omega),nN _ _ _ _ h,lD _ _ _ _ (show j≠x*2 by omega),Δ h,Γ h3,Γ h4]
 ·have h0:j % 2=1:=ω;unfold cu gB iq pW;simp only [h0,true_and]
  by_cases h3:j / 2=x
  ·rw [Δ ω,Γ ω,Δ h3]
  ·rw [Γ (show ¬j=x*2+1 by omega),Γ (show ¬j=p*2 by omega),Γ (show ¬j=x*2 by omega)];rw [Γ (show ¬ (1=0) by omega),Γ (show ¬ (1=0) by omega),Γ h3]
   by_cases h5:((j / 2:Nat):Int)∈S.k x
   ·rw [Δ h5,Δ h5]
   ·rw [Γ h5,Γ h5]
    by_cases h6:((j / 2:Nat):Int)∈setAt (S.k p) x p
    ·rw [Δ h6,Δ h6]
    ·rw [Γ h6,Γ h6]
theorem D9 {w:World} {base n cap g:Nat} {e:TypeId} {xs:List Value} (h:w.ownsRow base e 1 (.slice (some ⟨g,0,none⟩) n cap) n xs) (j:Nat) (u:Value) :
  (w.setCell ⟨g,j,none⟩ u).ownsRow base e 1 (.slice (some ⟨g,0,none⟩) n cap) n (xs.set j u):=(h.stored j u).1
theorem Ab (l:List Int) (j:Nat) (y:Int):aT (l.set j y)=(aT l).set j (.int .i64 y):=by unfold aT;rw [List.map_set]
structure yG (n:Nat) (S:CS) (x p:Nat) (above:Int):Prop where
 hx:x<n
 hp:p<n
 ne:x≠p
 up:S.u x=p
 ab:S.u p=above
 mem:(x:Int)∈S.k p
 kx:∀k,k∈S.k x->0<=k/\k<n
 kp:∀k,k∈S.k p->0<=k/\k<n
 top:above=-1\/∃q:Nat,above=q/\q<n/\q≠x/\q≠p/\(p:Int)∈S.k q
theorem aN.lift {w w5:World} {bt ba lo n:Nat} {S:CS} (h:aN w bt ba lo n S) {x p:Nat} {above:Int} (ok:yG n S x p above) (hN:eQ w5 bt ba n (cu (gB S x p above))) (hs:w.heap.size<=w5.heap.size)
  (ho:∀y,y<n->w5.ownsRow lo 3 1 ((gB S x p above).v y) ((gB S x p above).k y).length (aT ((gB S x p above).k y))):aN w5 bt ba lo n (gB S x p above):=by
 have hx:=ok.hx;have hp:=ok.hp;have hne:=ok.ne;refine ⟨hN.head,hN.row,ho,λy z hy hz PD g hg=>?_,h.ne,h.PS,h.IJ,Χ h.low hs,h.le,λy hy=>?_⟩
 ·unfold gB at hg ⊢;simp only at hg ⊢;have key:∀a b,a<n->b<n->a≠b->(S.v a).ownBlock=some g->(S.v b).ownBlock≠some g:=λa b ha hb hab=>h.sep a b ha hb hab g
  by_cases h1:y=x
  ·rw [Δ h1] at hg;rw [Γ (λe=>PD ω)]
   by_cases h2:z=p
   ·rw [Δ h2];exact key p x hp hx (Ne.symm hne) hg
   ·rw [Γ h2];exact key p z hp hz (Ne.symm h2) hg
  ·rw [Γ h1] at hg
   by_cases h2:y=p
   ·rw [Δ h2] at hg
    by_cases h3:z=x
    ·rw [Δ h3];exact key x p hx hp hne hg
    ·rw [Γ h3,Γ (λe=>PD ω)];exact key x z hx hz (Ne.symm h3) hg
   ·rw [Γ h2] at hg
    by_cases h3:z=x
    ·rw [Δ h3];exact key y p hy hp h2 hg
    ·rw [Γ h3]
     by_cases h4:z=p
     ·rw [Δ h4];exact key y x hy hx h1 hg
     ·rw [Γ h4];exact key y z hy hz PD hg
 ·unfold gB;simp only
  split
  ·rw [jv];exact h.len p hp
  ·split
   ·exact h.len x hx
   ·split
    ·rw [jv];exact h.len y hy
    ·exact h.len y hy
set_option maxRecDepth 100000 in
theorem DY (bt ba lo n:Nat) (S:CS) (x p:Nat) (above:Int) (w:World) (h:aN w bt ba lo n S) (ok:yG n S x p above) :
  Calls Tryz.prog 181 #[.pointer (some ⟨bt,0,none⟩),.int .i64 (x:Int)] w λe w'=>e=.returned (.bool true)/\aN w' bt ba lo n (gB S x p above)/\aa (ba::S.blk n) w w':=by
 have hx:=ok.hx;have hp:=ok.hp;have hle:=h.le;have hne:=h.ne;have hl1:=h.PS;have hl2:=h.IJ;have k1:=uE bt ba lo n S x w h;have hup:E8 n S x=some (p:Int):=by unfold E8;rw [Δ ω,show ((x:Int)).toNat=x by omega,ok.up,Γ ω]
 rw [hup,show ov (some (p:Int))=(p:Int) from rfl,show ob (some (p:Int))=true from rfl] at k1;obtain ⟨ax,cx,Zx,_⟩:=bz (h.own x hx);obtain ⟨i,hil,hidx,hi⟩:=tY _ _ ok.mem;obtain ⟨gp,cp,hvp,hg1,hg2,hgc,hgm,hgx,hgf⟩:=ed (h.own p hp) ω;have c0:=h.head.cell 0 ω;have d0:=h.row.cellAt (x*2) ω ((lH S x).trans Zx);have d1:=h.row.cellAt (p*2) ω ((lH S p).trans hvp);have d2:=h.row.cellAt (p*2+1) ω ((ry S p).trans (by rw [ok.ab]));have hab:above≠-1->(above != -1)=true:=λh=>by simpa using h
 clear hup
 go_enter Tryz.func181,Tryz.ntmps181
 go_wp2_with ((go_at_call 179;(with_reducible refine (k1).mono ?_);rintro e w9 ⟨rfl,aH⟩;rw [aH];clear aH w9))
 go_quiet (fail)
 have h0:aN (w.drewN nq) bt ba lo n S:=h.ai ((aa.refl _ _).drewN _);have hu0:aa (ba::S.blk n) w (w.drewN nq):=(aa.refl _ _).drewN _;generalize w.drewN nq=W at *;clear h c0 d0 d1 d2 hgx hgf k1 hg1 hg2;have hop:=h0.own p hp;have hox:=h0.own x hx;rw [hvp] at hop;have LU:=hop.lt gp rfl;have kI:=zC W lo _ (S.k p) x (iA.qM hop);rw [hidx] at kI;have ci:W.cell? ⟨gp,i,none⟩=some (.int .i64 (x:Int)):=by rw [hop.cellAt i ω];unfold aT;rw [ϑ,hi];rfl
 have fi:=hop.frozenAt i;have hset:(S.k p).set i p=setAt (S.k p) x p:=by unfold setAt;rw [hidx];rfl
 have U8:=D9 hop i (.int .i64 (p:Int));rw [←Ab,hset] at U8;have hu1:aa [gp] W (W.setCell ⟨gp,i,none⟩ (.int .i64 (p:Int))):=(aa.refl _ _).setCell (Α σ) _;have hN1:=h0.nodes.upd hu1 ζ ζ;have hsl:=jv (S.k p) x p
 have kA1:=Ai bt ba n lo x (cu S) _ (setAt (S.k p) x p) _ hN1 (by have:=iA.qM U8;rw [hsl];exact this) hx hl2 (λk hk=>by
  rw [←hset] at hk;rcases List.mem_or_eq_of_mem_set hk with h|h
  ·exact ok.kp k h
  ·omega)
 have hxg:(S.v x).ownBlock≠some gp:=h0.sep p x hp hx (Ne.symm ok.ne) gp (by rw [hvp];rfl);have hox1:=au hox hu1 (λk hk hm=>by simp at hm;subst hm;exact hxg hk);have kA2:=λw2 (PR:eQ w2 bt ba n (pW (iq (cu S) (x*2) (.slice (some ⟨gp,0,none⟩) (S.k p).length cp)) x (setAt (S.k p) x p))) (hu2:aa [ba] (W.setCell ⟨gp,i,none⟩ (.int .i64 (p:Int))) w2)=>
  Ai bt ba n lo p _ (S.v x) (S.k x) w2 PR (iA.qM (au hox1 hu2 (λk hk hm=>by have:=(hox.lt k hk).1;simp at hm;omega))) hp hl2 ok.kx
 rw [Zx] at kA2;have PN:∀y,y<n->∀g,(S.v y).ownBlock=some g->g∈S.blk n:=λy hy g hg=>(S.iY n g).2 ⟨y,hy,hg⟩;have WS:gp∈S.blk n:=PN p hp gp (by rw [hvp];rfl);have hall:∀y,y<n->y≠p->(S.v y).ownBlock≠some gp:=λy hy hyp=>h0.sep p y hp hy (Ne.symm hyp) gp (by rw [hvp];rfl);have Xe:∀y,y<n->y≠p->∀w4,aa [ba] (W.setCell ⟨gp,i,none⟩ (.int .i64 (p:Int))) w4->w4.ownsRow lo 3 1 (S.v y) (S.k y).length (aT (S.k y)):=λy hy hyp w4 hw=>
  au (au (h0.own y hy) hu1 (λk hk hm=>by simp at hm;subst hm;exact hall y hy hyp hk)) hw (λk hk hm=>by have:=((h0.own y hy).lt k hk).1;simp at hm;omega)
 have Zb:∀w4,aa [ba] (W.setCell ⟨gp,i,none⟩ (.int .i64 (p:Int))) w4->w4.ownsRow lo 3 1 (S.v p) (setAt (S.k p) x p).length (aT (setAt (S.k p) x p)):=λw4 hw=>by
  rw [hsl,hvp];exact au U8 hw (λk hk hm=>by simp [Value.ownBlock] at hk;simp at hm;omega)
 have HALL:=χ hall;have NV:=χ Xe;have WL:=χ Zb;have HM:=χ PN;have H0:=χ h0;have OK:=χ ok;have HVX:=χ Zx;have HVP:=χ hvp;have HSET:=χ hset;have HSL:=χ hsl;have htop:=ok.top;clear hset hsl ok h0 Zx hvp hidx hi hall Xe Zb PN;rcases htop with rfl|⟨q,rfl,hq,ZG,Wm,hqm⟩
 ·go_wp2_with (first
   | (go_at_call 180;(with_reducible refine (kI).mono ?_);rintro e w9 ⟨rfl,aH⟩;rw [aH];clear aH w9)
   | ((go_at_call 187;(with_reducible refine (kA1).mono ?_));rintro e w2 ⟨rfl,PR,hu2⟩)
   | ((go_at_call 187;(with_reducible refine (kA2 _ PR hu2).mono ?_));rintro e w3 ⟨rfl,PZ,hu3⟩;have c3:=PZ.head.cell 0 ω;have d3:=PZ.row.cell (x*2+1) ω;have e3:=PZ.row.free (x*2+1)))
  go_ret;have hw4:=(hu2.trans hu3).setCell (p:=⟨ba,x*2+1,none⟩) (Α σ) (.int .i64 (-1))
  have X8:eQ (w3.setCell ⟨ba,x*2+1,none⟩ (.int .i64 (-1))) bt ba n (cu (gB S x p (-1))):=(PZ.set (x*2+1) (.int .i64 (-1))).ext (λj hj=>by
   rw [←Au S x p (-1) OK.out.ne j];unfold I5
   rw [HVX.out,HVP.out];rfl)
  refine ⟨rfl,H0.out.lift OK.out X8 (Χ hu1.size hw4.size) (λy hy=>?_),(hu0.trans (hu1.mono (by simp;exact Β WS))).trans (hw4.mono σ)⟩;unfold gB;simp only
  by_cases hyx:y=x
  ·rw [Δ hyx,Δ hyx];exact WL.out _ hw4
  ·rw [Γ hyx,Γ hyx]
   by_cases hyp:y=p
   ·rw [Δ hyp,Δ hyp];exact NV.out x hx OK.out.ne _ hw4
   ·rw [Γ hyp,Γ hyp,Γ ω];exact NV.out y hy hyp _ hw4
 ·obtain ⟨j,hjl,Uu,hj⟩:=tY _ _ hqm;have hoq:=H0.out.own q hq;obtain ⟨gq,cq,Zg,hq1,hq2,hqc,hqm2,hqx2,hqf⟩:=ed hoq ω;have b4:((q:Int) != -1)=true:=by rw [bne_iff_ne];omega
  have QK:=NV.out q hq Wm;rw [Zg] at QK;have Vb:=λW4 h4=>zC W4 lo _ (S.k q) p (iA.qM (QK W4 h4));rw [Uu] at Vb;have HJ:=χ Uu;have HJ2:=χ hj;have HVQ:=χ Zg;have hz1:=lH S q;rw [Zg] at hz1;have HZ:=χ hz1;clear Uu hj Zg hz1 hoq hqx2 hqf hab
  go_wp2_with (first
   | (go_at_call 180;(with_reducible refine (kI).mono ?_);rintro e w9 ⟨rfl,aH⟩;rw [aH];clear aH w9)
   | ((go_at_call 187;(with_reducible refine (kA1).mono ?_));rintro e w2 ⟨rfl,PR,hu2⟩)
   | ((go_at_call 187;(with_reducible refine (kA2 _ PR hu2).mono ?_));rintro e w3 ⟨rfl,PZ,hu3⟩;have c3:=PZ.head.cell 0 ω;have d3:=PZ.row.cell (x*2+1) ω;have e3:=PZ.row.free (x*2+1);have X8:=PZ.set (x*2+1) (.int .i64 (q:Int));have hw4:=(hu2.trans hu3).setCell (p:=⟨ba,x*2+1,none⟩) (Α σ) (.int .i64 (q:Int));have c4:=X8.head.cell 0 ω;have d4:=X8.row.cellAt (q*2) ω (v:=.slice (some ⟨gq,0,none⟩) (S.k q).length cq) (by
     rw [Γ ω,nN _ _ _ _ ω,lD _ _ _ _ ω,nN _ _ _ _ ω,lD _ _ _ _ ω];exact HZ.out);have o4:=QK _ hw4;have d5:=o4.cellAt j ω;have e5:=o4.frozenAt j;rw [show (aT (S.k q))[j]?=some (.int .i64 (p:Int)) by unfold aT;rw [ϑ,HJ2.out];rfl] at d5;have kI3:=Vb _ hw4;clear QK Vb)
   | (go_at_call 180;(with_reducible refine (kI3).mono ?_);rintro e w9 ⟨rfl,aH⟩;rw [aH];clear aH w9))
  go_ret
  have hN5:eQ (w3.setCell ⟨ba,x*2+1,none⟩ (.int .i64 (q:Int))) bt ba n (cu (gB S x p q)):=(PZ.set (x*2+1) (.int .i64 (q:Int))).ext (λj hj=>by
   rw [←Au S x p q OK.out.ne j];unfold I5
   rw [HVX.out,HVP.out];rfl)
  have QH:aa [gq] (w3.setCell ⟨ba,x*2+1,none⟩ (.int .i64 (q:Int))) ((w3.setCell ⟨ba,x*2+1,none⟩ (.int .i64 (q:Int))).setCell ⟨gq,j,none⟩ (.int .i64 (x:Int))):=(aa.refl _ _).setCell (Α σ) _;have ZV:(S.v q).ownBlock=some gq:=by rw [HVQ.out];rfl
  have Pv:∀y,y<n->y≠q->∀k,(S.v y).ownBlock=some k->k∉[gq]:=λy hy hyq k hk hm=>by
   simp at hm;subst hm;exact H0.out.sep y q hy hq hyq k hk ZV
  refine ⟨rfl,H0.out.lift OK.out (hN5.upd QH ζ ζ) (Χ (Χ hu1.size hw4.size) QH.size) (λy hy=>?_),((hu0.trans (hu1.mono (by simp;exact Β WS))).trans (hw4.mono σ)).trans (QH.mono (by simp;exact Β (HM.out q hq gq ZV)))⟩;unfold gB;simp only
  by_cases hyx:y=x
  ·rw [Δ hyx,Δ hyx];exact au (WL.out _ hw4) QH (Pv p hp (Ne.symm Wm))
  ·rw [Γ hyx,Γ hyx]
   by_cases hyp:y=p
   ·rw [Δ hyp,Δ hyp];exact au (NV.out x hx OK.out.ne _ hw4) QH (Pv x hx (Ne.symm ZG))
   ·rw [Γ hyp,Γ hyp]
    by_cases hyq:y=q
    ·subst hyq;rw [Δ rfl,jv,HVQ.out];have:=D9 o4 j (.int .i64 (x:Int));rw [←Ab] at this;unfold setAt;rw [HJ.out];exact this
    ·rw [Γ ω];exact au (NV.out y hy hyp _ hw4) QH (Pv y hy hyq)
def aV (w:World) (base:Nat) (v:Value) (xs:List Int):Prop:=
 (v=.slice none 0 0/\xs=[])\/
 ∃g off cap cur,v=.slice (some ⟨g,off,none⟩) xs.length cap/\base<=g/\w.heap[g]?=some (.cells cur 3 (0,0))/\xs.length<=cap/\cap<=9223372036854775807/\off+cap<=cur.size/\∀j u,xs[j]?=some u->cur[off+j]?=some (.int .i64 u)
theorem aV.nil (w:World) (base:Nat):aV w base (.slice none 0 0) []:=Α ⟨rfl,rfl⟩
theorem aV.iO {w:World} {base:Nat} {v:Value} {xs:List Int} (h:w.ownsRow base 3 1 v xs.length (aT xs)):aV w base v xs:=by
 rcases h.2 with ⟨rfl,h0⟩|⟨g,cap,cur,rfl,hb,hg,hn,hc,hs,ht⟩
 ·exact Α ⟨rfl,ϙ h0⟩
 ·refine Β ⟨g,0,cap,cur,rfl,hb,hg,hn,by unfold maxLen at hc;exact hc,ω,λj u hj=>?_⟩;have hjl:j<xs.length:=(List.getElem?_eq_some_iff.1 hj).1;have:(aT xs)[j]?=some (.int .i64 u):=by unfold aT;rw [ϑ,hj];rfl
  rw [←ht,List.getElem?_take,Δ ω] at this;rw [Nat.zero_add];simpa using this
theorem Im {w:World} {g:Nat} {o:Obj} (h:w.heap[g]?=some o):g<w.heap.size:=by
 rcases ϔ g w.heap.size with h'|h'
 ·exact h'
 ·rw [Array.getElem?_eq_none h'] at h;cases h
theorem aV.lt {w:World} {base:Nat} {v:Value} {xs:List Int} (h:aV w base v xs) (g:Nat) (hg:v.ownBlock=some g):base<=g/\g<w.heap.size:=by
 rcases h with ⟨rfl,_⟩|⟨g',off,cap,cur,rfl,hb,hh,_⟩
 ·cases hg
 ·simp only [Value.ownBlock,ϕ] at hg;subst hg;exact ⟨hb,Im hh⟩
theorem aV.mono {w:World} {base base':Nat} {v:Value} {xs:List Int} (h:aV w base v xs) (hb:base'<=base):aV w base' v xs:=by
 rcases h with h|⟨g',off,cap,cur,rfl,hb',hh⟩
 ·exact Α h
 ·exact Β ⟨g',off,cap,cur,rfl,Χ hb hb',hh⟩
theorem aV.upd {w w':World} {F:List Nat} {base:Nat} {v:Value} {xs:List Int} (h:aV w base v xs) (hu:aa F w w') (hF:∀g,v.ownBlock=some g->g∉F):aV w' base v xs:=by
 rcases h with h|⟨g,off,cap,cur,rfl,hb,hh,h1,h2⟩
 ·exact Α h
 ·exact Β ⟨g,off,cap,cur,rfl,hb,by rw [hu.block g (Im hh) (hF g rfl)];exact hh,h1,h2⟩
theorem aV.shape {w:World} {base:Nat} {v:Value} {xs:List Int} (h:aV w base v xs) :
  ∃a cap,v=.slice a xs.length cap/\xs.length<=cap/\cap<=9223372036854775807/\∀j u,xs[j]?=some u->∃g off,a=some ⟨g,off,none⟩/\w.cell? ⟨g,off+j,none⟩=some (.int .i64 u):=by
 rcases h with ⟨rfl,rfl⟩|⟨g,off,cap,cur,rfl,hb,hh,h1,h2,h3,h4⟩
 ·exact ⟨none,0,rfl,Θ _,ω,λj u hj=>by simp at hj⟩
 ·refine ⟨_,cap,rfl,h1,h2,λj u hj=>⟨g,off,rfl,?_⟩⟩;unfold World.cell?;simp only [hh];simpa using h4 j u hj
theorem aV.lit (w:World) (base:Nat) (x:Int) (hb:base<=w.heap.size):aV (w.alloc (.cells #[.int .i64 x] 3)) base (.slice (some ⟨w.heap.size,0,none⟩) 1 1) [x]:=
 aV.iO (ou w [.int .i64 x] 3 base 1 1 rfl hb μ)
def tailV (v:Value):Value:=match v with | .slice a n c=>.slice (if c=1 then a else a.map (·.add 1)) (n-1) (c-1)|v=>v
theorem uU (w:World) (a:Option Addr) (n c:Nat) (h1:1<=n) (h2:n<=9223372036854775807) :
  (Instr.slice 77 (.slice a n c) (some (.int .i64 1)) none none).run Tryz.prog w=.ok (tailV (.slice a n c)) w:=by
 have hs:(sizeOf 3).run Tryz.prog w=.ok 1 w:=by kernel_rfl
 unfold Instr.slice Instr.sliceBounds;simp [run_underlying Tryz.underlying77,go_sem,hs,tailV];intro h;omega
theorem aV.tail {w:World} {base:Nat} {v:Value} {x:Int} {xs:List Int} (h:aV w base v (x::xs)):aV w base (tailV v) xs/\(tailV v).ownBlock=v.ownBlock:=by
 rcases h with ⟨rfl,h0⟩|⟨g,off,cap,cur,rfl,hb,hh,h1,h2,h3,h4⟩
 ·cases h0
 ·simp only [Ω] at h1 ⊢;unfold tailV;simp only [Nat.add_sub_cancel]
  by_cases hc:cap=1
  ·subst hc;have:xs=[]:=ϙ ω;subst this;rw [Δ rfl];exact ⟨Β ⟨g,off,0,cur,rfl,hb,hh,Θ _,ω,ω,λj u hj=>by simp at hj⟩,rfl⟩
  ·rw [Γ hc];have e:(some (⟨g,off,none⟩:Addr)).map (·.add 1)=some ⟨g,off+1,none⟩:=by simp [Addr.add_lit]
   rw [e];refine ⟨Β ⟨g,off+1,cap-1,cur,rfl,hb,hh,ω,ω,ω,λj u hj=>?_⟩,rfl⟩;have:=h4 (j+1) u (by simpa using hj);rw [show off+1+j=off+(j+1) by omega];exact this
theorem pg (a:Option Addr) (n c:Nat):∃a',tailV (.slice a n c)=.slice a' (n-1) (c-1):=⟨_,rfl⟩
theorem yO {w:World} {base:Nat} {v:Value} {xs:List Int} (hown:aV w base v xs) (t ty:TypeId) (ht:Tryz.prog.underlying t=some (.slice 3)) (g1:Nat) (u:Int) (hnew:w.cell? ⟨g1,0,none⟩=some (.int .i64 u)) (hn:xs.length+1<=1000000) (hbase:base<=w.heap.size) :
  ∃v' w',(Builtin.append_ #[t,t] ty #[v,.slice (some ⟨g1,0,none⟩) 1 1]).run Tryz.prog w=.ok v' w'/\aV w' base v' (xs++[u])/\aa v.ownBlock.toList w w'/\(∀k,v'.ownBlock=some k->v.ownBlock=some k\/w.heap.size<=k):=by
 obtain ⟨i,hi,hz0,hz1,hz2⟩:=info_parts fF;have hnews:∀j x,[Value.int .i64 u][j]?=some x->w.cell? ((⟨g1,0,none⟩:Addr).add j)=some x:=λj x hj=>by
  match j,hj with
  | 0,hj=>simp at hj;subst hj;rw [vz];exact hnew
 have h1:∀x∈[Value.int .i64 u],x.oneCell'=true:=by simp [Value.oneCell']
 rcases hown with ⟨rfl,rfl⟩|⟨g,off,cap,cur,rfl,hb,hh,hc1,hc2,hc3,hc4⟩
 ·obtain ⟨v',w',hr,h2,h3,_⟩:=run_append_own (P:=Tryz.prog) w w.heap.size t ty 3 i (.int .i64 0) 1 8 ht hi hz0 hz1 hz2 rfl δ (.slice none 0 0) 0 [] (World.ownsRow_nil w _ _ _) ⟨g1,0,none⟩ 1 1 [.int .i64 u] rfl hnews h1 μ ω (Θ _);exact ⟨v',w',hr,(aV.iO (xs:=[u]) h2).mono hbase,(aa.refl _ _).grown h3 (λk hk=>by cases hk),λk hk=>Β (h2.lt k hk).1⟩
 ·by_cases hfit:xs.length+1<=cap
  ·have hf:=run_firstCells_some (P:=Tryz.prog) w i.size 1 ⟨g1,0,none⟩ 1 1 [.int .i64 u] (by rw [hz1];rfl) hnews;have hst:=run_storeCells_at Tryz.prog g (off+xs.length*i.size) 3 [.int .i64 u] 0 cur w hh (by rw [hz1];simp;omega) h1;simp only [ϓ] at hst;have hrun:(Builtin.append_ #[t,t] ty #[.slice (some ⟨g,off,none⟩) xs.length cap,.slice (some ⟨g1,0,none⟩) 1 1]).run Tryz.prog w=.ok (.slice (some ⟨g,off,none⟩) (xs.length+1) cap) (w.setRow g (cur.toList.take (off+xs.length*i.size)++[Value.int .i64 u]++cur.toList.drop (off+xs.length*i.size+1)).toArray):=by
    simp [Builtin.append_,run_underlying ht,sizeOf,typeInfo,hi,Builtin.lenOf,hfit,hf,Addr.add_lit];have:=hst;simp at this;simp [this]
   rw [hz1,Nat.mul_one] at hrun;refine ⟨_,_,hrun,Β ⟨g,off,cap,_,by rw [υ];rfl,hb,setRow_heap w g cur _ _ _ hh,by rw [υ];exact hfit,hc2,?_,λj x hj=>?_⟩,?_,λk hk=>Α hk⟩
   ·simp;omega
   ·have hlen:off+xs.length<=cur.size:=ω;rcases ϔ j xs.length with h|h
    ·rw [Ρ h] at hj;have:=hc4 j x hj;rw [List.getElem?_toArray,ϋ,Ρ ζ,List.getElem?_take,Δ ω];simpa using this
    ·have hj2:j=xs.length:=by
      have:=(List.getElem?_eq_some_iff.1 hj).1;rw [υ] at this;simp at this;omega
     subst hj2;rw [ϊ (Θ _)] at hj;simp at hj;subst hj;rw [List.getElem?_toArray,ϋ,ϊ ζ];simp [Nat.min_eq_left hlen]
   ·exact ⟨rfl,rfl,rfl,σ,λk hk hm=>setRow_other w g k _ (λe=>hm (by simp [Value.ownBlock,e]))⟩
  ·obtain ⟨v',w',hr,h2,h3⟩:=run_append_arg_grows (P:=Tryz.prog) w t ty 3 i (.int .i64 0) 1 8 ht hi hz0 hz1 hz2 rfl δ ⟨g,off,none⟩ xs.length cap (aT xs) (by rw [fM,Nat.mul_one]) (λj x hj=>by
    unfold aT at hj;rw [ϑ] at hj;cases hq:xs[j]? with
    | none=>rw [hq] at hj;cases hj
    | some y=>
     rw [hq] at hj;simp at hj;subst hj;rw [Addr.add_lit];unfold World.cell?;simp only [hh]
     simpa using hc4 j y hq) ⟨g1,0,none⟩ 1 1 [.int .i64 u] rfl hnews ω μ ω
   have h4:w'.ownsRow w.heap.size 3 1 v' (xs++[u]).length (aT (xs++[u])):=by rw [υ,bZ];exact h2
   exact ⟨v',w',hr,(aV.iO h4).mono hbase,(aa.refl _ _).grown h3 (λk hk=>by cases hk),λk hk=>Β (h2.lt k hk).1⟩
theorem rY {o:Oper} {a:Act} {w:World} {K:Act->World->Prop} {Q:Exit->Act->World->Prop} (s x:Operand) (t:TypeId)
  (ho:o.op=.call { callee:=.builtin .append,args:=#[s,x],argTypes:=#[t,t] }) (ht:Tryz.prog.underlying t=some (.slice 3))
  (base:Nat) (v:Value) (xs:List Int) (hs:a.eval s=v) (hown:aV w base v xs)
  (g1:Nat) (u:Int) (hx:a.eval x=.slice (some ⟨g1,0,none⟩) 1 1) (hnew:w.cell? ⟨g1,0,none⟩=some (.int .i64 u)) (hn:xs.length+1<=1000000) (hbase:base<=w.heap.size)
  (h:∀v' w',aV w' base v' (xs++[u])->aa v.ownBlock.toList w w'->(∀k,v'.ownBlock=some k->v.ownBlock=some k\/w.heap.size<=k)->K (a.put o.dst v') w'):Oper.wp Tryz.prog o a w K Q:=by
 obtain ⟨v',w',hr,h2,h3,h4⟩:=yO hown t o.type ht g1 u hnew hn hbase;unfold Oper.wp execOp;simp only [ho,resolve,invoke,builtin,Sem.run_bind,Sem.run_pure,Result.andThen_ok,List.map_toArray,List.map_cons,List.map_nil,hs,hx,hr];exact h _ _ h2 h3 h4
theorem pF {ops:Array Oper} {o:Oper} {a:Act} {w:World} {K:Act->World->Prop} {Q:Exit->Act->World->Prop} {E:Prop} (hgd:o.guard=none) (s x:Operand) (t:TypeId)
  (ho:o.op=.call { callee:=.builtin .append,args:=#[s,x],argTypes:=#[t,t] }) (ht:Tryz.prog.underlying t=some (.slice 3))
  (base:Nat) (v:Value) (xs:List Int) (hs:a.eval s=v) (hown:aV w base v xs)
  (g1:Nat) (u:Int) (hx:a.eval x=.slice (some ⟨g1,0,none⟩) 1 1) (hnew:w.cell? ⟨g1,0,none⟩=some (.int .i64 u)) (hn:xs.length+1<=1000000) (hbase:base<=w.heap.size)
  (h:∀v' w',aV w' base v' (xs++[u])->aa v.ownBlock.toList w w'->(∀k,v'.ownBlock=some k->v.ownBlock=some k\/w.heap.size<=k)->K (a.put o.dst v') w') :
  if Region.wanted o (yielded ops a.tmps)=true then Oper.wp Tryz.prog o a w K Q else E:=by
 have hw:Region.wanted o (yielded ops a.tmps)=true:=by simp [Region.wanted,hgd]
 rw [Δ hw];exact rY s x t ho ht base v xs hs hown g1 u hx hnew hn hbase h
theorem tQ {ops:Array Oper} {rest:List Oper} {o:Oper} {a:Act} {w:World} {Q:Exit->Act->World->Prop} (hgd:o.guard=none) (s x:Operand) (t:TypeId)
  (ho:o.op=.call { callee:=.builtin .append,args:=#[s,x],argTypes:=#[t,t] }) (ht:Tryz.prog.underlying t=some (.slice 3))
  (base:Nat) (v:Value) (xs:List Int) (hs:a.eval s=v) (hown:aV w base v xs)
  (g1:Nat) (u:Int) (hx:a.eval x=.slice (some ⟨g1,0,none⟩) 1 1) (hnew:w.cell? ⟨g1,0,none⟩=some (.int .i64 u)) (hn:xs.length+1<=1000000) (hbase:base<=w.heap.size)
  (h:∀v' w',aV w' base v' (xs++[u])->aa v.ownBlock.toList w w'->(∀k,v'.ownBlock=some k->v.ownBlock=some k\/w.heap.size<=k)->wpList Tryz.prog ops Q rest (a.put o.dst v') w'):wpList Tryz.prog ops Q (o::rest) a w:=
 wpList_plain hgd λ_ hK=>rY s x t ho ht base v xs hs hown g1 u hx hnew hn hbase λv' w' h2 h3 h4=>hK _ _ (h v' w' h2 h3 h4)
theorem jc.tail {w:World} {F:List Nat} {v:Value} {x:Int} {xs:List Int} (h:jc w F v (x::xs)):jc w F (tailV v) xs:=by
 obtain ⟨a,cap,rfl,h1,h2,h3⟩:=h;obtain ⟨g,off,rfl,hg,hF,_⟩:=h3 0 x rfl;simp only [Ω] at h1 ⊢;unfold tailV;simp only [Nat.add_sub_cancel];refine ⟨_,_,rfl,ω,ω,λj u hj=>?_⟩;have hjl:j<xs.length:=(List.getElem?_eq_some_iff.1 hj).1;rw [Γ ω];obtain ⟨g2,XQ,he,hg2,hF2,hc⟩:=h3 (j+1) u (by simpa using hj);simp only [ϕ,Addr.mk.injEq,and_true] at he;obtain ⟨rfl,rfl⟩:=he;exact ⟨g,off+1,by simp [Addr.add_lit],hg,hF,by rw [show off+1+j=off+(j+1) by omega];exact hc⟩
theorem jc.U7 {w:World} {F:List Nat} {lo:Nat} {v:Value} {xs:List Int} (h:iA w lo v xs.length (aT xs)) (hF:∀g,g∈F->g<lo):jc w F v xs:=by
 obtain ⟨a,cap,rfl,h1,h2,h3⟩:=h.open;refine ⟨a,cap,rfl,h2,h1,λj u hj=>?_⟩;have hjl:j<xs.length:=(List.getElem?_eq_some_iff.1 hj).1;obtain ⟨g,rfl,hlo,hg,hc⟩:=h3 ω;exact ⟨g,0,rfl,hg,λhm=>by have:=hF g hm;omega,by rw [Nat.zero_add];exact hc j _ (by unfold aT;rw [ϑ,hj];rfl)⟩
theorem jc.upd {w w':World} {F G:List Nat} {v:Value} {xs:List Int} (h:jc w F v xs) (hu:aa G w w') (hG:∀g,g∈G->g∈F):jc w' F v xs:=by
 obtain ⟨a,cap,rfl,h1,h2,h3⟩:=h;refine ⟨a,cap,rfl,h1,h2,λj u hj=>?_⟩;obtain ⟨g,off,rfl,hg,hF,hc⟩:=h3 j u hj;exact ⟨g,off,rfl,Ψ hg hu.size,hF,by rw [hu.cell hg (λhm=>hF (hG _ hm))];exact hc⟩
theorem NI (bt ba lo n:Nat) (S:CS) (v:Value) (l:List Int) (w:World) (h:aN w bt ba lo n S) (F:List Nat) (hv:jc w F v l) :
  Calls Tryz.prog 190 #[.pointer (some ⟨bt,0,none⟩),v] w λe w'=>e=.returned (.bool (Jp n S l))/\w'=w:=by
 obtain ⟨a,cap,rfl,hlc,hcp,hp⟩:=hv;have HP:=χ hp;clear hp;unfold Jp;generalize hlen:l.length=len at *;have HLEN:=χ hlen;clear hlen;have kR:=λx=>tO bt ba lo n S x w h;have kD:=λx=>oH bt ba lo n S x w h;clear h
 go_enter Tryz.func190,Tryz.ntmps190
 go_wp2
 go_loop [9] (λi=>∃k:Nat,k<=len/\i=.int .i64 (k:Int)/\uV n S l k=true) (λi=>len-(intOf i).toNat)
 case atStart=>exact ⟨0,ω,rfl,rfl⟩
 case round=>
  obtain ⟨k,hk,rfl,ht⟩:=hrel
  by_cases hlt:k<len
  ·obtain ⟨g,off,rfl,_,_,c1⟩:=HP.out k (l.getD k 0) (by simp [φ,HLEN.out,hlt]);have c2:0<k->w.cell? ⟨g,off+(k-1),none⟩=some (.int .i64 (l.getD (k-1) 0)):=λhk0=>by
    have hk1:k-1<l.length:=by rw [HLEN.out];omega
    obtain ⟨g2,XQ,he,_,_,c⟩:=HP.out (k-1) (l.getD (k-1) 0) (by simp [φ,hk1]);simp only [ϕ,Addr.mk.injEq,and_true] at he;obtain ⟨rfl,rfl⟩:=he;exact c
   have hsu:=GY n S l k;have hno:=Oy n S l k ht;rw [ht,Bool.true_and] at hsu;unfold rowOk at hsu hno;have HS:=χ hsu;have HN:=χ hno;have k1:=kR (l.getD k 0);have k2:=kD (l.getD k 0);have k3:=kD (l.getD (k-1) 0);clear hsu hno ht kR kD;generalize l.getD k 0=x at *;generalize l.getD (k-1) 0=y at *;generalize mW n S x=b at *;generalize mQ n S x=d at *;generalize mQ n S y=d2 at *;cases b with
   | false=>
    go_wp2_with (go_at_call 189;refine (k1).mono ?_;rintro e w' ⟨rfl,rfl⟩)
    go_ret;exact ⟨bM (HN.out rfl _ hlt).symm,rfl⟩
   | true=>
    by_cases hk0:k=0
    ·subst hk0;clear c2;rw [ϓ] at c1
     go_wp2_with (go_at_call 189;refine (k1).mono ?_;rintro e w' ⟨rfl,rfl⟩)
     go_round
     case rel=>exact ⟨1,ω,rfl,HS.out⟩
     case measure=>simp [intOf];omega
    ·have c3:=c2 ω;have hk1:1<=k:=ω;clear c2;obtain ⟨k',rfl⟩:∃k',k=k'+1:=⟨k-1,ω⟩;simp only [Nat.add_sub_cancel] at c3
     by_cases hd:d2<d
     ·have hd':¬ (d<=d2):=ω
      go_wp2_with (first|(go_at_call 189;(with_reducible refine (k1).mono ?_);rintro e w' ⟨rfl,rfl⟩)|(go_at_call 194;(with_reducible refine (k3).mono ?_);rintro e w' ⟨rfl,rfl⟩)|(go_at_call 194;(with_reducible refine (k2).mono ?_);rintro e w' ⟨rfl,rfl⟩))
      go_round
      case rel=>exact ⟨k'+1+1,ω,by go_num,by rw [HS.out];simp [hd]⟩
      case measure=>simp [intOf];omega
     ·have hd':d<=d2:=ω
      go_wp2_with (first|(go_at_call 189;(with_reducible refine (k1).mono ?_);rintro e w' ⟨rfl,rfl⟩)|(go_at_call 194;(with_reducible refine (k3).mono ?_);rintro e w' ⟨rfl,rfl⟩)|(go_at_call 194;(with_reducible refine (k2).mono ?_);rintro e w' ⟨rfl,rfl⟩))
      go_ret;exact ⟨bM (HN.out ζ _ hlt).symm,rfl⟩
  ·obtain rfl:k=len:=ω;go_wp2;go_ret;exact ⟨by first|rfl|exact bM ht.symm,rfl⟩
theorem De (w:World) (F:List Nat) (v:Value) (l:List Int) (x:Int) (h:jc w F v l) :
  Calls Tryz.prog 180 #[v,.int .i64 x] w λe w'=>e=.returned (.int .i64 (idxOf l x))/\w'=w:=by
 obtain ⟨a,cap,rfl,hlc,hcp,hp⟩:=h;have HP:=χ hp;clear hp;generalize hlen:l.length=len at *;have HLEN:=χ hlen;clear hlen
 go_enter Tryz.func180,Tryz.ntmps180
 go_wp2
 go_loop [8] (λi=>∃q:Nat,q<=len/\i=.int .i64 (q:Int)/\x∉l.take q) (λi=>len-(intOf i).toNat)
 case atStart=>exact ⟨0,ω,rfl,σ⟩
 case round=>
  obtain ⟨q,hq,rfl,hn⟩:=hrel
  by_cases hlt:q<len
  ·obtain ⟨y,nL⟩:∃y,l[q]?=some y:=⟨l[q]'(by rw [HLEN.out];exact hlt),σ⟩;obtain ⟨gb,off,rfl,_,_,hc⟩:=HP.out q y nL
   by_cases hxy:x=y
   ·subst hxy;have hi:=Dz l x q hn nL;have HI:=χ hi;clear hn nL hi;go_wp2;go_ret;exact ⟨iX HI.out.symm,rfl⟩
   ·have b1:(x == y)=false:=by simpa using hxy
    have hn2:x∉l.take (q+1):=by rw [Ϗ,nL];simp;exact ⟨hn,hxy⟩
    have Td:=χ hn2;clear hn nL hn2 hxy;go_wp2
    go_round
    case rel=>exact ⟨q+1,ω,by go_num,Td.out⟩
    case measure=>simp [intOf];omega
  ·obtain rfl:q=len:=ω;rw [List.take_of_length_le (by rw [HLEN.out];omega)] at hn;have HI:=χ (xC l x hn);clear hn;go_wp2;go_ret;exact ⟨iX HI.out.symm,rfl⟩
theorem CV (w:World) (F:List Nat) (v:Value) (l:List Int) (x:Int) (h:jc w F v l) :
  Calls Tryz.prog 193 #[v,.int .i64 x] w λe w'=>e=.returned (.bool (decide (x∈l)))/\w'=w:=by
 have k1:=De w F v l x h;obtain ⟨a,cap,rfl,_⟩:=h
 by_cases hx:x∈l
 ·obtain ⟨i,hi,he,_⟩:=tY l x hx;rw [he] at k1
  go_enter Tryz.func193,Tryz.ntmps193
  go_wp2_with ((go_at_call 180;(with_reducible refine (k1).mono ?_);rintro e w9 ⟨rfl,aH⟩;rw [aH];clear aH w9))
  go_ret;exact ⟨bM (by simp [hx]),rfl⟩
 ·rw [xC l x hx] at k1
  go_enter Tryz.func193,Tryz.ntmps193
  go_wp2_with ((go_at_call 180;(with_reducible refine (k1).mono ?_);rintro e w9 ⟨rfl,aH⟩;rw [aH];clear aH w9))
  go_ret;exact ⟨bM (by simp [hx]),rfl⟩
theorem Po (w:World) (F:List Nat) (B7:Nat) (v:Value) (l:List Int) (x:Int) (h:jc w F v l) (hr:aJ w B7 77 1 (λ_=>v)) :
  Calls Tryz.prog 192 #[.int .i64 x,.pointer (some ⟨B7,0,none⟩)] w λe w'=>e=.returned (.bool (decide (x∈l)))/\w'=w:=by
 have k1:=CV w F v l x h;have c0:=hr.cell 0 ω;obtain ⟨a,cap,rfl,_⟩:=h
 go_enter Tryz.func192,Tryz.ntmps192
 go_wp2_with ((go_at_call 193;(with_reducible refine (k1).mono ?_);rintro e w9 ⟨rfl,aH⟩;rw [aH];clear aH w9))
 go_ret;exact ⟨rfl,rfl⟩
theorem Gg (w:World) (F:List Nat) (B7:Nat) (va v:Value) (A l:List Int) (ha:jc w F va A) (h:jc w F v l) (hr:aJ w B7 77 1 (λ_=>v)) :
  Calls Tryz.prog 188 #[va,.func (Fn.func 192) #[] #[.pointer (some ⟨B7,0,none⟩)]] w λe w'=>(∃i:Int,e=.returned (.int .i64 i)/\decide (0<=i)=A.any (λx=>decide (x∈l)))/\w'=w:=by
 have kC:=λx=>Po w F B7 v l x h hr;clear h hr;obtain ⟨a,cap,rfl,hlc,hcp,hp⟩:=ha;have HP:=χ hp;clear hp;generalize hlen:A.length=len at *;have HLEN:=χ hlen;clear hlen
 go_enter Tryz.func188,Tryz.ntmps188
 go_wp2
 go_loop [8] (λi=>∃q:Nat,q<=len/\i=.int .i64 (q:Int)/\(A.take q).any (λx=>decide (x∈l))=false) (λi=>len-(intOf i).toNat)
 case atStart=>exact ⟨0,ω,rfl,σ⟩
 case round=>
  obtain ⟨q,hq,rfl,hn⟩:=hrel
  by_cases hlt:q<len
  ·obtain ⟨y,nL⟩:∃y,A[q]?=some y:=⟨A[q]'(by rw [HLEN.out];exact hlt),σ⟩;obtain ⟨gb,off,rfl,_,_,hc⟩:=HP.out q y nL;have k1:=kC y
   by_cases hy:y∈l
   ·rw [Ν hy] at k1;have hfin:A.any (λx=>decide (x∈l))=true:=List.any_eq_true.2 ⟨y,Η nL,by simpa using hy⟩;have HF:=χ hfin;clear hn nL hy kC hfin
    go_wp2_with ((go_at_call 192;(with_reducible refine (k1).mono ?_);rintro e w9 ⟨rfl,aH⟩;rw [aH];clear aH w9))
    go_ret;exact ⟨⟨_,rfl,by rw [HF.out];simp⟩,rfl⟩
   ·rw [Ξ hy] at k1;have hn2:(A.take (q+1)).any (λx=>decide (x∈l))=false:=by rw [Ϗ,nL,List.any_append,hn];simpa using hy
    have Td:=χ hn2;clear hn nL hn2 hy kC
    go_wp2_with ((go_at_call 192;(with_reducible refine (k1).mono ?_);rintro e w9 ⟨rfl,aH⟩;rw [aH];clear aH w9))
    go_round
    case rel=>exact ⟨q+1,ω,by go_num,Td.out⟩
    case measure=>simp [intOf];omega
  ·obtain rfl:q=len:=ω;rw [List.take_of_length_le (by rw [HLEN.out];omega)] at hn;have HN:=χ hn;clear hn kC;go_wp2;go_ret;exact ⟨⟨_,rfl,by rw [HN.out];rfl⟩,rfl⟩
theorem zk (w:World) (F:List Nat) (B7:Nat) (va v:Value) (A l:List Int) (ha:jc w F va A) (h:jc w F v l) (hr:aJ w B7 77 1 (λ_=>v)) :
  Calls Tryz.prog 191 #[va,.func (Fn.func 192) #[] #[.pointer (some ⟨B7,0,none⟩)]] w λe w'=>e=.returned (.bool (A.any (λx=>decide (x∈l))))/\w'=w:=by
 have k1:=Gg w F B7 va v A l ha h hr;generalize A.any (λx=>decide (x∈l))=b at *;obtain ⟨a,cap,rfl,_⟩:=ha;clear h hr
 go_enter Tryz.func191,Tryz.ntmps191
 go_wp2_with (go_at_call 188;(with_reducible refine (k1).mono ?_);rintro e w9 ⟨⟨i,rfl,hi⟩,aH⟩;rw [aH];clear aH w9;have HI:=χ hi;clear hi)
 go_ret;exact ⟨bM (by first|exact HI.out|(rw [←HI.out];simp)),rfl⟩
def mV (S:CS) (v:Value) (a b:Nat):CS:=(S.xW a v (S.k a++[(b:Int)])).qc b a
theorem Dg (bt ba lo n:Nat) (S:CS) (a b:Nat) (w:World) (h:aN w bt ba lo n S) (ha:a<n) (hb:b<n) (hra:mW n S a=true) (hrb:mW n S b=true) (hne:a≠b) (hd:mQ n S a=mQ n S b) (hlen:(S.k a).length+1<=n) :
    Calls Tryz.prog 196 #[.pointer (some ⟨bt,0,none⟩),.int .i64 (a:Int),.int .i64 (b:Int)] w λe w'=>∃v,e=.returned (.bool true)/\aN w' bt ba lo n (mV S v a b)/\aa (ba::S.blk n) w w'/\(∀g,g∈(mV S v a b).blk n->g∈S.blk n\/w.heap.size<=g):=by
  have hle:=h.le;have hl1:=h.PS;have hl2:=h.IJ;have hlow:=h.low;have hnb:=h.ne;have k1:=tO bt ba lo n S a w h;have k2:=tO bt ba lo n S b w h;have k3:=oH bt ba lo n S a w h;have k4:=oH bt ba lo n S b w h;rw [hra] at k1;rw [hrb] at k2;rw [hd] at k3;have b1:((a:Int) == (b:Int))=false:=ζ;have ho:=h.own a ha;obtain ⟨sa,cap,hv,hcap⟩:=bz ho;have SY:∀g,g∈(S.v a).ownBlock.toList->lo<=g/\g<w.heap.size:=λg hg=>ho.lt g (by simpa using hg);have r1:∀W,aa (S.v a).ownBlock.toList w W->W.cell? ⟨bt,0,none⟩=some (.slice (some ⟨ba,0,none⟩) n n):=λW hW=>by
    rw [hW.cell h.head.lt (λhm=>by have:=SY _ hm;simp at this;omega)];exact h.head.cell 0 ω
  have r2:∀W,aa (S.v a).ownBlock.toList w W->W.cell? ⟨ba,a*2,none⟩=some (S.v a):=λW hW=>by
    rw [hW.cell h.row.lt (λhm=>by have:=SY _ hm;simp at this;omega)];exact h.row.cellAt (a*2) ω (lH S a)
  have r3:∀W,aa (S.v a).ownBlock.toList w W->W.cell? ⟨ba,b*2+1,none⟩=some (.int .i64 (S.u b)):=λW hW=>by
    rw [hW.cell h.row.lt (λhm=>by have:=SY _ hm;simp at this;omega)];exact h.row.cellAt (b*2+1) ω (ry S b)
  have q1:∀W,aa (S.v a).ownBlock.toList w W->W.frozen? ⟨ba,a*2,none⟩=false:=λW hW=>by
    rw [hW.frozen h.row.lt (λhm=>by have:=SY _ hm;simp at this;omega)];exact h.row.free _
  have q2:∀W,aa (S.v a).ownBlock.toList w W->W.frozen? ⟨ba,b*2+1,none⟩=false:=λW hW=>by
    rw [hW.frozen h.row.lt (λhm=>by have:=SY _ hm;simp at this;omega)];exact h.row.free _
  have s0:aa (S.v a).ownBlock.toList w w:=aa.refl _ _;have H:=χ h;have HV:=χ hv;have hk:=fM (S.k a);have HLEN:=χ hlen;generalize hva:S.v a=va at *;have ZK:=χ hva;subst hv;clear h hra hrb hd hva hne
  go_enter Tryz.func196,Tryz.ntmps196
  go_wp2_with (first
    | (go_at_call 189;(with_reducible refine (k1).mono ?_);rintro e w9 ⟨rfl,aH⟩;rw [aH];clear aH w9)
    | (go_at_call 189;(with_reducible refine (k2).mono ?_);rintro e w9 ⟨rfl,aH⟩;rw [aH];clear aH w9)
    | (go_at_call 194;(with_reducible refine (k3).mono ?_);rintro e w9 ⟨rfl,aH⟩;rw [aH];clear aH w9)
    | (go_at_call 194;(with_reducible refine (k4).mono ?_);rintro e w9 ⟨rfl,aH⟩;rw [aH];clear aH w9))
  have s1:aa (Value.slice sa (S.k a).length cap).ownBlock.toList w (w.drew.alloc (.cells #[.int .i64 (b:Int)] 3)):=s0.drew.alloc _;have g1:=r1 _ s0;have g2:=r2 _ s0;have a1:=r1 _ (s0.alloc (.cells #[.int .i64 (b:Int)] 3));have a2:=r2 _ (s0.alloc (.cells #[.int .i64 (b:Int)] 3))
  go_region_law
    (first
      | (refine kS rfl _ _ 77 rfl lo 3 (.int .i64 0) 1 8 Tryz.underlying77 fF rfl δ (.slice sa (S.k a).length cap) (S.k a).length (aT (S.k a)) rfl (ho.drew.alloc _) w.heap.size [.int .i64 (b:Int)] rfl rfl (λj u hj=>l8 w [.int .i64 (b:Int)] 3 j u hj) (by simp [Value.oneCell']) μ ω ζ ?_
         intro v2 w2 ho2 hu2 hv2;have hS2:aa (Value.slice sa (S.k a).length cap).ownBlock.toList w w2:=s1.trans hu2;have g3:=r1 _ hS2;have g4:=r2 _ hS2;have g5:=q1 _ hS2
         obtain ⟨a2,cap2,rfl,hcap2⟩:=bz ho2))
  all_goals
    have ho3:w2.ownsRow lo 3 1 (.slice a2 ((S.k a).length+1) cap2) (S.k a++[(b:Int)]).length (aT (S.k a++[(b:Int)])):=by rw [bZ,υ];exact ho2
    have hF:=H.out.QP a ha (.slice a2 ((S.k a).length+1) cap2) (S.k a++[(b:Int)]) hS2 (λg hg=>by rw [ZK.out];simpa using hg) ho3 (λg hg=>by
      rcases hv2 with h|h
      · rw [h] at hg;exact Α (by rw [ZK.out];exact hg)
      · rw [h] at hg;simp at hg;exact Β ω) (by rw [υ];exact hlen)
    have e0:=hF.head.cell 0 ω;have e1:=hF.row.cell (b*2+1) ω;have e2:=hF.row.free (b*2+1);have HF:=χ hF;have HV2:=χ hv2;clear hF hv2 ho2 ho3 r1 r2 r3 q1 q2;go_wp2;go_ret;refine ⟨_,rfl,HF.out.bN b hb a,?_,λg hg=>?_⟩
    · refine ((hS2.mono (λg hg=>?_)).setCell (Α σ) _).setCell (Α σ) _
      simp only [ρ];refine Β ((S.iY n g).2 ⟨a,ha,?_⟩);rw [ZK.out];simpa using hg
    · rcases S.PH a (.slice a2 ((S.k a).length+1) cap2) (S.k a++[(b:Int)]) n g hg with h|h
      · exact Α h
      · rcases HV2.out with h2|h2
        · exact Α ((S.iY n g).2 ⟨a,ha,by rw [ZK.out,←h2];exact h⟩)
        · rw [h2] at h;simp at h;exact Β ω
end Go.Proofs.YtnpdakpagnpanaaGreat
namespace Go.Proofs.YtnpdakpagnpanaaGreat
def iP (lt:Int->Int->Bool) (a b:Nat):Nat:=if lt b a then b else a
def kG (lt:Int->Int->Bool) (a b:Nat):Nat:=if lt b a then a else b
structure CF where
 k:Nat->List Int
 u:Nat->Int
def CS.f (S:CS):CF:=⟨S.k,S.u⟩
def xH (n:Nat) (F:CF) (x:Int):Bool:=decide (0<=x/\x<n) && F.u x.toNat == -1
def cz (n:Nat) (F:CF) (x:Int):Int:=if 0<=x/\x<n then (F.k x.toNat).length else 0
theorem UR (n:Nat) (S:CS) (x:Int):mW n S x=xH n S.f x:=rfl
theorem Tv (n:Nat) (S:CS) (x:Int):mQ n S x=cz n S.f x:=rfl
def gD (F:CF) (a b:Nat):CF:=⟨λy=>if y=a then F.k a++[(b:Int)] else F.k y,λy=>if y=b then (a:Int) else F.u y⟩
theorem UT (S:CS) (v:Go.Value) (a b:Nat):(mV S v a b).f=gD S.f a b:=rfl
structure CC where
 F:CF
 A:List Int
 B:List Int
 N:List Int
 O:List Int
 q:Nat
def takeA (n k:Nat) (C:CC):CC:=match C.A with|x::t=>(if cz n C.F x=k then { C with A:=t,N:=C.N++[x] } else C)|[]=>C
def takeB (n k:Nat) (C:CC):CC:=match C.B with|x::t=>(if cz n C.F x=k then { C with B:=t,N:=C.N++[x] } else C)|[]=>C
def eH (C:CC):CC:=match C.N with|[x]=>{ C with N:=[],O:=C.O++[x] }|[x,y,z]=>{ C with N:=[y,z],O:=C.O++[x] }|_=>C
def lg (lt:Int->Int->Bool) (C:CC):CC:=match C.N with
 | [x,y]=>{ C with F:=gD C.F (iP lt x.toNat y.toNat) (kG lt x.toNat y.toNat),N:=[(iP lt x.toNat y.toNat:Int)],q:=C.q+1 }
 | _=>C
def Dj (lt:Int->Int->Bool) (n k:Nat) (C:CC):CC:=lg lt (eH (takeB n k (takeA n k C)))
def fK (lt:Int->Int->Bool) (n:Nat):Nat->CC->CC
 | 0,C=>C
 | k+1,C=>Dj lt n k (fK lt n k C)
structure IG (dom:Int->Prop) (lt:Int->Int->Bool) (n k:Nat) (C:CC):Prop where
 few:C.N.length<=1
 join:∀x y,(eH (takeB n k (takeA n k C))).N=[x,y]->∃a b:Nat,x=a/\y=b/\dom a/\dom b/\a<n/\b<n/\a≠b/\xH n (eH (takeB n k (takeA n k C))).F a=true/\xH n (eH (takeB n k (takeA n k C))).F b=true/\
  cz n (eH (takeB n k (takeA n k C))).F a=cz n (eH (takeB n k (takeA n k C))).F b/\((eH (takeB n k (takeA n k C))).F.k a).length+1<=n/\((eH (takeB n k (takeA n k C))).F.k b).length+1<=n
 small:C.A.length+C.B.length+C.O.length<=100000
 asked:C.q<=1000000
 ends:C.A≠[]\/C.B≠[]\/C.N≠[]->k<=n
def tA (n k:Nat) (A:List Int) (F:CF):Bool:=match A with|x::_=>cz n F x == (k:Int)|[]=>false
def tot (C:CC):Nat:=C.A.length+C.B.length+C.N.length+C.O.length
theorem wm (n k:Nat) (C:CC):tot (takeA n k C)=tot C/\(takeA n k C).N.length<=C.N.length+1:=by
 unfold takeA tot
 split
 ·rename_i x t h
  split
  ·simp only [h,υ,Ω,List.length_nil];omega
  ·simp
 ·simp
theorem vw (n k:Nat) (C:CC):tot (takeB n k C)=tot C/\(takeB n k C).N.length<=C.N.length+1:=by
 unfold takeB tot
 split
 ·rename_i x t h
  split
  ·simp only [h,υ,Ω,List.length_nil];omega
  ·simp
 ·simp
theorem KE (C:CC) (h3:C.N.length<=3):tot (eH C)=tot C/\(eH C).N.length<=2:=by
 obtain ⟨F,A,B,N,O,q⟩:=C;simp only at h3
 match N,h3 with
 | [],_=>simp [eH,tot]
 | [x],_=>simp [eH,tot];try omega
 | [x,y],_=>simp [eH,tot]
 | [x,y,z],_=>simp [eH,tot];try omega
 | _::_::_::_::_,h3=>simp at h3;try omega
theorem Np (n k:Nat) (C:CC):(eH (takeB n k (takeA n k C))).q=C.q:=by
 have h1:∀C,(eH C).q=C.q:=λC=>by unfold eH;split<;>rfl
 have h2:∀C,(takeB n k C).q=C.q:=λC=>by
  unfold takeB;split
  ·split<;>rfl
  ·rfl
 have h3:∀C,(takeA n k C).q=C.q:=λC=>by
  unfold takeA;split
  ·split<;>rfl
  ·rfl
 rw [h1,h2,h3]
end Go.Proofs.YtnpdakpagnpanaaGreat
namespace Go.Proofs.YtnpdakpagnpanaaGreat
open Go Go.RowKit
structure rQ where
 ty:TypeId
 p:Nat
 rd:List Nat
 wr:List Nat
 lt:Int->Int->Bool
 dom:Int->Prop
 at_:World->Nat->Prop
 sub:∀x,x∈wr->x∈rd
 low:∀ {w:World} {q:Nat},at_ w q->∀x,x∈rd->x<w.heap.size
 upd:∀ {w w':World} {S:List Nat} {q:Nat},at_ w q->aa S w w'->(∀x,x∈S->x∉rd)->at_ w' q
 asym:∀a b,lt a b=true->lt b a=false
 ahead:∀ {w:World} {q:Nat} (x y:Int),at_ w q->dom x->dom y->q<=1000000->Ke ty p "Ahead" w (λv=>#[v,.int .i64 x,.int .i64 y]) λw e w'=>e=.returned (.bool (lt x y))/\at_ w' (q+1)/\aa wr w w'
structure Apart (O:rQ) (bt ba n:Nat) (S:CS):Prop where
 bt:bt∉O.rd
 ba:ba∉O.rd
 blk:∀g,g∈S.blk n->g∉O.rd
theorem Apart.rd {O:rQ} {bt ba n:Nat} {S:CS} (h:Apart O bt ba n S):∀g,g∈ba::S.blk n->g∉O.rd:=λg hg=>by
 rcases ρ.1 hg with rfl|hg
 ·exact h.ba
 ·exact h.blk g hg
theorem Apart.wr {O:rQ} {bt ba n:Nat} {S:CS} (h:Apart O bt ba n S):bt∉O.wr/\ba∉O.wr/\∀g,g∈S.blk n->g∉O.wr:=
 ⟨λhm=>h.bt (O.sub _ hm),λhm=>h.ba (O.sub _ hm),λg hg hm=>h.blk g hg (O.sub _ hm)⟩
theorem MO (O:rQ) (bt ba lo n:Nat) (S:CS) (asked a b:Nat) (w:World) (h:aN w bt ba lo n S) (hO:O.at_ w asked) (Zt:O.dom a) (V7:O.dom b) (hk:asked<=1000000)
  (ha:a<n) (hb:b<n) (hra:mW n S a=true) (hrb:mW n S b=true) (hne:a≠b) (hd:mQ n S a=mQ n S b) (hl1:(S.k a).length+1<=n) (hl2:(S.k b).length+1<=n)
  (hA:Apart O bt ba n S) :
  Calls Tryz.prog 195 #[.pointer (some ⟨bt,0,none⟩),.iface O.ty (.pointer (some ⟨O.p,0,none⟩)),.int .i64 (a:Int),.int .i64 (b:Int)] w λe w'=>
   ∃v,e=.returned (.int .i64 (iP O.lt a b:Int))/\aN w' bt ba lo n (mV S v (iP O.lt a b) (kG O.lt a b))/\O.at_ w' (asked+1)/\aa (O.wr++ba::S.blk n) w w'/\(∀g,g∈(mV S v (iP O.lt a b) (kG O.lt a b)).blk n->g∈S.blk n\/w.heap.size<=g):=by
 obtain ⟨f,fv,hen,hm,hc⟩:=(O.ahead (b:Int) (a:Int) hO V7 Zt hk).now;unfold Enters at hen;have hF:=λW (hW:aa O.wr w W)=>h.upd hW hA.wr.1 hA.wr.2.1 hA.wr.2.2;have ZO:=λW (hW:aa O.wr w W)=>Dg bt ba lo n S a b W (hF W hW) ha hb hra hrb hne hd hl1;have kL2:=λW (hW:aa O.wr w W)=>Dg bt ba lo n S b a W (hF W hW) hb ha hrb hra (Ne.symm hne) hd.symm hl2;have HS:=χ hA.rd;clear hF h hO hA hd hra hrb Zt V7;unfold iP kG;generalize O.ty=ty at *;cases hab:O.lt b a with
 | true=>
  rw [hab] at hc;rw [Δ rfl,Δ rfl];clear hab ZO
  go_enter Tryz.func195,Tryz.ntmps195
  go_wp2_with (first
   | ((with_reducible refine (hc).mono ?_);rintro e w1 ⟨rfl,hL1,hu1⟩)
   | ((go_at_call 196;(with_reducible refine (kL2 _ hu1).mono ?_));rintro e w2 ⟨v2,rfl,hF2,hu2,hb2⟩))
  go_ret;refine ⟨_,rfl,hF2,O.upd hL1 hu2 HS.out,(hu1.mono (by simp +contextual)).trans (hu2.mono (λg hg=>τ.2 (Β hg))),λg hg=>?_⟩;rcases hb2 g hg with h|h
  ·exact Α h
  ·exact Β (Χ hu1.size h)
 | false=>
  rw [hab] at hc;rw [Γ σ,Γ σ];clear hab kL2
  go_enter Tryz.func195,Tryz.ntmps195
  go_wp2_with (first
   | ((with_reducible refine (hc).mono ?_);rintro e w1 ⟨rfl,hL1,hu1⟩)
   | ((go_at_call 196;(with_reducible refine (ZO _ hu1).mono ?_));rintro e w2 ⟨v2,rfl,hF2,hu2,hb2⟩))
  go_ret;refine ⟨_,rfl,hF2,O.upd hL1 hu2 HS.out,(hu1.mono (by simp +contextual)).trans (hu2.mono (λg hg=>τ.2 (Β hg))),λg hg=>?_⟩;rcases hb2 g hg with h|h
  ·exact Α h
  ·exact Β (Χ hu1.size h)
theorem jc.shape {w:World} {F:List Nat} {v:Value} {xs:List Int} (h:jc w F v xs):∃a cap,v=.slice a xs.length cap/\cap<=9223372036854775807:=by
 obtain ⟨a,cap,rfl,_,h2,_⟩:=h;exact ⟨a,cap,rfl,h2⟩
structure KM (O:rQ) (w0 w:World) (bt ba lo n:Nat) (F0:List Nat) (va vb vn vo:Value) (C:CC):Prop where
 sV:∃S:CS,S.f=C.F/\aN w bt ba lo n S/\Apart O bt ba n S/\(∀g,g∈S.blk n->g∈F0\/w0.heap.size<g)/\(∀g,vn.ownBlock=some g->g∉S.blk n)/\(∀g,vo.ownBlock=some g->g∉S.blk n)
 V6:O.at_ w C.q
 a:jc w0 F0 va C.A
 b:jc w0 F0 vb C.B
 box:aJ w w0.heap.size 77 1 (λ_=>vb)
 now:aV w (w0.heap.size+1) vn C.N
 out:aV w (w0.heap.size+1) vo C.O
 sep:∀g,vn.ownBlock=some g->vo.ownBlock≠some g
 upd:aa F0 w0 w
 old:∀g,g∈F0->g<w0.heap.size
 IV:(∀x,x∈O.wr->x∈F0)/\ba∈F0
 t0:bt<w0.heap.size
 k0:∀x,x∈O.rd->x<w0.heap.size
theorem jc.head {w:World} {F:List Nat} {a:Option Addr} {n c:Nat} {x:Int} {xs:List Int} (h:jc w F (.slice a n c) (x::xs)):∃g off,a=some ⟨g,off,none⟩/\g<w.heap.size/\g∉F/\w.cell? ⟨g,off,none⟩=some (.int .i64 x):=by
 obtain ⟨a',cap,he,_,_,h3⟩:=h;obtain ⟨g,off,rfl,hg,hF,hc⟩:=h3 0 x rfl;cases he;exact ⟨g,off,rfl,hg,hF,by rw [ϓ] at hc;exact hc⟩
theorem KM.deg {w0 w:World} {O:rQ} {bt ba lo n:Nat} {F0:List Nat} {va vb vn vo:Value} {C:CC} (h:KM O w0 w bt ba lo n F0 va vb vn vo C) (x:Int) :
  Calls Tryz.prog 194 #[.pointer (some ⟨bt,0,none⟩),.int .i64 x] w λe w'=>e=.returned (.int .i64 (cz n C.F x))/\w'=w:=by
 obtain ⟨S,h1,h2,_⟩:=h.sV;have:=oH bt ba lo n S x w h2;rw [Tv,h1] at this;exact this
theorem KM.far {w0 w:World} {O:rQ} {bt ba lo n:Nat} {F0:List Nat} {va vb vn vo:Value} {C:CC} (h:KM O w0 w bt ba lo n F0 va vb vn vo C) {g off:Nat} {u:Value} (hg:g<w0.heap.size) (hF:g∉F0) (hc:w0.cell? ⟨g,off,none⟩=some u) {G:List Nat} {W:World} (hu:aa G w W) (hG:∀x,x∈G->w0.heap.size<=x) :
  W.cell? ⟨g,off,none⟩=some u:=by
 rw [hu.cell (Ψ hg h.upd.size) (λhm=>by have:=hG _ hm;simp at this;omega),h.upd.cell hg hF];exact hc
theorem KM.Mf {w0 w:World} {O:rQ} {bt ba lo n:Nat} {F0:List Nat} {va vb vn vo:Value} {C:CC} (h:KM O w0 w bt ba lo n F0 va vb vn vo C) {W:World} {vn':Value} {N':List Int}
  (hu:aa vn.ownBlock.toList w W) (ho:aV W (w0.heap.size+1) vn' N') (hb:∀g,vn'.ownBlock=some g->vn.ownBlock=some g\/w.heap.size<=g):KM O w0 W bt ba lo n F0 va vb vn' vo { C with N:=N' }:=by
 obtain ⟨S,h1,h2,h3,h4,h5,h6⟩:=h.sV;have hn:∀g,g∈vn.ownBlock.toList->w0.heap.size<g/\g∉S.blk n/\vo.ownBlock≠some g:=λg hg=>by
  have hg':vn.ownBlock=some g:=by simpa using hg
  exact ⟨by have:=(h.now.lt g hg').1;omega,h5 g hg',h.sep g hg'⟩
 have hbt:=h.t0;have Js:=h.old ba h.IV.2;have hk:=h.k0;have hsz:=h.upd.size
 refine ⟨⟨S,h1,h2.upd hu (λhm=>by have:=hn _ hm;omega) (λhm=>by have:=hn _ hm;omega) (λg hg hm=>(hn g hm).2.1 hg),h3,h4,λg hg hm=>?_,h6⟩,O.upd h.V6 hu (λg hg hm=>by have:=hn g hg;have:=hk g hm;omega),h.a,h.b,h.box.upd hu (λhm=>by have:=hn _ hm;omega),ho,
  h.out.upd hu (λg hg hm=>(hn g hm).2.2 hg),λg hg he=>?_,h.upd.joined hu (λg hg=>Β (by have:=hn g hg;omega)),h.old,h.IV,h.t0,h.k0⟩
 ·rcases hb g hg with h'|h'
  ·exact h5 g h' hm
  ·have:=(h2.lU hm).2;omega
 ·rcases hb g hg with h'|h'
  ·exact h.sep g h' he
  ·have:=(h.out.lt g he).2;omega
theorem KM.WV {w0 w:World} {O:rQ} {bt ba lo n:Nat} {F0:List Nat} {va vb vn vo:Value} {C:CC} (h:KM O w0 w bt ba lo n F0 va vb vn vo C) {W:World} {vo':Value} {O':List Int}
  (hu:aa vo.ownBlock.toList w W) (ho:aV W (w0.heap.size+1) vo' O') (hb:∀g,vo'.ownBlock=some g->vo.ownBlock=some g\/w.heap.size<=g):KM O w0 W bt ba lo n F0 va vb vn vo' { C with O:=O' }:=by
 obtain ⟨S,h1,h2,h3,h4,h5,h6⟩:=h.sV;have hn:∀g,g∈vo.ownBlock.toList->w0.heap.size<g/\g∉S.blk n/\vn.ownBlock≠some g:=λg hg=>by
  have hg':vo.ownBlock=some g:=by simpa using hg
  exact ⟨by have:=(h.out.lt g hg').1;omega,h6 g hg',λe=>h.sep g e hg'⟩
 have hbt:=h.t0;have Js:=h.old ba h.IV.2;have hk:=h.k0;have hsz:=h.upd.size
 refine ⟨⟨S,h1,h2.upd hu (λhm=>by have:=hn _ hm;omega) (λhm=>by have:=hn _ hm;omega) (λg hg hm=>(hn g hm).2.1 hg),h3,h4,h5,λg hg hm=>?_⟩,O.upd h.V6 hu (λg hg hm=>by have:=hn g hg;have:=hk g hm;omega),h.a,h.b,h.box.upd hu (λhm=>by have:=hn _ hm;omega),
  h.now.upd hu (λg hg hm=>(hn g hm).2.2 hg),ho,λg hg he=>?_,h.upd.joined hu (λg hg=>Β (by have:=hn g hg;omega)),h.old,h.IV,h.t0,h.k0⟩
 ·rcases hb g hg with h'|h'
  ·exact h6 g h' hm
  ·have:=(h2.lU hm).2;omega
 ·rcases hb g he with h'|h'
  ·exact h.sep g hg h'
  ·have:=(h.now.lt g hg).2;omega
theorem KM.aTo {w0 w:World} {O:rQ} {bt ba lo n:Nat} {F0:List Nat} {va vb vn vo Xv:Value} {C:CC} (h:KM O w0 w bt ba lo n F0 va vb vn vo C) {A':List Int} (ha:jc w0 F0 Xv A'):KM O w0 w bt ba lo n F0 Xv vb vn vo { C with A:=A' }:=
 ⟨h.sV,h.V6,ha,h.b,h.box,h.now,h.out,h.sep,h.upd,h.old,h.IV,h.t0,h.k0⟩
theorem KM.bTo {w0 w:World} {O:rQ} {bt ba lo n:Nat} {F0:List Nat} {va vb vn vo Sz:Value} {C:CC} (h:KM O w0 w bt ba lo n F0 va vb vn vo C) {B':List Int} (hb:jc w0 F0 Sz B') :
  KM O w0 (w.setCell ⟨w0.heap.size,0,none⟩ Sz) bt ba lo n F0 va Sz vn vo { C with B:=B' }:=by
 obtain ⟨S,h1,h2,h3,h4,h5,h6⟩:=h.sV;have hu:aa [w0.heap.size] w (w.setCell ⟨w0.heap.size,0,none⟩ Sz):=(aa.refl _ _).setCell (Α σ) _;have hbt:=h.t0;have Js:=h.old ba h.IV.2;have hk:=h.k0;refine ⟨⟨S,h1,h2.upd hu ζ ζ (λg hg hm=>?_),h3,h4,h5,h6⟩,O.upd h.V6 hu (λg hg hm=>by have:=hk g hm;simp at hg;omega),h.a,hb,(h.box.set 0 Sz).ext (λj hj=>ζ),h.now.upd hu (λg hg hm=>?_),h.out.upd hu (λg hg hm=>?_),h.sep,h.upd.joined hu (λg hg=>Β (by simp at hg;omega)),h.old,h.IV,h.t0,h.k0⟩
 ·simp at hm;subst hm;rcases h4 _ hg with h'|h'
  ·have:=h.old _ h';omega
  ·omega
 ·have:=(h.now.lt g hg).1;simp at hm;omega
 ·have:=(h.out.lt g hg).1;simp at hm;omega
theorem KM.VT {w0 w:World} {O:rQ} {bt ba lo n:Nat} {F0:List Nat} {va vb vn vo:Value} {C:CC} (h:KM O w0 w bt ba lo n F0 va vb vn vo C) {S:CS} (hS:S.f=C.F) (h2:aN w bt ba lo n S) (h3:Apart O bt ba n S)
  (h4:∀g,g∈S.blk n->g∈F0\/w0.heap.size<g) (h6:∀g,vo.ownBlock=some g->g∉S.blk n) {W:World} {v:Value} {a b:Nat} (hF:aN W bt ba lo n (mV S v a b)) (hL:O.at_ W (C.q+1)) (hu:aa (O.wr++ba::S.blk n) w W)
  (hg:∀g,g∈(mV S v a b).blk n->g∈S.blk n\/w.heap.size<=g) :
  KM O w0 (W.alloc (.cells #[.int .i64 (a:Int)] 3)) bt ba lo n F0 va vb (.slice (some ⟨W.heap.size,0,none⟩) 1 1) vo { C with F:=gD C.F a b,N:=[(a:Int)],q:=C.q+1 }:=by
 have hbt:=h.t0;have Js:=h.old ba h.IV.2;have hk:=h.k0;have hbx:=h.box.lt;have hsz:=hu.size;have hm:∀g,g∈O.wr++ba::S.blk n->g∈F0\/w0.heap.size<g:=λg hg=>by
  rcases τ.1 hg with hg|hg
  ·exact Α (h.IV.1 _ hg)
  ·rcases ρ.1 hg with rfl|hg
   ·exact Α h.IV.2
   ·exact h4 g hg
 have hvo:∀g,vo.ownBlock=some g->g∉O.wr++ba::S.blk n:=λg hg hm=>by
  have:=(h.out.lt g hg).1;rcases τ.1 hm with hm|hm
  ·have:=hk _ (O.sub _ hm);omega
  ·rcases ρ.1 hm with rfl|hm
   ·omega
   ·exact h6 g hg hm
 have ha:aa [] W (W.alloc (.cells #[.int .i64 (a:Int)] 3)):=(aa.refl _ _).alloc _;have hb:w0.heap.size∉O.wr++ba::S.blk n:=λhm2=>by
  rcases hm _ hm2 with h'|h'
  ·have:=h.old _ h';omega
  ·omega
 refine ⟨⟨mV S v a b,by rw [UT,hS],hF.ai ha,⟨h3.bt,h3.ba,λg hg1 hm=>?_⟩,λg hgm=>?_,λg hg1 hgm=>?_,λg hg1 hgm=>?_⟩,O.upd hL ha σ,h.a,h.b,(h.box.upd hu hb).upd ha σ,aV.lit W _ a ω,
  (h.out.upd hu hvo).upd ha σ,λg hg1 hg2=>?_,(h.upd.joined hu (λg hg=>by rcases hm g hg with h'|h';exact Α h';exact Β ω)).then ha,h.old,h.IV,h.t0,h.k0⟩
 ·rcases hg _ hg1 with h'|h'
  ·exact h3.blk g h' hm
  ·have:=hk _ hm;omega
 ·rcases hg g hgm with h'|h'
  ·exact h4 g h'
  ·exact Β ω
 ·simp [Value.ownBlock] at hg1;have:=(hF.lU hgm).2;omega
 ·rcases hg g hgm with h'|h'
  ·exact h6 g hg1 h'
  ·have:=(h.out.lt g hg1).2;omega
 ·simp [Value.ownBlock] at hg1;have:=(h.out.lt g hg2).2;omega
set_option maxRecDepth 100000 in
theorem KF (Od:rQ) (bt ba lo n:Nat) (S0:CS) (va vb:Value) (A B:List Int) (q0:Nat) (w:World) (h:aN w bt ba lo n S0) (hO:Od.at_ w q0) (hap:Apart Od bt ba n S0) (hbt:bt<w.heap.size)
    (ha:jc w (Od.wr++ba::S0.blk n) va A) (hb:jc w (Od.wr++ba::S0.blk n) vb B) (hrA:Jp n S0 A=true) (hrB:Jp n S0 B=true) (hno:A.any (λx=>decide (x∈B))=false)
    (hok:∀k,IG Od.dom Od.lt n k (fK Od.lt n k ⟨S0.f,A,B,[],[],q0⟩)) :
    Calls Tryz.prog 185 #[.pointer (some ⟨bt,0,none⟩),.iface Od.ty (.pointer (some ⟨Od.p,0,none⟩)),va,vb] w λe w'=>
      ∃k vn Xv Sz vo,e=.returned (.tuple #[vo,.bool true])/\KM Od w w' bt ba lo n (Od.wr++ba::S0.blk n) Xv Sz vn vo (fK Od.lt n k ⟨S0.f,A,B,[],[],q0⟩)/\(fK Od.lt n k ⟨S0.f,A,B,[],[],q0⟩).A=[]/\(fK Od.lt n k ⟨S0.f,A,B,[],[],q0⟩).B=[]/\(fK Od.lt n k ⟨S0.f,A,B,[],[],q0⟩).N=[]:=by
  have hle:=h.le;have hu1:∀v,aa [] w (w.alloc (.cells #[v] 77)):=λv=>(aa.refl _ _).alloc _;have hbx:=dL w [vb] 77;have kA:=NI bt ba lo n S0 va A (w.alloc (.cells #[vb] 77)) (h.ai (hu1 vb)) _ (ha.upd (hu1 vb) σ);have kB:=NI bt ba lo n S0 vb B (w.alloc (.cells #[vb] 77)) (h.ai (hu1 vb)) _ (hb.upd (hu1 vb) σ);have kF:=zk (w.alloc (.cells #[vb] 77)) _ w.heap.size va vb A B (ha.upd (hu1 vb) σ) (hb.upd (hu1 vb) σ) (hbx.ext (λj hj=>by simp at hj;subst hj;rfl));rw [hrA] at kA;rw [hrB] at kB;rw [hno] at kF;have hold:∀g,g∈Od.wr++ba::S0.blk n->g<w.heap.size:=λg hg=>by
    rcases τ.1 hg with hg|hg
    · exact Od.low hO _ (Od.sub _ hg)
    · rcases ρ.1 hg with rfl|hg
      · exact h.row.lt
      · exact (h.lU hg).2
  have hM:KM Od w (w.alloc (.cells #[vb] 77)) bt ba lo n (Od.wr++ba::S0.blk n) va vb (.slice none 0 0) (.slice none 0 0) (fK Od.lt n 0 ⟨S0.f,A,B,[],[],q0⟩):=
    ⟨⟨S0,rfl,h.ai (hu1 vb),hap,(λg hg=>Α (by simp [hg])),(λg hg=>by cases hg),(λg hg=>by cases hg)⟩,Od.upd hO (hu1 vb) σ,ha,hb,hbx.ext (λj hj=>by simp at hj;subst hj;rfl),aV.nil _ _,aV.nil _ _,(λg hg=>by cases hg),(aa.refl _ _).alloc _,hold,⟨λx hx=>τ.2 (Α hx),σ⟩,hbt,λx hx=>Od.low hO x hx⟩
  have HOK:=χ hok;have Ux:=χ hM;have sa:=ha.shape;have sb:=hb.shape;obtain ⟨a1,c1,rfl,hc1⟩:=sa;obtain ⟨b1,d1,rfl,hd1⟩:=sb;clear hok hM ha hb hbx h hO hap hrA hrB hno hold;generalize hF0:Od.wr++ba::S0.blk n=F0 at *;clear hF0;generalize hC0:(⟨S0.f,A,B,[],[],q0⟩:CC)=C0 at *;clear hC0
  go_enter Tryz.func185,Tryz.ntmps185
  go_wp2_with (first
    | (go_at_call 190;(with_reducible refine (kA).mono ?_);rintro e w9 ⟨rfl,aH⟩;rw [aH];clear aH w9)
    | (go_at_call 190;(with_reducible refine (kB).mono ?_);rintro e w9 ⟨rfl,aH⟩;rw [aH];clear aH w9)
    | (go_at_call 191;(with_reducible refine (kF).mono ?_);rintro e w9 ⟨rfl,aH⟩;rw [aH];clear aH w9))
  clear kA kB kF
  go_loopw [2,10,11,12] (λs2 s10 s11 s12 wr=>∃ (k:Nat) (vb:Value),s12=.int .i64 (k:Int)/\k<=n+1/\KM Od w wr bt ba lo n F0 s2 vb s11 s10 (fK Od.lt n k C0)) (λ_ _ _ s12 _=>n+2-(intOf s12).toNat)
  case atStart=>exact ⟨0,_,rfl,ω,Ux.out⟩
  case round=>
    obtain ⟨k,vb,rfl,hk,hM⟩:=hrel;have hok:=HOK.out k;generalize hC:fK Od.lt n k C0=C at *;have HC:=χ hC;clear hC;obtain ⟨F,A,B,N,O,q⟩:=C;obtain ⟨a2,c2,rfl,hc2⟩:=hM.a.shape;obtain ⟨b2,d2,rfl,hd2⟩:=hM.b.shape;obtain ⟨n2,e2,rfl,hn2,he2,_⟩:=hM.now.shape;have hbx:=hM.box.cell 0 ω;have hsm:=hok.small;have hfw:=hok.few;simp only at hsm hfw
    by_cases hemp:A=[]/\B=[]/\N=[]
    · obtain ⟨rfl,rfl,rfl⟩:=hemp
      obtain ⟨o2,f2,rfl,_⟩:=hM.out.shape;have HM:=χ hM;clear hM hok;go_wp2;go_ret2;exact ⟨k,_,_,_,_,rfl,by rw [HC.out];exact HM.out,by rw [HC.out],by rw [HC.out],by rw [HC.out]⟩
    · have hpos:0<A.length+B.length+N.length:=by
        rcases A with _|⟨x,t⟩
        · rcases B with _|⟨x,t⟩
          · rcases N with _|⟨x,t⟩
            · exact absurd ⟨rfl,rfl,rfl⟩ hemp
            · simp
          · simp;omega
        · simp;omega
      have hkn:k<=n:=hok.ends (by
        rcases A with _|⟨x,t⟩
        · rcases B with _|⟨x,t⟩
          · rcases N with _|⟨x,t⟩
            · exact absurd ⟨rfl,rfl,rfl⟩ hemp
            · exact Β (Β σ)
          · exact Β (Α σ)
        · exact Α σ)
      have Ye:=χ hok;have HM:=χ hM;clear hemp hok hM
      go_upto_region 7 with (fail)
      go_cut [50] (λs50 wx=>s50=.bool (tA n k A F)/\KM Od w wx bt ba lo n F0 (.slice a2 A.length c2) (.slice b2 B.length d2) (.slice n2 N.length e2) u10 ⟨F,A,B,N,O,q⟩)
      case first=>
        rcases A with _|⟨x,t⟩
        · go_wp2_with fail
          go_meet
          exact ⟨rfl,HM.out⟩
        · obtain ⟨ga,oa,rfl,hgl,sZ,hc⟩:=HM.out.a.head
          have hc1:=HM.out.far hgl sZ hc (aa.refl [] _) σ;have kD:=HM.out.deg x;have FV:tA n k (x::t) F=(cz n F x == (k:Int)):=rfl;have HT:=χ FV;simp only at kD;clear FV hc;generalize cz n F x=d at *
          go_wp2_with ((go_at_call 194;(with_reducible refine (kD).mono ?_);rintro e w9 ⟨rfl,aH⟩;rw [aH];clear aH w9))
          go_meet
          exact ⟨by rw [HT.out],HM.out⟩
      case rest=>
        obtain ⟨rfl,hM1⟩:=hcut;have nC:=χ hM1;clear hM1 HM hbx
        go_upto_if 50 with (fail)
        go_cut [2,11] (λs2 s11 wx=>∃vb,KM Od w wx bt ba lo n F0 s2 vb s11 u10 (takeA n k ⟨F,A,B,N,O,q⟩))
        case first=>
          cases FV:tA n k A F with
          | false=>
            go_wp2_with fail
            go_meet
            have e:takeA n k ⟨F,A,B,N,O,q⟩=⟨F,A,B,N,O,q⟩:=by
              rcases A with _|⟨x,t⟩
              · rfl
              · unfold takeA;simp only;rw [Γ (by simpa [tA] using FV)]
            rw [e];exact ⟨_,nC.out⟩
          | true=>
            rcases A with _|⟨x,t⟩
            · cases FV
            · have e:takeA n k ⟨F,x::t,B,N,O,q⟩=⟨F,t,B,N++[x],O,q⟩:=by
                unfold takeA;simp only;rw [Δ (by simpa [tA] using FV)]
              obtain ⟨ga,oa,rfl,hgl,sZ,hc⟩:=nC.out.a.head;have hown:∀g,g∈(Value.slice n2 N.length e2).ownBlock.toList->w.heap.size<=g:=λg hg=>by have:=(nC.out.now.lt g (by simpa using hg)).1;omega
              have r1:∀W,aa (Value.slice n2 N.length e2).ownBlock.toList wc W->W.cell? ⟨ga,oa,none⟩=some (.int .i64 x):=λW hW=>nC.out.far hgl sZ hc hW hown;have s0:aa (Value.slice n2 N.length e2).ownBlock.toList wc wc.drew:=(aa.refl _ _).drew;have hsl:=λW=>uU W (some ⟨ga,oa,none⟩) (t.length+1) c2 ω (by simp at hsm;omega);have yX:=(show jc w F0 (.slice (some ⟨ga,oa,none⟩) (t.length+1) c2) (x::t) from nC.out.a).tail;obtain ⟨a3,yg⟩:=pg (some ⟨ga,oa,none⟩) (t.length+1) c2;rw [yg] at hsl yX;simp only [Nat.add_sub_cancel] at hsl yX;have HTA:=χ yX;have hno:=nC.out.now;have E:=χ e
              clear yX e FV yg hc
              go_wp2_with fail
              go_region_held3 (λW=>aa (Value.slice n2 N.length e2).ownBlock.toList wc W)
                (first|assumption|exact (aa.refl _ _).drew|(have hS:=(by assumption:aa _ _ _);exact hS.alloc _))
                (first
                  | (have hS:=s0.alloc (.cells #[.int .i64 x] 3)
                     refine pF rfl _ _ 77 rfl Tryz.underlying77 (w.heap.size+1) (.slice n2 N.length e2) N rfl (hno.upd ((aa.refl [] _).drew.alloc (.cells #[.int .i64 x] 3)) σ) wc.heap.size x rfl (l8 wc [.int .i64 x] 3 0 _ rfl) ω (by have:=nC.out.upd.size;have:=nC.out.box.lt;simp;omega) ?_;intro v2 w2 ho2 hu2 hv2
                     have hS2:aa (Value.slice n2 N.length e2).ownBlock.toList wc w2:=hS.trans hu2))
              go_wp2_with fail
              go_meet
              rw [E.out];exact ⟨_,(nC.out.Mf hS2 ho2 (λg hg=>by rcases hv2 g hg with h|h;exact Α h;exact Β (by simp at h;omega))).aTo HTA.out⟩
        case rest=>
          have hT1:=wm n k ⟨F,A,B,N,O,q⟩;generalize gK:takeA n k ⟨F,A,B,N,O,q⟩=C1 at *;have ZX:=χ gK;clear gK nC;obtain ⟨F1,A1,B1,N1,O1,q1⟩:=C1;have hs1:A1.length+B1.length+N1.length+O1.length<=100001/\N1.length<=2:=by
            obtain ⟨h1,h2⟩:=hT1;unfold tot at h1;simp only at h1 h2;omega
          obtain ⟨hs1,hf1⟩:=hs1;obtain ⟨vb1,hcut⟩:=hcut;obtain ⟨a5,c5,rfl,Zw⟩:=hcut.a.shape;obtain ⟨b5,d5,rfl,hd5⟩:=hcut.b.shape;obtain ⟨n5,e5,rfl,JX,he5,_⟩:=hcut.now.shape;simp only at JX;have hbx:=hcut.box.cell 0 ω;have nC:=χ hcut;clear hcut hT1 hsm hfw hpos
          go_upto_region 9 with (fail)
          go_cut [70] (λs70 wx=>s70=.bool (tA n k B1 F1)/\KM Od w wx bt ba lo n F0 (.slice a5 A1.length c5) (.slice b5 B1.length d5) (.slice n5 N1.length e5) u10 ⟨F1,A1,B1,N1,O1,q1⟩)
          case first=>
            rcases B1 with _|⟨x,t⟩
            · go_wp2_with fail
              go_meet
              exact ⟨rfl,nC.out⟩
            · obtain ⟨ga,oa,rfl,hgl,sZ,hc⟩:=nC.out.b.head
              have hc1:=nC.out.far hgl sZ hc (aa.refl [] _) σ;have kD:=nC.out.deg x;have FV:tA n k (x::t) F1=(cz n F1 x == (k:Int)):=rfl;have HT:=χ FV;simp only at kD;clear FV hc;generalize cz n F1 x=d at *
              go_wp2_with ((go_at_call 194;(with_reducible refine (kD).mono ?_);rintro e w9 ⟨rfl,aH⟩;rw [aH];clear aH w9))
              go_meet
              exact ⟨by rw [HT.out],nC.out⟩
          case rest=>
            obtain ⟨rfl,hM2⟩:=hcut;have hbx:=hM2.box.cell 0 ω;have hbf:=hM2.box.free 0;have pI:=χ hM2;clear hM2 nC
            go_upto_if 70 with (fail)
            go_cut [11] (λs11 wx=>∃vb,KM Od w wx bt ba lo n F0 (.slice a5 A1.length c5) vb s11 u10 (takeB n k ⟨F1,A1,B1,N1,O1,q1⟩))
            case first=>
              cases FV:tA n k B1 F1 with
              | false=>
                go_wp2_with fail
                go_meet
                have e:takeB n k ⟨F1,A1,B1,N1,O1,q1⟩=⟨F1,A1,B1,N1,O1,q1⟩:=by
                  rcases B1 with _|⟨x,t⟩
                  · rfl
                  · unfold takeB;simp only;rw [Γ (by simpa [tA] using FV)]
                rw [e];exact ⟨_,pI.out⟩
              | true=>
                rcases B1 with _|⟨x,t⟩
                · cases FV
                · have e:takeB n k ⟨F1,A1,x::t,N1,O1,q1⟩=⟨F1,A1,t,N1++[x],O1,q1⟩:=by
                    unfold takeB;simp only;rw [Δ (by simpa [tA] using FV)]
                  obtain ⟨ga,oa,rfl,hgl,sZ,hc⟩:=pI.out.b.head;have hown:∀g,g∈(Value.slice n5 N1.length e5).ownBlock.toList->w.heap.size<g:=λg hg=>by have:=(pI.out.now.lt g (by simpa using hg)).1;omega
                  have r1:∀W,aa (Value.slice n5 N1.length e5).ownBlock.toList wc W->W.cell? ⟨ga,oa,none⟩=some (.int .i64 x):=λW hW=>pI.out.far hgl sZ hc hW (λg hg=>by have:=hown g hg;omega);have r2:∀W,aa (Value.slice n5 N1.length e5).ownBlock.toList wc W->W.cell? ⟨w.heap.size,0,none⟩=some (.slice (some ⟨ga,oa,none⟩) (x::t).length d5):=λW hW=>by rw [hW.cell pI.out.box.lt (λhm=>by have:=hown _ hm;simp at this)];exact hbx
                  have r3:∀W,aa (Value.slice n5 N1.length e5).ownBlock.toList wc W->W.frozen? ⟨w.heap.size,0,none⟩=false:=λW hW=>by rw [hW.frozen pI.out.box.lt (λhm=>by have:=hown _ hm;simp at this)];exact hbf
                  have s0:aa (Value.slice n5 N1.length e5).ownBlock.toList wc wc:=aa.refl _ _;have p1:=r1 _ s0;have p3:=r1 _ (s0.alloc (.cells #[.int .i64 x] 3));have p4:=r2 _ (s0.alloc (.cells #[.int .i64 x] 3));have hsl:=λW=>uU W (some ⟨ga,oa,none⟩) (t.length+1) d5 ω (by simp at hs1;omega);have yX:=(show jc w F0 (.slice (some ⟨ga,oa,none⟩) (t.length+1) d5) (x::t) from pI.out.b).tail;obtain ⟨a3,yg⟩:=pg (some ⟨ga,oa,none⟩) (t.length+1) d5;rw [yg] at hsl yX;simp only [Nat.add_sub_cancel] at hsl yX;have HTA:=χ yX;have hno:=pI.out.now;have E:=χ e;clear yX e FV yg hc
                  go_wp2_with fail
                  go_region_law
                    (first
                      | (refine pF rfl _ _ 77 rfl Tryz.underlying77 (w.heap.size+1) (.slice n5 N1.length e5) N1 rfl (hno.upd ((aa.refl [] _).drew.alloc (.cells #[.int .i64 x] 3)) σ) wc.heap.size x rfl (l8 wc [.int .i64 x] 3 0 _ rfl) ω (by have:=pI.out.upd.size;have:=pI.out.box.lt;simp;omega) ?_
                         intro v2 w2 ho2 hu2 hv2;have hS2:aa (Value.slice n5 N1.length e5).ownBlock.toList wc w2:=(s0.drew.alloc (.cells #[.int .i64 x] 3)).trans hu2;have g1:=r1 _ hS2;have g2:=r2 _ hS2
                         have g3:=r3 _ hS2))
                  all_goals
                    go_wp2_with fail
                    go_meet
                    rw [E.out];exact ⟨_,(pI.out.Mf hS2 ho2 (λg hg=>by rcases hv2 g hg with h|h;exact Α h;exact Β (by simp at h;omega))).bTo HTA.out⟩
            case rest=>
              have hT1:=vw n k ⟨F1,A1,B1,N1,O1,q1⟩;generalize hC2:takeB n k ⟨F1,A1,B1,N1,O1,q1⟩=C2 at *;have ZJ:=χ hC2;clear hC2 pI;obtain ⟨F2,A2,B2,N2,O2,q2⟩:=C2;have hs2:A2.length+B2.length+N2.length+O2.length<=100001/\N2.length<=3:=by
                obtain ⟨h1,h2⟩:=hT1;unfold tot at h1;simp only at h1 h2;omega
              obtain ⟨hs2,hf2⟩:=hs2;obtain ⟨vb2,hcut⟩:=hcut;obtain ⟨n6,e6,rfl,hn6,he6,_⟩:=hcut.now.shape;obtain ⟨o6,p6,rfl,ho6,ZT,_⟩:=hcut.out.shape;simp only at hn6;have JI:=χ hcut;clear hcut hT1 hs1 hf1
              go_upto_region 11 with (fail)
              go_cut [82] (λs82 wx=>s82=.bool (N2.length % 2 == 1)/\KM Od w wx bt ba lo n F0 (.slice a5 A1.length c5) vb2 (.slice n6 N2.length e6) (.slice o6 O2.length p6) ⟨F2,A2,B2,N2,O2,q2⟩)
              case first=>
                have key:∀m:Nat,N2.length=m->N2.length % 2=m % 2:=λm h=>by rw [h]
                match N2,hf2 with
                | [],_=>go_wp2_with fail;go_meet;exact ⟨σ,JI.out⟩
                | [x],_=>go_wp2_with fail;go_meet;exact ⟨σ,JI.out⟩
                | [x,y],_=>go_wp2_with fail;go_meet;exact ⟨σ,JI.out⟩
                | [x,y,z],_=>go_wp2_with fail;go_meet;exact ⟨σ,JI.out⟩
                | _::_::_::_::_,hf2=>simp at hf2;try omega
              case rest=>
                obtain ⟨rfl,xg⟩:=hcut;have LM:=χ xg;clear xg JI
                go_upto_if 82 with (fail)
                go_cut [10,11] (λs10 s11 wx=>∃va vb,va=.slice a5 A1.length c5/\KM Od w wx bt ba lo n F0 va vb s11 s10 (eH ⟨F2,A2,B2,N2,O2,q2⟩))
                case first=>
                  cases PY:(N2.length % 2 == 1) with
                  | false=>
                    go_wp2_with fail
                    go_meet
                    have e:eH ⟨F2,A2,B2,N2,O2,q2⟩=⟨F2,A2,B2,N2,O2,q2⟩:=by
                      match N2,hf2,PY with
                      | [],_,_=>rfl
                      | [x],_,PY=>simp at PY
                      | [x,y],_,_=>rfl
                      | [x,y,z],_,PY=>simp at PY
                      | _::_::_::_::_,hf2,_=>simp at hf2;try omega
                    rw [e];exact ⟨_,_,rfl,LM.out⟩
                  | true=>
                    rcases N2 with _|⟨x,r⟩
                    · simp at PY
                    · have e:eH ⟨F2,A2,B2,x::r,O2,q2⟩=⟨F2,A2,B2,r,O2++[x],q2⟩:=by
                        match r,hf2,PY with
                        | [],_,_=>rfl
                        | [y],_,PY=>simp at PY
                        | [y,z],_,_=>rfl
                        | _::_::_::_,hf2,_=>simp at hf2;try omega
                      obtain ⟨n7,e7,he7,hn7,_,hcells⟩:=LM.out.now.shape;obtain ⟨gn,on,rfl,hc0⟩:=hcells 0 x rfl;cases he7;rw [ϓ] at hc0;have hsl:=λW=>uU W (some ⟨gn,on,none⟩) (r.length+1) e6 ω (by simp at hs2;omega);have hno:=λW (h:aV W (w.heap.size+1) (.slice (some ⟨gn,on,none⟩) (r.length+1) e6) (x::r))=>h.tail;obtain ⟨a3,yg⟩:=pg (some ⟨gn,on,none⟩) (r.length+1) e6;rw [yg] at hsl hno;simp only [Nat.add_sub_cancel] at hsl hno;have HNO:=χ hno;have uj:=LM.out.out;have E:=χ e;clear hno e PY yg hcells
                      go_wp2_with (at_builtin;refine tQ rfl _ _ 77 rfl Tryz.underlying77 (w.heap.size+1) (.slice o6 O2.length p6) O2 rfl (uj.upd ((aa.refl [] _).alloc (.cells #[.int .i64 x] 3)) σ) wc.heap.size x rfl (l8 wc [.int .i64 x] 3 0 _ rfl) ω (by have:=LM.out.upd.size;have:=LM.out.box.lt;simp;omega) ?_;intro v2 w2 ho2 hu2 hv2)
                      go_meet
                      have hS2:aa (Value.slice o6 O2.length p6).ownBlock.toList wc w2:=((aa.refl _ _).alloc (.cells #[.int .i64 x] 3)).trans hu2;have hm1:=LM.out.WV hS2 ho2 (λg hg=>by rcases hv2 g hg with h|h;exact Α h;exact Β (by simp at h;omega));have hm2:=hm1.Mf (aa.refl _ _) (HNO.out _ hm1.now).1 (λg hg=>by rw [(HNO.out _ hm1.now).2] at hg;exact Α hg);rw [E.out];exact ⟨_,_,rfl,hm2⟩
                case rest=>
                  have hT1:=KE ⟨F2,A2,B2,N2,O2,q2⟩ hf2;have Iy:=Ye.out.join;rw [ZX.out,ZJ.out] at Iy;generalize Rb:eH ⟨F2,A2,B2,N2,O2,q2⟩=C3 at *;have HC3:=χ Rb;clear Rb LM;obtain ⟨F3,A3,B3,N3,O3,q3⟩:=C3;simp only at Iy;obtain ⟨hT1,hf3⟩:=hT1;simp only at hf3;obtain ⟨va3,vb3,rfl,hcut⟩:=hcut;obtain ⟨n8,e8,rfl,hn8,he8,_⟩:=hcut.now.shape;obtain ⟨o8,p8,rfl,ho8,Zh,_⟩:=hcut.out.shape;simp only at hn8;have tC:=χ hcut;have HJ:=χ Iy;clear hcut hT1 hs2 hf2 Iy
                  go_upto_region 14 with (fail)
                  go_cut [93] (λs93 wx=>s93=.bool (N3.length == 2)/\KM Od w wx bt ba lo n F0 (.slice a5 A1.length c5) vb3 (.slice n8 N3.length e8) (.slice o8 O3.length p8) ⟨F3,A3,B3,N3,O3,q3⟩)
                  case first=>
                    match N3,hf3 with
                    | [],_=>go_wp2_with fail;go_meet;exact ⟨σ,tC.out⟩
                    | [x],_=>go_wp2_with fail;go_meet;exact ⟨σ,tC.out⟩
                    | [x,y],_=>go_wp2_with fail;go_meet;exact ⟨σ,tC.out⟩
                    | _::_::_::_,hf3=>simp at hf3;try omega
                  case rest=>
                    obtain ⟨rfl,rV⟩:=hcut;have uG:=χ rV;clear rV tC;have hst:Dj Od.lt n k ⟨F,A,B,N,O,q⟩=lg Od.lt ⟨F3,A3,B3,N3,O3,q3⟩:=by
                      unfold Dj;rw [ZX.out,ZJ.out,HC3.out]
                    have hru:fK Od.lt n (k+1) C0=lg Od.lt ⟨F3,A3,B3,N3,O3,q3⟩:=by rw [fK,HC.out,hst]
                    have hq3:q3<=1000000:=by
                      have h:=Np n k ⟨F,A,B,N,O,q⟩;rw [ZX.out,ZJ.out,HC3.out] at h;simp only at h;rw [h];exact Ye.out.asked
                    have VM:=χ hru;clear hst hru ZX ZJ HC3
                    match N3,hf3,HJ,uG,VM with
                    | [],_,_,uG,VM=>
                      go_wp2_with fail
                      go_roundw
                      case rel=>exact ⟨k+1,_,by go_num,ω,by rw [VM.out];exact uG.out⟩
                      case measure=>simp [intOf];omega
                    | [x],_,_,uG,VM=>
                      go_wp2_with fail
                      go_roundw
                      case rel=>exact ⟨k+1,_,by go_num,ω,by rw [VM.out];exact uG.out⟩
                      case measure=>simp [intOf];omega
                    | [x,y],_,HJ,uG,VM=>
                      obtain ⟨a,b,rfl,rfl,Zt,V7,hja,hjb,Z9,YJ,X7,hjd,Xm,W9⟩:=HJ.out x y rfl;obtain ⟨S,hSf,WE,Yw,Wo,hS5,hS6⟩:=uG.out.sV;obtain ⟨n9,e9,he9,hn9,_,hcells⟩:=uG.out.now.shape;obtain ⟨gn,on,rfl,hc0⟩:=hcells 0 (a:Int) rfl;obtain ⟨gn2,on2,heq,hc1⟩:=hcells 1 (b:Int) rfl;cases heq;cases he9;rw [ϓ] at hc0;simp only at hSf;rw [←hSf] at YJ X7 hjd Xm W9;have hgn:∀g,g∈Od.wr++ba::S.blk n->g≠gn:=λg hg e=>by
                        subst e;have hl:=(uG.out.now.lt g rfl).1;rcases τ.1 hg with hg|hg
                        · have:=uG.out.old _ (uG.out.IV.1 _ hg);omega
                        · rcases ρ.1 hg with rfl|hg
                          · have:=uG.out.old _ uG.out.IV.2;omega
                          · exact hS5 g rfl hg
                      have hgl:=(uG.out.now.lt gn rfl).2;have r1:∀W,aa (Od.wr++ba::S.blk n) wc W->W.cell? ⟨gn,on,none⟩=some (.int .i64 (a:Int)):=λW hW=>by rw [hW.cell hgl (λhm=>hgn _ hm rfl)];exact hc0
                      have r2:∀W,aa (Od.wr++ba::S.blk n) wc W->W.cell? ⟨gn,on+1,none⟩=some (.int .i64 (b:Int)):=λW hW=>by rw [hW.cell hgl (λhm=>hgn _ hm rfl)];exact hc1
                      have kJ:=MO Od bt ba lo n S q3 a b wc.drew (WE.ai (aa.refl [] _).drew) (Od.upd uG.out.V6 (aa.refl [] _).drew σ) Zt V7 hq3 hja hjb YJ X7 Z9 hjd Xm W9 Yw;clear hcells
                      go_wp2_with fail
                      go_region_held3 (λW=>aa (Od.wr++ba::S.blk n) wc W)
                        (first|assumption|exact (aa.refl _ _).drew|(have hS:=(by assumption:aa _ _ _);exact hS.alloc _))
                        (first
                          | ((go_at_call 195;(with_reducible refine (kJ).mono ?_));rintro e w2 ⟨v2,rfl,hF2,hL2,hu2,hg2⟩;have hS2:aa (Od.wr++ba::S.blk n) wc w2:=(aa.refl _ _).drew.trans hu2))
                      go_wp2_with fail
                      go_roundw
                      case rel=>
                        refine ⟨k+1,vb3,by go_num,ω,?_⟩;rw [VM.out];exact uG.out.VT hSf WE Yw Wo hS6 hF2 hL2 hS2 hg2
                      case measure=>simp [intOf];omega
                    | _::_::_::_,hf3,_,_,_=>simp at hf3;try omega
end Go.Proofs.YtnpdakpagnpanaaGreat
namespace Go.Proofs.YtnpdakpagnpanaaGreat
theorem qy:∀ (n:Nat) (l:List Int),l.Nodup->(∀x,x∈l->0<=x/\x<n)->l.length<=n
 | 0,l,_,h=>by
  cases l with
  | nil=>simp
  | cons x r=>have:=h x σ;omega
 | n+1,l,hn,h=>by
  have h1:=qy n (l.filter (λx=>x != (n:Int))) (hn.filter _) (λx hx=>by
   simp only [List.mem_filter] at hx;have:=h x hx.1;have h2:x≠n:=by simpa using hx.2
   omega)
  have h2:l.length<=(l.filter (λx=>x != (n:Int))).length+1:=by
   clear h1 h
   induction l with
   | nil=>simp
   | cons y r ih=>
    rw [Ζ] at hn
    by_cases hy:y=n
    ·subst hy;have e:r.filter (λx=>x != (n:Int))=r:=by
      rw [List.filter_eq_self];intro a ha;simp;intro e;subst e;exact hn.1 ha
     rw [List.filter_cons_of_neg σ,e];simp
    ·have:=ih hn.2;rw [List.filter_cons_of_pos (by simpa using hy)];simp only [Ω];omega
  omega
structure mP (n:Nat) (F:CF):Prop where
 tu:∀x,x<n->∀y,y∈F.k x->0<=y/\y<n/\F.u y.toNat=x
 nd:∀x,x<n->(F.k x).Nodup
 up:∀y,y<n->F.u y=-1\/∃p:Nat,p<n/\F.u y=p/\(y:Int)∈F.k p
 wh:∀x,x<n->∀i z,(F.k x)[i]?=some z->(F.k z.toNat).length=i
theorem O6 (n:Nat):mP n CS.none.f:=⟨λx _ y hy=>(by cases hy),λx _=>ϡ,λy _=>Α rfl,λx _ i z h=>by simp [CS.none,CS.f] at h⟩
theorem mP.self {n:Nat} {F:CF} (h:mP n F) {x:Nat} (hx:x<n):(x:Int)∉F.k x:=λhm=>by
 obtain ⟨i,hi,he⟩:=List.getElem_of_mem hm;have:=h.wh x hx i x (by rw [ε hi,he]);simp at this;omega
theorem mP.len {n:Nat} {F:CF} (h:mP n F) {x:Nat} (hx:x<n):(F.k x).length+1<=n:=by
 have:=qy n ((x:Int)::F.k x) (Ζ.2 ⟨h.self hx,h.nd x hx⟩) (λy hy=>by
  rcases ρ.1 hy with rfl|hy
  ·omega
  ·have:=h.tu x hx y hy;omega)
 simpa using this
theorem mP.link {n:Nat} {F:CF} (h:mP n F) {a b:Nat} (ha:a<n) (hb:b<n) (hne:a≠b) (ra:F.u a=-1) (rb:F.u b=-1) (hd:(F.k a).length=(F.k b).length):mP n (gD F a b):=by
 have nb:∀x,x<n->(b:Int)∉F.k x:=λx hx hm=>by
  have:=(h.tu x hx b hm).2.2;simp at this;omega
 have na:∀x,x<n->(a:Int)∉F.k x:=λx hx hm=>by
  have:=(h.tu x hx a hm).2.2;simp at this;omega
 refine ⟨λx hx y hy=>?_,λx hx=>?_,λy hy=>?_,λx hx i z hz=>?_⟩
 ·unfold gD at hy ⊢;simp only at hy ⊢
  split at hy
  ·rename_i e
   subst e;rcases τ.1 hy with hy|hy
   ·obtain ⟨h1,h2,h3⟩:=h.tu x hx y hy;refine ⟨h1,h2,?_⟩;rw [Γ (λe=>by rw [e,rb] at h3;omega)];exact h3
   ·simp at hy;subst hy;exact ⟨ω,ω,σ⟩
  ·obtain ⟨h1,h2,h3⟩:=h.tu x hx y hy;refine ⟨h1,h2,?_⟩;rw [Γ (λe=>by rw [e,rb] at h3;omega)];exact h3
 ·unfold gD;simp only
  split
  ·rw [θ];exact ⟨h.nd a ha,σ,λy hy z hz e=>by simp at hz;subst hz;subst e;exact nb a ha hy⟩
  ·exact h.nd x hx
 ·unfold gD;simp only
  by_cases hyb:y=b
  ·subst hyb;exact Β ⟨a,ha,σ,σ⟩
  ·rw [Γ hyb];rcases h.up y hy with h1|⟨p,hp,h1,h2⟩
   ·exact Α h1
   ·refine Β ⟨p,hp,h1,?_⟩
    split
    ·rename_i e;subst e;exact τ.2 (Α h2)
    ·exact h2
 ·have kz:∀z,z∈F.k x->(gD F a b).k z.toNat=F.k z.toNat:=λz hz=>by
   unfold gD;simp only
   rw [Γ (λe=>by
    have:=h.tu x hx z hz
    exact na x hx (by rw [←e,show ((z.toNat:Nat):Int)=z by omega];exact hz))]
  have hz':=hz;unfold gD at hz';simp only at hz'
  split at hz'
  ·rename_i e
   subst e;rcases ϔ i (F.k x).length with hi|hi
   ·rw [Ρ hi] at hz';rw [kz z (Η hz')];exact h.wh x hx i z hz'
   ·have hil:i=(F.k x).length:=by
     have:=(List.getElem?_eq_some_iff.1 hz').1;simp at this;omega
    subst hil;rw [ϊ (Θ _)] at hz';simp at hz';subst hz';unfold gD;simp only [π];rw [Γ (λe=>hne ω),hd]
  ·rw [kz z (Η hz')];exact h.wh x hx i z hz'
def CC.L (C:CC):List Int:=C.A++(C.B++(C.N++C.O))
structure G (n ka kb kn ko:Nat) (C:CC):Prop where
 f:mP n C.F
 rt:∀x,x∈C.L->0<=x/\x<n/\C.F.u x.toNat=-1
 nd:C.L.Nodup
 a1:C.A.Pairwise (λx y=>cz n C.F x<cz n C.F y)
 a2:∀x,x∈C.A->(ka:Int)<=cz n C.F x
 b1:C.B.Pairwise (λx y=>cz n C.F x<cz n C.F y)
 b2:∀x,x∈C.B->(kb:Int)<=cz n C.F x
 n1:∀x,x∈C.N->cz n C.F x=kn
 o1:C.O.Pairwise (λx y=>cz n C.F x<cz n C.F y)
 o2:∀x,x∈C.O->cz n C.F x<ko
theorem oO (n k:Nat) (C:CC):(takeA n k C).L.Perm C.L:=by
 obtain ⟨F,A,B,N,O,q⟩:=C;unfold takeA
 split
 ·rename_i x t h
  simp only at h;subst h
  split
  ·unfold CC.L;simp only;rw [List.perm_iff_count];intro y;simp [List.count_append,List.count_cons];omega
  ·exact ό _
 ·exact ό _
theorem oG (n k:Nat) (C:CC):(takeB n k C).L.Perm C.L:=by
 obtain ⟨F,A,B,N,O,q⟩:=C;unfold takeB
 split
 ·rename_i x t h
  simp only at h;subst h
  split
  ·unfold CC.L;simp only;rw [List.perm_iff_count];intro y;simp [List.count_append,List.count_cons];omega
  ·exact ό _
 ·exact ό _
theorem oM (C:CC):(eH C).L.Perm C.L:=by
 obtain ⟨F,A,B,N,O,q⟩:=C;unfold eH
 split
 ·rename_i x h
  simp only at h;subst h;unfold CC.L;simp only;rw [List.perm_iff_count];intro y;simp [List.count_append,List.count_cons]
  try omega
 ·rename_i x y z h
  simp only at h;subst h;unfold CC.L;simp only;rw [List.perm_iff_count];intro y;simp [List.count_append,List.count_cons]
  try omega
 ·exact ό _
theorem Il (n k:Nat) (C:CC):(takeA n k C).F=C.F:=by unfold takeA;split;(split<;>rfl);rfl
theorem IU (n k:Nat) (C:CC):(takeB n k C).F=C.F:=by unfold takeB;split;(split<;>rfl);rfl
theorem Je (C:CC):(eH C).F=C.F:=by unfold eH;split<;>rfl
theorem Bq {n k:Nat} {C:CC} (h:G n k k k k C):G n (k+1) k k k (takeA n k C):=by
 have hp:=oO n k C;have hF:=Il n k C;have rt:=λx (hx:x∈(takeA n k C).L)=>h.rt x (hp.mem_iff.1 hx);have nd:=hp.nodup_iff.2 h.nd;have key:((takeA n k C).A.Pairwise (λx y=>cz n C.F x<cz n C.F y))/\(∀x,x∈(takeA n k C).A->((k+1:Nat):Int)<=cz n C.F x)/\(takeA n k C).B=C.B/\(∀x,x∈(takeA n k C).N->cz n C.F x=k)/\(takeA n k C).O=C.O:=by
  obtain ⟨F,A,B,N,O,q⟩:=C;have a1:=h.a1;have a2:=h.a2;have n1:=h.n1;simp only at a1 a2 n1;unfold takeA;rcases A with _|⟨x,t⟩
  ·exact ⟨List.Pairwise.nil,λx hx=>by (cases hx),rfl,n1,rfl⟩
  ·simp only;rw [ϖ] at a1;have hx:=a2 x σ
   split
   ·rename_i hd
    refine ⟨a1.2,λy hy=>?_,rfl,λy hy=>?_,rfl⟩
    ·have:=a1.1 y hy;omega
    ·simp only at hy;rcases τ.1 hy with hy|hy
     ·exact n1 y hy
     ·simp at hy;subst hy;exact hd
   ·rename_i hd
    refine ⟨ϖ.2 a1,λy hy=>?_,rfl,n1,rfl⟩;rcases ρ.1 hy with rfl|hy
    ·omega
    ·have:=a1.1 y hy;omega
 obtain ⟨k1,k2,k3,k4,k5⟩:=key;rw [←hF] at k1 k2 k4;exact ⟨by rw [hF];exact h.f,λx hx=>by rw [hF];exact rt x hx,nd,k1,k2,by rw [k3,hF];exact h.b1,by rw [k3,hF];exact h.b2,k4,by rw [k5,hF];exact h.o1,by rw [k5,hF];exact h.o2⟩
theorem BV {n k:Nat} {C:CC} (h:G n (k+1) k k k C):G n (k+1) (k+1) k k (takeB n k C):=by
 have hp:=oG n k C;have hF:=IU n k C;have rt:=λx (hx:x∈(takeB n k C).L)=>h.rt x (hp.mem_iff.1 hx);have nd:=hp.nodup_iff.2 h.nd;have key:((takeB n k C).B.Pairwise (λx y=>cz n C.F x<cz n C.F y))/\(∀x,x∈(takeB n k C).B->((k+1:Nat):Int)<=cz n C.F x)/\(takeB n k C).A=C.A/\(∀x,x∈(takeB n k C).N->cz n C.F x=k)/\(takeB n k C).O=C.O:=by
  obtain ⟨F,A,B,N,O,q⟩:=C;have a1:=h.b1;have a2:=h.b2;have n1:=h.n1;simp only at a1 a2 n1;unfold takeB;rcases B with _|⟨x,t⟩
  ·exact ⟨List.Pairwise.nil,λx hx=>by (cases hx),rfl,n1,rfl⟩
  ·simp only;rw [ϖ] at a1;have hx:=a2 x σ
   split
   ·rename_i hd
    refine ⟨a1.2,λy hy=>?_,rfl,λy hy=>?_,rfl⟩
    ·have:=a1.1 y hy;omega
    ·simp only at hy;rcases τ.1 hy with hy|hy
     ·exact n1 y hy
     ·simp at hy;subst hy;exact hd
   ·rename_i hd
    refine ⟨ϖ.2 a1,λy hy=>?_,rfl,n1,rfl⟩;rcases ρ.1 hy with rfl|hy
    ·omega
    ·have:=a1.1 y hy;omega
 obtain ⟨k1,k2,k3,k4,k5⟩:=key;rw [←hF] at k1 k2 k4;exact ⟨by rw [hF];exact h.f,λx hx=>by rw [hF];exact rt x hx,nd,by rw [k3,hF];exact h.a1,by rw [k3,hF];exact h.a2,k1,k2,k4,by rw [k5,hF];exact h.o1,by rw [k5,hF];exact h.o2⟩
theorem BP {n k:Nat} {C:CC} (h:G n (k+1) (k+1) k k C):G n (k+1) (k+1) k (k+1) (eH C):=by
 have hp:=oM C;have hF:=Je C;have rt:=λx (hx:x∈(eH C).L)=>h.rt x (hp.mem_iff.1 hx);have nd:=hp.nodup_iff.2 h.nd;have key:(eH C).A=C.A/\(eH C).B=C.B/\(∀x,x∈(eH C).N->x∈C.N)/\((eH C).O=C.O\/∃x,x∈C.N/\(eH C).O=C.O++[x]):=by
  unfold eH
  split
  ·rename_i x hx
   exact ⟨rfl,rfl,λy hy=>by (cases hy),Β ⟨x,by rw [hx];simp,rfl⟩⟩
  ·rename_i x y z hx
   exact ⟨rfl,rfl,λu hu=>by rw [hx];exact Λ _ hu,Β ⟨x,by rw [hx];simp,rfl⟩⟩
  ·exact ⟨rfl,rfl,λy hy=>hy,Α rfl⟩
 obtain ⟨k1,k2,k3,k4⟩:=key;refine ⟨by rw [hF];exact h.f,λx hx=>by rw [hF];exact rt x hx,nd,by rw [k1,hF];exact h.a1,by rw [k1,hF];exact h.a2,by rw [k2,hF];exact h.b1,by rw [k2,hF];exact h.b2,λx hx=>by rw [hF];exact h.n1 x (k3 x hx),?_,?_⟩
 ·rw [hF];rcases k4 with e|⟨x,hx,e⟩
  ·rw [e];exact h.o1
  ·rw [e,List.pairwise_append];exact ⟨h.o1,List.pairwise_singleton _ _,λy hy z hz=>by simp at hz;subst hz;rw [h.n1 z hx];exact h.o2 y hy⟩
 ·rw [hF];intro y hy;rcases k4 with e|⟨x,hx,e⟩
  ·rw [e] at hy;have:=h.o2 y hy;omega
  ·rw [e] at hy;rcases τ.1 hy with hy|hy
   ·have:=h.o2 y hy;omega
   ·simp at hy;subst hy;rw [h.n1 y hx];omega
theorem yC {C:CC} (h:C.N.length<=3):(eH C).N=[]\/∃x y,(eH C).N=[x,y]:=by
 obtain ⟨F,A,B,N,O,q⟩:=C;simp only at h
 match N,h with
 | [],_=>exact Α rfl
 | [x],_=>exact Α rfl
 | [x,y],_=>exact Β ⟨x,y,rfl⟩
 | [x,y,z],_=>exact Β ⟨y,z,rfl⟩
 | _::_::_::_::_,h=>simp at h;try omega
theorem dY (n:Nat) (F:CF) {x:Nat} (hx:x<n):cz n F x=(F.k x).length:=by unfold cz;rw [Δ ω];simp
theorem uH (n:Nat) (F:CF) {a b:Nat} (ha:a<n) (x:Int) (hx:0<=x/\x<n):cz n (gD F a b) x=if x=a then cz n F a+1 else cz n F x:=by
 obtain ⟨y,rfl⟩:=Int.eq_ofNat_of_zero_le hx.1;have hy:y<n:=ω;rw [dY _ _ hy,dY _ _ ha,dY _ _ hy];unfold gD;simp only
 by_cases e:y=a
 ·subst e;simp
 ·rw [Γ e,Γ ω]
theorem Gx {n k:Nat} {C:CC} (h:G n (k+1) (k+1) k (k+1) C) {x y:Int} (hN:C.N=[x,y]):∃a b:Nat,x=a/\y=b/\a<n/\b<n/\a≠b/\C.F.u a=-1/\C.F.u b=-1/\(C.F.k a).length=k/\(C.F.k b).length=k:=by
 have hx:=h.rt x (by unfold CC.L;rw [hN];simp);have hy:=h.rt y (by unfold CC.L;rw [hN];simp);have dx:=h.n1 x (by rw [hN];simp);have dy:=h.n1 y (by rw [hN];simp);obtain ⟨a,rfl⟩:=Int.eq_ofNat_of_zero_le hx.1;obtain ⟨b,rfl⟩:=Int.eq_ofNat_of_zero_le hy.1;have ha:a<n:=ω;have hb:b<n:=ω;rw [dY _ _ ha] at dx;rw [dY _ _ hb] at dy;refine ⟨a,b,rfl,rfl,ha,hb,λe=>?_,by simpa using hx.2.2,by simpa using hy.2.2,ω,ω⟩;subst e;have:=h.nd;unfold CC.L at this;rw [hN] at this;rw [θ] at this;have:=this.2.1;rw [θ] at this;have:=this.2.1;simp at this
theorem KI (lt:Int->Int->Bool) (a b:Nat):(iP lt a b=a/\kG lt a b=b)\/(iP lt a b=b/\kG lt a b=a):=by
 unfold iP kG
 split
 ·exact Β ⟨rfl,rfl⟩
 ·exact Α ⟨rfl,rfl⟩
theorem UM {lt:Int->Int->Bool} {n k:Nat} {C:CC} (h:G n (k+1) (k+1) k (k+1) C) (hN:C.N=[]\/∃x y,C.N=[x,y]):G n (k+1) (k+1) (k+1) (k+1) (lg lt C)/\(lg lt C).N.length<=1/\(lg lt C).q+(lg lt C).L.length=C.q+C.L.length:=by
 rcases hN with hN|⟨x,y,hN⟩
 ·have e:lg lt C=C:=by unfold lg;rw [hN]
  rw [e];exact ⟨⟨h.f,h.rt,h.nd,h.a1,h.a2,h.b1,h.b2,λx hx=>(by rw [hN] at hx;cases hx),h.o1,h.o2⟩,by rw [hN];simp,rfl⟩
 ·obtain ⟨a,b,rfl,rfl,ha,hb,hne,ra,rb,da,db⟩:=Gx h hN;have e:lg lt C={ C with F:=gD C.F (iP lt a b) (kG lt a b),N:=[(iP lt a b:Int)],q:=C.q+1 }:=by unfold lg;rw [hN];simp
  have hm:∀z,z∈C.A++(C.B++C.O)->z∈C.L/\z≠a/\z≠b:=λz hz=>by
   have hnd:=h.nd;unfold CC.L at hnd ⊢;rw [hN] at hnd ⊢;have hp:(C.A++(C.B++([(a:Int),(b:Int)]++C.O))).Perm ((a:Int)::(b:Int)::(C.A++(C.B++C.O))):=by
    rw [List.perm_iff_count];intro y;simp [List.count_append,List.count_cons];omega
   have BO:=hp.nodup_iff.1 hnd;rw [Ζ,Ζ] at BO;refine ⟨hp.mem_iff.2 (Λ _ (Λ _ hz)),λe=>?_,λe=>?_⟩
   ·subst e;exact BO.1 (Λ _ hz)
   ·subst e;exact BO.2.1 hz
  have hmA:∀z,z∈C.A->z∈C.A++(C.B++C.O):=λz hz=>by simp [hz]
  have Zv:∀z,z∈C.B->z∈C.A++(C.B++C.O):=λz hz=>by simp [hz]
  have hmO:∀z,z∈C.O->z∈C.A++(C.B++C.O):=λz hz=>by simp [hz]
  obtain ⟨hi,lo,ehi,elo,hhi,hlo,hne2,rhi,rlo,Xy,dlo,Vm⟩:∃hi lo,iP lt a b=hi/\kG lt a b=lo/\hi<n/\lo<n/\hi≠lo/\C.F.u hi=-1/\C.F.u lo=-1/\(C.F.k hi).length=k/\(C.F.k lo).length=k/\((hi=a/\lo=b)\/(hi=b/\lo=a)):=by
   rcases KI lt a b with ⟨h1,h2⟩|⟨h1,h2⟩
   ·exact ⟨a,b,h1,h2,ha,hb,hne,ra,rb,da,db,Α ⟨rfl,rfl⟩⟩
   ·exact ⟨b,a,h1,h2,hb,ha,Ne.symm hne,rb,ra,db,da,Β ⟨rfl,rfl⟩⟩
  have Bo:∀z,z∈C.A++(C.B++C.O)->z≠(hi:Int)/\z≠(lo:Int):=λz hz=>by
   have:=hm z hz;rcases Vm with ⟨rfl,rfl⟩|⟨rfl,rfl⟩
   ·exact this.2
   ·exact ⟨this.2.2,this.2.1⟩
  have Cn:∀z,z∈C.A++(C.B++C.O)->cz n (gD C.F hi lo) z=cz n C.F z:=λz hz=>by
   have hr:=h.rt z (hm z hz).1;rw [uH n C.F hhi z ⟨hr.1,hr.2.1⟩,Γ (Bo z hz).1]
  rw [e,ehi,elo];have hL:(CC.L { C with F:=gD C.F hi lo,N:=[(hi:Int)],q:=C.q+1 }).Perm ((hi:Int)::(C.A++(C.B++C.O))):=by
   unfold CC.L;simp only;rw [List.perm_iff_count];intro y;simp [List.count_append,List.count_cons];omega
  refine ⟨⟨h.f.link hhi hlo hne2 rhi rlo (by rw [Xy,dlo]),λz hz=>?_,hL.nodup_iff.2 (Ζ.2 ⟨λhm2=>(Bo _ hm2).1 rfl,?_⟩),?_,?_,?_,?_,?_,?_,?_⟩,σ,?_⟩
  ·rcases ρ.1 (hL.mem_iff.1 hz) with rfl|hz
   ·refine ⟨ω,ω,?_⟩;unfold gD;simp only [π];rw [Γ hne2];exact rhi
   ·have hr:=h.rt z (hm z hz).1;refine ⟨hr.1,hr.2.1,?_⟩;unfold gD;simp only;rw [Γ (λe=>by have:=(Bo z hz).2;omega)];exact hr.2.2
  ·have hnd:=h.nd;unfold CC.L at hnd;rw [hN] at hnd;have hp:(C.A++(C.B++([(a:Int),(b:Int)]++C.O))).Perm ((a:Int)::(b:Int)::(C.A++(C.B++C.O))):=by
    rw [List.perm_iff_count];intro y;simp [List.count_append,List.count_cons];omega
   have BO:=hp.nodup_iff.1 hnd;rw [Ζ,Ζ] at BO;exact BO.2.2
  ·exact h.a1.imp_of_mem (λ{x y} hx hy hxy=>by rw [Cn x (hmA x hx),Cn y (hmA y hy)];exact hxy)
  ·intro x hx
   show _<=cz n (gD C.F hi lo) x
   rw [Cn x (hmA x hx)];exact h.a2 x hx
  ·exact h.b1.imp_of_mem (λ{x y} hx hy hxy=>by rw [Cn x (Zv x hx),Cn y (Zv y hy)];exact hxy)
  ·intro x hx
   show _<=cz n (gD C.F hi lo) x
   rw [Cn x (Zv x hx)];exact h.b2 x hx
  ·intro x hx;simp at hx;subst hx
   show cz n (gD C.F hi lo) (hi:Int)=_
   rw [uH n C.F hhi hi ω,Δ rfl,dY n C.F hhi,Xy];omega
  ·exact h.o1.imp_of_mem (λ{x y} hx hy hxy=>by rw [Cn x (hmO x hx),Cn y (hmO y hy)];exact hxy)
  ·intro x hx
   show cz n (gD C.F hi lo) x<_
   rw [Cn x (hmO x hx)];exact h.o2 x hx
  ·unfold CC.L;simp only [υ,Ω,List.length_nil,hN];omega
theorem Dv {lt:Int->Int->Bool} {n:Nat} {C0:CC} (h:G n 0 0 0 0 C0) (hN:C0.N=[]):∀k,G n k k k k (fK lt n k C0)/\(fK lt n k C0).N.length<=1/\(fK lt n k C0).q+(fK lt n k C0).L.length=C0.q+C0.L.length
 | 0=>⟨h,by rw [fK,hN];simp,rfl⟩
 | k+1=>by
  obtain ⟨g,h1,h2⟩:=Dv (lt:=lt) h hN k;have g1:=Bq g;have g2:=BV g1;have g3:=BP g2;have t1:=(wm n k (fK lt n k C0)).2;have t2:=(vw n k (takeA n k (fK lt n k C0))).2;have ev:=yC (C:=takeB n k (takeA n k (fK lt n k C0))) ω;obtain ⟨g4,h3,h4⟩:=UM (lt:=lt) g3 ev;refine ⟨g4,h3,?_⟩;rw [fK];unfold Dj;rw [h4,Np,(oM _).length_eq,(oG _ _ _).length_eq,(oO _ _ _).length_eq];exact h2
def wt (n:Nat) (F:CF) (l:List Int):Nat:=(l.map (λx=>2 ^ (cz n F x).toNat)).sum
theorem Bb {n:Nat} {F:CF} {l m:List Int} (h:l.Perm m):wt n F l=wt n F m:=by
 unfold wt;exact (h.map _).sum_nat
theorem yu {n:Nat} {F F':CF} {l:List Int} (h:∀x,x∈l->cz n F x=cz n F' x):wt n F l=wt n F' l:=by
 unfold wt
 congr 1
 exact List.map_congr_left (λx hx=>by rw [h x hx])
structure RI (lt:Int->Int->Bool) (n:Nat) (C0 C:CC):Prop where
 sub:∀x,x∈C.L->x∈C0.L
 out:∀x:Nat,(x:Int)∉C0.L->C.F.u x=C0.F.u x/\C.F.k x=C0.F.k x
 wt:wt n C.F C.L=wt n C0.F C0.L
 nl:∀y p:Nat,y<n->C.F.u y=p->C0.F.u y=p\/((y:Int)∈C0.L/\(p:Int)∈C0.L/\y≠p/\lt y p=false)
 ro:∀y:Nat,(y:Int)∈C0.L->(y:Int)∈C.L\/∃p:Nat,p<n/\C.F.u y=p
theorem RI.refl (lt:Int->Int->Bool) (n:Nat) (C:CC):RI lt n C C:=⟨λx h=>h,λx _=>⟨rfl,rfl⟩,rfl,λy p _ h=>Α h,λy h=>Α h⟩
theorem RI.trans {lt:Int->Int->Bool} {n:Nat} {A B C:CC} (h:RI lt n A B) (k:RI lt n B C):RI lt n A C:=
 ⟨λx hx=>h.sub x (k.sub x hx),λx hx=>by
  have h1:=h.out x hx;have h2:=k.out x (λhm=>hx (h.sub _ hm));exact ⟨h2.1.trans h1.1,h2.2.trans h1.2⟩,k.wt.trans h.wt,λy p hy hu=>by
  rcases k.nl y p hy hu with h1|⟨h1,h2,h3,h4⟩
  ·exact h.nl y p hy h1
  ·exact Β ⟨h.sub _ h1,h.sub _ h2,h3,h4⟩,λy hy=>by
  by_cases hB:(y:Int)∈B.L
  ·exact k.ro y hB
  ·rcases h.ro y hy with h1|⟨p,hp,h1⟩
   ·exact absurd h1 hB
   ·exact Β ⟨p,hp,by rw [(k.out y hB).1];exact h1⟩⟩
theorem RI.perm {lt:Int->Int->Bool} {n:Nat} {C D:CC} (hp:D.L.Perm C.L) (hF:D.F=C.F):RI lt n C D:=
 ⟨λx hx=>hp.mem_iff.1 hx,λx _=>by rw [hF];exact ⟨rfl,rfl⟩,by rw [hF];exact Bb hp,λy p _ h=>by rw [hF] at h;exact Α h,λy h=>Α (hp.mem_iff.2 h)⟩
theorem RD {lt:Int->Int->Bool} {n k:Nat} {C:CC} (has:∀a b,lt a b=true->lt b a=false) (h:G n (k+1) (k+1) k (k+1) C) (hN:C.N=[]\/∃x y,C.N=[x,y]):RI lt n C (lg lt C):=by
 rcases hN with hN|⟨x,y,hN⟩
 ·have e:lg lt C=C:=by unfold lg;rw [hN]
  rw [e];exact RI.refl _ _ _
 ·obtain ⟨a,b,rfl,rfl,ha,hb,hne,ra,rb,da,db⟩:=Gx h hN;have e:lg lt C={ C with F:=gD C.F (iP lt a b) (kG lt a b),N:=[(iP lt a b:Int)],q:=C.q+1 }:=by unfold lg;rw [hN];simp
  rw [e];obtain ⟨hi,lo,ehi,elo,hhi,hlo,hne2,Xy,dlo,hah,Vm⟩:∃hi lo,iP lt a b=hi/\kG lt a b=lo/\hi<n/\lo<n/\hi≠lo/\(C.F.k hi).length=k/\(C.F.k lo).length=k/\lt lo hi=false/\((hi=a/\lo=b)\/(hi=b/\lo=a)):=by
   unfold iP kG
   by_cases hab:lt b a=true
   ·rw [Δ hab,Δ hab];exact ⟨b,a,rfl,rfl,hb,ha,Ne.symm hne,db,da,has _ _ hab,Β ⟨rfl,rfl⟩⟩
   ·rw [Γ hab,Γ hab];exact ⟨a,b,rfl,rfl,ha,hb,hne,da,db,by simpa using hab,Α ⟨rfl,rfl⟩⟩
  have LY:C.L.Perm ((hi:Int)::(lo:Int)::(C.A++(C.B++C.O))):=by
   unfold CC.L;rw [hN,List.perm_iff_count];intro y;rcases Vm with ⟨rfl,rfl⟩|⟨rfl,rfl⟩<;>simp [List.count_append,List.count_cons]<;>omega
  have hL:(CC.L { C with F:=gD C.F hi lo,N:=[(hi:Int)],q:=C.q+1 }).Perm ((hi:Int)::(C.A++(C.B++C.O))):=by
   unfold CC.L;simp only;rw [List.perm_iff_count];intro y;simp [List.count_append,List.count_cons];omega
  have BO:=LY.nodup_iff.1 h.nd;rw [Ζ,Ζ] at BO;rw [ehi,elo];refine ⟨λx hx=>LY.mem_iff.2 ?_,λx hx=>?_,?_,λy p hy hu=>?_,λy hy=>?_⟩
  ·rcases ρ.1 (hL.mem_iff.1 hx) with rfl|hx
   ·simp
   ·exact Λ _ (Λ _ hx)
  ·unfold gD;simp only;rw [Γ (λe=>hx (by subst e;exact LY.mem_iff.2 σ)),Γ (λe=>hx (by subst e;exact LY.mem_iff.2 σ))];exact ⟨rfl,rfl⟩
  ·rw [Bb hL,Bb LY];have hd:∀z,z∈C.A++(C.B++C.O)->cz n (gD C.F hi lo) z=cz n C.F z:=λz hz=>by
    have hr:=h.rt z (LY.mem_iff.2 (Λ _ (Λ _ hz)));rw [uH n C.F hhi z ⟨hr.1,hr.2.1⟩,Γ (λe=>by subst e;exact BO.1 (Λ _ hz))]
   have e1:=yu hd;have e2:cz n (gD C.F hi lo) (hi:Int)=(k:Int)+1:=by rw [uH n C.F hhi hi ω,Δ rfl,dY n C.F hhi,Xy]
   have e3:cz n C.F (hi:Int)=(k:Int):=by rw [dY n C.F hhi,Xy]
   have e4:cz n C.F (lo:Int)=(k:Int):=by rw [dY n C.F hlo,dlo]
   have:∀ (F:CF) (x:Int) (l:List Int),wt n F (x::l)=2 ^ (cz n F x).toNat + wt n F l:=λF x l=>by unfold wt;simp
   rw [this,this,this,e1,e2,e3,e4];have e5:((k:Int)+1).toNat=k+1:=ω;rw [e5,π,Nat.pow_succ];omega
  ·unfold gD at hu;simp only at hu
   split at hu
   ·rename_i e
    subst e;obtain rfl:hi=p:=ω;exact Β ⟨LY.mem_iff.2 σ,LY.mem_iff.2 σ,Ne.symm hne2,hah⟩
   ·exact Α hu
  ·rcases ρ.1 (LY.mem_iff.1 hy) with e|hy
   ·exact Α (hL.mem_iff.2 (by rw [e];simp))
   ·rcases ρ.1 hy with e|hy
    ·refine Β ⟨hi,hhi,?_⟩;unfold gD;simp only;rw [Δ ω]
    ·exact Α (hL.mem_iff.2 (Λ _ hy))
theorem GV {lt:Int->Int->Bool} {n:Nat} {C0:CC} (has:∀a b,lt a b=true->lt b a=false) (h:G n 0 0 0 0 C0) (hN:C0.N=[]):∀k,RI lt n C0 (fK lt n k C0)
 | 0=>RI.refl _ _ _
 | k+1=>by
  obtain ⟨g,h1,h2⟩:=Dv (lt:=lt) h hN k;have g1:=Bq g;have g2:=BV g1;have g3:=BP g2;have t1:=(wm n k (fK lt n k C0)).2;have t2:=(vw n k (takeA n k (fK lt n k C0))).2;have ev:=yC (C:=takeB n k (takeA n k (fK lt n k C0))) ω;have r4:=RD has g3 ev;exact ((((GV has h hN k).trans (RI.perm (oO n k _) (Il n k _))).trans (RI.perm (oG n k _) (IU n k _))).trans (RI.perm (oM _) (Je _))).trans r4
theorem Xp {lt:Int->Int->Bool} {n:Nat} {C0:CC} {dom:Int->Prop} (has:∀a b,lt a b=true->lt b a=false) (Xu:∀x,x∈C0.L->dom x) (h:G n 0 0 0 0 C0) (hN:C0.N=[]) (hn:n<=65536) (hq:C0.q<=900000) (k:Nat):IG dom lt n k (fK lt n k C0):=by
 obtain ⟨g,h1,h2⟩:=Dv (lt:=lt) h hN k;have hL0:C0.L.length<=n:=qy n _ h.nd (λx hx=>by have:=h.rt x hx;omega);have hL:(fK lt n k C0).L.length<=n:=qy n _ g.nd (λx hx=>by have:=g.rt x hx;omega);have hLL:(fK lt n k C0).L.length=(fK lt n k C0).A.length+((fK lt n k C0).B.length+((fK lt n k C0).N.length+(fK lt n k C0).O.length)):=by unfold CC.L;simp
 have dn:∀x,x∈(fK lt n k C0).L->cz n (fK lt n k C0).F x<=n:=λx hx=>by
  have hr:=g.rt x hx;obtain ⟨y,rfl⟩:=Int.eq_ofNat_of_zero_le hr.1;have hy:y<n:=ω;rw [dY _ _ hy];have:=g.f.len hy;omega
 refine ⟨h1,λx y hxy=>?_,ω,ω,λhne=>?_⟩
 ·have g3:=BP (BV (Bq g));obtain ⟨a,b,e1,e2,ha,hb,hab,ra,rb,da,db⟩:=Gx g3 hxy;have hsub:∀z,z∈(eH (takeB n k (takeA n k (fK lt n k C0)))).L->dom z:=λz hz=>Xu z ((GV has h hN k).sub z ((oO n k _).mem_iff.1 ((oG n k _).mem_iff.1 ((oM _).mem_iff.1 hz))));have da':dom (a:Int):=by rw [←e1];exact hsub x (by unfold CC.L;rw [hxy];simp)
  have db':dom (b:Int):=by rw [←e2];exact hsub y (by unfold CC.L;rw [hxy];simp)
  refine ⟨a,b,e1,e2,da',db',ha,hb,hab,?_,?_,?_,g3.f.len ha,g3.f.len hb⟩
  ·unfold xH;rw [Ν ω];simp [ra]
  ·unfold xH;rw [Ν ω];simp [rb]
  ·rw [dY _ _ ha,dY _ _ hb,da,db]
 ·rcases hne with hne|hne|hne
  ·obtain ⟨x,t,e⟩:=List.exists_cons_of_ne_nil hne;have h3:=g.a2 x (by rw [e];simp);have h4:=dn x (by unfold CC.L;rw [e];simp);omega
  ·obtain ⟨x,t,e⟩:=List.exists_cons_of_ne_nil hne;have h3:=g.b2 x (by rw [e];simp);have h4:=dn x (by unfold CC.L;rw [e];simp);omega
  ·obtain ⟨x,t,e⟩:=List.exists_cons_of_ne_nil hne;have h3:=g.n1 x (by rw [e];simp);have h4:=dn x (by unfold CC.L;rw [e];simp);omega
end Go.Proofs.YtnpdakpagnpanaaGreat
namespace Go.Proofs.YtnpdakpagnpanaaGreat
open Go Go.RowKit
def jF (n:Nat) (F:CF) (l:List Int):Prop:=(∀x,x∈l->0<=x/\x<n/\F.u x.toNat=-1)/\l.Pairwise (λx y=>cz n F x<cz n F y)
theorem zI (n:Nat) (F:CF) (x:Int):xH n F x=true↔0<=x/\x<n/\F.u x.toNat=-1:=by
 unfold xH;simp only [Τ,Ο,Ϝ];exact ⟨λh=>⟨h.1.1,h.1.2,h.2⟩,λh=>⟨⟨h.1,h.2.1⟩,h.2.2⟩⟩
theorem jY {l:List Int} {i:Nat} (h:i<l.length):l.getD i 0=l[i]:=by simp [φ,h]
theorem ED (n:Nat) (S:CS) (l:List Int):Jp n S l=true↔jF n S.f l:=by
 unfold Jp uV rowOk;simp only [UR,Tv];rw [List.all_eq_true];simp only [List.mem_range,Τ,Bool.or_eq_true,Ϝ,Ο];constructor
 ·intro h;refine ⟨λx hx=>?_,?_⟩
  ·obtain ⟨i,hi,rfl⟩:=List.getElem_of_mem hx;have:=(h i hi).1;rw [jY hi] at this;exact (zI n S.f _).1 this
  ·rw [List.pairwise_iff_getElem];have key:∀ (d i:Nat) (hi:i<l.length) (hj:i+d+1<l.length),cz n S.f l[i]<cz n S.f l[i+d+1]:=λd=>by
    induction d with
    | zero=>
     intro i hi hj;rcases (h (i+1) hj).2 with h2|h2
     ·omega
     ·rw [Nat.add_sub_cancel,jY hi,jY hj] at h2;exact Ϡ h2
    | succ d ih=>
     intro i hi hj;have h1:=ih i hi ω;rcases (h (i+d+1+1) ω).2 with h2|h2
     ·omega
     ·rw [Nat.add_sub_cancel,jY (show i+d+1<l.length by omega),jY (show i+d+1+1<l.length by omega)] at h2;exact Int.lt_trans h1 (Ϡ h2)
   intro i j hi hj hij;have:=key (j-i-1) i hi ω;simpa [show i+(j-i-1)+1=j by omega] using this
 ·rintro ⟨h1,h2⟩ i hi;refine ⟨?_,?_⟩
  ·rw [jY hi];exact (zI n S.f _).2 (h1 _ (ϗ hi))
  ·rcases Nat.eq_zero_or_pos i with h0|h0
   ·exact Α h0
   ·rw [jY hi,jY (show i-1<l.length by omega)];exact Β (Ν ((List.pairwise_iff_getElem.1 h2) (i-1) i ω hi ω))
theorem jF.nodup {n:Nat} {F:CF} {l:List Int} (h:jF n F l):l.Nodup:=h.2.imp (λ{a b} hab e=>by subst e;omega)
theorem any_false {A B:List Int}:A.any (λx=>decide (x∈B))=false↔∀x,x∈A->x∉B:=by
 rw [List.any_eq_false];simp
theorem I1 {n:Nat} {F:CF} {A B:List Int} {q:Nat} (f:mP n F) (hA:jF n F A) (hB:jF n F B) (hd:∀x,x∈A->x∉B):G n 0 0 0 0 ⟨F,A,B,[],[],q⟩:=by
 have d0:∀x,0<=cz n F x:=λx=>by unfold cz;split<;>omega
 refine ⟨f,λx hx=>?_,?_,hA.2,λx _=>by simpa using d0 x,hB.2,λx _=>by simpa using d0 x,λx hx=>(by cases hx),List.Pairwise.nil,λx hx=>(by cases hx)⟩
 ·unfold CC.L at hx;simp only [Υ,τ] at hx;rcases hx with hx|hx
  ·exact hA.1 x hx
  ·exact hB.1 x hx
 ·unfold CC.L;simp only [Υ];rw [θ];exact ⟨hA.nodup,hB.nodup,λx hx y hy e=>by subst e;exact hd x hx hy⟩
def CC.done (C:CC):Prop:=C.A=[]/\C.B=[]/\C.N=[]
instance (C:CC):Decidable C.done:=by unfold CC.done;exact inferInstance
theorem step_done {lt:Int->Int->Bool} {n k:Nat} {C:CC} (h:C.done):Dj lt n k C=C:=by
 obtain ⟨F,A,B,N,O,q⟩:=C;obtain ⟨h1,h2,h3⟩:=h;simp only at h1 h2 h3;subst h1 h2 h3
 rfl
theorem xu {lt:Int->Int->Bool} {n k:Nat} {C0:CC} (h:(fK lt n k C0).done):∀j,fK lt n (k+j) C0=fK lt n k C0
 | 0=>rfl
 | j+1=>by
  have ih:=xu h j;rw [Nat.add_succ,fK,ih,step_done h]
theorem Nr {lt:Int->Int->Bool} {n k m:Nat} {C0:CC} (hk:(fK lt n k C0).done) (hm:(fK lt n m C0).done):fK lt n k C0=fK lt n m C0:=by
 rcases Nat.le_total k m with h|h
 ·have:=xu hk (m-k);rw [show k+(m-k)=m by omega] at this;exact this.symm
 ·have:=xu hm (k-m);rw [show m+(k-m)=k by omega] at this;exact this
def uY (lt:Int->Int->Bool) (n:Nat) (C0:CC) (F:CF) (O:List Int) (q:Nat):Prop:=∃k,fK lt n k C0=⟨F,[],[],[],O,q⟩
theorem uY.eq {lt:Int->Int->Bool} {n:Nat} {C0:CC} {F:CF} {O:List Int} {q:Nat} (h:uY lt n C0 F O q) {m:Nat} (hm:(fK lt n m C0).done):fK lt n m C0=⟨F,[],[],[],O,q⟩:=by
 obtain ⟨k,hk⟩:=h;rw [←hk];exact Nr hm (by rw [hk];exact ⟨rfl,rfl,rfl⟩)
structure FL (O:rQ) (w:World) (bt ba lo n:Nat) (S:CS) (q:Nat):Prop where
 f:aN w bt ba lo n S
 l:O.at_ w q
 a:Apart O bt ba n S
 t:bt<w.heap.size
 ok:mP n S.f
theorem Lp (O:rQ) (bt ba lo n:Nat) (S:CS) (va vb:Value) (A B:List Int) (q:Nat) (w:World) (h:FL O w bt ba lo n S q)
  (ha:jc w (O.wr++ba::S.blk n) va A) (hb:jc w (O.wr++ba::S.blk n) vb B) (hA:jF n S.f A) (hB:jF n S.f B) (hd:∀x,x∈A->x∉B) (hq:q<=900000) (hdA:∀x,x∈A->O.dom x) (hdB:∀x,x∈B->O.dom x) :
  Calls Tryz.prog 185 #[.pointer (some ⟨bt,0,none⟩),.iface O.ty (.pointer (some ⟨O.p,0,none⟩)),va,vb] w λe w'=>
   ∃S' vo X q',e=.returned (.tuple #[vo,.bool true])/\FL O w' bt ba lo n S' q'/\uY O.lt n ⟨S.f,A,B,[],[],q⟩ S'.f X q'/\G n 0 0 0 0 ⟨S.f,A,B,[],[],q⟩/\aV w' w.heap.size vo X/\jc w' (O.wr++ba::S'.blk n) vo X/\aa (O.wr++ba::S.blk n) w w'/\(∀g,g∈S'.blk n->g∈S.blk n\/w.heap.size<=g)/\(∀g,vo.ownBlock=some g->g∉S'.blk n):=by
 have g0:=I1 (q:=q) h.ok hA hB hd
 refine (KF O bt ba lo n S va vb A B q w h.f h.l h.a h.t ha hb ((ED n S A).2 hA) ((ED n S B).2 hB) (any_false.2 hd) (Xp O.asym (λx hx=>by
  have e:CC.L ⟨S.f,A,B,[],[],q⟩=A++B:=by unfold CC.L;simp
  rw [e] at hx;rcases τ.1 hx with hx|hx
  ·exact hdA x hx
  ·exact hdB x hx) g0 rfl h.f.le hq)).mono ?_
 rintro e w' ⟨k,vn,Xv,Sz,vo,rfl,hM,e1,e2,e3⟩;have gk:=(Dv (lt:=O.lt) g0 rfl k).1;generalize hC:fK O.lt n k ⟨S.f,A,B,[],[],q⟩=C at *;obtain ⟨F,A1,B1,N1,O1,q1⟩:=C;simp only at e1 e2 e3;subst e1 e2 e3;obtain ⟨S',hS,hF,Yw,h4,h5,h6⟩:=hM.sV;simp only at hS;subst hS;have Js:=hM.old _ hM.IV.2;have hlt2:=hF.IJ;have hblk:∀g,g∈S'.blk n->g∈S.blk n\/w.heap.size<=g:=λg hg=>by
  rcases h4 g hg with h'|h'
  ·rcases τ.1 h' with h'|h'
   ·exact absurd (O.sub _ h') (Yw.blk g hg)
   ·rcases ρ.1 h' with rfl|h'
    ·have:=(hF.lU hg).1;omega
    ·exact Α h'
  ·exact Β ω
 refine ⟨S',vo,O1,q1,rfl,⟨hF,hM.V6,Yw,Ψ h.t hM.upd.size,gk.f⟩,⟨k,hC⟩,g0,hM.out.mono ω,?_,hM.upd,hblk,h6⟩;obtain ⟨a,cap,rfl,h1,h2,h3⟩:=hM.out.shape;refine ⟨a,cap,rfl,h1,h2,λj u hj=>?_⟩;obtain ⟨g,off,rfl,hc⟩:=h3 j u hj;have hg:=hM.out.lt g rfl;refine ⟨g,off,rfl,hg.2,λhm=>?_,hc⟩;rcases τ.1 hm with hm|hm
 ·have:=hM.k0 _ (O.sub _ hm);omega
 ·rcases ρ.1 hm with rfl|hm
  ·omega
  ·exact h6 g rfl hm
structure Bl (lt:Int->Int->Bool) (n:Nat) (F:CF) (A B:List Int) (q:Nat) (F':CF) (O:List Int) (q':Nat):Prop where
 row:jF n F' O
 ok:mP n F'
 cnt:q'+O.length=q+(A.length+B.length)
 sub:∀x,x∈O->x∈A\/x∈B
 out:∀x:Nat,(x:Int)∉A->(x:Int)∉B->F'.u x=F.u x/\F'.k x=F.k x
 wt:wt n F' O=wt n F A+wt n F B
 nl:∀y p:Nat,y<n->F'.u y=p->F.u y=p\/(((y:Int)∈A\/(y:Int)∈B)/\((p:Int)∈A\/(p:Int)∈B)/\y≠p/\lt y p=false)
 ro:∀y:Nat,((y:Int)∈A\/(y:Int)∈B)->(y:Int)∈O\/∃p:Nat,p<n/\F'.u y=p
theorem carried {lt:Int->Int->Bool} (has:∀a b,lt a b=true->lt b a=false) {n:Nat} {F:CF} {A B:List Int} {q:Nat} {F':CF} {O:List Int} {q':Nat} (g:G n 0 0 0 0 ⟨F,A,B,[],[],q⟩) (h:uY lt n ⟨F,A,B,[],[],q⟩ F' O q'):Bl lt n F A B q F' O q':=by
 obtain ⟨k,hk⟩:=h;have g1:=Dv (lt:=lt) g rfl k;have r:=GV has g rfl k;rw [hk] at g1 r;obtain ⟨g1,_,g2⟩:=g1;have eL:CC.L ⟨F',[],[],[],O,q'⟩=O:=by unfold CC.L;simp
 have eL0:CC.L ⟨F,A,B,[],[],q⟩=A++B:=by unfold CC.L;simp
 have s:=r.sub;have o:=r.out;have w:=r.wt;rw [eL] at s w g2;rw [eL0] at s o w g2;refine ⟨⟨λx hx=>g1.rt x (by rw [eL];exact hx),g1.o1⟩,g1.f,by simpa using g2,λx hx=>by simpa using s x hx,λx h1 h2=>o x (by simp;exact ⟨h1,h2⟩),?_,λy p hy hu=>by have:=r.nl y p hy hu;rw [eL0] at this;simpa using this,λy hy=>by have:=r.ro y (by rw [eL0];simpa using hy);rw [eL] at this;exact this⟩;rw [w];unfold wt;simp
end Go.Proofs.YtnpdakpagnpanaaGreat
namespace Go.Proofs.YtnpdakpagnpanaaGreat
def Jw (l:List Int) (x y:Int):List Int:=l.map (λz=>if z=x then y else z)
theorem mP.split {n:Nat} {S:CS} (h:mP n S.f) {x:Nat} (hx:x<n) (hr:S.u x=-1):mP n (fZ S x).f:=by
 have nx:∀z,z<n->(x:Int)∉S.k z:=λz hz hm=>by
  have:=(h.tu z hz _ hm).2.2;rw [π] at this;have e:S.f.u x=S.u x:=rfl;omega
 have uk:∀y z,y<n->z<n->(y:Int)∈S.k z->S.u y=z:=λy z hy hz hm=>by
  have:=(h.tu z hz _ hm).2.2;rwa [π] at this
 refine ⟨λz hz y hy=>?_,λz hz=>?_,λy hy=>?_,λz hz i w hw=>?_⟩
 ·show 0<=y/\y<n/\(if ((y.toNat:Nat):Int)∈S.k x then (-1:Int) else S.u y.toNat)=z
  have hy':y∈(if z=x then ([]:List Int) else S.k z):=hy
  by_cases e:z=x
  ·rw [Δ e] at hy';cases hy'
  ·rw [Γ e] at hy';obtain ⟨h1,h2,h3⟩:=h.tu z hz y hy';refine ⟨h1,h2,?_⟩;rw [Γ (λhm=>?_)]
   ·exact h3
   ·have:=uk y.toNat x ω hx hm;have e3:S.f.u y.toNat=S.u y.toNat:=rfl;omega
 ·show (if z=x then ([]:List Int) else S.k z).Nodup
  split
  ·exact ϡ
  ·exact h.nd z hz
 ·show (if (y:Int)∈S.k x then (-1:Int) else S.u y)=-1\/∃p:Nat,p<n/\(if (y:Int)∈S.k x then (-1:Int) else S.u y)=p/\(y:Int)∈(if p=x then ([]:List Int) else S.k p)
  by_cases hm:(y:Int)∈S.k x
  ·rw [Δ hm];exact Α rfl
  ·rw [Γ hm];rcases h.up y hy with h1|⟨p,hp,h1,h2⟩
   ·exact Α h1
   ·refine Β ⟨p,hp,h1,?_⟩;rw [Γ (λe=>by subst e;exact hm h2)];exact h2
 ·have hw':(if z=x then ([]:List Int) else S.k z)[i]?=some w:=hw
  show (if w.toNat=x then ([]:List Int) else S.k w.toNat).length=i
  by_cases e:z=x
  ·rw [Δ e] at hw';simp at hw'
  ·rw [Γ e] at hw';have hm:=Η hw';have hr:=h.tu z hz w hm;rw [Γ (λe2=>nx z hz (by rw [←e2,show ((w.toNat:Nat):Int)=w by omega];exact hm))];exact h.wh z hz i w hw'
theorem wU {l:List Int} (h:l.Nodup) (x y:Int) (hx:x∈l):Jw l x y=setAt l x y:=by
 obtain ⟨i,hi,he,hxi⟩:=tY l x hx;unfold Jw setAt;rw [he,π];apply List.ext_getElem σ;intro j h1 h2;rw [List.getElem_map,List.getElem_set];have hil:l[i]=x:=(List.getElem?_eq_some_iff.1 hxi).2
 by_cases e:i=j
 ·subst e;rw [Δ hil,Δ rfl]
 ·rw [Γ e,Γ (λe2=>e ?_)];have hj:j<l.length:=by simpa using h1
  have hp:=List.pairwise_iff_getElem.1 (List.nodup_iff_pairwise_ne.1 h);rcases Nat.lt_trichotomy i j with h'|h'|h'
  ·exact absurd (hil.trans e2.symm) (hp i j hi hj h')
  ·exact h'
  ·exact absurd (e2.trans hil.symm) (hp j i hj hi h')
theorem nK {l:List Int} (h:l.Nodup) {x y z:Int} (hx:x∈l):z∈setAt l x y↔z=y\/(z∈l/\z≠x):=by
 rw [←wU h x y hx];unfold Jw;rw [List.mem_map];constructor
 ·rintro ⟨w,hw,rfl⟩
  by_cases e:w=x
  ·rw [Δ e];exact Α rfl
  ·rw [Γ e];exact Β ⟨hw,e⟩
 ·rintro (rfl|⟨h1,h2⟩)
  ·exact ⟨x,hx,by rw [Δ rfl]⟩
  ·exact ⟨z,h1,by rw [Γ h2]⟩
theorem EU {l:List Int} (h:l.Nodup) {x y z:Int} (hx:x∈l) {i:Nat} (hz:(setAt l x y)[i]?=some z):(l[i]?=some x/\z=y)\/(l[i]?=some z/\z≠x):=by
 rw [←wU h x y hx] at hz;unfold Jw at hz;rw [ϑ] at hz;cases hq:l[i]? with
 | none=>rw [hq] at hz;cases hz
 | some w=>
  rw [hq] at hz;simp at hz
  by_cases e:w=x
  ·rw [Δ e] at hz;subst e;exact Α ⟨rfl,hz.symm⟩
  ·rw [Γ e] at hz;subst hz;exact Β ⟨rfl,e⟩
theorem wF {l:List Int} (h:l.Nodup) {x y:Int} (hx:x∈l) (hy:y∉l):(setAt l x y).Nodup:=by
 rw [←wU h x y hx];unfold Jw;rw [List.nodup_iff_pairwise_ne,List.pairwise_map];refine (List.nodup_iff_pairwise_ne.1 h).imp_of_mem (λ{a b} ha hb hab=>?_)
 by_cases e1:a=x
 ·rw [Δ e1]
  by_cases e2:b=x
  ·exact absurd (e1.trans e2.symm) hab
  ·rw [Γ e2];intro e;subst e;exact hy hb
 ·rw [Γ e1]
  by_cases e2:b=x
  ·rw [Δ e2];intro e;subst e;exact hy ha
  ·rw [Γ e2];exact hab
theorem mP.lift {n:Nat} {S:CS} (h:mP n S.f) {x p:Nat} {above:Int} (ok:yG n S x p above):mP n (gB S x p above).f:=by
 have hx:=ok.hx;have hp:=ok.hp;have hne:=ok.ne;have uk:∀y z:Nat,y<n->z<n->(y:Int)∈S.k z->S.u y=z:=λy z hy hz hm=>by
  have:=(h.tu z hz _ hm).2.2;rwa [π] at this
 have rg:∀z,z<n->∀w,w∈S.k z->∃y:Nat,w=y/\y<n/\S.u y=z:=λz hz w hw=>by
  obtain ⟨h1,h2,h3⟩:=h.tu z hz w hw;exact ⟨w.toNat,ω,ω,h3⟩
 have dg:∀y z:Nat,z<n->(y:Int)∈S.k z->(S.k y).length<(S.k z).length:=λy z hz hm=>by
  obtain ⟨i,hi,he⟩:=List.getElem_of_mem hm;have hge:(S.k z)[i]?=some (y:Int):=by rw [ε hi,he]
  have:=h.wh z hz i (y:Int) hge;rw [π] at this;have Xd:(S.k y).length=i:=this;have hi':i<(S.k z).length:=hi;omega
 have pk:(p:Int)∉S.k p:=h.self hp;have px:(p:Int)∉S.k x:=λhm=>by
  have h1:=dg p x hx hm;have h2:=dg x p hp ok.mem;omega
 have ux:S.u x=p:=ok.up;have up:S.u p=above:=ok.ab;have nd:=h.nd p hp;have top:∀q:Nat,(q:Int)=above->q<n/\q≠x/\q≠p/\(p:Int)∈S.k q:=λq hq=>by
  rcases ok.top with e|⟨q',e,h1,h2,h3,h4⟩
  ·omega
  ·obtain rfl:q=q':=ω;exact ⟨h1,h2,h3,h4⟩
 have K:∀z:Nat,(gB S x p above).f.k z=if z=x then setAt (S.k p) x p else if z=p then S.k x else if (z:Int)=above then setAt (S.k z) p x else S.k z:=λz=>rfl;have U:∀z:Nat,(gB S x p above).f.u z=if z=x then above else if (z:Int)∈S.k x then (p:Int) else if (z:Int)∈setAt (S.k p) x p then (x:Int) else S.u z:=λz=>rfl;have mo:∀z:Int,z∈setAt (S.k p) x p↔z=p\/(z∈S.k p/\z≠x):=λz=>nK nd ok.mem;have D:∀y:Nat,((gB S x p above).f.k y).length=if y=x then (S.k p).length else if y=p then (S.k x).length else (S.k y).length:=λy=>by
  rw [K]
  split
  ·rw [jv]
  ·split
   ·rfl
   ·split
    ·rw [jv]
    ·rfl
 have U1:∀y:Nat,y<n->(y:Int)∈S.k x->(gB S x p above).f.u y=p:=λy hy hm=>by
  rw [U,Γ (λe=>by subst e;exact h.self hx hm),Δ hm]
 have U2:∀y:Nat,y<n->(y:Int)∈setAt (S.k p) x p->(gB S x p above).f.u y=x:=λy hy hm=>by
  rcases (mo y).1 hm with e|⟨h1,h2⟩
  ·obtain rfl:y=p:=ω;rw [U,Γ (Ne.symm hne),Γ px,Δ hm]
  ·rw [U,Γ (λe=>h2 (by rw [e])),Γ (λhm2=>by have:=uk y x hy hx hm2;have:=uk y p hy hp h1;omega),Δ hm]
 have U3:∀y:Nat,y<n->y≠x->y≠p->S.u y≠x->S.u y≠p->(gB S x p above).f.u y=S.u y:=λy hy h1 h2 h3 h4=>by
  rw [U,Γ h1,Γ (λhm=>h3 (uk y x hy hx hm)),Γ (λhm=>by
   rcases (mo y).1 hm with e|⟨h5,_⟩
   ·omega
   ·exact h4 (uk y p hy hp h5))]
 refine ⟨λz hz w hw=>?_,λz hz=>?_,λy hy=>?_,λz hz i w hw=>?_⟩
 ·rw [K] at hw
  split at hw
  ·rename_i e;subst e
   have hwm:=hw;rcases (mo w).1 hw with rfl|⟨h1,h2⟩
   ·exact ⟨ω,ω,by rw [π];exact U2 p hp hwm⟩
   ·obtain ⟨y,rfl,hy,_⟩:=rg p hp w h1;exact ⟨ω,ω,by rw [π];exact U2 y hy hwm⟩
  ·rename_i hzx
   split at hw
   ·rename_i e;subst e
    obtain ⟨y,rfl,hy,_⟩:=rg x hx w hw;exact ⟨ω,ω,by rw [π];exact U1 y hy hw⟩
   ·rename_i hzp
    split at hw
    ·rename_i e
     obtain ⟨_,_,_,hm⟩:=top z e;rcases (nK (h.nd z hz) hm).1 hw with rfl|⟨h1,h2⟩
     ·exact ⟨ω,ω,by rw [π,U,Δ rfl];exact e.symm⟩
     ·obtain ⟨y,rfl,hy,hu⟩:=rg z hz w h1;have hyx:y≠x:=λe=>by subst e;omega
      exact ⟨ω,ω,by rw [π,U3 y hy hyx (λe=>h2 (by rw [e])) ω ω];exact hu⟩
    ·rename_i hza
     obtain ⟨y,rfl,hy,hu⟩:=rg z hz w hw;have hyx:y≠x:=λe=>by subst e;omega
     have hyp:y≠p:=λe=>by subst e;omega
     exact ⟨ω,ω,by rw [π,U3 y hy hyx hyp ω ω];exact hu⟩
 ·rw [K]
  split
  ·exact wF nd ok.mem pk
  ·split
   ·exact h.nd x hx
   ·split
    ·rename_i e
     obtain ⟨h1,h2,h3,hm⟩:=top z e;exact wF (h.nd z hz) hm (λhm2=>by have:=uk x z hx hz hm2;omega)
    ·exact h.nd z hz
 ·by_cases hyx:y=x
  ·subst hyx;rw [U,Δ rfl];rcases ok.top with e|⟨q,e,h1,h2,h3,h4⟩
   ·exact Α e
   ·refine Β ⟨q,h1,e,?_⟩;rw [K,Γ h2,Γ h3,Δ e.symm];exact (nK (h.nd q h1) h4).2 (Α rfl)
  ·by_cases hm1:(y:Int)∈S.k x
   ·refine Β ⟨p,hp,U1 y hy hm1,?_⟩;rw [K,Γ (Ne.symm hne),Δ rfl];exact hm1
   ·by_cases hm2:(y:Int)∈setAt (S.k p) x p
    ·refine Β ⟨x,hx,U2 y hy hm2,?_⟩;rw [K,Δ rfl];exact hm2
    ·have e:(gB S x p above).f.u y=S.u y:=by rw [U,Γ hyx,Γ hm1,Γ hm2]
     rw [e];rcases h.up y hy with h1|⟨r,hr,h1,h2⟩
     ·exact Α h1
     ·refine Β ⟨r,hr,h1,?_⟩;have hrx:r≠x:=λe=>by subst e;exact hm1 h2
      have ZH:r≠p:=λe=>by subst e;exact hm2 ((mo y).2 (Β ⟨h2,λe=>hyx ω⟩))
      rw [K,Γ hrx,Γ ZH]
      split
      ·rename_i e
       obtain ⟨_,_,_,hm⟩:=top r e;exact (nK (h.nd r hr) hm).2 (Β ⟨h2,λe2=>hm2 ((mo y).2 (Α e2))⟩)
      ·exact h2
 ·have other:∀ (z:Nat) (w:Int),z<n->z≠x->(S.k z)[i]?=some w->w≠p->w≠x->((gB S x p above).f.k w.toNat).length=i:=λz w hz _ hw h1 h2=>by
   obtain ⟨y,rfl,hy,_⟩:=rg z hz w (Η hw);rw [π,D,Γ (λe=>h2 (by rw [e])),Γ (λe=>h1 (by rw [e]))];have:=h.wh z hz i (y:Int) hw;rwa [π] at this
  have xi:∀i,(S.k p)[i]?=some (x:Int)->(S.k x).length=i:=λi hi=>by
   have:=h.wh p hp i (x:Int) hi;rwa [π] at this
  rw [K] at hw
  split at hw
  ·rename_i e;subst e
   rcases EU nd ok.mem hw with ⟨h1,rfl⟩|⟨h1,h2⟩
   ·rw [π,D,Γ (Ne.symm hne),Δ rfl];exact xi i h1
   ·exact other p w hp (Ne.symm hne) h1 (λe=>pk (by rw [←e];exact Η h1)) h2
  ·rename_i hzx
   split at hw
   ·rename_i e;subst e
    have hm:=Η hw;obtain ⟨y,rfl,hy,_⟩:=rg x hx w hm;rw [π,D,Γ (λe=>by subst e;exact h.self hx hm),Γ (λe=>by subst e;exact px hm)];have:=h.wh x hx i (y:Int) hw;rwa [π] at this
   ·rename_i hzp
    split at hw
    ·rename_i e
     obtain ⟨_,_,_,hm⟩:=top z e;rcases EU (h.nd z hz) hm hw with ⟨h1,rfl⟩|⟨h1,h2⟩
     ·rw [π,D,Δ rfl];have:=h.wh z hz i (p:Int) h1;rwa [π] at this
     ·exact other z w hz hzx h1 h2 (λe2=>by have:=uk x z hx hz (by rw [←e2];exact Η h1);omega)
    ·rename_i hza
     have hm:=Η hw;exact other z w hz hzx hw (λe2=>by have:=uk p z hp hz (by rw [←e2];exact hm);omega) (λe2=>by have:=uk x z hx hz (by rw [←e2];exact hm);omega)
theorem I6 {n:Nat} {S:CS} (h:mP n S.f) {x:Nat} (hx:x<n) {p:Nat} (hp:p<n) (hu:S.u x=p) (hm:(x:Int)∈S.k p):yG n S x p (S.u p):=by
 have dg:∀y z:Nat,z<n->(y:Int)∈S.k z->(S.k y).length<(S.k z).length:=λy z hz hm=>by
  obtain ⟨i,hi,he⟩:=List.getElem_of_mem hm;have hge:(S.k z)[i]?=some (y:Int):=by rw [ε hi,he]
  have:=h.wh z hz i (y:Int) hge;rw [π] at this;have Xd:(S.k y).length=i:=this;omega
 refine ⟨hx,hp,λe=>by subst e;exact h.self hx hm,hu,rfl,hm,λk hk=>by have:=h.tu x hx k hk;omega,λk hk=>by have:=h.tu p hp k hk;omega,?_⟩;rcases h.up p hp with h1|⟨q,hq,h1,h2⟩
 ·exact Α h1
 ·have d1:=dg x p hp hm;have d2:=dg p q hq h2;exact Β ⟨q,h1,hq,λe=>by subst e;omega,λe=>by subst e;omega,h2⟩
theorem Ma (S:CS) (x p:Nat) (above:Int) (y:Nat):((gB S x p above).k y).length=if y=x then (S.k p).length else if y=p then (S.k x).length else (S.k y).length:=by
 show (if y=x then setAt (S.k p) x p else if y=p then S.k x else if (y:Int)=above then setAt (S.k y) p x else S.k y).length=_
 split
 ·rw [jv]
 ·split
  ·rfl
  ·split
   ·rw [jv]
   ·rfl
structure FH (n:Nat) (F:CF) (bC:Nat->Int) (L:Nat->Nat->Prop):Prop where
 f:mP n F
 home:∀y p:Nat,y<n->F.u y=p->bC y=bC p/\0<bC y
 ord:∀y p:Nat,y<n->F.u y=p->L p y
 alone:∀y:Nat,y<n->¬0<bC y->F.u y=-1/\F.k y=[]
theorem mP.above {n:Nat} {F:CF} (h:mP n F) {y p:Nat} (hy:y<n) (hu:F.u y=p):p<n/\(y:Int)∈F.k p:=by
 rcases h.up y hy with h1|⟨q,hq,h1,h2⟩
 ·omega
 ·obtain rfl:q=p:=ω;exact ⟨hq,h2⟩
theorem mP.below {n:Nat} {F:CF} (h:mP n F) {p:Nat} (hp:p<n) {z:Int} (hz:z∈F.k p):∃y:Nat,z=y/\y<n/\F.u y=p/\(F.k y).length<(F.k p).length:=by
 obtain ⟨r1,r2,r3⟩:=h.tu p hp z hz;obtain ⟨i,hi,he⟩:=List.getElem_of_mem hz;have hc:=h.wh p hp i z (by rw [ε hi,he]);obtain ⟨y,rfl⟩:=Int.eq_ofNat_of_zero_le r1;rw [π] at r3 hc;exact ⟨y,rfl,ω,r3,ω⟩
theorem mP.Re {n:Nat} {F:CF} (h:mP n F) {y p:Nat} (hy:y<n) (hu:F.u y=p):(F.k y).length<(F.k p).length:=by
 obtain ⟨h1,h2⟩:=h.above hy hu;obtain ⟨z,e,_,_,hd⟩:=h.below h1 h2;obtain rfl:y=z:=ω;exact hd
theorem jF.ext {n:Nat} {F F':CF} {l:List Int} (h:jF n F l) (e:∀x,x∈l->F'.u x.toNat=F.u x.toNat/\F'.k x.toNat=F.k x.toNat):jF n F' l:=by
 refine ⟨λx hx=>?_,h.2.imp_of_mem (λ{a b} ha hb hab=>?_)⟩
 ·have:=h.1 x hx;exact ⟨this.1,this.2.1,by rw [(e x hx).1];exact this.2.2⟩
 ·unfold cz at hab ⊢;rw [(e a ha).2,(e b hb).2];exact hab
theorem Q0 {n:Nat} {F F':CF} {x:Int} (e:F'.k x.toNat=F.k x.toNat):cz n F' x=cz n F x:=by unfold cz;rw [e]
theorem Nz {n:Nat} {F:CF} {bC:Nat->Int} {L:Nat->Nat->Prop} {lt:Int->Int->Bool} {h:Int} {A0 B0:List Int} {q:Nat} {F':CF} {O:List Int} {q':Nat} (H:FH n F bC L)
  (hL:∀y p:Nat,y<n->p<n->bC y=h->bC p=h->y≠p->lt y p=false->L p y) (h1:1<=h)
  (m:∀y:Nat,y<n/\F.u y=-1/\bC y=h↔(y:Int)∈A0\/(y:Int)∈B0) (C:Bl lt n F A0 B0 q F' O q') :
  FH n F' bC L/\(∀y:Nat,(y:Int)∈O↔y<n/\F'.u y=-1/\bC y=h)/\(∀y:Nat,y<n->bC y≠h->F'.u y=F.u y/\F'.k y=F.k y):=by
 have far:∀y:Nat,y<n->bC y≠h->F'.u y=F.u y/\F'.k y=F.k y:=λy hy hh=>C.out y (λhm=>hh ((m y).2 (Α hm)).2.2) (λhm=>hh ((m y).2 (Β hm)).2.2);have key:∀y p:Nat,y<n->F'.u y=p->F.u y=p\/(y<n/\p<n/\bC y=h/\bC p=h/\y≠p/\lt y p=false):=λy p hy hu=>by
  rcases C.nl y p hy hu with e|⟨k1,k2,k3,k4⟩
  ·exact Α e
  ·have a1:=(m y).2 k1;have a2:=(m p).2 k2;exact Β ⟨hy,a2.1,a1.2.2,a2.2.2,k3,k4⟩
 refine ⟨⟨C.ok,λy p hy hu=>?_,λy p hy hu=>?_,λy hy hh=>?_⟩,λy=>⟨λhm=>?_,λhm=>?_⟩,far⟩
 ·rcases key y p hy hu with e|⟨_,_,k1,k2,_,_⟩
  ·exact H.home y p hy e
  ·rw [k1,k2];exact ⟨rfl,ω⟩
 ·rcases key y p hy hu with e|⟨k0,kp,k1,k2,k3,k4⟩
  ·exact H.ord y p hy e
  ·exact hL y p k0 kp k1 k2 k3 k4
 ·have:=far y hy ω;rw [this.1,this.2];exact H.alone y hy hh
 ·have r:=C.row.1 _ hm;have a:=(m y).2 (C.sub _ hm);exact ⟨a.1,by simpa using r.2.2,a.2.2⟩
 ·obtain ⟨hy,hu,hh⟩:=hm
  by_cases Zp:(y:Int)∈A0\/(y:Int)∈B0
  ·rcases C.ro y Zp with h2|⟨p,hp,h2⟩
   ·exact h2
   ·omega
  ·have h2:=C.out y (λh=>Zp (Α h)) (λh=>Zp (Β h));exact absurd ((m y).1 ⟨hy,by rw [←h2.1];exact hu,hh⟩) Zp
structure BG where
 F:CF
 R:Nat->List Int
structure RH (n:Nat) (G:BG) (bC:Nat->Int):Prop where
 row:∀h,jF n G.F (G.R h)
 mem:∀h y:Nat,(y:Int)∈G.R h↔1<=h/\y<n/\G.F.u y=-1/\bC y=h
def BG.none:BG:=⟨CS.none.f,λ_=>[]⟩
def bH (R:Nat->List Int) (h:Nat) (l:List Int):Nat->List Int:=λk=>if k=h then l else R k
def iQ (lt:Int->Int->Bool) (n:Nat) (F:CF) (A B:List Int):CC:=fK lt n (n+1) ⟨F,A,B,[],[],0⟩
theorem CP {lt:Int->Int->Bool} {n:Nat} {F:CF} {A B:List Int} (g:G n 0 0 0 0 ⟨F,A,B,[],[],0⟩) (has:∀a b,lt a b=true->lt b a=false) (hn:n<=65536):(iQ lt n F A B).done:=by
 have r:=Xp (dom:=λ_=>True) has (λx hx=>trivial) g rfl hn (Nat.zero_le _) (n+1);unfold iQ CC.done;refine ⟨?_,?_,?_⟩
 all_goals
  apply Ϙ;intro hne;have:=r.ends (by first|exact Α hne|exact Β (Α hne)|exact Β (Β hne));omega
theorem Ut {lt:Int->Int->Bool} {n:Nat} {F:CF} {A B:List Int} {F':CF} {O:List Int} {q:Nat} (g:G n 0 0 0 0 ⟨F,A,B,[],[],0⟩) (has:∀a b,lt a b=true->lt b a=false) (hn:n<=65536) (h:uY lt n ⟨F,A,B,[],[],0⟩ F' O q) :
  (iQ lt n F A B).F=F'/\(iQ lt n F A B).O=O/\(iQ lt n F A B).q=q:=by
 have:=h.eq (m:=n+1) (CP g has hn);unfold iQ;rw [this];exact ⟨rfl,rfl,rfl⟩
theorem Vv {lt:Int->Int->Bool} {n:Nat} {F:CF} {A B:List Int} (g:G n 0 0 0 0 ⟨F,A,B,[],[],0⟩) (has:∀a b,lt a b=true->lt b a=false) (hn:n<=65536):Bl lt n F A B 0 (iQ lt n F A B).F (iQ lt n F A B).O (iQ lt n F A B).q:=by
 refine carried has g ⟨n+1,?_⟩;obtain ⟨h1,h2,h3⟩:=CP g has hn;unfold iQ at *;generalize fK lt n (n+1) ⟨F,A,B,[],[],0⟩=C at *;obtain ⟨F1,A1,B1,N1,O1,q1⟩:=C;simp only at h1 h2 h3;subst h1 h2 h3
 rfl
def sN (lt:Int->Int->Bool) (n h:Nat) (l:List Int) (G:BG):BG:=⟨(iQ lt n G.F (G.R h) l).F,bH G.R h (iQ lt n G.F (G.R h) l).O⟩
theorem vV {n:Nat} {G:BG} {bC:Nat->Int} {L:Nat->Nat->Prop} {lt:Int->Int->Bool} {h:Nat} {l:List Int} (H:FH n G.F bC L) (hn:n<=65536) (has:∀a b,lt a b=true->lt b a=false)
  (hL:∀y p:Nat,y<n->p<n->bC y=h->bC p=h->y≠p->lt y p=false->L p y) (h1:1<=h)
  (hrow:∀k,jF n G.F (G.R k)) (hmem:∀k y:Nat,k≠h->((y:Int)∈G.R k↔1<=k/\y<n/\G.F.u y=-1/\bC y=k))
  (m:∀y:Nat,y<n/\G.F.u y=-1/\bC y=h↔(y:Int)∈G.R h\/(y:Int)∈l) (hl:jF n G.F l) (hd:∀x,x∈G.R h->x∉l) :
  FH n (sN lt n h l G).F bC L/\RH n (sN lt n h l G) bC/\(∀k,wt n (sN lt n h l G).F ((sN lt n h l G).R k)=if k=h then wt n G.F (G.R h)+wt n G.F l else wt n G.F (G.R k))/\
   (iQ lt n G.F (G.R h) l).q+((sN lt n h l G).R h).length=(G.R h).length+l.length:=by
 have g:=I1 (q:=0) H.f (hrow h) hl hd;have C:=Vv g has hn;obtain ⟨h2,h3,h4⟩:=Nz H hL ω m C;have far:∀k:Nat,k≠h->∀x,x∈G.R k->(iQ lt n G.F (G.R h) l).F.u x.toNat=G.F.u x.toNat/\(iQ lt n G.F (G.R h) l).F.k x.toNat=G.F.k x.toNat:=λk hk x hx=>by
  have hr:=(hrow k).1 x hx;have:=(hmem k x.toNat hk).1 (by rw [show ((x.toNat:Nat):Int)=x by omega];exact hx);exact h4 x.toNat this.2.1 ω
 unfold sN;refine ⟨h2,⟨λk=>?_,λk y=>?_⟩,λk=>?_,?_⟩
 ·simp only [bH]
  split
  ·exact C.row
  ·rename_i hk
   exact (hrow k).ext (far k hk)
 ·simp only [bH]
  split
  ·rename_i hk
   subst hk;rw [h3 y];exact ⟨λa=>⟨h1,a⟩,λa=>a.2⟩
  ·rename_i hk
   rw [hmem k y hk];constructor
   ·rintro ⟨a1,a2,a3,a4⟩;exact ⟨a1,a2,by rw [(h4 y a2 ω).1];exact a3,a4⟩
   ·rintro ⟨a1,a2,a3,a4⟩;exact ⟨a1,a2,by rw [←(h4 y a2 ω).1];exact a3,a4⟩
 ·simp only [bH]
  split
  ·exact C.wt
  ·rename_i hk
   exact yu (λx hx=>Q0 (far k hk x hx).2)
 ·simp only [bH,if_true];have:=C.cnt;omega
theorem Jb:∀d:Nat,((List.range d).map (λi=>2 ^ i)).sum+1=2 ^ d
 | 0=>rfl
 | d+1=>by
  have ih:=Jb d;rw [List.range_succ,List.map_append,List.sum_append,Nat.pow_succ];simp only [List.map_cons,List.map_nil,List.sum_cons,List.sum_nil];omega
def dZ (F:CF) (x:Nat):CF:=⟨λy=>if y=x then [] else F.k y,λy=>if (y:Int)∈F.k x then -1 else F.u y⟩
theorem wT (S:CS) (x:Nat):(fZ S x).f=dZ S.f x:=rfl
theorem Rn {n:Nat} {F:CF} (ok:mP n F) {x:Nat} (hx:x<n) {F':CF} (e:∀z,z∈F.k x->cz n F' z=cz n F z):wt n F' (F.k x)+1=2 ^ (F.k x).length:=by
 rw [←Jb]
 congr 1
 rw [yu e];unfold wt
 congr 1
 apply List.ext_getElem σ;intro i h1 h2;rw [List.getElem_map,List.getElem_map,List.getElem_range];have hi:i<(F.k x).length:=by simpa using h1
 have hm:(F.k x)[i]∈F.k x:=ϗ hi;have hc:=ok.wh x hx i _ (ε hi);have hr:=ok.tu x hx _ hm;unfold cz;rw [Δ ⟨hr.1,hr.2.1⟩,hc];simp
theorem Nk {n:Nat} {F:CF} (ok:mP n F) {x:Nat} (hx:x<n) {F':CF} (e:∀z,z∈F.k x->cz n F' z=cz n F z) (u:∀z,z∈F.k x->F'.u z.toNat=-1):jF n F' (F.k x):=by
 refine ⟨λz hz=>⟨(ok.tu x hx z hz).1,(ok.tu x hx z hz).2.1,u z hz⟩,?_⟩;rw [List.pairwise_iff_getElem];intro i j hi hj hij;have d:∀i (hi:i<(F.k x).length),cz n F' (F.k x)[i]=i:=λi hi=>by
  have hm:(F.k x)[i]∈F.k x:=ϗ hi;have hc:=ok.wh x hx i _ (ε hi);have hr:=ok.tu x hx _ hm;rw [e _ hm];unfold cz;rw [Δ ⟨hr.1,hr.2.1⟩,hc]
 rw [d i hi,d j hj];omega
theorem mP.Nt {n:Nat} {F:CF} (h:mP n F) {x:Nat} (hx:x<n) (hr:F.u x=-1):mP n (dZ F x):=by
 have:=mP.split (n:=n) (S:=⟨λ_=>.slice none 0 0,F.k,F.u⟩) h hx hr;exact this
structure Ch (A:NS) (G:BG):Prop where
 fh:FH A.cs.length G.F (λy=>(A.c y).i) (dO A)
 rh:RH A.cs.length G (λy=>(A.c y).i)
 w:∀h:Nat,1<=h->wt A.cs.length G.F (G.R h)=bU A h
structure Ht (A:NS) (G:BG) (x:Nat):Prop where
 fh:FH A.cs.length G.F (λy=>(A.c y).i) (λp y=>y≠x->p≠x->dO A p y)
 two:∀p c:Nat,c<A.cs.length->G.F.u x=p->G.F.u c=x->dO A p c
 rh:RH A.cs.length G (λy=>(A.c y).i)
 w:∀h:Nat,1<=h->wt A.cs.length G.F (G.R h)=bU A h
theorem Ch.x {A:NS} {G:BG} (h:Ch A G) {x:Nat} (hx:x<A.cs.length):Ht A G x:=
 ⟨⟨h.fh.f,h.fh.home,λy p hy hu _ _=>h.fh.ord y p hy hu,h.fh.alone⟩,λp c hc h1 h2=>dw (h.fh.ord x p hx h1) (h.fh.ord c x hc h2),h.rh,h.w⟩
def qh (F:CF) (x p:Nat) (above:Int):CF:=
  ⟨λy=>if y=x then setAt (F.k p) x p else if y=p then F.k x else if (y:Int)=above then setAt (F.k y) p x else F.k y,
   λy=>if y=x then above else if (y:Int)∈F.k x then p else if (y:Int)∈setAt (F.k p) x p then x else F.u y⟩
theorem UW (S:CS) (x p:Nat) (above:Int):(gB S x p above).f=qh S.f x p above:=rfl
def FO (x p:Nat) (above:Int) (z:Int):Int:=if z=p/\above=-1 then (x:Int) else z
def qg (G:BG) (x p:Nat):BG:=⟨qh G.F x p (G.F.u p),λk=>(G.R k).map (FO x p (G.F.u p))⟩
section
variable {n:Nat} {F:CF}
theorem Py (h:mP n F) {x p:Nat} (hx:x<n) (hu:F.u x=p):yG n ⟨λ_=>.slice none 0 0,F.k,F.u⟩ x p (F.u p):=by
 obtain ⟨hp,hm⟩:=h.above hx hu;exact I6 (S:=⟨λ_=>.slice none 0 0,F.k,F.u⟩) h hx hp hu hm
theorem OP (h:mP n F) {x p:Nat} (hx:x<n) (hu:F.u x=p):mP n (qh F x p (F.u p)):=
 mP.lift (S:=⟨λ_=>.slice none 0 0,F.k,F.u⟩) h (Py h hx hu)
theorem qO (x p:Nat) (above:Int) (y:Nat):((qh F x p above).k y).length=if y=x then (F.k p).length else if y=p then (F.k x).length else (F.k y).length:=
 Ma ⟨λ_=>.slice none 0 0,F.k,F.u⟩ x p above y
theorem uK (h:mP n F) {x y:Nat} (hx:x<n) (hy:y<n):(y:Int)∈F.k x↔F.u y=x:=by
 constructor
 ·intro hm;obtain ⟨z,e,_,h2,_⟩:=h.below hx hm;obtain rfl:y=z:=ω;exact h2
 ·intro hu;exact (h.above hy hu).2
theorem Cg (h:mP n F) {x p:Nat} (hx:x<n) (hu:F.u x=p) {y:Nat} (hy:y<n) :
  (qh F x p (F.u p)).u y=if y=x then F.u p else if F.u y=x then (p:Int) else if y=p\/F.u y=p then (x:Int) else F.u y:=by
 obtain ⟨hp,hm⟩:=h.above hx hu
 show (if y=x then F.u p else if (y:Int)∈F.k x then (p:Int) else if (y:Int)∈setAt (F.k p) x p then (x:Int) else F.u y)=_
 by_cases e:y=x
 ·rw [Δ e,Δ e]
 ·rw [Γ e,Γ e]
  by_cases e2:F.u y=x
  ·rw [Δ ((uK h hx hy).2 e2),Δ e2]
  ·rw [Γ (λhm2=>e2 ((uK h hx hy).1 hm2)),Γ e2];have e3:(y:Int)∈setAt (F.k p) x p↔(y=p\/F.u y=p):=by
    rw [nK (h.nd p hp) hm,uK h hp hy];constructor
    ·rintro (h1|⟨h1,_⟩)
     ·exact Α ω
     ·exact Β h1
    ·rintro (h1|h1)
     ·exact Α ω
     ·exact Β ⟨h1,ω⟩
   by_cases e4:y=p\/F.u y=p
   ·rw [Δ (e3.2 e4),Δ e4]
   ·rw [Γ (λhm2=>e4 (e3.1 hm2)),Γ e4]
theorem wz (h:mP n F) {x p:Nat} (hx:x<n) (hu:F.u x=p) {y r:Nat} (hy:y<n) (hr:(qh F x p (F.u p)).u y=r) :
  (y=x/\F.u p=r)\/(y≠x/\F.u y=x/\r=p)\/(y=p/\r=x)\/(y≠x/\y≠p/\F.u y=p/\r=x)\/(y≠x/\y≠p/\F.u y=r/\r≠x/\r≠p):=by
 rw [Cg h hx hu hy] at hr
 by_cases e:y=x
 ·rw [Δ e] at hr;exact Α ⟨e,hr⟩
 ·rw [Γ e] at hr
  by_cases e2:F.u y=x
  ·rw [Δ e2] at hr;exact Β (Α ⟨e,e2,ω⟩)
  ·rw [Γ e2] at hr
   by_cases e3:y=p\/F.u y=p
   ·rw [Δ e3] at hr
    by_cases e4:y=p
    ·exact Β (Β (Α ⟨e4,ω⟩))
    ·exact Β (Β (Β (Α ⟨e,e4,e3.resolve_left e4,ω⟩)))
   ·rw [Γ e3] at hr;exact Β (Β (Β (Β ⟨e,λe4=>e3 (Α e4),hr,λe5=>e2 ω,λe5=>e3 (Β ω)⟩)))
theorem oF (h:mP n F) {x p:Nat} (hx:x<n) (hu:F.u x=p) {y:Nat} (hy:y<n):(qh F x p (F.u p)).u y=-1↔(y=x/\F.u p=-1)\/(y≠x/\y≠p/\F.u y=-1):=by
 rw [Cg h hx hu hy]
 by_cases e:y=x
 ·rw [Δ e];exact ⟨λh=>Α ⟨e,h⟩,λh=>by rcases h with h|h;exact h.2;exact absurd e h.1⟩
 ·rw [Γ e]
  by_cases e2:F.u y=x
  ·rw [Δ e2];exact ⟨λh=>ω,λh=>by rcases h with h|h;exact absurd h.1 e;omega⟩
  ·rw [Γ e2]
   by_cases e3:y=p\/F.u y=p
   ·rw [Δ e3];exact ⟨λh=>ω,λh=>by rcases h with h|h;exact absurd h.1 e;rcases e3 with e3|e3;exact absurd e3 h.2.1;omega⟩
   ·rw [Γ e3];exact ⟨λh=>Β ⟨e,λe4=>e3 (Α e4),h⟩,λh=>by rcases h with h|h;exact absurd h.1 e;exact h.2.2⟩
end
section
variable {A:NS} {G:BG} {x p:Nat}
theorem xK (h:Ht A G x) (hx:x<A.cs.length) (hu:G.F.u x=p) {k:Nat} {z:Int} (hz:z∈G.R k) :
  0<=FO x p (G.F.u p) z/\FO x p (G.F.u p) z<A.cs.length/\(qg G x p).F.u (FO x p (G.F.u p) z).toNat=-1/\cz A.cs.length (qg G x p).F (FO x p (G.F.u p) z)=cz A.cs.length G.F z/\(A.c (FO x p (G.F.u p) z).toNat).i=(A.c z.toNat).i:=by
 obtain ⟨hp,hm⟩:=h.fh.f.above hx hu;have hne:p≠x:=λe=>by subst e;exact h.fh.f.self hx hm
 have hr:=(h.rh.row k).1 z hz;obtain ⟨y,rfl⟩:=Int.eq_ofNat_of_zero_le hr.1;rw [π] at hr;have hy:y<A.cs.length:=ω;unfold FO
 by_cases e:(y:Int)=p/\G.F.u p=-1
 ·rw [Δ e,π,π];obtain rfl:y=p:=ω;refine ⟨ω,ω,(oF h.fh.f hx hu hx).2 (Α ⟨rfl,e.2⟩),?_,(h.fh.home x y hx hu).1⟩;rw [dY _ _ hx,dY _ _ hy]
  show (((qh G.F x y (G.F.u y)).k x).length:Int)=_
  rw [qO,Δ rfl]
 ·rw [Γ e,π];have hyp:y≠p:=λe2=>by subst e2;exact e ⟨rfl,hr.2.2⟩
  have hyx:y≠x:=λe2=>by subst e2;omega
  refine ⟨ω,ω,(oF h.fh.f hx hu hy).2 (Β ⟨hyx,hyp,hr.2.2⟩),?_,rfl⟩;rw [dY _ _ hy,dY _ _ hy]
  show (((qh G.F x p (G.F.u p)).k y).length:Int)=_
  rw [qO,Γ hyx,Γ hyp]
theorem Cy (h:Ht A G x) (hx:x<A.cs.length) (hu:G.F.u x=p):Ht A (qg G x p) x:=by
 obtain ⟨hp,hm⟩:=h.fh.f.above hx hu;have hne:p≠x:=λe=>by subst e;exact h.fh.f.self hx hm
 have hxp:=h.fh.home x p hx hu;have ZG:∀q:Nat,G.F.u p=q->q≠x:=λq hq e=>by
  have d1:=h.fh.f.Re hx hu;have d2:=h.fh.f.Re hp hq;subst e;omega
 refine ⟨⟨OP h.fh.f hx hu,λy r hy hr=>?_,λy r hy hr hyx hrx=>?_,λy hy hh=>?_⟩,λq c hc h1 h2=>?_,⟨λk=>⟨λz hz=>?_,?_⟩,λk y=>⟨λhm2=>?_,λhm2=>?_⟩⟩,λk hk=>?_⟩
 ·rcases wz h.fh.f hx hu hy hr with ⟨e,h2⟩|⟨_,h2,e⟩|⟨e,e2⟩|⟨_,_,h2,e⟩|⟨_,_,h2,_,_⟩
  ·subst e;have:=h.fh.home p r hp h2;exact ⟨hxp.1.trans this.1,hxp.2⟩
  ·subst e;have:=h.fh.home y x hy h2;exact ⟨this.1.trans hxp.1,this.2⟩
  ·subst e e2;exact ⟨hxp.1.symm,by rw [←hxp.1];exact hxp.2⟩
  ·subst e;have:=h.fh.home y p hy h2;exact ⟨this.1.trans hxp.1.symm,this.2⟩
  ·exact h.fh.home y r hy h2
 ·rcases wz h.fh.f hx hu hy hr with ⟨e,h2⟩|⟨_,h2,e⟩|⟨e,e2⟩|⟨_,_,h2,e⟩|⟨_,_,h2,_,_⟩
  ·exact absurd e hyx
  ·subst e;exact h.two r y hy hu h2
  ·exact absurd e2 hrx
  ·exact absurd e hrx
  ·exact h.fh.ord y r hy h2 hyx hrx
 ·have h0:=h.fh.alone y hy hh;have hyx:y≠x:=λe=>by subst e;exact hh hxp.2
  have hyp:y≠p:=λe=>by subst e;exact hh (by rw [←hxp.1];exact hxp.2)
  refine ⟨(oF h.fh.f hx hu hy).2 (Β ⟨hyx,hyp,h0.1⟩),?_⟩;have:((qh G.F x p (G.F.u p)).k y).length=0:=by rw [qO,Γ hyx,Γ hyp,h0.2];rfl
  exact ϙ this
 ·have h3:G.F.u p=q:=by
   have:=Cg h.fh.f hx hu hx;rw [Δ rfl] at this;rw [←this];exact h1
  have hpq:=h.fh.ord p q hp h3 hne (ZG q h3);rcases wz h.fh.f hx hu hc h2 with ⟨e,h4⟩|⟨_,h4,e⟩|⟨e,e2⟩|⟨e3,_,h4,e⟩|⟨_,_,h4,e3,_⟩
  ·exact absurd rfl (ZG x h4)
  ·exact absurd e.symm hne
  ·subst e;exact hpq
  ·exact dw hpq (h.fh.ord c p hc h4 e3 hne)
  ·exact absurd rfl e3
 ·obtain ⟨z0,hz0,rfl⟩:=List.mem_map.1 hz;have:=xK h hx hu hz0;exact ⟨this.1,this.2.1,this.2.2.1⟩
 ·show ((G.R k).map _).Pairwise _
  rw [List.pairwise_map];exact (h.rh.row k).2.imp_of_mem (λ{a b} ha hb hab=>by rw [(xK h hx hu ha).2.2.2.1,(xK h hx hu hb).2.2.2.1];exact hab)
 ·obtain ⟨z0,hz0,e⟩:=List.mem_map.1 hm2;have h1:=xK h hx hu hz0;rw [e] at h1;rw [π] at h1;have hr:=(h.rh.row k).1 z0 hz0;have h2:=(h.rh.mem k z0.toNat).1 (by rw [show ((z0.toNat:Nat):Int)=z0 by omega];exact hz0);exact ⟨h2.1,ω,h1.2.2.1,by show (A.c y).i=(k:Int);rw [h1.2.2.2.2];exact h2.2.2.2⟩
 ·obtain ⟨k1,hy,hr,hh⟩:=hm2
  show (y:Int)∈(G.R k).map _
  rw [List.mem_map];rcases (oF h.fh.f hx hu hy).1 hr with ⟨e,h2⟩|⟨hyx,hyp,h2⟩
  ·subst e;refine ⟨(p:Int),(h.rh.mem k p).2 ⟨k1,hp,h2,?_⟩,by unfold FO;rw [Δ ⟨rfl,h2⟩]⟩;have e9:(A.c y).i=(A.c p).i:=hxp.1
   show (A.c p).i=(k:Int)
   rw [←e9];exact hh
  ·exact ⟨(y:Int),(h.rh.mem k y).2 ⟨k1,hy,h2,hh⟩,by unfold FO;rw [Γ (λe=>hyp ω)]⟩
 ·rw [←h.w k hk];unfold wt
  show (((G.R k).map _).map _).sum=_
  rw [List.map_map]
  congr 1
  exact List.map_congr_left (λz hz=>by simp only [Function.comp];rw [(xK h hx hu hz).2.2.2.1])
end
theorem j4 (A:NS) (a b:Int) (h:bJ A a b=true):bJ A b a=false:=by
 unfold bJ at *;simp only [Τ,Ο] at h;have:=qC h.2;simp [this]
theorem uz {A:NS} {y p:Nat} (hy:bR A (y:Int)=true) (hp:bR A (p:Int)=true) (hne:y≠p) (h:bJ A y p=false):dO A p y:=by
 rw [jN,hy,hp] at h;simp only [Bool.and_self,Bool.true_and,decide_eq_false_iff_not] at h;exact (jS hne).resolve_left h
def gG (G:BG) (h x:Nat):BG:=⟨dZ G.F x,bH G.R h ((G.R h).filter (λz=>z != (x:Int)))⟩
def nP (A:NS) (h x:Nat) (G:BG):BG:=sN (bJ A) A.cs.length h (G.F.k x) (gG G h x)
def uO (A:NS) (h x:Nat) (G:BG):Nat:=(iQ (bJ A) A.cs.length (gG G h x).F ((gG G h x).R h) (G.F.k x)).q
theorem Fs {l:List Int} (hn:l.Nodup) {x:Int} (hx:x∈l):(l.filter (λz=>z != x)).length+1=l.length:=by
 induction l with
 | nil=>cases hx
 | cons y r ih=>
  rw [Ζ] at hn;rcases ρ.1 hx with e|h
  ·subst e;have:r.filter (λz=>z != x)=r:=by
    rw [List.filter_eq_self];intro a ha;simp;intro e;subst e;exact hn.1 ha
   rw [List.filter_cons_of_neg σ,this];simp
  ·have hne:y≠x:=λe=>by subst e;exact hn.1 h
   rw [List.filter_cons_of_pos (by simpa using hne)];have:=ih hn.2 h;simp only [Ω];omega
theorem J8 {n:Nat} {F:CF} {l:List Int} (hn:l.Nodup) {x:Int} (hx:x∈l):wt n F (l.filter (λz=>z != x))+2 ^ (cz n F x).toNat=wt n F l:=by
 have hc:∀ (y:Int) (l:List Int),wt n F (y::l)=2 ^ (cz n F y).toNat + wt n F l:=λy l=>by unfold wt;simp
 induction l with
 | nil=>cases hx
 | cons y r ih=>
  rw [Ζ] at hn;rcases ρ.1 hx with e|h
  ·subst e;have:r.filter (λz=>z != x)=r:=by
    rw [List.filter_eq_self];intro a ha;simp;intro e;subst e;exact hn.1 ha
   rw [List.filter_cons_of_neg σ,this,hc];omega
  ·have hne:y≠x:=λe=>by subst e;exact hn.1 h
   rw [List.filter_cons_of_pos (by simpa using hne),hc,hc];have:=ih hn.2 h;omega
section
variable {A:NS} {G:BG} {h x:Nat}
theorem Co (B:Ht A G x) (ok:A.Ok) (hx:x<A.cs.length) (hr:G.F.u x=-1) (hin:0<(A.c x).i) (hh:(A.c x).i=h) :
  Ch (aU A x) (nP A h x G)/\uO A h x G+((nP A h x G).R h).length+1=(G.R h).length+(G.F.k x).length/\(x:Int)∈G.R h/\
   jF A.cs.length (dZ G.F x) ((G.R h).filter (λz=>z != (x:Int)))/\jF A.cs.length (dZ G.F x) (G.F.k x)/\(∀z,z∈(G.R h).filter (λz=>z != (x:Int))->z∉G.F.k x)/\mP A.cs.length (dZ G.F x)/\
   (∀z,z∈G.R h\/z∈G.F.k x->bR A z=true):=by
 have zy:1<=h:=ω;have hn:=ok.c1;have WG:bR A (x:Int)=true:=(ay _ _).2 ⟨hx,hin⟩;have hc:=λy=>sS WG y;have hcs:=dK A (x:Int);have dn:=B.fh.f.nd x hx;have ku:∀z,z∈G.F.k x->∃y:Nat,z=y/\y<A.cs.length/\G.F.u y=x:=λz hz=>by
  obtain ⟨y,h1,h2,h3,_⟩:=B.fh.f.below hx hz;exact ⟨y,h1,h2,h3⟩
 have sx:(x:Int)∉G.F.k x:=B.fh.f.self hx;have dS:∀z:Int,z≠x->cz A.cs.length (dZ G.F x) z=cz A.cs.length G.F z:=λz hz=>by
  unfold cz dZ;simp only
  by_cases h0:0<=z/\z<A.cs.length
  ·rw [Δ h0,Δ h0,Γ ω]
  ·rw [Γ h0,Γ h0]
 have uS:∀z:Int,0<=z->G.F.u z.toNat=-1->(dZ G.F x).u z.toNat=-1:=λz h0 hu=>by
  unfold dZ;simp only
  split
  ·rfl
  ·exact hu
 have kU:∀z,z∈G.F.k x->(dZ G.F x).u z.toNat=-1:=λz hz=>by
  obtain ⟨y,rfl,_,_⟩:=ku z hz;unfold dZ;simp only [π];rw [Δ hz]
 have mx:(x:Int)∈G.R h:=(B.rh.mem h x).2 ⟨zy,hx,hr,hh⟩;have hrow:∀k,jF A.cs.length (dZ G.F x) ((gG G h x).R k):=λk=>by
  have base:∀l:List Int,jF A.cs.length G.F l->(x:Int)∉l->jF A.cs.length (dZ G.F x) l:=λl hl hxl=>by
   refine ⟨λz hz=>?_,hl.2.imp_of_mem (λ{a b} ha hb hab=>?_)⟩
   ·have:=hl.1 z hz;exact ⟨this.1,this.2.1,uS z this.1 this.2.2⟩
   ·rw [dS a (λe=>hxl (e▸ha)),dS b (λe=>hxl (e▸hb))];exact hab
  unfold gG bH;simp only
  split
  ·refine base _ ⟨λz hz=>(B.rh.row h).1 z (List.mem_filter.1 hz).1,(B.rh.row h).2.filter _⟩ (λhm=>by simp at hm)
  ·rename_i hk
   exact base _ (B.rh.row k) (λhm=>hk (by have:=((B.rh.mem k x).1 hm).2.2.2;omega))
 have hl:jF A.cs.length (dZ G.F x) (G.F.k x):=Nk B.fh.f hx (λz hz=>dS z (λe=>sx (e▸hz))) kU;have hd:∀z,z∈(gG G h x).R h->z∉G.F.k x:=λz hz hk=>by
  unfold gG bH at hz;simp only [if_true] at hz;obtain ⟨y,rfl,hy,hu⟩:=ku z hk;have:=((B.rh.mem h y).1 (List.mem_filter.1 hz).1).2.2.1;omega
 have hF:FH A.cs.length (dZ G.F x) (λy=>((aU A x).c y).i) (dO (aU A x)):=by
  refine ⟨B.fh.f.Nt hx hr,λy p hy hu=>?_,λy p hy hu=>?_,λy hy h0=>?_⟩
  all_goals unfold dZ at *;simp only at *
  ·split at hu
   ·omega
   ·rename_i hk
    have hyx:y≠x:=λe=>by subst e;omega
    have hpx:p≠x:=λe=>by subst e;exact hk (B.fh.f.above hy hu).2
    rw [hc,hc,Γ hyx,Γ hpx];exact B.fh.home y p hy hu
  ·split at hu
   ·omega
   ·rename_i hk
    have hyx:y≠x:=λe=>by subst e;omega
    have hpx:p≠x:=λe=>by subst e;exact hk (B.fh.f.above hy hu).2
    exact (fT (by rw [hc,Γ hpx]) (by rw [hc,Γ hyx])).2 (B.fh.ord y p hy hu hyx hpx)
  ·by_cases hyx:y=x
   ·subst hyx;exact ⟨by rw [Γ sx];exact hr,by rw [Δ rfl]⟩
   ·rw [hc,Γ hyx] at h0;have:=B.fh.alone y hy h0;rw [Γ hyx,this.2];exact ⟨by split;rfl;exact this.1,rfl⟩
 have hL:∀y p:Nat,y<A.cs.length->p<A.cs.length->((aU A x).c y).i=(h:Int)->((aU A x).c p).i=(h:Int)->y≠p->bJ A y p=false->dO (aU A x) p y:=λy p hy hp h1 h2 hne ha=>by
  have hyx:y≠x:=λe=>by rw [hc,Δ e] at h1;simp [Cl.z] at h1;omega
  have hpx:p≠x:=λe=>by rw [hc,Δ e] at h2;simp [Cl.z] at h2;omega
  rw [hc,Γ hyx] at h1;rw [hc,Γ hpx] at h2;exact (fT (by rw [hc,Γ hpx]) (by rw [hc,Γ hyx])).2 (uz ((ay _ _).2 ⟨hy,ω⟩) ((ay _ _).2 ⟨hp,ω⟩) hne ha)
 have hroot:∀y:Nat,y<A.cs.length->((dZ G.F x).u y=-1↔G.F.u y=-1\/G.F.u y=x):=λy hy=>by
  unfold dZ;simp only;have hk:=uK B.fh.f hx hy
  by_cases e:G.F.u y=x
  ·rw [Δ (hk.2 e)];exact ⟨λ_=>Β e,λ_=>rfl⟩
  ·rw [Γ (λhm=>e (hk.1 hm))];exact ⟨λh=>Α h,λh=>h.resolve_right e⟩
 have hmem:∀k y:Nat,k≠h->((y:Int)∈(gG G h x).R k↔1<=k/\y<A.cs.length/\(dZ G.F x).u y=-1/\((aU A x).c y).i=(k:Int)):=λk y hk=>by
  unfold gG bH;simp only [Γ hk];rw [B.rh.mem k y];constructor
  ·rintro ⟨a1,a2,a3,a4⟩;have hyx:y≠x:=λe=>by subst e;omega
   exact ⟨a1,a2,(hroot y a2).2 (Α a3),by rw [hc,Γ hyx];exact a4⟩
  ·rintro ⟨a1,a2,a3,a4⟩;have hyx:y≠x:=λe=>by rw [hc,Δ e] at a4;simp [Cl.z] at a4;omega
   rw [hc,Γ hyx] at a4;refine ⟨a1,a2,((hroot y a2).1 a3).resolve_right (λe=>?_),a4⟩;have:=(B.fh.home y x a2 e).1;omega
 have hm:∀y:Nat,y<A.cs.length/\(dZ G.F x).u y=-1/\((aU A x).c y).i=(h:Int)↔(y:Int)∈(gG G h x).R h\/(y:Int)∈G.F.k x:=λy=>by
  unfold gG bH;simp only [if_true,List.mem_filter,bne_iff_ne,ne_eq];rw [B.rh.mem h y];constructor
  ·rintro ⟨a2,a3,a4⟩;have hyx:y≠x:=λe=>by rw [hc,Δ e] at a4;simp [Cl.z] at a4;omega
   rw [hc,Γ hyx] at a4;rcases (hroot y a2).1 a3 with e|e
   ·exact Α ⟨⟨zy,a2,e,a4⟩,ω⟩
   ·exact Β ((uK B.fh.f hx a2).2 e)
  ·rintro (⟨⟨_,a2,a3,a4⟩,a5⟩|a1)
   ·exact ⟨a2,(hroot y a2).2 (Α a3),by rw [hc,Γ ω];exact a4⟩
   ·obtain ⟨z,e,a2,a3⟩:=ku _ a1;obtain rfl:y=z:=ω;have hyx:y≠x:=λe=>by subst e;exact sx a1
    refine ⟨a2,(hroot y a2).2 (Β a3),?_⟩;rw [hc,Γ hyx];have:=(B.fh.home y x a2 a3).1;omega
 obtain ⟨r1,r2,r3,r4⟩:=vV (G:=gG G h x) hF hn (j4 A) hL zy hrow hmem hm hl hd;have nd:(G.R h).Nodup:=(B.rh.row h).nodup;have eR:(gG G h x).R h=(G.R h).filter (λz=>z != (x:Int)):=by unfold gG bH;simp
 have fl:=Fs nd mx;refine ⟨⟨by rw [hcs];exact r1,by rw [hcs];exact r2,λk hk=>?_⟩,?_,mx,by rw [←eR];exact hrow h,hl,by rw [←eR];exact hd,hF.f,λz hz=>?_⟩
 ·rw [hcs];have e1:wt A.cs.length (nP A h x G).F ((nP A h x G).R k)=_:=r3 k;rw [e1];have hlen:=rC A x Cl.z (k:Int) hx;have e2:aU A x=iF A x Cl.z:=by unfold aU;rw [Δ WG,π]
  rw [e2]
  by_cases ek:k=h
  ·subst ek;rw [Δ rfl,eR];rw [Δ ω,Γ (by simp [Cl.z];omega)] at hlen;have w1:=J8 (F:=G.F) (n:=A.cs.length) nd mx;rw [dY _ _ hx,π] at w1;have w2:=Rn (F':=dZ G.F x) B.fh.f hx (λz hz=>dS z (λe=>sx (e▸hz)));have w3:wt A.cs.length (dZ G.F x) ((G.R k).filter (λz=>z != (x:Int)))=wt A.cs.length G.F ((G.R k).filter (λz=>z != (x:Int))):=yu (λz hz=>dS z (by simpa using (List.mem_filter.1 hz).2));have w4:=B.w k hk
   show wt A.cs.length (dZ G.F x) _+wt A.cs.length (dZ G.F x) _=_
   omega
  ·rw [Γ ek];rw [Γ ω,Γ (by simp [Cl.z];omega)] at hlen;have eK:(gG G h x).R k=G.R k:=by unfold gG bH;simp only [Γ ek]
   rw [eK];have w4:=B.w k hk
   have w3:wt A.cs.length (dZ G.F x) (G.R k)=wt A.cs.length G.F (G.R k):=yu (λz hz=>dS z (λe=>by
    subst e;have:=((B.rh.mem k x).1 hz).2.2.2
    omega))
   show wt A.cs.length (dZ G.F x) _=_
   omega
 ·rw [eR] at r4;have e3:uO A h x G=(iQ (bJ A) A.cs.length (gG G h x).F ((G.R h).filter (λz=>z != (x:Int))) (G.F.k x)).q:=by unfold uO;rw [eR]
  rw [e3];have e4:(nP A h x G).R h=(sN (bJ A) A.cs.length h (G.F.k x) (gG G h x)).R h:=rfl;rw [e4];omega
 ·rcases hz with hz|hz
  ·have hr:=(B.rh.row h).1 z hz;have:=(B.rh.mem h z.toNat).1 (by rw [show ((z.toNat:Nat):Int)=z by omega];exact hz);exact (wZ _ _).2 ⟨hr.1,hr.2.1,by have:=this.2.2.2;omega⟩
  ·obtain ⟨y,rfl,hy,hu⟩:=ku z hz;exact (ay _ _).2 ⟨hy,(B.fh.home y x hy hu).2⟩
end
def MU (A':NS) (h x:Nat) (G:BG):BG:=sN (bJ A') A'.cs.length h [(x:Int)] G
def Sb (A':NS) (h x:Nat) (G:BG):Nat:=(iQ (bJ A') A'.cs.length G.F (G.R h) [(x:Int)]).q
def qz (G:BG) (b:Nat):BG:=⟨G.F,bH G.R b []⟩
def xG (A':NS) (a b:Nat) (G:BG):BG:=sN (bJ A') A'.cs.length a (G.R b) (qz G b)
def Ib (A':NS) (a b:Nat) (G:BG):Nat:=(iQ (bJ A') A'.cs.length G.F (G.R a) (G.R b)).q
theorem EW (n:Nat) (F:CF):jF n F []:=⟨λx hx=>(by cases hx),List.Pairwise.nil⟩
theorem Vl (n:Nat):Ch (NS.new n) BG.none:=by
 have hc:=λy=>NS.wL n y;have hn:(NS.new n).cs.length=n:=by simp [NS.new]
 refine ⟨⟨by rw [hn];exact O6 n,λy p hy hu=>?_,λy p hy hu=>?_,λy hy hh=>⟨rfl,rfl⟩⟩,⟨λh=>EW _ _,λh y=>⟨λhm=>(by cases hm),λhm=>?_⟩⟩,λh hh=>?_⟩
 ·have:(-1:Int)=p:=hu;omega
 ·have:(-1:Int)=p:=hu;omega
 ·have h2:=hm.2.2.2;rw [hc] at h2;simp [Cl.z] at h2;omega
 ·have:¬0<bU (NS.new n) (h:Int):=λhp=>by
   obtain ⟨y,_,h2,h3⟩:=fw.1 hp;rw [hc] at h2;simp [Cl.z] at h2;omega
  show (0:Nat)=_
  omega
theorem Uf (A:NS) (y:Nat):(aI A).c y=A.c y:=by unfold aI;split<;>rfl
theorem Hw (A:NS):(aI A).cs=A.cs:=by unfold aI;split<;>rfl
section
variable {A:NS} {G:BG}
theorem Q4 (B:Ch A G):Ch (aI A) G:=by
 have hc:=Uf A;have hs:(aI A).cs.length=A.cs.length:=by rw [Hw]
 refine ⟨⟨by rw [hs];exact B.fh.f,λy p hy hu=>by rw [hc,hc];exact B.fh.home y p (by rw [←hs];exact hy) hu,λy p hy hu=>(fT (hc p) (hc y)).2 (B.fh.ord y p (by rw [←hs];exact hy) hu),λy hy hh=>B.fh.alone y (by rw [←hs];exact hy) (by rw [←hc];exact hh)⟩,
  ⟨λh=>by rw [hs];exact B.rh.row h,λh y=>by rw [hs,hc];exact B.rh.mem h y⟩,λh hh=>by rw [hs,Jg];exact B.w h hh⟩
theorem VO {h x:Nat} (k s:Int) (B:Ch A G) (ok:A.Ok) (hB:nX A h x=true) :
  Ch (aG A h x k s) (MU (aG A h x k s) h x G)/\Sb (aG A h x k s) h x G+((MU (aG A h x k s) h x G).R h).length=(G.R h).length+1/\
   jF A.cs.length G.F [(x:Int)]/\(∀z,z∈G.R h->z∉[(x:Int)])/\(∀z,z∈G.R h\/z∈[(x:Int)]->bR (aG A h x k s) z=true)/\(aG A h x k s).cs.length=A.cs.length:=by
 obtain ⟨b1,b2,b3⟩:=(dP _ _ _).1 hB;have b4:=(aA _ _).1 b1;have hx:x<A.cs.length:=by have:=(fJ _ _).1 b2;omega
 have zy:1<=h:=ω;have h0:¬0<(A.c x).i:=λhp=>by rw [(ay _ _).2 ⟨hx,hp⟩] at b3;cases b3
 have eA:aG A h x k s=iF A x ⟨h,k,s⟩:=by unfold aG;rw [Δ hB,π]
 have hcs:(aG A h x k s).cs.length=A.cs.length:=by rw [eA];exact fD _ _ _
 have hc:∀y,(aG A h x k s).c y=if y=x then ⟨h,k,s⟩ else A.c y:=λy=>by
  rw [eA,jA]
  by_cases e:y=x
  ·rw [Δ ⟨e,hx⟩,Δ e]
  ·rw [Γ (λh=>e h.1),Γ e]
 have al:=B.fh.alone x hx h0
 have hne:∀y p:Nat,y<A.cs.length->G.F.u y=p->y≠x/\p≠x:=λy p hy hu=>⟨λe=>by subst e;rw [al.1] at hu;omega,λe=>by
  subst e;have:=(B.fh.f.above hy hu).2
  rw [al.2] at this;cases this⟩
 have hF:FH A.cs.length G.F (λy=>((aG A h x k s).c y).i) (dO (aG A h x k s)):=by
  refine ⟨B.fh.f,λy p hy hu=>?_,λy p hy hu=>?_,λy hy hh=>?_⟩
  ·obtain ⟨e1,e2⟩:=hne y p hy hu;rw [hc,hc,Γ e1,Γ e2];exact B.fh.home y p hy hu
  ·obtain ⟨e1,e2⟩:=hne y p hy hu;exact (fT (by rw [hc,Γ e2]) (by rw [hc,Γ e1])).2 (B.fh.ord y p hy hu)
  ·by_cases e:y=x
   ·rw [hc,Δ e] at hh;simp only at hh;omega
   ·rw [hc,Γ e] at hh;exact B.fh.alone y hy hh
 have hin:∀y:Nat,y<A.cs.length->((aG A h x k s).c y).i=(h:Int)->bR (aG A h x k s) (y:Int)=true:=λy hy e=>(ay _ _).2 ⟨ω,ω⟩;have hl:jF A.cs.length G.F [(x:Int)]:=⟨λz hz=>by simp at hz;subst hz;exact ⟨ω,ω,by simpa using al.1⟩,List.pairwise_singleton _ _⟩;have hd:∀z,z∈G.R h->z∉[(x:Int)]:=λz hz hm=>by
  simp at hm;subst hm;have:=((B.rh.mem h x).1 hz).2.2.2;omega
 have hm:∀y:Nat,y<A.cs.length/\G.F.u y=-1/\((aG A h x k s).c y).i=(h:Int)↔(y:Int)∈G.R h\/(y:Int)∈[(x:Int)]:=λy=>by
  rw [B.rh.mem h y];simp only [ϒ]
  by_cases e:y=x
  ·subst e;rw [hc,Δ rfl];exact ⟨λ_=>Β rfl,λ_=>⟨hx,al.1,rfl⟩⟩
  ·rw [hc,Γ e];constructor
   ·rintro ⟨a1,a2,a3⟩;exact Α ⟨zy,a1,a2,a3⟩
   ·rintro (⟨_,a1,a2,a3⟩|a4)
    ·exact ⟨a1,a2,a3⟩
    ·omega
 obtain ⟨r1,r2,r3,r4⟩:=vV (G:=G) (lt:=bJ (aG A h x k s)) (h:=h) hF ok.c1 (j4 _) (λy p hy hp h1 h2 hne ha=>uz (hin y hy h1) (hin p hp h2) hne ha) zy B.rh.row (λq y hq=>by
  rw [B.rh.mem q y]
  by_cases e:y=x
  ·subst e;rw [hc,Δ rfl];constructor
   ·rintro ⟨a1,_,_,a3⟩;omega
   ·rintro ⟨a1,_,_,a3⟩;simp only at a3;omega
  ·rw [hc,Γ e]) hm hl hd
 unfold MU Sb;rw [hcs];refine ⟨⟨by rw [hcs];exact r1,by rw [hcs];exact r2,λq hq=>?_⟩,by simpa using r4,hl,hd,λz hz=>?_,rfl⟩
 ·rw [hcs,r3 q];have hlen:=rC A x ⟨h,k,s⟩ (q:Int) hx;rw [←eA] at hlen;rw [Γ ω] at hlen;have wx:wt A.cs.length G.F [(x:Int)]=1:=by
   unfold wt;simp only [List.map_cons,List.map_nil,List.sum_cons,List.sum_nil];rw [dY _ _ hx,al.2];rfl
  have wq:=B.w q hq
  by_cases e:q=h
  ·subst e;rw [Δ ⟨rfl,ω⟩] at hlen;rw [Δ rfl,wx];omega
  ·rw [Γ (λh=>e (by have:=h.1;simp only at this;omega))] at hlen;rw [Γ e];omega
 ·have key:∃y:Nat,z=y/\y<A.cs.length/\((aG A h x k s).c y).i=(h:Int):=by
   rcases hz with hz|hz
   ·have hr:=(B.rh.row h).1 z hz;obtain ⟨y,rfl⟩:=Int.eq_ofNat_of_zero_le hr.1;have:=(hm y).2 (Α hz);exact ⟨y,rfl,this.1,this.2.2⟩
   ·simp at hz;subst hz;have:=(hm x).2 (Β σ);exact ⟨x,rfl,this.1,this.2.2⟩
  obtain ⟨y,rfl,h1,h2⟩:=key;exact hin y h1 h2
theorem Qg {a b:Nat} (B:Ch A G) (ok:A.Ok) (hj:fQ A a b=true) :
  Ch (ah A a b) (xG (ah A a b) a b G)/\Ib (ah A a b) a b G+((xG (ah A a b) a b G).R a).length=(G.R a).length+(G.R b).length/\
   (∀z,z∈G.R a->z∉G.R b)/\(∀z,z∈G.R a\/z∈G.R b->bR (ah A a b) z=true):=by
 obtain ⟨j1,j2,j3⟩:=(cO _ _ _).1 hj;have a1:=(aA _ _).1 j1;have a2:=(aA _ _).1 j2;have hab:a≠b:=λe=>j3 (by rw [e]);have ha1:1<=a:=ω;have hcs:=dA A (a:Int) (b:Int);have hc:∀y:Nat,y<A.cs.length->((ah A a b).c y).i=if (A.c y).i=b then (a:Int) else (A.c y).i:=λy hy=>by
  rw [kY hj];simp only
  by_cases e:(A.c y).i=b
  ·rw [Δ ⟨e,hy⟩,Δ e]
  ·rw [Γ (λh=>e h.1),Γ e]
 have hF:FH A.cs.length G.F (λy=>((ah A a b).c y).i) (dO (ah A a b)):=by
  refine ⟨B.fh.f,λy p hy hu=>?_,λy p hy hu=>?_,λy hy hh=>?_⟩
  ·have hp:=(B.fh.f.above hy hu).1;have e:(A.c y).i=(A.c p).i/\0<(A.c y).i:=B.fh.home y p hy hu;rw [hc y hy,hc p hp,←e.1];refine ⟨rfl,?_⟩
   split
   ·omega
   ·exact e.2
  ·exact (lY hj p y).2 (B.fh.ord y p hy hu)
  ·rw [hc y hy] at hh
   split at hh
   ·omega
   ·exact B.fh.alone y hy hh
 have hin:∀y:Nat,y<A.cs.length->((ah A a b).c y).i=(a:Int)->bR (ah A a b) (y:Int)=true:=λy hy e=>(ay _ _).2 ⟨ω,ω⟩;have QO:(qz G b).R a=G.R a:=by unfold qz bH;simp only [Γ hab]
 have hd:∀z,z∈G.R a->z∉G.R b:=λz hz hm=>by
  have hr:=(B.rh.row a).1 z hz;obtain ⟨y,rfl⟩:=Int.eq_ofNat_of_zero_le hr.1;have e1:=((B.rh.mem a y).1 hz).2.2.2;have e2:=((B.rh.mem b y).1 hm).2.2.2;omega
 have hm:∀y:Nat,y<A.cs.length/\G.F.u y=-1/\((ah A a b).c y).i=(a:Int)↔(y:Int)∈G.R a\/(y:Int)∈G.R b:=λy=>by
  rw [B.rh.mem a y,B.rh.mem b y];constructor
  ·rintro ⟨c1,c2,c3⟩;rw [hc y c1] at c3
   split at c3
   ·rename_i e;exact Β ⟨ω,c1,c2,e⟩
   ·exact Α ⟨ha1,c1,c2,c3⟩
  ·rintro (⟨_,c1,c2,c3⟩|⟨_,c1,c2,c3⟩)
   ·exact ⟨c1,c2,by rw [hc y c1,Γ ω];exact c3⟩
   ·exact ⟨c1,c2,by rw [hc y c1,Δ c3]⟩
 obtain ⟨r1,r2,r3,r4⟩:=vV (G:=qz G b) (lt:=bJ (ah A a b)) (h:=a) (l:=G.R b) hF ok.c1 (j4 _) (λy p hy hp h1 h2 hne ha=>uz (hin y hy h1) (hin p hp h2) hne ha) ha1
  (λq=>by
   unfold qz bH;simp only
   split
   ·exact EW _ _
   ·exact B.rh.row q) (λq y hq=>by
   unfold qz bH;simp only
   by_cases e:q=b
   ·rw [Δ e];constructor
    ·intro h;cases h
    ·rintro ⟨_,c1,_,c3⟩;rw [hc y c1] at c3
     split at c3<;>omega
   ·rw [Γ e,B.rh.mem q y];constructor
    ·rintro ⟨c0,c1,c2,c3⟩;exact ⟨c0,c1,c2,by rw [hc y c1,Γ ω];exact c3⟩
    ·rintro ⟨c0,c1,c2,c3⟩;rw [hc y c1] at c3
     split at c3
     ·omega
     ·exact ⟨c0,c1,c2,c3⟩) (λy=>by rw [QO];exact hm y) (B.rh.row b) (λz hz=>by rw [QO] at hz;exact hd z hz)
 rw [QO] at r4;unfold xG Ib;rw [hcs];refine ⟨⟨by rw [hcs];exact r1,by rw [hcs];exact r2,λq hq=>?_⟩,r4,hd,λz hz=>?_⟩
 ·rw [hcs,r3 q,zJ ok hj (q:Int)];have wq:=B.w q hq;have wa:=B.w a ha1;have wb:=B.w b ω;have eF:(qz G b).F=G.F:=rfl;rw [QO,eF]
  by_cases e:q=a
  ·rw [Δ e,Δ ω];omega
  ·rw [Γ e,Γ ω]
   by_cases e2:q=b
   ·subst e2;rw [Δ rfl];unfold qz bH;simp only [if_true]
    rfl
   ·rw [Γ ω];unfold qz bH;simp only [Γ e2];exact wq
 ·have key:∃y:Nat,z=y:=by
   rcases hz with hz|hz
   ·exact ⟨z.toNat,by have:=(B.rh.row a).1 z hz;omega⟩
   ·exact ⟨z.toNat,by have:=(B.rh.row b).1 z hz;omega⟩
  obtain ⟨y,rfl⟩:=key;have:=(hm y).2 hz;exact hin y this.1 this.2.2
theorem MR (B:Ch A G):∀ (m y:Nat),A.cs.length<=m+(G.F.k y).length->y<A.cs.length->0<(A.c y).i->∃T,T<A.cs.length/\G.F.u T=-1/\(A.c T).i=(A.c y).i/\(T=y\/dO A T y)
 | m,y,hm,hy,hh=>by
  rcases B.fh.f.up y hy with h1|⟨p,hp,h1,h2⟩
  ·exact ⟨y,hy,h1,rfl,Α rfl⟩
  ·have hd:=B.fh.f.Re hy h1;have hl:=B.fh.f.len hp;have ho:(A.c y).i=(A.c p).i/\0<(A.c y).i:=B.fh.home y p hy h1
   match m,hm with
   | 0,hm=>omega
   | m+1,hm=>
    obtain ⟨T,t1,t2,t3,t4⟩:=MR B m p ω hp ω;refine ⟨T,t1,t2,by rw [t3,ho.1],Β ?_⟩;have hl:=B.fh.ord y p hy h1;rcases t4 with e|e
    ·rw [e];exact hl
    ·exact dw e hl
def j5 (lt:Int->Int->Bool):Int->List Int->Int
 | b,[]=>b
 | b,x::t=>j5 lt (if lt x b then x else b) t
theorem yx (lt:Int->Int->Bool):∀ (l:List Int) (b:Int),j5 lt b l∈b::l
 | [],b=>by simp [j5]
 | x::t,b=>by
  have key:∀c,j5 lt c t∈c::t:=λc=>yx lt t c;unfold j5;cases e:lt x b with
  | true=>
   rw [Δ rfl];exact Λ _ (key x)
  | false=>
   rw [Γ σ];rcases ρ.1 (key b) with h|h
   ·rw [h];simp
   ·exact Λ _ (Λ _ h)
theorem wD {lt:Int->Int->Bool} {P:Int->Prop} (tr:∀a b c,P a->P b->P c->lt a b=true->lt b c=true->lt a c=true) (tot:∀a b,P a->P b->a≠b->lt a b=false->lt b a=true) :
  ∀ (l:List Int) (b:Int),P b->(∀x,x∈l->P x)->∀x,x∈b::l->x=j5 lt b l\/lt (j5 lt b l) x=true
 | [],b,_,_,x,hx=>by simp at hx;subst hx;exact Α rfl
 | y::t,b,hb,hl,x,hx=>by
  have hy:=hl y σ;have ht:=λz hz=>hl z (Λ _ hz);unfold j5;have hP:P (if lt y b then y else b):=by split;exact hy;exact hb
  have ih:=wD tr tot t (if lt y b then y else b) hP ht;have Yo:P (j5 lt (if lt y b then y else b) t):=by
   rcases ρ.1 (yx lt t (if lt y b then y else b)) with e|e
   ·rw [e];exact hP
   ·exact ht _ e
  have via:∀z,P z->lt (if lt y b then y else b) z=true->z=j5 lt (if lt y b then y else b) t\/lt (j5 lt (if lt y b then y else b) t) z=true:=λz hz h=>by
   rcases ih _ (List.mem_cons_self) with e|e
   ·rw [←e];exact Β h
   ·exact Β (tr _ _ _ Yo hP hz e h)
  by_cases e:lt y b=true
  ·rw [Δ e] at ih via ⊢;rcases ρ.1 hx with e1|hx
   ·subst e1;exact via x hb e
   ·exact ih x hx
  ·rw [Γ e] at ih via ⊢;have e:lt y b=false:=by simpa using e
   rcases ρ.1 hx with e1|hx
   ·subst e1;exact ih x σ
   ·rcases ρ.1 hx with e1|hx
    ·subst e1
     by_cases exb:x=b
     ·subst exb;exact ih x σ
     ·exact via x hy (tot x b hy hb exb e)
    ·exact ih x (Λ _ hx)
theorem M8 (B:Ch A G) {h:Nat} {z:Int} (hz:z∈G.R h):∃y:Nat,z=y/\y<A.cs.length/\bR A z=true/\(A.c y).i=h/\G.F.u y=-1:=by
 have hr:=(B.rh.row h).1 z hz;obtain ⟨y,rfl⟩:=Int.eq_ofNat_of_zero_le hr.1;have:=(B.rh.mem h y).1 hz;have h4:(A.c y).i=h:=this.2.2.2;exact ⟨y,rfl,this.2.1,(ay _ _).2 ⟨this.2.1,ω⟩,h4,this.2.2.1⟩
theorem Pe (B:Ch A G) {h:Nat} (h1:1<=h) {x:Int} {t:List Int} (hR:G.R h=x::t):∃m:Nat,j5 (bJ A) x t=m/\dM A (h:Int)=some m/\m<A.cs.length/\G.F.u m=-1/\(A.c m).i=h:=by
 have hin:∀z,z∈x::t->∃y:Nat,z=y/\y<A.cs.length/\bR A z=true/\(A.c y).i=h/\G.F.u y=-1:=λz hz=>M8 B (by rw [hR];exact hz);obtain ⟨m,e,m1,m2,m3,m4⟩:=hin _ (yx (bJ A) t x);refine ⟨m,e,(gP ω).2 ⟨m1,m3,λy hy hh=>?_⟩,m1,m4,m3⟩
 have F:=wD (lt:=bJ A) (P:=λz=>∃y:Nat,z=y/\bR A z=true) (λa b c ha hb hc h1 h2=>by
  obtain ⟨a,rfl,_⟩:=ha;obtain ⟨b,rfl,_⟩:=hb;obtain ⟨c,rfl,_⟩:=hc;rw [jN] at h1 h2 ⊢;simp only [Τ,Ο] at h1 h2 ⊢;exact ⟨⟨h1.1.1,h2.1.2⟩,dw h1.2 h2.2⟩) (λa b ha hb hne h1=>by
  obtain ⟨a,rfl,ia⟩:=ha;obtain ⟨b,rfl,ib⟩:=hb;have:=uz ia ib (λe=>hne (by rw [e])) h1;rw [jN,ia,ib]
  simpa using this) t x (by obtain ⟨y,e,_,i,_⟩:=hin x σ;exact ⟨y,e,i⟩) (λz hz=>by obtain ⟨y,e,_,i,_⟩:=hin z (Λ _ hz);exact ⟨y,e,i⟩)
 obtain ⟨T,t1,t2,t3,t4⟩:=MR B A.cs.length y ω hy ω;have hT:(T:Int)∈x::t:=by rw [←hR];exact (B.rh.mem h T).2 ⟨h1,t1,t2,by rw [t3];exact hh⟩
 have hmT:T=m\/dO A m T:=by
  rcases F _ hT with e2|e2
  ·rw [e] at e2;exact Α ω
  ·rw [e,jN] at e2;simp only [Τ,Ο] at e2;exact Β e2.2
 rcases t4 with e1|e1
 ·subst e1;exact hmT
 ·rcases hmT with e2|e2
  ·subst e2;exact Β e1
  ·exact Β (dw e2 e1)
theorem IB (B:Ch A G) {h:Nat} (h1:1<=h) (hR:G.R h=[]):dM A (h:Int)=none:=by
 have:=B.w h h1;rw [hR] at this;exact (jg ω).2 this.symm
end
end Go.Proofs.YtnpdakpagnpanaaGreat
