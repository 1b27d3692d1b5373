/-
  Lemmas for RankSorts: Words, Carry, Carry2, Carry3, Carry4, Carry5. Conditions: those of each lemma.
-/
import Derived.Deep.RegionHeldLaw
import Derived.Deep.RegionLaw
import Derived.Test.YtklibcncmbofpaaGreatP02
set_option maxHeartbeats 8000000
set_option maxRecDepth 10000
set_option linter.unusedVariables false
set_option linter.unusedSimpArgs false
namespace Go.Proofs.YtklibcncmbofpaaGreat
open Go Go.RowKit
def ov (o:Option Int):Int:=o.getD 0
def ob (o:Option Int):Bool:=o.isSome
structure CS where
 v:Nat→Value
 k:Nat→List Int
 u:Nat→Int
def CS.none:CS:=⟨fun _=>.slice Option.none 0 0,fun _=>[],fun _=>-1⟩
def bP (S:CS) (j:Nat):Value:=if j % 2=0 then S.v (j / 2) else .int .i64 (S.u (j / 2))
theorem kH (S:CS) (x:Nat):bP S (x*2)=S.v x:=by unfold bP;rw [if_pos ω,show x*2 / 2=x by omega]
theorem qp (S:CS) (x:Nat):bP S (x*2+1)=.int .i64 (S.u x):=by unfold bP;rw [if_neg ω,show (x*2+1) / 2=x by omega]
def CS.blk (S:CS) (n:Nat):List Nat:=(List.range n).filterMap (fun x=>(S.v x).ownBlock)
theorem CS.iF (S:CS) (n g:Nat):g∈S.blk n↔∃x,x<n∧(S.v x).ownBlock=some g:=by unfold CS.blk;simp
structure aM (w:World) (bt ba lo n:Nat) (S:CS):Prop where
 head:aI w bt 250 1 (fun _=>.slice (some ⟨ba,0,none⟩) n n)
 row:aI w ba 252 (n*2) (bP S)
 own:∀x,x<n→w.ownsRow lo 3 1 (S.v x) (S.k x).length (aH (S.k x))
 sep:∀x y,x<n→y<n→x≠y→∀g,(S.v x).ownBlock=some g→(S.v y).ownBlock≠some g
 ne:bt≠ba
 FW:bt<lo
 FJ:ba<lo
 low:lo≤w.heap.size
 le:n≤65536
 len:∀x,x<n→(S.k x).length≤n
theorem aM.lD {w:World} {bt ba lo n:Nat} {S:CS} (h:aM w bt ba lo n S) {g:Nat} (hg:g∈S.blk n):lo≤g∧g<w.heap.size:=by
 obtain ⟨x,hx,he⟩:=(S.iF n g).1 hg;exact (h.own x hx).lt g he
theorem aM.upd {w w':World} {F:List Nat} {bt ba lo n:Nat} {S:CS} (h:aM w bt ba lo n S) (hu:aa F w w') (h1:bt∉F) (h2:ba∉F) (h3:∀g,g∈S.blk n→g∉F):aM w' bt ba lo n S:=
 ⟨h.head.upd hu h1,h.row.upd hu h2,fun x hx=>ay (h.own x hx) hu (fun k hk=>h3 k ((S.iF n k).2 ⟨x,hx,hk⟩)),h.sep,h.ne,h.FW,h.FJ,Nat.le_trans h.low hu.size,h.le,h.len⟩
theorem aM.aj {w w':World} {bt ba lo n:Nat} {S:CS} (h:aM w bt ba lo n S) (hu:aa [] w w'):aM w' bt ba lo n S:=h.upd hu σ σ σ
theorem nodeInfo:(Tryz.prog.info? 252).map (fun i=>(i.zero,i.size,i.bytes))=some (some (.agg #[.slice none 0 0,.int .i64 0]),2,32):=by kernel_rfl
theorem Ac (n:Nat) (w:World) (h:n≤65536) :
  Calls Tryz.prog 109 #[.int .i64 (n:Int)] w fun e w'=>∃bt ba,e=.returned (.tuple #[.pointer (some ⟨bt,0,none⟩),.int .i64 0])∧aM w' bt ba w'.heap.size n CS.none∧aa [] w w'∧w.heap.size≤bt∧w.heap.size≤ba:=by
 go_enter Tryz.func109,Tryz.ntmps109
 go_wp2_with (at_make;refine wpList_make_row rfl _ 248 rfl 252 (.agg #[.slice none 0 0,.int .i64 0]) 2 32 Tryz.underlying248 nodeInfo n rfl ω μ ?_;intro w1 hr1 hu1)
 have hlt:=hr1.lt;have hz:∀j,j<n*2→(madeCells (Value.agg #[.slice none 0 0,.int .i64 0]).cells (n*2)).toList.getD j undef=if j % 2=0 then .slice none 0 0 else .int .i64 0:=fun j hj=>by
  rw [show (Value.agg #[.slice none 0 0,.int .i64 0]).cells=#[Value.slice none 0 0,Value.int .i64 0] from rfl]
  unfold madeCells;simp [φ,hj];rcases (ω:j % 2=0∨j % 2=1) with h2|h2<;>simp [h2]
 go_loopw [21] (fun i wr=>∃ (k:Nat) (f:Nat→Value),k≤n∧i=.int .i64 k∧aI wr w1.heap.size 250 1 (fun _=>.slice (some ⟨w.heap.size,0,none⟩) n n)∧aI wr w.heap.size 252 (n*2) f∧(∀j,j<n*2→f j=if j % 2=0 then .slice none 0 0 else .int .i64 (if j<k*2 then -1 else 0))∧aa [] w wr) (fun i _=>n-(intOf i).toNat)
 case atStart=>exact ⟨0,_,ω,rfl,dm _ _ _ |>.ext (fun j hj=>by simp at hj;subst hj;rfl),hr1.alloc _,fun j hj=>by rw [hz j hj,if_neg (show ¬j<0*2 by omega)],hu1.alloc _⟩
 case round=>
  obtain ⟨k,f,hk,rfl,hH,hR,hf,hu⟩:=hrel;have HZ:=χ hz;clear hz
  by_cases hkn:k<n
  ·have c0:=hH.cell 0 ω;have d1:=hR.cell (k*2+1) ω;have e1:=hR.free (k*2+1);have HF:=χ hf;clear hf;go_wp2
   go_roundw
   case rel=>
    refine ⟨k+1,_,ω,by go_num,hH.far _ _ ζ,hR.set _ _,fun j hj=>?_,hu.setCell (Or.inr σ) _⟩
    by_cases hj1:j=k*2+1
    ·subst hj1;rw [if_pos rfl,if_neg ω,if_pos ω]
    ·rw [if_neg hj1,HF.out j hj]
     by_cases h2:j % 2=0
     ·rw [if_pos h2,if_pos h2]
     ·rw [if_neg h2,if_neg h2]
      by_cases h3:j<k*2
      ·rw [if_pos h3,if_pos ω]
      ·rw [if_neg h3,if_neg ω]
   case measure=>simp [intOf];omega
  ·obtain rfl:k=n:=ω;go_wp2;go_ret2;exact ⟨_,_,rfl,⟨hH,hR.ext (fun j hj=>by rw [hf j hj,if_pos (show j<k*2 by omega)];rfl),fun x hx=>World.ownsRow_nil _ _ _ _,fun x y _ _ _ g hg=>by simp [CS.none,Value.ownBlock] at hg,by omega,hH.lt,hR.lt,Nat.le_refl _,h,fun x hx=>Nat.zero_le _⟩,hu,hu1.size,Nat.le_refl _⟩
theorem kN (bt ba lo n:Nat) (S:CS) (x:Int) (w:World) (h:aM w bt ba lo n S) (b:Bool) (hb:b=decide (0≤x∧x<n)) :
  Calls Tryz.prog 195 #[.pointer (some ⟨bt,0,none⟩),.int .i64 x] w fun e w'=>e=.returned (.bool b)∧w'=w:=by
 have hle:=h.le;have c0:=h.head.cell 0 ω;clear h;subst hb
 by_cases h0:0≤x
 ·by_cases h1:x<n
  ·go_enter Tryz.func195,Tryz.ntmps195
   go_wp2;go_ret;exact ⟨aV (by simp [h0,h1]),rfl⟩
  ·go_enter Tryz.func195,Tryz.ntmps195
   go_wp2;go_ret;exact ⟨aV (by simp [h0,h1]),rfl⟩
 ·go_enter Tryz.func195,Tryz.ntmps195
  go_wp2;go_ret;exact ⟨aV ζ,rfl⟩
def lY (n:Nat) (S:CS) (x:Int):Bool:=decide (0≤x∧x<n) && S.u x.toNat == -1
def mf (n:Nat) (S:CS) (x:Int):Int:=if 0≤x∧x<n then (S.k x.toNat).length else 0
def Dj (n:Nat) (S:CS) (x:Int):Option Int:=if 0≤x∧x<n then (if S.u x.toNat=-1 then none else some (S.u x.toNat)) else none
theorem tF (bt ba lo n:Nat) (S:CS) (x:Int) (w:World) (h:aM w bt ba lo n S) :
  Calls Tryz.prog 198 #[.pointer (some ⟨bt,0,none⟩),.int .i64 x] w fun e w'=>e=.returned (.bool (lY n S x))∧w'=w:=by
 by_cases hx:0≤x∧x<n
 ·obtain ⟨k,rfl⟩:∃k:Nat,x=k:=⟨x.toNat,ω⟩
  have hk:k<n:=ω;have hle:=h.le;have c0:=h.head.cell 0 ω;have d1:=h.row.cellAt (k*2+1) ω (qp S k);have k1:=kN bt ba lo n S k w h true (by simp [hk])
  have e:lY n S k=(S.u k == -1):=by unfold lY;rw [decide_eq_true hx];simp
  rw [e];clear h e hx;generalize S.u k=u at *
  go_enter Tryz.func198,Tryz.ntmps198
  go_wp2_with (go_at_call 195;refine (k1).mono ?_;rintro e w' ⟨rfl,rfl⟩)
  go_ret;exact ⟨rfl,rfl⟩
 ·have k1:=kN bt ba lo n S x w h false (by simpa using hx)
  have e:lY n S x=false:=by unfold lY;rw [decide_eq_false hx];rfl
  rw [e];clear h e hx
  go_enter Tryz.func198,Tryz.ntmps198
  go_wp2_with (go_at_call 195;refine (k1).mono ?_;rintro e w' ⟨rfl,rfl⟩)
  go_ret;exact ⟨rfl,rfl⟩
theorem oq (bt ba lo n:Nat) (S:CS) (x:Int) (w:World) (h:aM w bt ba lo n S) :
  Calls Tryz.prog 204 #[.pointer (some ⟨bt,0,none⟩),.int .i64 x] w fun e w'=>e=.returned (.int .i64 (mf n S x))∧w'=w:=by
 by_cases hx:0≤x∧x<n
 ·obtain ⟨k,rfl⟩:∃k:Nat,x=k:=⟨x.toNat,ω⟩
  have hk:k<n:=ω;have hle:=h.le;have c0:=h.head.cell 0 ω;obtain ⟨a,cap,hv,_⟩:=aR (h.own k hk);have d0:=h.row.cellAt (k*2) ω ((kH S k).trans hv);have k1:=kN bt ba lo n S k w h true (by simp [hk])
  have e:mf n S k=((S.k k).length:Int):=by unfold mf;rw [if_pos hx];simp
  rw [e];clear h e hx hv;generalize (S.k k).length=u at *
  go_enter Tryz.func204,Tryz.ntmps204
  go_wp2_with (go_at_call 195;refine (k1).mono ?_;rintro e w' ⟨rfl,rfl⟩)
  go_ret;exact ⟨rfl,rfl⟩
 ·have k1:=kN bt ba lo n S x w h false (by simpa using hx)
  have e:mf n S x=0:=by unfold mf;rw [if_neg hx]
  rw [e];clear h e hx
  go_enter Tryz.func204,Tryz.ntmps204
  go_wp2_with (go_at_call 195;refine (k1).mono ?_;rintro e w' ⟨rfl,rfl⟩)
  go_ret;exact ⟨rfl,rfl⟩
theorem sF (bt ba lo n:Nat) (S:CS) (x:Int) (w:World) (h:aM w bt ba lo n S) :
  Calls Tryz.prog 188 #[.pointer (some ⟨bt,0,none⟩),.int .i64 x] w fun e w'=>e=.returned (.tuple #[.int .i64 (ov (Dj n S x)),.bool (ob (Dj n S x))])∧w'=w:=by
 by_cases hx:0≤x∧x<n
 ·obtain ⟨k,rfl⟩:∃k:Nat,x=k:=⟨x.toNat,ω⟩
  have hk:k<n:=ω;have hle:=h.le;have c0:=h.head.cell 0 ω;have d1:=h.row.cellAt (k*2+1) ω (qp S k);have k1:=kN bt ba lo n S k w h true (by simp [hk])
  have e:Dj n S k=if S.u k=-1 then none else some (S.u k):=by unfold Dj;rw [if_pos hx];simp
  rw [e];clear h e hx;generalize S.u k=u at *
  by_cases hu:u=-1
  ·subst hu
   go_enter Tryz.func188,Tryz.ntmps188
   go_wp2_with (go_at_call 195;refine (k1).mono ?_;rintro e w' ⟨rfl,rfl⟩)
   go_ret2;exact ⟨rfl,rfl⟩
  ·have b1:(u == -1)=false:=by simpa using hu
   rw [if_neg hu];clear hu
   go_enter Tryz.func188,Tryz.ntmps188
   go_wp2_with (go_at_call 195;refine (k1).mono ?_;rintro e w' ⟨rfl,rfl⟩)
   go_ret2;exact ⟨rfl,rfl⟩
 ·have k1:=kN bt ba lo n S x w h false (by simpa using hx)
  have e:Dj n S x=none:=by unfold Dj;rw [if_neg hx]
  rw [e];clear h e hx
  go_enter Tryz.func188,Tryz.ntmps188
  go_wp2_with (go_at_call 195;refine (k1).mono ?_;rintro e w' ⟨rfl,rfl⟩)
  go_ret2;exact ⟨rfl,rfl⟩
theorem IV (w:World) (lo:Nat) (v:Value) (z:List Int) (h:gK w lo v z.length (aH z)) (hz:z.length≤65536) :
  Calls Tryz.prog 199 #[v] w fun e w'=>∃v',e=.returned v'∧gK w' w.heap.size v' z.length (aH z)∧aa [] w w':=by
 have h0:=h;obtain ⟨a,cap,rfl,hcp,hlc,hp⟩:=h.open;have hl:=dX z;generalize hzz:aH z=zs at *
 have h1:∀u∈zs,u.oneCell'=true:=by rw [←hzz];exact I5 z
 generalize z.length=len at *
 clear hzz;cases a with
 | none=>
  have hn:len=0:=by
   rcases Nat.eq_zero_or_pos len with h|h
   ·exact h
   ·obtain ⟨g,hg,_⟩:=hp h;cases hg
  subst hn;have hzs:zs=[]:=List.eq_nil_of_length_eq_zero hl;subst hzs;have hs:=fun (W:World)=>Lib.run_eql_slice_nil (P:=Tryz.prog) W 26 3 none 0 cap 0 0 Tryz.underlying26
  clear hp h h0
  go_enter Tryz.func199,Tryz.ntmps199
  go_wp2;go_ret;exact ⟨_,rfl,Or.inl ⟨rfl,rfl,rfl⟩,aa.refl _ _⟩
 | some a=>
  have hs:=fun (W:World)=>Lib.run_eql_slice_nil (P:=Tryz.prog) W 26 3 (some a) len cap 0 0 Tryz.underlying26
  have hL:=h.upd ((aa.refl [] w).alloc (.cells #[] 3)) σ;have hO:=jE w [] 3 w.heap.size 1 0 rfl (Nat.le_refl _) μ;clear hp h h0
  go_enter Tryz.func199,Tryz.ntmps199
  go_wp2_with (at_builtin;refine rV rfl _ _ 26 rfl w.heap.size 3 (.int .i64 0) 1 8 Tryz.underlying26 cK rfl δ _ _ _ rfl hO lo len zs _ rfl hL ω h1 μ ω σ ?_;intro v2 w2 ho2 hu2)
  go_ret;have hu3:aa [w.heap.size] (w.alloc (.cells #[] 3)) w2:=hu2;refine ⟨_,rfl,?_,((aa.refl _ _).alloc _).joined hu3 (fun x hx=>Or.inr (by simp at hx;omega))⟩
  have:=gK.qh ho2;simpa using this
def rowOk (n:Nat) (S:CS) (l:List Int) (i:Nat):Bool:=lY n S (l.getD i 0) && (i == 0 || decide (mf n S (l.getD (i-1) 0)<mf n S (l.getD i 0)))
def su (n:Nat) (S:CS) (l:List Int) (j:Nat):Bool:=(List.range j).all (rowOk n S l)
theorem EN (n:Nat) (S:CS) (l:List Int) (j:Nat):su n S l (j+1)=(su n S l j && rowOk n S l j):=by
 unfold su;rw [List.range_succ,List.all_append];simp
theorem JI (n:Nat) (S:CS) (l:List Int) (j:Nat) (h:su n S l j=true) (hj:rowOk n S l j=false) (m:Nat) (hm:j<m):su n S l m=false:=by
 unfold su;rw [List.all_eq_false];exact ⟨j,by simp [hm],by simp [hj]⟩
def Ha (n:Nat) (S:CS) (l:List Int):Bool:=su n S l l.length
def CS.yf (S:CS) (x:Nat) (v:Value) (l:List Int):CS:=⟨fun y=>if y=x then v else S.v y,fun y=>if y=x then l else S.k y,S.u⟩
def CS.oZ (S:CS) (x:Nat) (p:Int):CS:=⟨S.v,S.k,fun y=>if y=x then p else S.u y⟩
theorem CS.Kq (S:CS) (x:Nat) (v:Value) (l:List Int) (n g:Nat) (h:g∈(S.yf x v l).blk n):g∈S.blk n∨v.ownBlock=some g:=by
 obtain ⟨y,hy,he⟩:=(CS.iF _ n g).1 h;unfold CS.yf at he;simp only at he
 split at he
 ·exact Or.inr he
 ·exact Or.inl ((CS.iF _ n g).2 ⟨y,hy,he⟩)
theorem aM.bA {w:World} {bt ba lo n:Nat} {S:CS} (h:aM w bt ba lo n S) (x:Nat) (hx:x<n) (p:Int):aM (w.setCell ⟨ba,x*2+1,none⟩ (.int .i64 p)) bt ba lo n (S.oZ x p):=by
 have hu:aa [ba] w (w.setCell ⟨ba,x*2+1,none⟩ (.int .i64 p)):=(aa.refl _ _).setCell (Or.inl σ) _;refine ⟨h.head.upd hu (by simp;exact h.ne),(h.row.set _ _).ext (fun j hj=>?_),fun y hy=>ay (h.own y hy) hu (fun k hk hm=>?_),h.sep,h.ne,h.FW,h.FJ,Nat.le_trans h.low hu.size,h.le,h.len⟩
 ·unfold bP CS.oZ;simp only
  by_cases hj1:j=x*2+1
  ·subst hj1;rw [if_pos rfl,if_neg ω,show (x*2+1) / 2=x by omega,if_pos rfl]
  ·rw [if_neg hj1]
   by_cases h2:j % 2=0
   ·rw [if_pos h2,if_pos h2]
   ·rw [if_neg h2,if_neg h2,if_neg ω]
 ·have:=((h.own y hy).lt k hk).1;have:=h.FJ;simp at hm;omega
theorem aM.Mg {w w1:World} {bt ba lo n:Nat} {S:CS} (h:aM w bt ba lo n S) (x:Nat) (hx:x<n) (v:Value) (l:List Int) {F:List Nat} (hu:aa F w w1) (hF:∀g,g∈F→(S.v x).ownBlock=some g)
  (ho:w1.ownsRow lo 3 1 v l.length (aH l)) (hb:∀g,v.ownBlock=some g→(S.v x).ownBlock=some g∨w.heap.size≤g) (hl:l.length≤n):aM (w1.setCell ⟨ba,x*2,none⟩ v) bt ba lo n (S.yf x v l):=by
 have hFx:∀g,g∈F→lo≤g∧g<w.heap.size:=fun g hg=>(h.own x hx).lt g (hF g hg)
 have hl1:=h.FW;have hl2:=h.FJ;have hu2:aa [ba] w1 (w1.setCell ⟨ba,x*2,none⟩ v):=(aa.refl _ _).setCell (Or.inl σ) _;have hr:=h.row.upd hu (fun hm=>by have:=hFx _ hm;omega)
 refine ⟨(h.head.upd hu (fun hm=>by have:=hFx _ hm;omega)).upd hu2 (by simp;exact h.ne),(hr.set _ _).ext (fun j hj=>?_),fun y hy=>?_,?_,h.ne,h.FW,h.FJ,Nat.le_trans (Nat.le_trans h.low hu.size) hu2.size,h.le,?_⟩
 ·unfold bP CS.yf;simp only
  by_cases hj1:j=x*2
  ·subst hj1;rw [if_pos rfl,if_pos ω,show (x*2) / 2=x by omega,if_pos rfl]
  ·rw [if_neg hj1]
   by_cases h2:j % 2=0
   ·rw [if_pos h2,if_pos h2,if_neg ω]
   ·rw [if_neg h2,if_neg h2]
 ·unfold CS.yf;simp only
  by_cases hyx:y=x
  ·rw [if_pos hyx,if_pos hyx];exact ay ho hu2 (fun k hk hm=>by have:=(ho.lt k hk).1;simp at hm;omega)
  ·rw [if_neg hyx,if_neg hyx];have h1:=h.own y hy;have h2:=ay h1 hu (fun k hk hm=>h.sep y x hy hx hyx k hk (hF k hm))
   exact ay h2 hu2 (fun k hk hm=>by have:=(h1.lt k hk).1;simp at hm;omega)
 ·intro y z hy hz hyz g hg;unfold CS.yf at hg ⊢;simp only at hg ⊢
  by_cases hyx:y=x
  ·rw [if_pos hyx] at hg;rw [if_neg (fun e=>hyz (by rw [hyx,e]))]
   rcases hb g hg with h1|h1
   ·exact h.sep x z hx hz ω g h1
   ·intro h2;have:=((h.own z hz).lt g h2).2;omega
  ·rw [if_neg hyx] at hg
   by_cases hzx:z=x
   ·rw [if_pos hzx];intro h2;rcases hb g h2 with h1|h1
    ·exact h.sep y x hy hx hyx g hg h1
    ·have:=((h.own y hy).lt g hg).2;omega
   ·rw [if_neg hzx];exact h.sep y z hy hz hyz g hg
 ·intro y hy;unfold CS.yf;simp only
  by_cases hyx:y=x
  ·rw [if_pos hyx];exact hl
  ·rw [if_neg hyx];exact h.len y hy
structure dP (w:World) (bt ba n:Nat) (f:Nat→Value):Prop where
 head:aI w bt 250 1 (fun _=>.slice (some ⟨ba,0,none⟩) n n)
 row:aI w ba 252 (n*2) f
 ne:bt≠ba
 le:n≤65536
theorem aM.nodes {w:World} {bt ba lo n:Nat} {S:CS} (h:aM w bt ba lo n S):dP w bt ba n (bP S):=⟨h.head,h.row,h.ne,h.le⟩
theorem dP.upd {w w':World} {F:List Nat} {bt ba n:Nat} {f:Nat→Value} (h:dP w bt ba n f) (hu:aa F w w') (h1:bt∉F) (h2:ba∉F):dP w' bt ba n f:=⟨h.head.upd hu h1,h.row.upd hu h2,h.ne,h.le⟩
theorem dP.set {w:World} {bt ba n:Nat} {f:Nat→Value} (h:dP w bt ba n f) (j:Nat) (v:Value):dP (w.setCell ⟨ba,j,none⟩ v) bt ba n (fun i=>if i=j then v else f i):=
 ⟨h.head.far _ _ h.ne,h.row.set j v,h.ne,h.le⟩
theorem dP.ext {w:World} {bt ba n:Nat} {f g:Nat→Value} (h:dP w bt ba n f) (hg:∀j,j<n*2→f j=g j):dP w bt ba n g:=⟨h.head,h.row.ext hg,h.ne,h.le⟩
def oJ (f:Nat→Value) (p:Int) (ks:List Int) (i:Nat):Value:=if i % 2=1∧((i / 2:Nat):Int)∈ks then .int .i64 p else f i
def gI (f:Nat→Value) (x:Nat) (v:Value) (i:Nat):Value:=if i=x then v else f i
theorem zm (f:Nat→Value) (p:Int) (ks:List Int) (q y:Nat) (hk:ks[q]?=some (y:Int)) (i:Nat):(if i=y*2+1 then .int .i64 p else oJ f p (ks.take q) i)=oJ f p (ks.take (q+1)) i:=by
 unfold oJ;rw [List.take_add_one,hk]
 by_cases h1:i=y*2+1
 ·subst h1;rw [if_pos rfl,if_pos ⟨ω,by simp;exact Or.inr ω⟩]
 ·rw [if_neg h1]
  by_cases h2:i % 2=1∧((i / 2:Nat):Int)∈ks.take q
  ·rw [if_pos h2,if_pos ⟨h2.1,by simp only [List.mem_append];exact Or.inl h2.2⟩]
  ·rw [if_neg h2,if_neg (fun h=>by
    obtain ⟨h3,h4⟩:=h;rcases List.mem_append.1 h4 with h4|h4
    ·exact h2 ⟨h3,h4⟩
    ·simp at h4;omega)]
theorem zf (bt ba n lo x:Nat) (f:Nat→Value) (v:Value) (ks:List Int) (w:World) (h:dP w bt ba n f) (hv:gK w lo v ks.length (aH ks)) (hx:x<n) (hlo:ba<lo) (hks:∀k,k∈ks→0≤k∧k<n) :
  Calls Tryz.prog 196 #[.pointer (some ⟨bt,0,none⟩),.int .i64 (x:Int),v] w fun e w'=>e=.returned (.tuple #[])∧dP w' bt ba n (oJ (gI f (x*2) v) x ks)∧aa [ba] w w':=by
 obtain ⟨a,cap,rfl,hcp,hlc,hp⟩:=hv.open;have hle:=h.le;have hne:=h.ne;have c0:=h.head.cell 0 ω;have d0:=h.row.cell (x*2) ω;have e0:=h.row.free (x*2);have HN:dP (w.setCell ⟨ba,x*2,none⟩ (.slice a ks.length cap)) bt ba n (oJ (gI f (x*2) (.slice a ks.length cap)) x (ks.take 0)):=by
  refine (h.set (x*2) (.slice a ks.length cap)).ext (fun j hj=>?_)
  show gI f (x*2) (.slice a ks.length cap) j=_
  unfold oJ;rw [if_neg σ]
 have hu0:aa [ba] w (w.setCell ⟨ba,x*2,none⟩ (.slice a ks.length cap)):=(aa.refl _ _).setCell (Or.inl σ) _;have HP:=χ hp;have HK:=χ hks;generalize gI f (x * 2) (.slice a ks.length cap)=g at *
 clear hp hv hks h;generalize hlen:ks.length=len at *
 have HLEN:=χ hlen;clear hlen
 go_enter Tryz.func196,Tryz.ntmps196
 go_wp2
 go_loopw [18] (fun i wr=>∃q:Nat,q≤len∧i=.int .i64 (q:Int)∧dP wr bt ba n (oJ g x (ks.take q))∧aa [ba] w wr) (fun i _=>len-(intOf i).toNat)
 case atStart=>exact ⟨0,ω,rfl,HN,hu0⟩
 case round=>
  obtain ⟨q,hq,rfl,hN,hu⟩:=hrel
  by_cases hlt:q<len
  ·obtain ⟨gb,rfl,hg1,hg2,hxx⟩:=HP.out ω;obtain ⟨y,hyy⟩:∃y,ks[q]?=some y:=⟨ks[q]'(by rw [HLEN.out];exact hlt),σ⟩
   obtain ⟨hy0,hyn⟩:=HK.out y (List.mem_of_getElem? hyy);obtain ⟨Y,rfl⟩:=Int.eq_ofNat_of_zero_le hy0;have hYn:Y<n:=ω;have hc:=hxx q (.int .i64 (Y:Int)) (by unfold aH;rw [List.getElem?_map,hyy];rfl)
   have hc2:wr.cell? ⟨gb,q,none⟩=some (.int .i64 (Y:Int)):=by rw [hu.cell hg2 ζ];exact hc
   have c1:=hN.head.cell 0 ω;have d1:=hN.row.cell (Y*2+1) ω;have e1:=hN.row.free (Y*2+1);have hs:=zm g x ks q Y hyy;have HS:=χ hs;have HNN:=χ hN;clear hs hyy hxx hc hN HN;go_wp2
   go_roundw
   case rel=>exact ⟨q+1,ω,by go_num,(HNN.out.set _ _).ext (fun j hj=>HS.out j),hu.setCell (Or.inl σ) _⟩
   case measure=>simp [intOf];omega
  ·obtain rfl:q=len:=ω;rw [List.take_of_length_le (by rw [HLEN.out];omega)] at hN
   go_wp2;go_end0;exact ⟨rfl,hN,hu⟩
def fq (S:CS) (x:Nat):CS:=⟨fun y=>if y=x then .slice none 0 0 else S.v y,fun y=>if y=x then [] else S.k y,fun y=>if (y:Int)∈S.k x then -1 else S.u y⟩
theorem nN (S:CS) (x n g:Nat) (h:g∈(fq S x).blk n):g∈S.blk n:=by
 obtain ⟨y,hy,he⟩:=(CS.iF _ n g).1 h;unfold fq at he;simp only at he
 split at he
 ·cases he
 ·exact (CS.iF _ n g).2 ⟨y,hy,he⟩
theorem Dh (S:CS) (x:Nat) (j:Nat):oJ (gI (bP S) (x*2) (.slice none 0 0)) (-1) (S.k x) j=bP (fq S x) j:=by
 unfold oJ gI bP fq;simp only
 by_cases h:j % 2=0
 ·rw [if_neg ω,if_pos h]
  by_cases h2:j=x*2
  ·rw [if_pos h2,if_pos h,if_pos ω]
  ·rw [if_neg h2,if_pos h,if_neg ω]
 ·rw [if_neg h]
  by_cases h2:((j / 2:Nat):Int)∈S.k x
  ·rw [if_pos ⟨ω,h2⟩,if_neg h,if_pos h2]
  ·rw [if_neg (fun h=>h2 h.2),if_neg ω,if_neg h,if_neg h2]
theorem aM.split {w w1:World} {bt ba lo n:Nat} {S:CS} (h:aM w bt ba lo n S) (x:Nat) (hx:x<n) (hN:dP w1 bt ba n (bP (fq S x))) (hu:aa [ba] w w1):aM w1 bt ba lo n (fq S x):=by
 have h2:=h.FJ;refine ⟨hN.head,hN.row,fun y hy=>?_,fun y z hy hz hyz g hg=>?_,h.ne,h.FW,h.FJ,Nat.le_trans h.low hu.size,h.le,fun y hy=>?_⟩
 ·unfold fq;simp only
  by_cases hyx:y=x
  ·rw [if_pos hyx,if_pos hyx];exact World.ownsRow_nil _ _ _ _
  ·rw [if_neg hyx,if_neg hyx];exact ay (h.own y hy) hu (fun k hk hm=>by have:=((h.own y hy).lt k hk).1;simp at hm;omega)
 ·unfold fq at hg ⊢;simp only at hg ⊢
  by_cases hyx:y=x
  ·rw [if_pos hyx] at hg;cases hg
  ·rw [if_neg hyx] at hg
   by_cases hzx:z=x
   ·rw [if_pos hzx];intro h;cases h
   ·rw [if_neg hzx];exact h.sep y z hy hz hyz g hg
 ·unfold fq;simp only
  split
  ·exact Nat.zero_le _
  ·exact h.len y hy
theorem Iq (bt ba lo n:Nat) (S:CS) (x:Nat) (w:World) (h:aM w bt ba lo n S) (hx:x<n) (hr:lY n S x=true) (hks:∀k,k∈S.k x→0≤k∧k<n) :
  Calls Tryz.prog 193 #[.pointer (some ⟨bt,0,none⟩),.int .i64 (x:Int)] w fun e w'=>∃v,e=.returned v∧gK w' w.heap.size v (S.k x).length (aH (S.k x))∧aM w' bt ba lo n (fq S x)∧aa [ba] w w':=by
 have hle:=h.le;have hne:=h.ne;have hl2:=h.FJ;have hlow:=h.low;have hln:=h.len x hx;have k1:=tF bt ba lo n S x w h;rw [hr] at k1;have c0:=h.head.cell 0 ω;have hL:=gK.qh (h.own x hx);obtain ⟨a,cap,hv,hcp,hlc,hp⟩:=hL.open;have d0:=h.row.cellAt (x*2) ω ((kH S x).trans hv);have e0:=h.row.free (x*2);have hu0:aa [ba] w (w.setCell ⟨ba,x*2,none⟩ (.slice none 0 0)):=(aa.refl _ _).setCell (Or.inl σ) _;have HN:dP (w.setCell ⟨ba,x*2,none⟩ (.slice none 0 0)) bt ba n (oJ (gI (bP S) (x*2) (.slice none 0 0)) (-1) ((S.k x).take 0)):=by
  refine (h.nodes.set (x*2) (.slice none 0 0)).ext (fun j hj=>?_)
  show gI (bP S) (x*2) (.slice none 0 0) j=_
  unfold oJ;rw [if_neg σ]
 have HC:=fun W (hW:aa [ba] w W)=>IV W lo (.slice a (S.k x).length cap) (S.k x) (by rw [hv] at hL;exact hL.upd hW (fun k hk=>by simp at hk;omega)) ω
 have HE:=χ (Dh S x);have H:=χ h;have HP:=χ hp;have HK:=χ hks;generalize gI (bP S) (x * 2) (.slice none 0 0)=g at *
 clear h hr hks hp hL hv;generalize S.k x=ks at *
 generalize hlen:ks.length=len at *
 have HLEN:=χ hlen;clear hlen
 go_enter Tryz.func193,Tryz.ntmps193
 go_wp2_with ((go_at_call 198;(with_reducible refine (k1).mono ?_);rintro e w9 ⟨rfl,hw9⟩;rw [hw9];clear hw9 w9))
 go_loopw [29] (fun i wr=>∃q:Nat,q≤len∧i=.int .i64 (q:Int)∧dP wr bt ba n (oJ g (-1) (ks.take q))∧aa [ba] w wr) (fun i _=>len-(intOf i).toNat)
 case atStart=>exact ⟨0,ω,rfl,HN,hu0⟩
 case round=>
  obtain ⟨q,hq,rfl,hN,hu⟩:=hrel
  by_cases hlt:q<len
  ·obtain ⟨gb,rfl,hg1,hg2,hxx⟩:=HP.out ω;obtain ⟨y,hyy⟩:∃y,ks[q]?=some y:=⟨ks[q]'(by rw [HLEN.out];exact hlt),σ⟩
   obtain ⟨hy0,hyn⟩:=HK.out y (List.mem_of_getElem? hyy);obtain ⟨Y,rfl⟩:=Int.eq_ofNat_of_zero_le hy0;have hYn:Y<n:=ω;have hc:=hxx q (.int .i64 (Y:Int)) (by unfold aH;rw [List.getElem?_map,hyy];rfl)
   have hc2:wr.cell? ⟨gb,q,none⟩=some (.int .i64 (Y:Int)):=by rw [hu.cell hg2 ζ];exact hc
   have c1:=hN.head.cell 0 ω;have d1:=hN.row.cell (Y*2+1) ω;have e1:=hN.row.free (Y*2+1);have hs:=zm g (-1) ks q Y hyy;have HS:=χ hs;have HNN:=χ hN;clear hs hyy hxx hc hN HN;go_wp2
   go_roundw
   case rel=>exact ⟨q+1,ω,by go_num,(HNN.out.set _ _).ext (fun j hj=>HS.out j),hu.setCell (Or.inl σ) _⟩
   case measure=>simp [intOf];omega
  ·obtain rfl:q=len:=ω;rw [List.take_of_length_le (by rw [HLEN.out];omega)] at hN
   have kC:=HC wr hu;have hN2:=hN.ext (fun j hj=>HE.out j)
   have hsz:=hu.size;clear HC hN HN
   go_wp2_with (go_at_call 199;(with_reducible refine (kC).mono ?_);rintro e w2 ⟨v2,rfl,h2,h3⟩)
   go_ret;exact ⟨_,rfl,h2.mono hsz,H.out.split x hx (hN2.upd h3 σ σ) (hu.then h3),hu.then h3⟩
def idxOf (l:List Int) (x:Int):Int:=match l.findIdx? (fun y=>y == x) with|some i=>(i:Int)|none=>-1
theorem Bq (l:List Int) (x:Int) (k:Nat) (hn:x∉l.take k) (hk:l[k]?=some x):idxOf l x=k:=by
 have:l.findIdx? (fun y=>y == x)=some k:=by
  rw [List.findIdx?_eq_some_iff_getElem];obtain ⟨h1,h2⟩:=List.getElem?_eq_some_iff.1 hk;refine ⟨h1,by simp [h2],fun j hj=>?_⟩
  simp only [beq_iff_eq];intro e;exact hn (by rw [←e];exact List.mem_take_iff_getElem.2 ⟨j,ω,rfl⟩)
 unfold idxOf;rw [this]
theorem wL (l:List Int) (x:Int) (hn:x∉l):idxOf l x=-1:=by
 have:l.findIdx? (fun y=>y == x)=none:=by
  rw [List.findIdx?_eq_none_iff];intro y hy;simp only [beq_eq_false_iff_ne];intro e;subst e;exact hn hy
 unfold idxOf;rw [this]
theorem yV (w:World) (lo:Nat) (v:Value) (l:List Int) (x:Int) (h:gK w lo v l.length (aH l)) :
  Calls Tryz.prog 189 #[v,.int .i64 x] w fun e w'=>e=.returned (.int .i64 (idxOf l x))∧w'=w:=by
 obtain ⟨a,cap,rfl,hcp,hlc,hp⟩:=h.open;have HP:=χ hp;clear hp h;generalize hlen:l.length=len at *
 have HLEN:=χ hlen;clear hlen
 go_enter Tryz.func189,Tryz.ntmps189
 go_wp2
 go_loop [8] (fun i=>∃q:Nat,q≤len∧i=.int .i64 (q:Int)∧x∉l.take q) (fun i=>len-(intOf i).toNat)
 case atStart=>exact ⟨0,ω,rfl,σ⟩
 case round=>
  obtain ⟨q,hq,rfl,hn⟩:=hrel
  by_cases hlt:q<len
  ·obtain ⟨gb,rfl,hg1,hg2,hxx⟩:=HP.out ω;obtain ⟨y,hyy⟩:∃y,l[q]?=some y:=⟨l[q]'(by rw [HLEN.out];exact hlt),σ⟩
   have hc:=hxx q (.int .i64 y) (by unfold aH;rw [List.getElem?_map,hyy];rfl)
   by_cases hxy:x=y
   ·subst hxy;have hi:=Bq l x q hn hyy;have HI:=χ hi;clear hxx hn hyy hi;go_wp2;go_ret;exact ⟨iG HI.out.symm,rfl⟩
   ·have b1:(x == y)=false:=by simpa using hxy
    have hn2:x∉l.take (q+1):=by rw [List.take_add_one,hyy];simp;exact ⟨hn,hxy⟩
    have HN2:=χ hn2;clear hxx hn hyy hn2 hxy;go_wp2
    go_round
    case rel=>exact ⟨q+1,ω,by go_num,HN2.out⟩
    case measure=>simp [intOf];omega
  ·obtain rfl:q=len:=ω;rw [List.take_of_length_le (by rw [HLEN.out];omega)] at hn
   have HI:=χ (wL l x hn);clear hn;go_wp2;go_ret;exact ⟨iG HI.out.symm,rfl⟩
end Go.Proofs.YtklibcncmbofpaaGreat
