/-
  Lemmas for PathBest: Words, Carry, Carry2, Carry3, Carry4, Carry5, Carry6. Conditions: those of each lemma.
-/
import Derived.Deep.RegionHeldLaw
import Derived.Deep.RegionLaw
import Derived.Test.YtklibcncmbofpaaGreatB01
set_option linter.all false
set_option maxHeartbeats 8000000
set_option maxRecDepth 10000
namespace Go.Proofs.YtklibcncmbofpaaGreat
open Go Go.RowKit
def ov (o:Option Int):Int:=o.getD 0
def ob (o:Option Int):Bool:=o.isSome
structure CS where
 v:Nat->Value
 k:Nat->List Int
 u:Nat->Int
def CS.none:CS:=⟨fun _=>.slice Option.none 0 0,fun _=>[],fun _=>-1⟩
def dL (S:CS) (j:Nat):Value:=if j % 2=0 then S.v (j / 2) else .int .i64 (S.u (j / 2))
theorem nP (S:CS) (x:Nat):dL S (x*2)=S.v x:=by unfold dL;rw [if_pos ω,show x*2 / 2=x by omega]
theorem uG (S:CS) (x:Nat):dL S (x*2+1)=.int .i64 (S.u x):=by unfold dL;rw [if_neg ω,show (x*2+1) / 2=x by omega]
def CS.blk (S:CS) (n:Nat):List Nat:=(List.range n).filterMap (fun x=>(S.v x).ownBlock)
theorem CS.j6 (S:CS) (n g:Nat):g∈S.blk n↔∃x,x<n/\(S.v x).ownBlock=some g:=by unfold CS.blk;simp
structure aX (w:World) (bt ba lo n:Nat) (S:CS):Prop where
 head:aO w bt 250 1 (fun _=>.slice (some ⟨ba,0,none⟩) n n)
 row:aO w ba 252 (n*2) (dL S)
 own:∀x,x<n->w.ownsRow lo 3 1 (S.v x) (S.k x).length (aU (S.k x))
 sep:∀x y,x<n->y<n->x≠y->∀g,(S.v x).ownBlock=some g->(S.v y).ownBlock≠some g
 ne:bt≠ba
 Us:bt<lo
 Lg:ba<lo
 low:lo<=w.heap.size
 le:n<=65536
 len:∀x,x<n->(S.k x).length<=n
theorem aX.nU {w:World} {bt ba lo n:Nat} {S:CS} (h:aX w bt ba lo n S) {g:Nat} (hg:g∈S.blk n):lo<=g/\g<w.heap.size:=by
 obtain ⟨x,hx,he⟩:=(S.j6 n g).1 hg;exact (h.own x hx).lt g he
theorem aX.upd {w w':World} {F:List Nat} {bt ba lo n:Nat} {S:CS} (h:aX w bt ba lo n S) (hu:aa F w w') (h1:bt∉F) (h2:ba∉F) (h3:∀g,g∈S.blk n->g∉F):aX w' bt ba lo n S:=
 ⟨h.head.upd hu h1,h.row.upd hu h2,fun x hx=>aF (h.own x hx) hu (fun k hk=>h3 k ((S.j6 n k).2 ⟨x,hx,hk⟩)),h.sep,h.ne,h.Us,h.Lg,Nat.le_trans h.low hu.size,h.le,h.len⟩
theorem aX.aA {w w':World} {bt ba lo n:Nat} {S:CS} (h:aX w bt ba lo n S) (hu:aa [] w w'):aX w' bt ba lo n S:=h.upd hu σ σ σ
theorem nodeInfo:(Tryz.prog.info? 252).map (fun i=>(i.zero,i.size,i.bytes))=some (some (.agg #[.slice none 0 0,.int .i64 0]),2,32):=by kernel_rfl
theorem DY (n:Nat) (w:World) (h:n<=65536) :
  Calls Tryz.prog 109 #[.int .i64 (n:Int)] w fun e w'=>∃bt ba,e=.returned (.tuple #[.pointer (some ⟨bt,0,none⟩),.int .i64 0])/\aX w' bt ba w'.heap.size n CS.none/\aa [] w w'/\w.heap.size<=bt/\w.heap.size<=ba:=by
 go_enter Tryz.func109,Tryz.ntmps109
 go_wp2_with (at_make;refine wpList_make_row rfl _ 248 rfl 252 (.agg #[.slice none 0 0,.int .i64 0]) 2 32 Tryz.underlying248 nodeInfo n rfl ω μ ?_;intro w1 hr1 hu1)
 have hlt:=hr1.lt;have hz:∀j,j<n*2->(madeCells (Value.agg #[.slice none 0 0,.int .i64 0]).cells (n*2)).toList.getD j undef=if j % 2=0 then .slice none 0 0 else .int .i64 0:=fun j hj=>by
  rw [show (Value.agg #[.slice none 0 0,.int .i64 0]).cells=#[Value.slice none 0 0,Value.int .i64 0] from rfl];unfold madeCells;simp [φ,hj];rcases (ω:j % 2=0\/j % 2=1) with h2|h2<;>simp [h2]
 go_loopw [21] (fun i wr=>∃ (k:Nat) (f:Nat->Value),k<=n/\i=.int .i64 k/\aO wr w1.heap.size 250 1 (fun _=>.slice (some ⟨w.heap.size,0,none⟩) n n)/\aO wr w.heap.size 252 (n*2) f/\(∀j,j<n*2->f j=if j % 2=0 then .slice none 0 0 else .int .i64 (if j<k*2 then -1 else 0))/\aa [] w wr) (fun i _=>n-(intOf i).toNat)
 case atStart=>exact ⟨0,_,ω,rfl,eH _ _ _ |>.ext (fun j hj=>by simp at hj;subst hj;rfl),hr1.alloc _,fun j hj=>by rw [hz j hj,if_neg (show ¬j<0*2 by omega)],hu1.alloc _⟩
 case round=>
  obtain ⟨k,f,hk,rfl,hH,hR,hf,hu⟩:=hrel;have HZ:=χ hz;clear hz
  by_cases hkn:k<n
  ·have c0:=hH.cell 0 ω;have d1:=hR.cell (k*2+1) ω;have e1:=hR.free (k*2+1);have HF:=χ hf;clear hf;go_wp2
   go_roundw
   case rel=>
    refine ⟨k+1,_,ω,by go_num,hH.far _ _ ζ,hR.set _ _,fun j hj=>?_,hu.setCell (Or.inr σ) _⟩
    by_cases hj1:j=k*2+1
    ·subst hj1;rw [if_pos rfl,if_neg ω,if_pos ω]
    ·rw [if_neg hj1,HF.out j hj]
     by_cases h2:j % 2=0
     ·rw [if_pos h2,if_pos h2]
     ·rw [if_neg h2,if_neg h2]
      by_cases h3:j<k*2
      ·rw [if_pos h3,if_pos ω]
      ·rw [if_neg h3,if_neg ω]
   case measure=>simp [intOf];omega
  ·obtain rfl:k=n:=ω;go_wp2;go_ret2;exact ⟨_,_,rfl,⟨hH,hR.ext (fun j hj=>by rw [hf j hj,if_pos (show j<k*2 by omega)];rfl),fun x hx=>World.ownsRow_nil _ _ _ _,fun x y _ _ _ g hg=>by simp [CS.none,Value.ownBlock] at hg,by omega,hH.lt,hR.lt,Nat.le_refl _,h,fun x hx=>Nat.zero_le _⟩,hu,hu1.size,Nat.le_refl _⟩
theorem nN (bt ba lo n:Nat) (S:CS) (x:Int) (w:World) (h:aX w bt ba lo n S) (b:Bool) (hb:b=decide (0<=x/\x<n)) :
  Calls Tryz.prog 195 #[.pointer (some ⟨bt,0,none⟩),.int .i64 x] w fun e w'=>e=.returned (.bool b)/\w'=w:=by
 have hle:=h.le;have c0:=h.head.cell 0 ω;clear h;subst hb
 by_cases h0:0<=x
 ·by_cases h1:x<n
  ·go_enter Tryz.func195,Tryz.ntmps195
   go_wp2;go_ret;exact ⟨bf (by simp [h0,h1]),rfl⟩
  ·go_enter Tryz.func195,Tryz.ntmps195
   go_wp2;go_ret;exact ⟨bf (by simp [h0,h1]),rfl⟩
 ·go_enter Tryz.func195,Tryz.ntmps195
  go_wp2;go_ret;exact ⟨bf ζ,rfl⟩
def oV (n:Nat) (S:CS) (x:Int):Bool:=decide (0<=x/\x<n) && S.u x.toNat == -1
def oP (n:Nat) (S:CS) (x:Int):Int:=if 0<=x/\x<n then (S.k x.toNat).length else 0
def IA (n:Nat) (S:CS) (x:Int):Option Int:=if 0<=x/\x<n then (if S.u x.toNat=-1 then none else some (S.u x.toNat)) else none
theorem wY (bt ba lo n:Nat) (S:CS) (x:Int) (w:World) (h:aX w bt ba lo n S) :
  Calls Tryz.prog 198 #[.pointer (some ⟨bt,0,none⟩),.int .i64 x] w fun e w'=>e=.returned (.bool (oV n S x))/\w'=w:=by
 by_cases hx:0<=x/\x<n
 ·obtain ⟨k,rfl⟩:∃k:Nat,x=k:=⟨x.toNat,ω⟩;have hk:k<n:=ω;have hle:=h.le;have c0:=h.head.cell 0 ω;have d1:=h.row.cellAt (k*2+1) ω (uG S k);have k1:=nN bt ba lo n S k w h true (by simp [hk]);have e:oV n S k=(S.u k == -1):=by unfold oV;rw [decide_eq_true hx];simp
  rw [e];clear h e hx;generalize S.u k=u at *
  go_enter Tryz.func198,Tryz.ntmps198
  go_wp2_with (go_at_call 195;refine (k1).mono ?_;rintro e w' ⟨rfl,rfl⟩)
  go_ret;exact ⟨rfl,rfl⟩
 ·have k1:=nN bt ba lo n S x w h false (by simpa using hx);have e:oV n S x=false:=by unfold oV;rw [decide_eq_false hx];rfl
  rw [e];clear h e hx
  go_enter Tryz.func198,Tryz.ntmps198
  go_wp2_with (go_at_call 195;refine (k1).mono ?_;rintro e w' ⟨rfl,rfl⟩)
  go_ret;exact ⟨rfl,rfl⟩
theorem qU (bt ba lo n:Nat) (S:CS) (x:Int) (w:World) (h:aX w bt ba lo n S) :
  Calls Tryz.prog 204 #[.pointer (some ⟨bt,0,none⟩),.int .i64 x] w fun e w'=>e=.returned (.int .i64 (oP n S x))/\w'=w:=by
 by_cases hx:0<=x/\x<n
 ·obtain ⟨k,rfl⟩:∃k:Nat,x=k:=⟨x.toNat,ω⟩;have hk:k<n:=ω;have hle:=h.le;have c0:=h.head.cell 0 ω;obtain ⟨a,cap,hv,_⟩:=bu (h.own k hk);have d0:=h.row.cellAt (k*2) ω ((nP S k).trans hv);have k1:=nN bt ba lo n S k w h true (by simp [hk]);have e:oP n S k=((S.k k).length:Int):=by unfold oP;rw [if_pos hx];simp
  rw [e];clear h e hx hv;generalize (S.k k).length=u at *
  go_enter Tryz.func204,Tryz.ntmps204
  go_wp2_with (go_at_call 195;refine (k1).mono ?_;rintro e w' ⟨rfl,rfl⟩)
  go_ret;exact ⟨rfl,rfl⟩
 ·have k1:=nN bt ba lo n S x w h false (by simpa using hx);have e:oP n S x=0:=by unfold oP;rw [if_neg hx]
  rw [e];clear h e hx
  go_enter Tryz.func204,Tryz.ntmps204
  go_wp2_with (go_at_call 195;refine (k1).mono ?_;rintro e w' ⟨rfl,rfl⟩)
  go_ret;exact ⟨rfl,rfl⟩
theorem wG (bt ba lo n:Nat) (S:CS) (x:Int) (w:World) (h:aX w bt ba lo n S) :
  Calls Tryz.prog 188 #[.pointer (some ⟨bt,0,none⟩),.int .i64 x] w fun e w'=>e=.returned (.tuple #[.int .i64 (ov (IA n S x)),.bool (ob (IA n S x))])/\w'=w:=by
 by_cases hx:0<=x/\x<n
 ·obtain ⟨k,rfl⟩:∃k:Nat,x=k:=⟨x.toNat,ω⟩;have hk:k<n:=ω;have hle:=h.le;have c0:=h.head.cell 0 ω;have d1:=h.row.cellAt (k*2+1) ω (uG S k);have k1:=nN bt ba lo n S k w h true (by simp [hk]);have e:IA n S k=if S.u k=-1 then none else some (S.u k):=by unfold IA;rw [if_pos hx];simp
  rw [e];clear h e hx;generalize S.u k=u at *
  by_cases hu:u=-1
  ·subst hu
   go_enter Tryz.func188,Tryz.ntmps188
   go_wp2_with (go_at_call 195;refine (k1).mono ?_;rintro e w' ⟨rfl,rfl⟩)
   go_ret2;exact ⟨rfl,rfl⟩
  ·have b1:(u == -1)=false:=by simpa using hu
   rw [if_neg hu];clear hu
   go_enter Tryz.func188,Tryz.ntmps188
   go_wp2_with (go_at_call 195;refine (k1).mono ?_;rintro e w' ⟨rfl,rfl⟩)
   go_ret2;exact ⟨rfl,rfl⟩
 ·have k1:=nN bt ba lo n S x w h false (by simpa using hx);have e:IA n S x=none:=by unfold IA;rw [if_neg hx]
  rw [e];clear h e hx
  go_enter Tryz.func188,Tryz.ntmps188
  go_wp2_with (go_at_call 195;refine (k1).mono ?_;rintro e w' ⟨rfl,rfl⟩)
  go_ret2;exact ⟨rfl,rfl⟩
theorem Ny (w:World) (lo:Nat) (v:Value) (z:List Int) (h:jy w lo v z.length (aU z)) (hz:z.length<=65536) :
  Calls Tryz.prog 199 #[v] w fun e w'=>∃v',e=.returned v'/\jy w' w.heap.size v' z.length (aU z)/\aa [] w w':=by
 have h0:=h;obtain ⟨a,cap,rfl,hcp,hlc,hp⟩:=h.open;have hl:=fG z;generalize hzz:aU z=zs at *;have h1:∀u∈zs,u.oneCell'=true:=by rw [←hzz];exact Nk z
 generalize z.length=len at *;clear hzz;cases a with
 | none=>
  have hn:len=0:=by
   rcases Nat.eq_zero_or_pos len with h|h
   ·exact h
   ·obtain ⟨g,hg,_⟩:=hp h;cases hg
  subst hn;have hzs:zs=[]:=List.eq_nil_of_length_eq_zero hl;subst hzs;have hs:=fun (W:World)=>Lib.run_eql_slice_nil (P:=Tryz.prog) W 26 3 none 0 cap 0 0 Tryz.underlying26;clear hp h h0
  go_enter Tryz.func199,Tryz.ntmps199
  go_wp2;go_ret;exact ⟨_,rfl,Or.inl ⟨rfl,rfl,rfl⟩,aa.refl _ _⟩
 | some a=>
  have hs:=fun (W:World)=>Lib.run_eql_slice_nil (P:=Tryz.prog) W 26 3 (some a) len cap 0 0 Tryz.underlying26;have hL:=h.upd ((aa.refl [] w).alloc (.cells #[] 3)) σ;have hO:=qB w [] 3 w.heap.size 1 0 rfl (Nat.le_refl _) μ;clear hp h h0
  go_enter Tryz.func199,Tryz.ntmps199
  go_wp2_with (at_builtin;refine vR rfl _ _ 26 rfl w.heap.size 3 (.int .i64 0) 1 8 Tryz.underlying26 fK rfl δ _ _ _ rfl hO lo len zs _ rfl hL ω h1 μ ω σ ?_;intro v2 w2 ho2 hu2)
  go_ret;have hu3:aa [w.heap.size] (w.alloc (.cells #[] 3)) w2:=hu2;refine ⟨_,rfl,?_,((aa.refl _ _).alloc _).joined hu3 (fun x hx=>Or.inr (by simp at hx;omega))⟩;have:=jy.tK ho2;simpa using this
def rowOk (n:Nat) (S:CS) (l:List Int) (i:Nat):Bool:=oV n S (l.getD i 0) && (i == 0 || decide (oP n S (l.getD (i-1) 0)<oP n S (l.getD i 0)))
def wH (n:Nat) (S:CS) (l:List Int) (j:Nat):Bool:=(List.range j).all (rowOk n S l)
theorem Jn (n:Nat) (S:CS) (l:List Int) (j:Nat):wH n S l (j+1)=(wH n S l j && rowOk n S l j):=by
 unfold wH;rw [List.range_succ,List.all_append];simp
theorem SQ (n:Nat) (S:CS) (l:List Int) (j:Nat) (h:wH n S l j=true) (hj:rowOk n S l j=false) (m:Nat) (hm:j<m):wH n S l m=false:=by
 unfold wH;rw [List.all_eq_false];exact ⟨j,by simp [hm],by simp [hj]⟩
def N7 (n:Nat) (S:CS) (l:List Int):Bool:=wH n S l l.length
def CS.BF (S:CS) (x:Nat) (v:Value) (l:List Int):CS:=⟨fun y=>if y=x then v else S.v y,fun y=>if y=x then l else S.k y,S.u⟩
def CS.sU (S:CS) (x:Nat) (p:Int):CS:=⟨S.v,S.k,fun y=>if y=x then p else S.u y⟩
theorem CS.SS (S:CS) (x:Nat) (v:Value) (l:List Int) (n g:Nat) (h:g∈(S.BF x v l).blk n):g∈S.blk n\/v.ownBlock=some g:=by
 obtain ⟨y,hy,he⟩:=(CS.j6 _ n g).1 h;unfold CS.BF at he;simp only at he
 split at he
 ·exact Or.inr he
 ·exact Or.inl ((CS.j6 _ n g).2 ⟨y,hy,he⟩)
theorem aX.bW {w:World} {bt ba lo n:Nat} {S:CS} (h:aX w bt ba lo n S) (x:Nat) (hx:x<n) (p:Int):aX (w.setCell ⟨ba,x*2+1,none⟩ (.int .i64 p)) bt ba lo n (S.sU x p):=by
 have hu:aa [ba] w (w.setCell ⟨ba,x*2+1,none⟩ (.int .i64 p)):=(aa.refl _ _).setCell (Or.inl σ) _;refine ⟨h.head.upd hu (by simp;exact h.ne),(h.row.set _ _).ext (fun j hj=>?_),fun y hy=>aF (h.own y hy) hu (fun k hk hm=>?_),h.sep,h.ne,h.Us,h.Lg,Nat.le_trans h.low hu.size,h.le,h.len⟩
 ·unfold dL CS.sU;simp only
  by_cases hj1:j=x*2+1
  ·subst hj1;rw [if_pos rfl,if_neg ω,show (x*2+1) / 2=x by omega,if_pos rfl]
  ·rw [if_neg hj1]
   by_cases h2:j % 2=0
   ·rw [if_pos h2,if_pos h2]
   ·rw [if_neg h2,if_neg h2,if_neg ω]
 ·have:=((h.own y hy).lt k hk).1;have:=h.Lg;simp at hm;omega
theorem aX.V7 {w w1:World} {bt ba lo n:Nat} {S:CS} (h:aX w bt ba lo n S) (x:Nat) (hx:x<n) (v:Value) (l:List Int) {F:List Nat} (hu:aa F w w1) (hF:∀g,g∈F->(S.v x).ownBlock=some g)
  (ho:w1.ownsRow lo 3 1 v l.length (aU l)) (hb:∀g,v.ownBlock=some g->(S.v x).ownBlock=some g\/w.heap.size<=g) (hl:l.length<=n):aX (w1.setCell ⟨ba,x*2,none⟩ v) bt ba lo n (S.BF x v l):=by
 have WU:∀g,g∈F->lo<=g/\g<w.heap.size:=fun g hg=>(h.own x hx).lt g (hF g hg);have hl1:=h.Us;have hl2:=h.Lg;have hu2:aa [ba] w1 (w1.setCell ⟨ba,x*2,none⟩ v):=(aa.refl _ _).setCell (Or.inl σ) _;have hr:=h.row.upd hu (fun hm=>by have:=WU _ hm;omega);refine ⟨(h.head.upd hu (fun hm=>by have:=WU _ hm;omega)).upd hu2 (by simp;exact h.ne),(hr.set _ _).ext (fun j hj=>?_),fun y hy=>?_,?_,h.ne,h.Us,h.Lg,Nat.le_trans (Nat.le_trans h.low hu.size) hu2.size,h.le,?_⟩
 ·unfold dL CS.BF;simp only
  by_cases hj1:j=x*2
  ·subst hj1;rw [if_pos rfl,if_pos ω,show (x*2) / 2=x by omega,if_pos rfl]
  ·rw [if_neg hj1]
   by_cases h2:j % 2=0
   ·rw [if_pos h2,if_pos h2,if_neg ω]
   ·rw [if_neg h2,if_neg h2]
 ·unfold CS.BF;simp only
  by_cases hyx:y=x
  ·rw [if_pos hyx,if_pos hyx];exact aF ho hu2 (fun k hk hm=>by have:=(ho.lt k hk).1;simp at hm;omega)
  ·rw [if_neg hyx,if_neg hyx];have h1:=h.own y hy;have h2:=aF h1 hu (fun k hk hm=>h.sep y x hy hx hyx k hk (hF k hm));exact aF h2 hu2 (fun k hk hm=>by have:=(h1.lt k hk).1;simp at hm;omega)
 ·intro y z hy hz Rw g hg;unfold CS.BF at hg ⊢;simp only at hg ⊢
  by_cases hyx:y=x
  ·rw [if_pos hyx] at hg;rw [if_neg (fun e=>Rw (by rw [hyx,e]))];rcases hb g hg with h1|h1
   ·exact h.sep x z hx hz ω g h1
   ·intro h2;have:=((h.own z hz).lt g h2).2;omega
  ·rw [if_neg hyx] at hg
   by_cases hzx:z=x
   ·rw [if_pos hzx];intro h2;rcases hb g h2 with h1|h1
    ·exact h.sep y x hy hx hyx g hg h1
    ·have:=((h.own y hy).lt g hg).2;omega
   ·rw [if_neg hzx];exact h.sep y z hy hz Rw g hg
 ·intro y hy;unfold CS.BF;simp only
  by_cases hyx:y=x
  ·rw [if_pos hyx];exact hl
  ·rw [if_neg hyx];exact h.len y hy
structure gB (w:World) (bt ba n:Nat) (f:Nat->Value):Prop where
 head:aO w bt 250 1 (fun _=>.slice (some ⟨ba,0,none⟩) n n)
 row:aO w ba 252 (n*2) f
 ne:bt≠ba
 le:n<=65536
theorem aX.nodes {w:World} {bt ba lo n:Nat} {S:CS} (h:aX w bt ba lo n S):gB w bt ba n (dL S):=⟨h.head,h.row,h.ne,h.le⟩
theorem gB.upd {w w':World} {F:List Nat} {bt ba n:Nat} {f:Nat->Value} (h:gB w bt ba n f) (hu:aa F w w') (h1:bt∉F) (h2:ba∉F):gB w' bt ba n f:=⟨h.head.upd hu h1,h.row.upd hu h2,h.ne,h.le⟩
theorem gB.set {w:World} {bt ba n:Nat} {f:Nat->Value} (h:gB w bt ba n f) (j:Nat) (v:Value):gB (w.setCell ⟨ba,j,none⟩ v) bt ba n (fun i=>if i=j then v else f i):=
 ⟨h.head.far _ _ h.ne,h.row.set j v,h.ne,h.le⟩
theorem gB.ext {w:World} {bt ba n:Nat} {f g:Nat->Value} (h:gB w bt ba n f) (hg:∀j,j<n*2->f j=g j):gB w bt ba n g:=⟨h.head,h.row.ext hg,h.ne,h.le⟩
def rG (f:Nat->Value) (p:Int) (ks:List Int) (i:Nat):Value:=if i % 2=1/\((i / 2:Nat):Int)∈ks then .int .i64 p else f i
def jq (f:Nat->Value) (x:Nat) (v:Value) (i:Nat):Value:=if i=x then v else f i
theorem CY (f:Nat->Value) (p:Int) (ks:List Int) (q y:Nat) (hk:ks[q]?=some (y:Int)) (i:Nat):(if i=y*2+1 then .int .i64 p else rG f p (ks.take q) i)=rG f p (ks.take (q+1)) i:=by
 unfold rG;rw [List.take_add_one,hk]
 by_cases h1:i=y*2+1
 ·subst h1;rw [if_pos rfl,if_pos ⟨ω,by simp;exact Or.inr ω⟩]
 ·rw [if_neg h1]
  by_cases h2:i % 2=1/\((i / 2:Nat):Int)∈ks.take q
  ·rw [if_pos h2,if_pos ⟨h2.1,by simp only [τ];exact Or.inl h2.2⟩]
  ·rw [if_neg h2,if_neg (fun h=>by
    obtain ⟨h3,h4⟩:=h;rcases τ.1 h4 with h4|h4
    ·exact h2 ⟨h3,h4⟩
    ·simp at h4;omega)]
theorem Co (bt ba n lo x:Nat) (f:Nat->Value) (v:Value) (ks:List Int) (w:World) (h:gB w bt ba n f) (hv:jy w lo v ks.length (aU ks)) (hx:x<n) (hlo:ba<lo) (hks:∀k,k∈ks->0<=k/\k<n) :
  Calls Tryz.prog 196 #[.pointer (some ⟨bt,0,none⟩),.int .i64 (x:Int),v] w fun e w'=>e=.returned (.tuple #[])/\gB w' bt ba n (rG (jq f (x*2) v) x ks)/\aa [ba] w w':=by
 obtain ⟨a,cap,rfl,hcp,hlc,hp⟩:=hv.open;have hle:=h.le;have hne:=h.ne;have c0:=h.head.cell 0 ω;have d0:=h.row.cell (x*2) ω;have e0:=h.row.free (x*2);have HN:gB (w.setCell ⟨ba,x*2,none⟩ (.slice a ks.length cap)) bt ba n (rG (jq f (x*2) (.slice a ks.length cap)) x (ks.take 0)):=by
  refine (h.set (x*2) (.slice a ks.length cap)).ext (fun j hj=>?_)
  show jq f (x*2) (.slice a ks.length cap) j=_
  unfold rG;rw [if_neg σ]
 have hu0:aa [ba] w (w.setCell ⟨ba,x*2,none⟩ (.slice a ks.length cap)):=(aa.refl _ _).setCell (Or.inl σ) _;have HP:=χ hp;have HK:=χ hks;generalize jq f (x * 2) (.slice a ks.length cap)=g at *;clear hp hv hks h;generalize hlen:ks.length=len at *;have HLEN:=χ hlen;clear hlen
 go_enter Tryz.func196,Tryz.ntmps196
 go_wp2
 go_loopw [18] (fun i wr=>∃q:Nat,q<=len/\i=.int .i64 (q:Int)/\gB wr bt ba n (rG g x (ks.take q))/\aa [ba] w wr) (fun i _=>len-(intOf i).toNat)
 case atStart=>exact ⟨0,ω,rfl,HN,hu0⟩
 case round=>
  obtain ⟨q,hq,rfl,hN,hu⟩:=hrel
  by_cases hlt:q<len
  ·obtain ⟨gb,rfl,hg1,hg2,xU⟩:=HP.out ω;obtain ⟨y,pY⟩:∃y,ks[q]?=some y:=⟨ks[q]'(by rw [HLEN.out];exact hlt),σ⟩;obtain ⟨hy0,hyn⟩:=HK.out y (List.mem_of_getElem? pY);obtain ⟨Y,rfl⟩:=Int.eq_ofNat_of_zero_le hy0;have hYn:Y<n:=ω;have hc:=xU q (.int .i64 (Y:Int)) (by unfold aU;rw [List.getElem?_map,pY];rfl);have hc2:wr.cell? ⟨gb,q,none⟩=some (.int .i64 (Y:Int)):=by rw [hu.cell hg2 ζ];exact hc
   have c1:=hN.head.cell 0 ω;have d1:=hN.row.cell (Y*2+1) ω;have e1:=hN.row.free (Y*2+1);have hs:=CY g x ks q Y pY;have HS:=χ hs;have HNN:=χ hN;clear hs pY xU hc hN HN;go_wp2
   go_roundw
   case rel=>exact ⟨q+1,ω,by go_num,(HNN.out.set _ _).ext (fun j hj=>HS.out j),hu.setCell (Or.inl σ) _⟩
   case measure=>simp [intOf];omega
  ·obtain rfl:q=len:=ω;rw [List.take_of_length_le (by rw [HLEN.out];omega)] at hN;go_wp2;go_end0;exact ⟨rfl,hN,hu⟩
def iA (S:CS) (x:Nat):CS:=⟨fun y=>if y=x then .slice none 0 0 else S.v y,fun y=>if y=x then [] else S.k y,fun y=>if (y:Int)∈S.k x then -1 else S.u y⟩
theorem qN (S:CS) (x n g:Nat) (h:g∈(iA S x).blk n):g∈S.blk n:=by
 obtain ⟨y,hy,he⟩:=(CS.j6 _ n g).1 h;unfold iA at he;simp only at he
 split at he
 ·cases he
 ·exact (CS.j6 _ n g).2 ⟨y,hy,he⟩
theorem H9 (S:CS) (x:Nat) (j:Nat):rG (jq (dL S) (x*2) (.slice none 0 0)) (-1) (S.k x) j=dL (iA S x) j:=by
 unfold rG jq dL iA;simp only
 by_cases h:j % 2=0
 ·rw [if_neg ω,if_pos h]
  by_cases h2:j=x*2
  ·rw [if_pos h2,if_pos h,if_pos ω]
  ·rw [if_neg h2,if_pos h,if_neg ω]
 ·rw [if_neg h]
  by_cases h2:((j / 2:Nat):Int)∈S.k x
  ·rw [if_pos ⟨ω,h2⟩,if_neg h,if_pos h2]
  ·rw [if_neg (fun h=>h2 h.2),if_neg ω,if_neg h,if_neg h2]
theorem aX.split {w w1:World} {bt ba lo n:Nat} {S:CS} (h:aX w bt ba lo n S) (x:Nat) (hx:x<n) (hN:gB w1 bt ba n (dL (iA S x))) (hu:aa [ba] w w1):aX w1 bt ba lo n (iA S x):=by
 have h2:=h.Lg;refine ⟨hN.head,hN.row,fun y hy=>?_,fun y z hy hz Rw g hg=>?_,h.ne,h.Us,h.Lg,Nat.le_trans h.low hu.size,h.le,fun y hy=>?_⟩
 ·unfold iA;simp only
  by_cases hyx:y=x
  ·rw [if_pos hyx,if_pos hyx];exact World.ownsRow_nil _ _ _ _
  ·rw [if_neg hyx,if_neg hyx];exact aF (h.own y hy) hu (fun k hk hm=>by have:=((h.own y hy).lt k hk).1;simp at hm;omega)
 ·unfold iA at hg ⊢;simp only at hg ⊢
  by_cases hyx:y=x
  ·rw [if_pos hyx] at hg;cases hg
  ·rw [if_neg hyx] at hg
   by_cases hzx:z=x
   ·rw [if_pos hzx];intro h;cases h
   ·rw [if_neg hzx];exact h.sep y z hy hz Rw g hg
 ·unfold iA;simp only
  split
  ·exact Nat.zero_le _
  ·exact h.len y hy
theorem MQ (bt ba lo n:Nat) (S:CS) (x:Nat) (w:World) (h:aX w bt ba lo n S) (hx:x<n) (hr:oV n S x=true) (hks:∀k,k∈S.k x->0<=k/\k<n) :
  Calls Tryz.prog 193 #[.pointer (some ⟨bt,0,none⟩),.int .i64 (x:Int)] w fun e w'=>∃v,e=.returned v/\jy w' w.heap.size v (S.k x).length (aU (S.k x))/\aX w' bt ba lo n (iA S x)/\aa [ba] w w':=by
 have hle:=h.le;have hne:=h.ne;have hl2:=h.Lg;have hlow:=h.low;have hln:=h.len x hx;have k1:=wY bt ba lo n S x w h;rw [hr] at k1;have c0:=h.head.cell 0 ω;have hL:=jy.tK (h.own x hx);obtain ⟨a,cap,hv,hcp,hlc,hp⟩:=hL.open;have d0:=h.row.cellAt (x*2) ω ((nP S x).trans hv);have e0:=h.row.free (x*2);have hu0:aa [ba] w (w.setCell ⟨ba,x*2,none⟩ (.slice none 0 0)):=(aa.refl _ _).setCell (Or.inl σ) _;have HN:gB (w.setCell ⟨ba,x*2,none⟩ (.slice none 0 0)) bt ba n (rG (jq (dL S) (x*2) (.slice none 0 0)) (-1) ((S.k x).take 0)):=by
  refine (h.nodes.set (x*2) (.slice none 0 0)).ext (fun j hj=>?_)
  show jq (dL S) (x*2) (.slice none 0 0) j=_
  unfold rG;rw [if_neg σ]
 have HC:=fun W (hW:aa [ba] w W)=>Ny W lo (.slice a (S.k x).length cap) (S.k x) (by rw [hv] at hL;exact hL.upd hW (fun k hk=>by simp at hk;omega)) ω;have HE:=χ (H9 S x);have H:=χ h;have HP:=χ hp;have HK:=χ hks;generalize jq (dL S) (x * 2) (.slice none 0 0)=g at *;clear h hr hks hp hL hv;generalize S.k x=ks at *;generalize hlen:ks.length=len at *;have HLEN:=χ hlen;clear hlen
 go_enter Tryz.func193,Tryz.ntmps193
 go_wp2_with ((go_at_call 198;(with_reducible refine (k1).mono ?_);rintro e w9 ⟨rfl,aM⟩;rw [aM];clear aM w9))
 go_loopw [29] (fun i wr=>∃q:Nat,q<=len/\i=.int .i64 (q:Int)/\gB wr bt ba n (rG g (-1) (ks.take q))/\aa [ba] w wr) (fun i _=>len-(intOf i).toNat)
 case atStart=>exact ⟨0,ω,rfl,HN,hu0⟩
 case round=>
  obtain ⟨q,hq,rfl,hN,hu⟩:=hrel
  by_cases hlt:q<len
  ·obtain ⟨gb,rfl,hg1,hg2,xU⟩:=HP.out ω;obtain ⟨y,pY⟩:∃y,ks[q]?=some y:=⟨ks[q]'(by rw [HLEN.out];exact hlt),σ⟩;obtain ⟨hy0,hyn⟩:=HK.out y (List.mem_of_getElem? pY);obtain ⟨Y,rfl⟩:=Int.eq_ofNat_of_zero_le hy0;have hYn:Y<n:=ω;have hc:=xU q (.int .i64 (Y:Int)) (by unfold aU;rw [List.getElem?_map,pY];rfl);have hc2:wr.cell? ⟨gb,q,none⟩=some (.int .i64 (Y:Int)):=by rw [hu.cell hg2 ζ];exact hc
   have c1:=hN.head.cell 0 ω;have d1:=hN.row.cell (Y*2+1) ω;have e1:=hN.row.free (Y*2+1);have hs:=CY g (-1) ks q Y pY;have HS:=χ hs;have HNN:=χ hN;clear hs pY xU hc hN HN;go_wp2
   go_roundw
   case rel=>exact ⟨q+1,ω,by go_num,(HNN.out.set _ _).ext (fun j hj=>HS.out j),hu.setCell (Or.inl σ) _⟩
   case measure=>simp [intOf];omega
  ·obtain rfl:q=len:=ω;rw [List.take_of_length_le (by rw [HLEN.out];omega)] at hN;have kC:=HC wr hu;have Rp:=hN.ext (fun j hj=>HE.out j);have hsz:=hu.size;clear HC hN HN
   go_wp2_with (go_at_call 199;(with_reducible refine (kC).mono ?_);rintro e w2 ⟨v2,rfl,h2,h3⟩)
   go_ret;exact ⟨_,rfl,h2.mono hsz,H.out.split x hx (Rp.upd h3 σ σ) (hu.then h3),hu.then h3⟩
def idxOf (l:List Int) (x:Int):Int:=match l.findIdx? (fun y=>y == x) with|some i=>(i:Int)|none=>-1
theorem GD (l:List Int) (x:Int) (k:Nat) (hn:x∉l.take k) (hk:l[k]?=some x):idxOf l x=k:=by
 have:l.findIdx? (fun y=>y == x)=some k:=by
  rw [List.findIdx?_eq_some_iff_getElem];obtain ⟨h1,h2⟩:=List.getElem?_eq_some_iff.1 hk;refine ⟨h1,by simp [h2],fun j hj=>?_⟩;simp only [beq_iff_eq];intro e;exact hn (by rw [←e];exact List.mem_take_iff_getElem.2 ⟨j,ω,rfl⟩)
 unfold idxOf;rw [this]
theorem AY (l:List Int) (x:Int) (hn:x∉l):idxOf l x=-1:=by
 have:l.findIdx? (fun y=>y == x)=none:=by
  rw [List.findIdx?_eq_none_iff];intro y hy;simp only [beq_eq_false_iff_ne];intro e;subst e;exact hn hy
 unfold idxOf;rw [this]
theorem Cr (w:World) (lo:Nat) (v:Value) (l:List Int) (x:Int) (h:jy w lo v l.length (aU l)) :
  Calls Tryz.prog 189 #[v,.int .i64 x] w fun e w'=>e=.returned (.int .i64 (idxOf l x))/\w'=w:=by
 obtain ⟨a,cap,rfl,hcp,hlc,hp⟩:=h.open;have HP:=χ hp;clear hp h;generalize hlen:l.length=len at *;have HLEN:=χ hlen;clear hlen
 go_enter Tryz.func189,Tryz.ntmps189
 go_wp2
 go_loop [8] (fun i=>∃q:Nat,q<=len/\i=.int .i64 (q:Int)/\x∉l.take q) (fun i=>len-(intOf i).toNat)
 case atStart=>exact ⟨0,ω,rfl,σ⟩
 case round=>
  obtain ⟨q,hq,rfl,hn⟩:=hrel
  by_cases hlt:q<len
  ·obtain ⟨gb,rfl,hg1,hg2,xU⟩:=HP.out ω;obtain ⟨y,pY⟩:∃y,l[q]?=some y:=⟨l[q]'(by rw [HLEN.out];exact hlt),σ⟩;have hc:=xU q (.int .i64 y) (by unfold aU;rw [List.getElem?_map,pY];rfl)
   by_cases hxy:x=y
   ·subst hxy;have hi:=GD l x q hn pY;have HI:=χ hi;clear xU hn pY hi;go_wp2;go_ret;exact ⟨j5 HI.out.symm,rfl⟩
   ·have b1:(x == y)=false:=by simpa using hxy
    have hn2:x∉l.take (q+1):=by rw [List.take_add_one,pY];simp;exact ⟨hn,hxy⟩
    have HN2:=χ hn2;clear xU hn pY hn2 hxy;go_wp2
    go_round
    case rel=>exact ⟨q+1,ω,by go_num,HN2.out⟩
    case measure=>simp [intOf];omega
  ·obtain rfl:q=len:=ω;rw [List.take_of_length_le (by rw [HLEN.out];omega)] at hn;have HI:=χ (AY l x hn);clear hn;go_wp2;go_ret;exact ⟨j5 HI.out.symm,rfl⟩
def setAt (l:List Int) (x y:Int):List Int:=l.set (idxOf l x).toNat y
theorem lF (l:List Int) (x y:Int):(setAt l x y).length=l.length:=by unfold setAt;simp
theorem wD (l:List Int) (x:Int) (h:x∈l):∃i:Nat,i<l.length/\idxOf l x=i/\l[i]?=some x:=by
 cases hf:l.findIdx? (fun y=>y == x) with
 | none=>
  rw [List.findIdx?_eq_none_iff] at hf;have:=hf x h;simp at this
 | some i=>
  have h2:=hf;rw [List.findIdx?_eq_some_iff_getElem] at h2;obtain ⟨h3,h4,_⟩:=h2;refine ⟨i,h3,by unfold idxOf;rw [hf],?_⟩;rw [ε h3];simp at h4;rw [h4]
def iG (S:CS) (x p:Nat) (above:Int):CS:=
  ⟨fun y=>if y=x then S.v p else if y=p then S.v x else S.v y,
   fun y=>if y=x then setAt (S.k p) x p else if y=p then S.k x else if (y:Int)=above then setAt (S.k y) p x else S.k y,
   fun y=>if y=x then above else if (y:Int)∈S.k x then p else if (y:Int)∈setAt (S.k p) x p then x else S.u y⟩
def Lc (S:CS) (x p:Nat) (above:Int):Nat->Value:=
 jq (rG (jq (rG (jq (dL S) (x*2) (S.v p)) x (setAt (S.k p) x p)) (p*2) (S.v x)) p (S.k x)) (x*2+1) (.int .i64 above)
theorem qh (f:Nat->Value) (p:Int) (ks:List Int) (j:Nat) (h:j % 2=0):rG f p ks j=f j:=by unfold rG;rw [if_neg ω]
theorem nR (f:Nat->Value) (x:Nat) (v:Value) (j:Nat) (h:j≠x):jq f x v j=f j:=by unfold jq;rw [if_neg h]
theorem Ml (f:Nat->Value) (x:Nat) (v:Value):jq f x v x=v:=by unfold jq;rw [if_pos rfl]
theorem C8 (S:CS) (x p:Nat) (above:Int) (hxp:x≠p) (j:Nat):Lc S x p above j=dL (iG S x p above) j:=by
 unfold Lc
 by_cases h:j % 2=0
 ·rw [nR _ _ _ _ (show j≠x*2+1 by omega),qh _ _ _ _ h];unfold dL iG;rw [if_pos h];simp only
  by_cases h3:j / 2=x
  ·rw [nR _ _ _ _ (show j≠p*2 by omega),qh _ _ _ _ h,show j=x*2 by omega,Ml,if_pos ω]
  ·by_cases h4:j / 2=p
   ·rw [show j=p*2 by omega,Ml,if_neg ω,if_pos ω]
   ·rw [nR _ _ _ _ (show j≠p*2 by omega),qh _ _ _ _ h,nR _ _ _ _ (show j≠x*2 by omega),if_pos h,if_neg h3,if_neg h4]
 ·have h0:j % 2=1:=ω;unfold dL iG jq rG;simp only [h0,true_and]
  by_cases h3:j / 2=x
  ·rw [if_pos ω,if_neg ω,if_pos h3]
  ·rw [if_neg (show ¬j=x*2+1 by omega),if_neg (show ¬j=p*2 by omega),if_neg (show ¬j=x*2 by omega)];rw [if_neg (show ¬ (1=0) by omega),if_neg (show ¬ (1=0) by omega),if_neg h3]
   by_cases h5:((j / 2:Nat):Int)∈S.k x
   ·rw [if_pos h5,if_pos h5]
   ·rw [if_neg h5,if_neg h5]
    by_cases h6:((j / 2:Nat):Int)∈setAt (S.k p) x p
    ·rw [if_pos h6,if_pos h6]
    ·rw [if_neg h6,if_neg h6]
theorem GH {w:World} {base n cap g:Nat} {e:TypeId} {xs:List Value} (h:w.ownsRow base e 1 (.slice (some ⟨g,0,none⟩) n cap) n xs) (j:Nat) (u:Value) :
  (w.setCell ⟨g,j,none⟩ u).ownsRow base e 1 (.slice (some ⟨g,0,none⟩) n cap) n (xs.set j u):=(h.stored j u).1
theorem CW (l:List Int) (j:Nat) (y:Int):aU (l.set j y)=(aU l).set j (.int .i64 y):=by unfold aU;rw [List.map_set]
structure zZ (n:Nat) (S:CS) (x p:Nat) (above:Int):Prop where
 hx:x<n
 hp:p<n
 ne:x≠p
 up:S.u x=p
 ab:S.u p=above
 mem:(x:Int)∈S.k p
 kx:∀k,k∈S.k x->0<=k/\k<n
 kp:∀k,k∈S.k p->0<=k/\k<n
 top:above=-1\/∃q:Nat,above=q/\q<n/\q≠x/\q≠p/\(p:Int)∈S.k q
theorem aX.lift {w w5:World} {bt ba lo n:Nat} {S:CS} (h:aX w bt ba lo n S) {x p:Nat} {above:Int} (ok:zZ n S x p above) (hN:gB w5 bt ba n (dL (iG S x p above))) (hs:w.heap.size<=w5.heap.size)
  (ho:∀y,y<n->w5.ownsRow lo 3 1 ((iG S x p above).v y) ((iG S x p above).k y).length (aU ((iG S x p above).k y))):aX w5 bt ba lo n (iG S x p above):=by
 have hx:=ok.hx;have hp:=ok.hp;have hne:=ok.ne;refine ⟨hN.head,hN.row,ho,fun y z hy hz Rw g hg=>?_,h.ne,h.Us,h.Lg,Nat.le_trans h.low hs,h.le,fun y hy=>?_⟩
 ·unfold iG at hg ⊢;simp only at hg ⊢;have key:∀a b,a<n->b<n->a≠b->(S.v a).ownBlock=some g->(S.v b).ownBlock≠some g:=fun a b ha hb hab=>h.sep a b ha hb hab g
  by_cases h1:y=x
  ·rw [if_pos h1] at hg;rw [if_neg (fun e=>Rw ω)]
   by_cases h2:z=p
   ·rw [if_pos h2];exact key p x hp hx (Ne.symm hne) hg
   ·rw [if_neg h2];exact key p z hp hz (Ne.symm h2) hg
  ·rw [if_neg h1] at hg
   by_cases h2:y=p
   ·rw [if_pos h2] at hg
    by_cases h3:z=x
    ·rw [if_pos h3];exact key x p hx hp hne hg
    ·rw [if_neg h3,if_neg (fun e=>Rw ω)];exact key x z hx hz (Ne.symm h3) hg
   ·rw [if_neg h2] at hg
    by_cases h3:z=x
    ·rw [if_pos h3];exact key y p hy hp h2 hg
    ·rw [if_neg h3]
     by_cases h4:z=p
     ·rw [if_pos h4];exact key y x hy hx h1 hg
     ·rw [if_neg h4];exact key y z hy hz Rw hg
 ·unfold iG;simp only
  split
  ·rw [lF];exact h.len p hp
  ·split
   ·exact h.len x hx
   ·split
    ·rw [lF];exact h.len y hy
    ·exact h.len y hy
set_option maxRecDepth 100000 in
theorem GG (bt ba lo n:Nat) (S:CS) (x p:Nat) (above:Int) (w:World) (h:aX w bt ba lo n S) (ok:zZ n S x p above) :
  Calls Tryz.prog 190 #[.pointer (some ⟨bt,0,none⟩),.int .i64 (x:Int)] w fun e w'=>e=.returned (.bool true)/\aX w' bt ba lo n (iG S x p above)/\aa (ba::S.blk n) w w':=by
 have hx:=ok.hx;have hp:=ok.hp;have hle:=h.le;have hne:=h.ne;have hl1:=h.Us;have hl2:=h.Lg;have k1:=wG bt ba lo n S x w h;have hup:IA n S x=some (p:Int):=by unfold IA;rw [if_pos ω,show ((x:Int)).toNat=x by omega,ok.up,if_neg ω]
 rw [hup,show ov (some (p:Int))=(p:Int) from rfl,show ob (some (p:Int))=true from rfl] at k1;obtain ⟨ax,cx,hvx,_⟩:=bu (h.own x hx);obtain ⟨i,hil,hidx,hi⟩:=wD _ _ ok.mem;obtain ⟨gp,cp,hvp,hg1,hg2,hgc,hgm,hgx,hgf⟩:=gM (h.own p hp) ω;have c0:=h.head.cell 0 ω;have d0:=h.row.cellAt (x*2) ω ((nP S x).trans hvx);have d1:=h.row.cellAt (p*2) ω ((nP S p).trans hvp);have d2:=h.row.cellAt (p*2+1) ω ((uG S p).trans (by rw [ok.ab]));have hab:above≠-1->(above != -1)=true:=fun h=>by simpa using h
 clear hup
 go_enter Tryz.func190,Tryz.ntmps190
 go_wp2_with ((go_at_call 188;(with_reducible refine (k1).mono ?_);rintro e w9 ⟨rfl,aM⟩;rw [aM];clear aM w9))
 go_quiet (fail)
 have h0:aX (w.drewN nq) bt ba lo n S:=h.aA ((aa.refl _ _).drewN _);have hu0:aa (ba::S.blk n) w (w.drewN nq):=(aa.refl _ _).drewN _;generalize w.drewN nq=W at *;clear h c0 d0 d1 d2 hgx hgf k1 hg1 hg2;have hop:=h0.own p hp;have hox:=h0.own x hx;rw [hvp] at hop;have Pp:=hop.lt gp rfl;have kI:=Cr W lo _ (S.k p) x (jy.tK hop);rw [hidx] at kI;have ci:W.cell? ⟨gp,i,none⟩=some (.int .i64 (x:Int)):=by rw [hop.cellAt i ω];unfold aU;rw [List.getElem?_map,hi];rfl
 have fi:=hop.frozenAt i;have hset:(S.k p).set i p=setAt (S.k p) x p:=by unfold setAt;rw [hidx];rfl
 have YA:=GH hop i (.int .i64 (p:Int));rw [←CW,hset] at YA;have hu1:aa [gp] W (W.setCell ⟨gp,i,none⟩ (.int .i64 (p:Int))):=(aa.refl _ _).setCell (Or.inl σ) _;have hN1:=h0.nodes.upd hu1 ζ ζ;have hsl:=lF (S.k p) x p
 have kA1:=Co bt ba n lo x (dL S) _ (setAt (S.k p) x p) _ hN1 (by have:=jy.tK YA;rw [hsl];exact this) hx hl2 (fun k hk=>by
  rw [←hset] at hk;rcases List.mem_or_eq_of_mem_set hk with h|h
  ·exact ok.kp k h
  ·omega)
 have hxg:(S.v x).ownBlock≠some gp:=h0.sep p x hp hx (Ne.symm ok.ne) gp (by rw [hvp];rfl);have hox1:=aF hox hu1 (fun k hk hm=>by simp at hm;subst hm;exact hxg hk);have kA2:=fun w2 (Rp:gB w2 bt ba n (rG (jq (dL S) (x*2) (.slice (some ⟨gp,0,none⟩) (S.k p).length cp)) x (setAt (S.k p) x p))) (hu2:aa [ba] (W.setCell ⟨gp,i,none⟩ (.int .i64 (p:Int))) w2)=>
  Co bt ba n lo p _ (S.v x) (S.k x) w2 Rp (jy.tK (aF hox1 hu2 (fun k hk hm=>by have:=(hox.lt k hk).1;simp at hm;omega))) hp hl2 ok.kx
 rw [hvx] at kA2;have Sv:∀y,y<n->∀g,(S.v y).ownBlock=some g->g∈S.blk n:=fun y hy g hg=>(S.j6 n g).2 ⟨y,hy,hg⟩;have hgpb:gp∈S.blk n:=Sv p hp gp (by rw [hvp];rfl);have hall:∀y,y<n->y≠p->(S.v y).ownBlock≠some gp:=fun y hy hyp=>h0.sep p y hp hy (Ne.symm hyp) gp (by rw [hvp];rfl);have hun1:∀y,y<n->y≠p->∀w4,aa [ba] (W.setCell ⟨gp,i,none⟩ (.int .i64 (p:Int))) w4->w4.ownsRow lo 3 1 (S.v y) (S.k y).length (aU (S.k y)):=fun y hy hyp w4 hw=>
  aF (aF (h0.own y hy) hu1 (fun k hk hm=>by simp at hm;subst hm;exact hall y hy hyp hk)) hw (fun k hk hm=>by have:=((h0.own y hy).lt k hk).1;simp at hm;omega)
 have hun2:∀w4,aa [ba] (W.setCell ⟨gp,i,none⟩ (.int .i64 (p:Int))) w4->w4.ownsRow lo 3 1 (S.v p) (setAt (S.k p) x p).length (aU (setAt (S.k p) x p)):=fun w4 hw=>by
  rw [hsl,hvp];exact aF YA hw (fun k hk hm=>by simp [Value.ownBlock] at hk;simp at hm;omega)
 have HALL:=χ hall;have TC:=χ hun1;have HUN2:=χ hun2;have HM:=χ Sv;have H0:=χ h0;have OK:=χ ok;have HVX:=χ hvx;have HVP:=χ hvp;have HSET:=χ hset;have HSL:=χ hsl;have htop:=ok.top;clear hset hsl ok h0 hvx hvp hidx hi hall hun1 hun2 Sv;rcases htop with rfl|⟨q,rfl,hq,hqx,ZX,hqm⟩
 ·go_wp2_with (first
   | (go_at_call 189;(with_reducible refine (kI).mono ?_);rintro e w9 ⟨rfl,aM⟩;rw [aM];clear aM w9)
   | ((go_at_call 196;(with_reducible refine (kA1).mono ?_));rintro e w2 ⟨rfl,Rp,hu2⟩)
   | ((go_at_call 196;(with_reducible refine (kA2 _ Rp hu2).mono ?_));rintro e w3 ⟨rfl,Uo,hu3⟩;have c3:=Uo.head.cell 0 ω;have d3:=Uo.row.cell (x*2+1) ω;have e3:=Uo.row.free (x*2+1)))
  go_ret;have hw4:=(hu2.trans hu3).setCell (p:=⟨ba,x*2+1,none⟩) (Or.inl σ) (.int .i64 (-1))
  have hN4:gB (w3.setCell ⟨ba,x*2+1,none⟩ (.int .i64 (-1))) bt ba n (dL (iG S x p (-1))):=(Uo.set (x*2+1) (.int .i64 (-1))).ext (fun j hj=>by
   rw [←C8 S x p (-1) OK.out.ne j];unfold Lc
   rw [HVX.out,HVP.out];rfl)
  refine ⟨rfl,H0.out.lift OK.out hN4 (Nat.le_trans hu1.size hw4.size) (fun y hy=>?_),(hu0.trans (hu1.mono (by simp;exact Or.inr hgpb))).trans (hw4.mono σ)⟩;unfold iG;simp only
  by_cases hyx:y=x
  ·rw [if_pos hyx,if_pos hyx];exact HUN2.out _ hw4
  ·rw [if_neg hyx,if_neg hyx]
   by_cases hyp:y=p
   ·rw [if_pos hyp,if_pos hyp];exact TC.out x hx OK.out.ne _ hw4
   ·rw [if_neg hyp,if_neg hyp,if_neg ω];exact TC.out y hy hyp _ hw4
 ·obtain ⟨j,hjl,Yi,hj⟩:=wD _ _ hqm;have hoq:=H0.out.own q hq;obtain ⟨gq,cq,hvq,hq1,hq2,hqc,hqm2,hqx2,hqf⟩:=gM hoq ω;have b4:((q:Int) != -1)=true:=by rw [bne_iff_ne];omega
  have Vq:=TC.out q hq ZX;rw [hvq] at Vq;have kI2:=fun W4 h4=>Cr W4 lo _ (S.k q) p (jy.tK (Vq W4 h4));rw [Yi] at kI2;have HJ:=χ Yi;have HJ2:=χ hj;have HVQ:=χ hvq;have hz1:=nP S q;rw [hvq] at hz1;have HZ:=χ hz1;clear Yi hj hvq hz1 hoq hqx2 hqf hab
  go_wp2_with (first
   | (go_at_call 189;(with_reducible refine (kI).mono ?_);rintro e w9 ⟨rfl,aM⟩;rw [aM];clear aM w9)
   | ((go_at_call 196;(with_reducible refine (kA1).mono ?_));rintro e w2 ⟨rfl,Rp,hu2⟩)
   | ((go_at_call 196;(with_reducible refine (kA2 _ Rp hu2).mono ?_));rintro e w3 ⟨rfl,Uo,hu3⟩;have c3:=Uo.head.cell 0 ω;have d3:=Uo.row.cell (x*2+1) ω;have e3:=Uo.row.free (x*2+1);have hN4:=Uo.set (x*2+1) (.int .i64 (q:Int));have hw4:=(hu2.trans hu3).setCell (p:=⟨ba,x*2+1,none⟩) (Or.inl σ) (.int .i64 (q:Int));have c4:=hN4.head.cell 0 ω;have d4:=hN4.row.cellAt (q*2) ω (v:=.slice (some ⟨gq,0,none⟩) (S.k q).length cq) (by
     rw [if_neg ω,qh _ _ _ _ ω,nR _ _ _ _ ω,qh _ _ _ _ ω,nR _ _ _ _ ω];exact HZ.out);have o4:=Vq _ hw4;have d5:=o4.cellAt j ω;have e5:=o4.frozenAt j;rw [show (aU (S.k q))[j]?=some (.int .i64 (p:Int)) by unfold aU;rw [List.getElem?_map,HJ2.out];rfl] at d5;have kI3:=kI2 _ hw4;clear Vq kI2)
   | (go_at_call 189;(with_reducible refine (kI3).mono ?_);rintro e w9 ⟨rfl,aM⟩;rw [aM];clear aM w9))
  go_ret
  have hN5:gB (w3.setCell ⟨ba,x*2+1,none⟩ (.int .i64 (q:Int))) bt ba n (dL (iG S x p q)):=(Uo.set (x*2+1) (.int .i64 (q:Int))).ext (fun j hj=>by
   rw [←C8 S x p q OK.out.ne j];unfold Lc
   rw [HVX.out,HVP.out];rfl)
  have Pv:aa [gq] (w3.setCell ⟨ba,x*2+1,none⟩ (.int .i64 (q:Int))) ((w3.setCell ⟨ba,x*2+1,none⟩ (.int .i64 (q:Int))).setCell ⟨gq,j,none⟩ (.int .i64 (x:Int))):=(aa.refl _ _).setCell (Or.inl σ) _;have hgq:(S.v q).ownBlock=some gq:=by rw [HVQ.out];rfl
  have Sb:∀y,y<n->y≠q->∀k,(S.v y).ownBlock=some k->k∉[gq]:=fun y hy hyq k hk hm=>by
   simp at hm;subst hm;exact H0.out.sep y q hy hq hyq k hk hgq
  refine ⟨rfl,H0.out.lift OK.out (hN5.upd Pv ζ ζ) (Nat.le_trans (Nat.le_trans hu1.size hw4.size) Pv.size) (fun y hy=>?_),((hu0.trans (hu1.mono (by simp;exact Or.inr hgpb))).trans (hw4.mono σ)).trans (Pv.mono (by simp;exact Or.inr (HM.out q hq gq hgq)))⟩;unfold iG;simp only
  by_cases hyx:y=x
  ·rw [if_pos hyx,if_pos hyx];exact aF (HUN2.out _ hw4) Pv (Sb p hp (Ne.symm ZX))
  ·rw [if_neg hyx,if_neg hyx]
   by_cases hyp:y=p
   ·rw [if_pos hyp,if_pos hyp];exact aF (TC.out x hx OK.out.ne _ hw4) Pv (Sb x hx (Ne.symm hqx))
   ·rw [if_neg hyp,if_neg hyp]
    by_cases hyq:y=q
    ·subst hyq;rw [if_pos rfl,lF,HVQ.out];have:=GH o4 j (.int .i64 (x:Int));rw [←CW] at this;unfold setAt;rw [HJ.out];exact this
    ·rw [if_neg ω];exact aF (TC.out y hy hyp _ hw4) Pv (Sb y hy hyq)
end Go.Proofs.YtklibcncmbofpaaGreat
