/-
  Lemmas for ProofHolds: Words, Carry, Carry2, Carry3, Carry4, Carry5, Carry6, Off, Carry8. Conditions: those of each lemma.
-/
import Derived.Deep.RegionHeldLaw
import Derived.Deep.RegionLaw
import Derived.ArgAppend
import Derived.Test.YtklibcncmbofpaaGreatR01
set_option linter.all false
set_option maxHeartbeats 8000000
set_option maxRecDepth 10000
namespace Go.Proofs.YtklibcncmbofpaaGreat
open Go Go.RowKit
def ov(o:Option Int):Int:=o.getD 0
def ob(o:Option Int):Bool:=o.isSome
structure CS where
 v:Nat->Value
 k:Nat->List Int
 u:Nat->Int
def CS.none:CS:=⟨fun _=>.slice Option.none 0 0,fun _=>[],fun _=>-1⟩
def dC(S:CS)(j:Nat):Value:=if j % 2=0 then S.v (j / 2)else .int .i64 (S.u (j / 2))
theorem nH(S:CS)(x:Nat):dC S (x*2)=S.v x:=by unfold dC;rw[if_pos ω,show x*2 / 2=x by omega]
theorem uL(S:CS)(x:Nat):dC S (x*2+1)=.int .i64 (S.u x):=by unfold dC;rw[if_neg ω,show(x*2+1) / 2=x by omega]
def CS.blk(S:CS)(n:Nat):List Nat:=(List.range n).filterMap (fun x=>(S.v x).ownBlock)
theorem CS.jY(S:CS)(n g:Nat):g∈S.blk n↔∃x,x<n/\(S.v x).ownBlock=some g:=by unfold CS.blk;simp
structure aY(w:World)(bt ba lo n:Nat)(S:CS):Prop where
 head:aL w bt 250 1 (fun _=>.slice (some ⟨ba,0,none⟩) n n)
 row:aL w ba 252 (n*2) (dC S)
 own:∀x,x<n->w.ownsRow lo 3 1 (S.v x) (S.k x).length (aQ (S.k x))
 sep:∀x y,x<n->y<n->x≠y->∀g,(S.v x).ownBlock=some g->(S.v y).ownBlock≠some g
 ne:bt≠ba
 Ux:bt<lo
 MQ:ba<lo
 low:lo<=w.heap.size
 le:n<=65536
 len:∀x,x<n->(S.k x).length<=n
theorem aY.nX{w:World}{bt ba lo n:Nat}{S:CS}(h:aY w bt ba lo n S){g:Nat}(hg:g∈S.blk n):lo<=g/\g<w.heap.size:=by
 obtain⟨x,hx,he⟩:=(S.jY n g).1 hg;exact(h.own x hx).lt g he
theorem aY.upd{w w':World}{F:List Nat}{bt ba lo n:Nat}{S:CS}(h:aY w bt ba lo n S)(hu:aa F w w')(h1:bt∉F)(h2:ba∉F)(h3:∀g,g∈S.blk n->g∉F):aY w' bt ba lo n S:=
 ⟨h.head.upd hu h1,h.row.upd hu h2,fun x hx=>aC (h.own x hx) hu (fun k hk=>h3 k ((S.jY n k).2 ⟨x,hx,hk⟩)),h.sep,h.ne,h.Ux,h.MQ,Nat.le_trans h.low hu.size,h.le,h.len⟩
theorem aY.au{w w':World}{bt ba lo n:Nat}{S:CS}(h:aY w bt ba lo n S)(hu:aa [] w w'):aY w' bt ba lo n S:=h.upd hu σ σ σ
theorem nodeInfo:(Tryz.prog.info? 252).map (fun i=>(i.zero,i.size,i.bytes))=some (some (.agg #[.slice none 0 0,.int .i64 0]),2,32):=by kernel_rfl
theorem EO(n:Nat)(w:World)(h:n<=65536) :
  Calls Tryz.prog 109 #[.int .i64 (n:Int)] w fun e w'=>∃bt ba,e=.returned (.tuple #[.pointer (some ⟨bt,0,none⟩),.int .i64 0])/\aY w' bt ba w'.heap.size n CS.none/\aa [] w w'/\w.heap.size<=bt/\w.heap.size<=ba:=by
 go_enter Tryz.func109,Tryz.ntmps109
 go_wp2_with (at_make;refine wpList_make_row rfl _ 248 rfl 252 (.agg #[.slice none 0 0,.int .i64 0]) 2 32 Tryz.underlying248 nodeInfo n rfl ω μ ?_;intro w1 hr1 hu1)
 have hlt:=hr1.lt;have hz:∀j,j<n*2->(madeCells (Value.agg #[.slice none 0 0,.int .i64 0]).cells (n*2)).toList.getD j undef=if j % 2=0 then .slice none 0 0 else .int .i64 0:=fun j hj=>by
  rw[show(Value.agg #[.slice none 0 0,.int .i64 0]).cells=#[Value.slice none 0 0,Value.int .i64 0]from rfl];unfold madeCells;simp[φ,hj];rcases(ω:j % 2=0\/j % 2=1)with h2|h2<;>simp[h2]
 go_loopw [21] (fun i wr=>∃ (k:Nat) (f:Nat->Value),k<=n/\i=.int .i64 k/\aL wr w1.heap.size 250 1 (fun _=>.slice (some ⟨w.heap.size,0,none⟩) n n)/\aL wr w.heap.size 252 (n*2) f/\(∀j,j<n*2->f j=if j % 2=0 then .slice none 0 0 else .int .i64 (if j<k*2 then -1 else 0))/\aa [] w wr) (fun i _=>n-(intOf i).toNat)
 case atStart=>exact⟨0,_,ω,rfl,dP _ _ _ |>.ext (fun j hj=>by simp at hj;subst hj;rfl),hr1.alloc _,fun j hj=>by rw[hz j hj,if_neg (show ¬j<0*2 by omega)],hu1.alloc _⟩
 case round=>
  obtain⟨k,f,hk,rfl,hH,hR,hf,hu⟩:=hrel;have HZ:=χ hz;clear hz
  by_cases hkn:k<n
  ·have c0:=hH.cell 0 ω;have d1:=hR.cell (k*2+1) ω;have e1:=hR.free (k*2+1);have HF:=χ hf;clear hf;go_wp2
   go_roundw
   case rel=>
    refine⟨k+1,_,ω,by go_num,hH.far _ _ ζ,hR.set _ _,fun j hj=>?_,hu.setCell (Or.inr σ) _⟩
    by_cases hj1:j=k*2+1
    ·subst hj1;rw[if_pos rfl,if_neg ω,if_pos ω]
    ·rw[if_neg hj1,HF.out j hj]
     by_cases h2:j % 2=0
     ·rw[if_pos h2,if_pos h2]
     ·rw[if_neg h2,if_neg h2]
      by_cases h3:j<k*2
      ·rw[if_pos h3,if_pos ω]
      ·rw[if_neg h3,if_neg ω]
   case measure=>simp[intOf];omega
  ·obtain rfl:k=n:=ω;go_wp2;go_ret2;exact⟨_,_,rfl,⟨hH,hR.ext (fun j hj=>by rw[hf j hj,if_pos (show j<k*2 by omega)];rfl),fun x hx=>World.ownsRow_nil _ _ _ _,fun x y _ _ _ g hg=>by simp[CS.none,Value.ownBlock]at hg,by omega,hH.lt,hR.lt,Nat.le_refl _,h,fun x hx=>Nat.zero_le _⟩,hu,hu1.size,Nat.le_refl _⟩
theorem nJ(bt ba lo n:Nat)(S:CS)(x:Int)(w:World)(h:aY w bt ba lo n S)(b:Bool)(hb:b=decide (0<=x/\x<n)) :
  Calls Tryz.prog 195 #[.pointer (some ⟨bt,0,none⟩),.int .i64 x] w fun e w'=>e=.returned (.bool b)/\w'=w:=by
 have hle:=h.le;have c0:=h.head.cell 0 ω;clear h;subst hb
 by_cases h0:0<=x
 ·by_cases h1:x<n
  ·go_enter Tryz.func195,Tryz.ntmps195
   go_wp2;go_ret;exact⟨aT (by simp[h0,h1]),rfl⟩
  ·go_enter Tryz.func195,Tryz.ntmps195
   go_wp2;go_ret;exact⟨aT (by simp[h0,h1]),rfl⟩
 ·go_enter Tryz.func195,Tryz.ntmps195
  go_wp2;go_ret;exact⟨aT ζ,rfl⟩
def oQ(n:Nat)(S:CS)(x:Int):Bool:=decide (0<=x/\x<n) && S.u x.toNat == -1
def oL(n:Nat)(S:CS)(x:Int):Int:=if 0<=x/\x<n then (S.k x.toNat).length else 0
def I7(n:Nat)(S:CS)(x:Int):Option Int:=if 0<=x/\x<n then (if S.u x.toNat=-1 then none else some (S.u x.toNat))else none
theorem xe(bt ba lo n:Nat)(S:CS)(x:Int)(w:World)(h:aY w bt ba lo n S) :
  Calls Tryz.prog 198 #[.pointer (some ⟨bt,0,none⟩),.int .i64 x] w fun e w'=>e=.returned (.bool (oQ n S x))/\w'=w:=by
 by_cases hx:0<=x/\x<n
 ·obtain⟨k,rfl⟩:∃k:Nat,x=k:=⟨x.toNat,ω⟩;have hk:k<n:=ω;have hle:=h.le;have c0:=h.head.cell 0 ω;have d1:=h.row.cellAt (k*2+1) ω (uL S k);have k1:=nJ bt ba lo n S k w h true (by simp[hk]);have e:oQ n S k=(S.u k == -1):=by unfold oQ;rw[decide_eq_true hx];simp
  rw[e];clear h e hx;generalize S.u k=u at *
  go_enter Tryz.func198,Tryz.ntmps198
  go_wp2_with (go_at_call 195;refine(k1).mono ?_;rintro e w' ⟨rfl,rfl⟩)
  go_ret;exact⟨rfl,rfl⟩
 ·have k1:=nJ bt ba lo n S x w h false (by simpa using hx);have e:oQ n S x=false:=by unfold oQ;rw[decide_eq_false hx];rfl
  rw[e];clear h e hx
  go_enter Tryz.func198,Tryz.ntmps198
  go_wp2_with (go_at_call 195;refine(k1).mono ?_;rintro e w' ⟨rfl,rfl⟩)
  go_ret;exact⟨rfl,rfl⟩
theorem qN(bt ba lo n:Nat)(S:CS)(x:Int)(w:World)(h:aY w bt ba lo n S) :
  Calls Tryz.prog 204 #[.pointer (some ⟨bt,0,none⟩),.int .i64 x] w fun e w'=>e=.returned (.int .i64 (oL n S x))/\w'=w:=by
 by_cases hx:0<=x/\x<n
 ·obtain⟨k,rfl⟩:∃k:Nat,x=k:=⟨x.toNat,ω⟩;have hk:k<n:=ω;have hle:=h.le;have c0:=h.head.cell 0 ω;obtain⟨a,cap,hv,_⟩:=bq (h.own k hk);have d0:=h.row.cellAt (k*2) ω ((nH S k).trans hv);have k1:=nJ bt ba lo n S k w h true (by simp[hk]);have e:oL n S k=((S.k k).length:Int):=by unfold oL;rw[if_pos hx];simp
  rw[e];clear h e hx hv;generalize (S.k k).length=u at *
  go_enter Tryz.func204,Tryz.ntmps204
  go_wp2_with (go_at_call 195;refine(k1).mono ?_;rintro e w' ⟨rfl,rfl⟩)
  go_ret;exact⟨rfl,rfl⟩
 ·have k1:=nJ bt ba lo n S x w h false (by simpa using hx);have e:oL n S x=0:=by unfold oL;rw[if_neg hx]
  rw[e];clear h e hx
  go_enter Tryz.func204,Tryz.ntmps204
  go_wp2_with (go_at_call 195;refine(k1).mono ?_;rintro e w' ⟨rfl,rfl⟩)
  go_ret;exact⟨rfl,rfl⟩
theorem wh(bt ba lo n:Nat)(S:CS)(x:Int)(w:World)(h:aY w bt ba lo n S) :
  Calls Tryz.prog 188 #[.pointer (some ⟨bt,0,none⟩),.int .i64 x] w fun e w'=>e=.returned (.tuple #[.int .i64 (ov (I7 n S x)),.bool (ob (I7 n S x))])/\w'=w:=by
 by_cases hx:0<=x/\x<n
 ·obtain⟨k,rfl⟩:∃k:Nat,x=k:=⟨x.toNat,ω⟩;have hk:k<n:=ω;have hle:=h.le;have c0:=h.head.cell 0 ω;have d1:=h.row.cellAt (k*2+1) ω (uL S k);have k1:=nJ bt ba lo n S k w h true (by simp[hk]);have e:I7 n S k=if S.u k=-1 then none else some (S.u k):=by unfold I7;rw[if_pos hx];simp
  rw[e];clear h e hx;generalize S.u k=u at *
  by_cases hu:u=-1
  ·subst hu
   go_enter Tryz.func188,Tryz.ntmps188
   go_wp2_with (go_at_call 195;refine(k1).mono ?_;rintro e w' ⟨rfl,rfl⟩)
   go_ret2;exact⟨rfl,rfl⟩
  ·have b1:(u == -1)=false:=by simpa using hu
   rw[if_neg hu];clear hu
   go_enter Tryz.func188,Tryz.ntmps188
   go_wp2_with (go_at_call 195;refine(k1).mono ?_;rintro e w' ⟨rfl,rfl⟩)
   go_ret2;exact⟨rfl,rfl⟩
 ·have k1:=nJ bt ba lo n S x w h false (by simpa using hx);have e:I7 n S x=none:=by unfold I7;rw[if_neg hx]
  rw[e];clear h e hx
  go_enter Tryz.func188,Tryz.ntmps188
  go_wp2_with (go_at_call 195;refine(k1).mono ?_;rintro e w' ⟨rfl,rfl⟩)
  go_ret2;exact⟨rfl,rfl⟩
theorem Nj(w:World)(lo:Nat)(v:Value)(z:List Int)(h:jq w lo v z.length (aQ z))(hz:z.length<=65536) :
  Calls Tryz.prog 199 #[v] w fun e w'=>∃v',e=.returned v'/\jq w' w.heap.size v' z.length (aQ z)/\aa [] w w':=by
 have h0:=h;obtain⟨a,cap,rfl,hcp,hlc,hp⟩:=h.open;have hl:=eZ z;generalize hzz:aQ z=zs at *;have h1:∀u∈zs,u.oneCell'=true:=by rw[←hzz];exact O4 z
 generalize z.length=len at *;clear hzz;cases a with
 | none=>
  have hn:len=0:=by
   rcases Nat.eq_zero_or_pos len with h|h
   ·exact h
   ·obtain⟨g,hg,_⟩:=hp h;cases hg
  subst hn;have hzs:zs=[]:=List.eq_nil_of_length_eq_zero hl;subst hzs;have hs:=fun(W:World)=>Lib.run_eql_slice_nil (P:=Tryz.prog) W 26 3 none 0 cap 0 0 Tryz.underlying26;clear hp h h0
  go_enter Tryz.func199,Tryz.ntmps199
  go_wp2;go_ret;exact⟨_,rfl,Or.inl ⟨rfl,rfl,rfl⟩,aa.refl _ _⟩
 | some a=>
  have hs:=fun(W:World)=>Lib.run_eql_slice_nil (P:=Tryz.prog) W 26 3 (some a) len cap 0 0 Tryz.underlying26;have hL:=h.upd ((aa.refl [] w).alloc (.cells #[] 3)) σ;have hO:=nE w [] 3 w.heap.size 1 0 rfl (Nat.le_refl _) μ;clear hp h h0
  go_enter Tryz.func199,Tryz.ntmps199
  go_wp2_with (at_builtin;refine wV rfl _ _ 26 rfl w.heap.size 3 (.int .i64 0) 1 8 Tryz.underlying26 fF rfl δ _ _ _ rfl hO lo len zs _ rfl hL ω h1 μ ω σ ?_;intro v2 w2 ho2 hu2)
  go_ret;have hu3:aa [w.heap.size] (w.alloc (.cells #[] 3)) w2:=hu2;refine⟨_,rfl,?_,((aa.refl _ _).alloc _).joined hu3 (fun x hx=>Or.inr (by simp at hx;omega))⟩;have:=jq.uj ho2;simpa using this
def rowOk(n:Nat)(S:CS)(l:List Int)(i:Nat):Bool:=oQ n S (l.getD i 0) && (i == 0 || decide (oL n S (l.getD (i-1) 0)<oL n S (l.getD i 0)))
def wD(n:Nat)(S:CS)(l:List Int)(j:Nat):Bool:=(List.range j).all (rowOk n S l)
theorem JF(n:Nat)(S:CS)(l:List Int)(j:Nat):wD n S l (j+1)=(wD n S l j && rowOk n S l j):=by
 unfold wD;rw[List.range_succ,List.all_append];simp
theorem Rp(n:Nat)(S:CS)(l:List Int)(j:Nat)(h:wD n S l j=true)(hj:rowOk n S l j=false)(m:Nat)(hm:j<m):wD n S l m=false:=by
 unfold wD;rw[List.all_eq_false];exact⟨j,by simp[hm],by simp[hj]⟩
def Ot(n:Nat)(S:CS)(l:List Int):Bool:=wD n S l l.length
def CS.Cb(S:CS)(x:Nat)(v:Value)(l:List Int):CS:=⟨fun y=>if y=x then v else S.v y,fun y=>if y=x then l else S.k y,S.u⟩
def CS.sj(S:CS)(x:Nat)(p:Int):CS:=⟨S.v,S.k,fun y=>if y=x then p else S.u y⟩
theorem CS.QB(S:CS)(x:Nat)(v:Value)(l:List Int)(n g:Nat)(h:g∈(S.Cb x v l).blk n):g∈S.blk n\/v.ownBlock=some g:=by
 obtain⟨y,hy,he⟩:=(CS.jY _ n g).1 h;unfold CS.Cb at he;simp only at he
 split at he
 ·exact Or.inr he
 ·exact Or.inl ((CS.jY _ n g).2 ⟨y,hy,he⟩)
theorem aY.bR{w:World}{bt ba lo n:Nat}{S:CS}(h:aY w bt ba lo n S)(x:Nat)(hx:x<n)(p:Int):aY (w.setCell ⟨ba,x*2+1,none⟩ (.int .i64 p)) bt ba lo n (S.sj x p):=by
 have hu:aa [ba] w (w.setCell ⟨ba,x*2+1,none⟩ (.int .i64 p)):=(aa.refl _ _).setCell (Or.inl σ) _;refine⟨h.head.upd hu (by simp;exact h.ne),(h.row.set _ _).ext (fun j hj=>?_),fun y hy=>aC (h.own y hy) hu (fun k hk hm=>?_),h.sep,h.ne,h.Ux,h.MQ,Nat.le_trans h.low hu.size,h.le,h.len⟩
 ·unfold dC CS.sj;simp only
  by_cases hj1:j=x*2+1
  ·subst hj1;rw[if_pos rfl,if_neg ω,show(x*2+1) / 2=x by omega,if_pos rfl]
  ·rw[if_neg hj1]
   by_cases h2:j % 2=0
   ·rw[if_pos h2,if_pos h2]
   ·rw[if_neg h2,if_neg h2,if_neg ω]
 ·have:=((h.own y hy).lt k hk).1;have:=h.MQ;simp at hm;omega
theorem aY.WH{w w1:World}{bt ba lo n:Nat}{S:CS}(h:aY w bt ba lo n S)(x:Nat)(hx:x<n)(v:Value)(l:List Int){F:List Nat}(hu:aa F w w1)(hF:∀g,g∈F->(S.v x).ownBlock=some g)
  (ho:w1.ownsRow lo 3 1 v l.length (aQ l)) (hb:∀g,v.ownBlock=some g->(S.v x).ownBlock=some g\/w.heap.size<=g) (hl:l.length<=n):aY (w1.setCell ⟨ba,x*2,none⟩ v) bt ba lo n (S.Cb x v l):=by
 have Xn:∀g,g∈F->lo<=g/\g<w.heap.size:=fun g hg=>(h.own x hx).lt g (hF g hg);have hl1:=h.Ux;have hl2:=h.MQ;have hu2:aa [ba] w1 (w1.setCell ⟨ba,x*2,none⟩ v):=(aa.refl _ _).setCell (Or.inl σ) _;have hr:=h.row.upd hu (fun hm=>by have:=Xn _ hm;omega);refine⟨(h.head.upd hu (fun hm=>by have:=Xn _ hm;omega)).upd hu2 (by simp;exact h.ne),(hr.set _ _).ext (fun j hj=>?_),fun y hy=>?_,?_,h.ne,h.Ux,h.MQ,Nat.le_trans (Nat.le_trans h.low hu.size) hu2.size,h.le,?_⟩
 ·unfold dC CS.Cb;simp only
  by_cases hj1:j=x*2
  ·subst hj1;rw[if_pos rfl,if_pos ω,show(x*2) / 2=x by omega,if_pos rfl]
  ·rw[if_neg hj1]
   by_cases h2:j % 2=0
   ·rw[if_pos h2,if_pos h2,if_neg ω]
   ·rw[if_neg h2,if_neg h2]
 ·unfold CS.Cb;simp only
  by_cases hyx:y=x
  ·rw[if_pos hyx,if_pos hyx];exact aC ho hu2 (fun k hk hm=>by have:=(ho.lt k hk).1;simp at hm;omega)
  ·rw[if_neg hyx,if_neg hyx];have h1:=h.own y hy;have h2:=aC h1 hu (fun k hk hm=>h.sep y x hy hx hyx k hk (hF k hm));exact aC h2 hu2 (fun k hk hm=>by have:=(h1.lt k hk).1;simp at hm;omega)
 ·intro y z hy hz Q8 g hg;unfold CS.Cb at hg⊢;simp only at hg⊢
  by_cases hyx:y=x
  ·rw[if_pos hyx]at hg;rw[if_neg (fun e=>Q8 (by rw[hyx,e]))];rcases hb g hg with h1|h1
   ·exact h.sep x z hx hz ω g h1
   ·intro h2;have:=((h.own z hz).lt g h2).2;omega
  ·rw[if_neg hyx]at hg
   by_cases hzx:z=x
   ·rw[if_pos hzx];intro h2;rcases hb g h2 with h1|h1
    ·exact h.sep y x hy hx hyx g hg h1
    ·have:=((h.own y hy).lt g hg).2;omega
   ·rw[if_neg hzx];exact h.sep y z hy hz Q8 g hg
 ·intro y hy;unfold CS.Cb;simp only
  by_cases hyx:y=x
  ·rw[if_pos hyx];exact hl
  ·rw[if_neg hyx];exact h.len y hy
structure fU(w:World)(bt ba n:Nat)(f:Nat->Value):Prop where
 head:aL w bt 250 1 (fun _=>.slice (some ⟨ba,0,none⟩) n n)
 row:aL w ba 252 (n*2) f
 ne:bt≠ba
 le:n<=65536
theorem aY.nodes{w:World}{bt ba lo n:Nat}{S:CS}(h:aY w bt ba lo n S):fU w bt ba n (dC S):=⟨h.head,h.row,h.ne,h.le⟩
theorem fU.upd{w w':World}{F:List Nat}{bt ba n:Nat}{f:Nat->Value}(h:fU w bt ba n f)(hu:aa F w w')(h1:bt∉F)(h2:ba∉F):fU w' bt ba n f:=⟨h.head.upd hu h1,h.row.upd hu h2,h.ne,h.le⟩
theorem fU.set{w:World}{bt ba n:Nat}{f:Nat->Value}(h:fU w bt ba n f)(j:Nat)(v:Value):fU (w.setCell ⟨ba,j,none⟩ v) bt ba n (fun i=>if i=j then v else f i):=
 ⟨h.head.far _ _ h.ne,h.row.set j v,h.ne,h.le⟩
theorem fU.ext{w:World}{bt ba n:Nat}{f g:Nat->Value}(h:fU w bt ba n f)(hg:∀j,j<n*2->f j=g j):fU w bt ba n g:=⟨h.head,h.row.ext hg,h.ne,h.le⟩
def rQ(f:Nat->Value)(p:Int)(ks:List Int)(i:Nat):Value:=if i % 2=1/\((i / 2:Nat):Int)∈ks then .int .i64 p else f i
def jh(f:Nat->Value)(x:Nat)(v:Value)(i:Nat):Value:=if i=x then v else f i
theorem CX(f:Nat->Value)(p:Int)(ks:List Int)(q y:Nat)(hk:ks[q]?=some (y:Int))(i:Nat):(if i=y*2+1 then .int .i64 p else rQ f p (ks.take q) i)=rQ f p (ks.take (q+1)) i:=by
 unfold rQ;rw[List.take_add_one,hk]
 by_cases h1:i=y*2+1
 ·subst h1;rw[if_pos rfl,if_pos ⟨ω,by simp;exact Or.inr ω⟩]
 ·rw[if_neg h1]
  by_cases h2:i % 2=1/\((i / 2:Nat):Int)∈ks.take q
  ·rw[if_pos h2,if_pos ⟨h2.1,by simp only[τ];exact Or.inl h2.2⟩]
  ·rw[if_neg h2,if_neg (fun h=>by
    obtain⟨h3,h4⟩:=h;rcases τ.1 h4 with h4|h4
    ·exact h2 ⟨h3,h4⟩
    ·simp at h4;omega)]
theorem Cn(bt ba n lo x:Nat)(f:Nat->Value)(v:Value)(ks:List Int)(w:World)(h:fU w bt ba n f)(hv:jq w lo v ks.length (aQ ks))(hx:x<n)(hlo:ba<lo)(hks:∀k,k∈ks->0<=k/\k<n) :
  Calls Tryz.prog 196 #[.pointer (some ⟨bt,0,none⟩),.int .i64 (x:Int),v] w fun e w'=>e=.returned (.tuple #[])/\fU w' bt ba n (rQ (jh f (x*2) v) x ks)/\aa [ba] w w':=by
 obtain⟨a,cap,rfl,hcp,hlc,hp⟩:=hv.open;have hle:=h.le;have hne:=h.ne;have c0:=h.head.cell 0 ω;have d0:=h.row.cell (x*2) ω;have e0:=h.row.free (x*2);have HN:fU (w.setCell ⟨ba,x*2,none⟩ (.slice a ks.length cap)) bt ba n (rQ (jh f (x*2) (.slice a ks.length cap)) x (ks.take 0)):=by
  refine(h.set (x*2) (.slice a ks.length cap)).ext (fun j hj=>?_)
  show jh f (x*2) (.slice a ks.length cap) j=_
  unfold rQ;rw[if_neg σ]
 have hu0:aa [ba] w (w.setCell ⟨ba,x*2,none⟩ (.slice a ks.length cap)):=(aa.refl _ _).setCell (Or.inl σ) _;have HP:=χ hp;have HK:=χ hks;generalize jh f (x * 2) (.slice a ks.length cap)=g at *;clear hp hv hks h;generalize hlen:ks.length=len at *;have HLEN:=χ hlen;clear hlen
 go_enter Tryz.func196,Tryz.ntmps196
 go_wp2
 go_loopw [18] (fun i wr=>∃q:Nat,q<=len/\i=.int .i64 (q:Int)/\fU wr bt ba n (rQ g x (ks.take q))/\aa [ba] w wr) (fun i _=>len-(intOf i).toNat)
 case atStart=>exact⟨0,ω,rfl,HN,hu0⟩
 case round=>
  obtain⟨q,hq,rfl,hN,hu⟩:=hrel
  by_cases hlt:q<len
  ·obtain⟨gb,rfl,hg1,hg2,Dv⟩:=HP.out ω;obtain⟨y,pK⟩:∃y,ks[q]?=some y:=⟨ks[q]'(by rw[HLEN.out];exact hlt),σ⟩;obtain⟨hy0,hyn⟩:=HK.out y (List.mem_of_getElem? pK);obtain⟨Y,rfl⟩:=Int.eq_ofNat_of_zero_le hy0;have hYn:Y<n:=ω;have hc:=Dv q (.int .i64 (Y:Int)) (by unfold aQ;rw[List.getElem?_map,pK];rfl);have hc2:wr.cell? ⟨gb,q,none⟩=some (.int .i64 (Y:Int)):=by rw[hu.cell hg2 ζ];exact hc
   have c1:=hN.head.cell 0 ω;have d1:=hN.row.cell (Y*2+1) ω;have e1:=hN.row.free (Y*2+1);have hs:=CX g x ks q Y pK;have HS:=χ hs;have HNN:=χ hN;clear hs pK Dv hc hN HN;go_wp2
   go_roundw
   case rel=>exact⟨q+1,ω,by go_num,(HNN.out.set _ _).ext (fun j hj=>HS.out j),hu.setCell (Or.inl σ) _⟩
   case measure=>simp[intOf];omega
  ·obtain rfl:q=len:=ω;rw[List.take_of_length_le (by rw[HLEN.out];omega)]at hN;go_wp2;go_end0;exact⟨rfl,hN,hu⟩
def il(S:CS)(x:Nat):CS:=⟨fun y=>if y=x then .slice none 0 0 else S.v y,fun y=>if y=x then []else S.k y,fun y=>if (y:Int)∈S.k x then -1 else S.u y⟩
theorem qI(S:CS)(x n g:Nat)(h:g∈(il S x).blk n):g∈S.blk n:=by
 obtain⟨y,hy,he⟩:=(CS.jY _ n g).1 h;unfold il at he;simp only at he
 split at he
 ·cases he
 ·exact(CS.jY _ n g).2 ⟨y,hy,he⟩
theorem Ic(S:CS)(x:Nat)(j:Nat):rQ (jh (dC S) (x*2) (.slice none 0 0)) (-1) (S.k x) j=dC (il S x) j:=by
 unfold rQ jh dC il;simp only
 by_cases h:j % 2=0
 ·rw[if_neg ω,if_pos h]
  by_cases h2:j=x*2
  ·rw[if_pos h2,if_pos h,if_pos ω]
  ·rw[if_neg h2,if_pos h,if_neg ω]
 ·rw[if_neg h]
  by_cases h2:((j / 2:Nat):Int)∈S.k x
  ·rw[if_pos ⟨ω,h2⟩,if_neg h,if_pos h2]
  ·rw[if_neg (fun h=>h2 h.2),if_neg ω,if_neg h,if_neg h2]
theorem aY.split{w w1:World}{bt ba lo n:Nat}{S:CS}(h:aY w bt ba lo n S)(x:Nat)(hx:x<n)(hN:fU w1 bt ba n (dC (il S x)))(hu:aa [ba] w w1):aY w1 bt ba lo n (il S x):=by
 have h2:=h.MQ;refine⟨hN.head,hN.row,fun y hy=>?_,fun y z hy hz Q8 g hg=>?_,h.ne,h.Ux,h.MQ,Nat.le_trans h.low hu.size,h.le,fun y hy=>?_⟩
 ·unfold il;simp only
  by_cases hyx:y=x
  ·rw[if_pos hyx,if_pos hyx];exact World.ownsRow_nil _ _ _ _
  ·rw[if_neg hyx,if_neg hyx];exact aC (h.own y hy) hu (fun k hk hm=>by have:=((h.own y hy).lt k hk).1;simp at hm;omega)
 ·unfold il at hg⊢;simp only at hg⊢
  by_cases hyx:y=x
  ·rw[if_pos hyx]at hg;cases hg
  ·rw[if_neg hyx]at hg
   by_cases hzx:z=x
   ·rw[if_pos hzx];intro h;cases h
   ·rw[if_neg hzx];exact h.sep y z hy hz Q8 g hg
 ·unfold il;simp only
  split
  ·exact Nat.zero_le _
  ·exact h.len y hy
theorem PN(bt ba lo n:Nat)(S:CS)(x:Nat)(w:World)(h:aY w bt ba lo n S)(hx:x<n)(hr:oQ n S x=true)(hks:∀k,k∈S.k x->0<=k/\k<n) :
  Calls Tryz.prog 193 #[.pointer (some ⟨bt,0,none⟩),.int .i64 (x:Int)] w fun e w'=>∃v,e=.returned v/\jq w' w.heap.size v (S.k x).length (aQ (S.k x))/\aY w' bt ba lo n (il S x)/\aa [ba] w w':=by
 have hle:=h.le;have hne:=h.ne;have hl2:=h.MQ;have hlow:=h.low;have hln:=h.len x hx;have k1:=xe bt ba lo n S x w h;rw[hr]at k1;have c0:=h.head.cell 0 ω;have hL:=jq.uj (h.own x hx);obtain⟨a,cap,hv,hcp,hlc,hp⟩:=hL.open;have d0:=h.row.cellAt (x*2) ω ((nH S x).trans hv);have e0:=h.row.free (x*2);have hu0:aa [ba] w (w.setCell ⟨ba,x*2,none⟩ (.slice none 0 0)):=(aa.refl _ _).setCell (Or.inl σ) _;have HN:fU (w.setCell ⟨ba,x*2,none⟩ (.slice none 0 0)) bt ba n (rQ (jh (dC S) (x*2) (.slice none 0 0)) (-1) ((S.k x).take 0)):=by
  refine(h.nodes.set (x*2) (.slice none 0 0)).ext (fun j hj=>?_)
  show jh (dC S) (x*2) (.slice none 0 0) j=_
  unfold rQ;rw[if_neg σ]
 have HC:=fun W (hW:aa [ba] w W)=>Nj W lo (.slice a (S.k x).length cap) (S.k x) (by rw[hv]at hL;exact hL.upd hW (fun k hk=>by simp at hk;omega)) ω;have HE:=χ (Ic S x);have H:=χ h;have HP:=χ hp;have HK:=χ hks;generalize jh (dC S) (x * 2) (.slice none 0 0)=g at *;clear h hr hks hp hL hv;generalize S.k x=ks at *;generalize hlen:ks.length=len at *;have HLEN:=χ hlen;clear hlen
 go_enter Tryz.func193,Tryz.ntmps193
 go_wp2_with ((go_at_call 198;(with_reducible refine(k1).mono ?_);rintro e w9 ⟨rfl,aJ⟩;rw[aJ];clear aJ w9))
 go_loopw [29] (fun i wr=>∃q:Nat,q<=len/\i=.int .i64 (q:Int)/\fU wr bt ba n (rQ g (-1) (ks.take q))/\aa [ba] w wr) (fun i _=>len-(intOf i).toNat)
 case atStart=>exact⟨0,ω,rfl,HN,hu0⟩
 case round=>
  obtain⟨q,hq,rfl,hN,hu⟩:=hrel
  by_cases hlt:q<len
  ·obtain⟨gb,rfl,hg1,hg2,Dv⟩:=HP.out ω;obtain⟨y,pK⟩:∃y,ks[q]?=some y:=⟨ks[q]'(by rw[HLEN.out];exact hlt),σ⟩;obtain⟨hy0,hyn⟩:=HK.out y (List.mem_of_getElem? pK);obtain⟨Y,rfl⟩:=Int.eq_ofNat_of_zero_le hy0;have hYn:Y<n:=ω;have hc:=Dv q (.int .i64 (Y:Int)) (by unfold aQ;rw[List.getElem?_map,pK];rfl);have hc2:wr.cell? ⟨gb,q,none⟩=some (.int .i64 (Y:Int)):=by rw[hu.cell hg2 ζ];exact hc
   have c1:=hN.head.cell 0 ω;have d1:=hN.row.cell (Y*2+1) ω;have e1:=hN.row.free (Y*2+1);have hs:=CX g (-1) ks q Y pK;have HS:=χ hs;have HNN:=χ hN;clear hs pK Dv hc hN HN;go_wp2
   go_roundw
   case rel=>exact⟨q+1,ω,by go_num,(HNN.out.set _ _).ext (fun j hj=>HS.out j),hu.setCell (Or.inl σ) _⟩
   case measure=>simp[intOf];omega
  ·obtain rfl:q=len:=ω;rw[List.take_of_length_le (by rw[HLEN.out];omega)]at hN;have kC:=HC wr hu;have Te:=hN.ext (fun j hj=>HE.out j);have hsz:=hu.size;clear HC hN HN
   go_wp2_with (go_at_call 199;(with_reducible refine(kC).mono ?_);rintro e w2 ⟨v2,rfl,h2,h3⟩)
   go_ret;exact⟨_,rfl,h2.mono hsz,H.out.split x hx (Te.upd h3 σ σ) (hu.then h3),hu.then h3⟩
def idxOf(l:List Int)(x:Int):Int:=match l.findIdx? (fun y=>y == x)with|some i=>(i:Int)|none=>-1
theorem GQ(l:List Int)(x:Int)(k:Nat)(hn:x∉l.take k)(hk:l[k]?=some x):idxOf l x=k:=by
 have:l.findIdx? (fun y=>y == x)=some k:=by
  rw[List.findIdx?_eq_some_iff_getElem];obtain⟨h1,h2⟩:=List.getElem?_eq_some_iff.1 hk;refine⟨h1,by simp[h2],fun j hj=>?_⟩;simp only[beq_iff_eq];intro e;exact hn (by rw[←e];exact List.mem_take_iff_getElem.2 ⟨j,ω,rfl⟩)
 unfold idxOf;rw[this]
theorem Af(l:List Int)(x:Int)(hn:x∉l):idxOf l x=-1:=by
 have:l.findIdx? (fun y=>y == x)=none:=by
  rw[List.findIdx?_eq_none_iff];intro y hy;simp only[beq_eq_false_iff_ne];intro e;subst e;exact hn hy
 unfold idxOf;rw[this]
theorem Dg(w:World)(lo:Nat)(v:Value)(l:List Int)(x:Int)(h:jq w lo v l.length (aQ l)) :
  Calls Tryz.prog 189 #[v,.int .i64 x] w fun e w'=>e=.returned (.int .i64 (idxOf l x))/\w'=w:=by
 obtain⟨a,cap,rfl,hcp,hlc,hp⟩:=h.open;have HP:=χ hp;clear hp h;generalize hlen:l.length=len at *;have HLEN:=χ hlen;clear hlen
 go_enter Tryz.func189,Tryz.ntmps189
 go_wp2
 go_loop [8] (fun i=>∃q:Nat,q<=len/\i=.int .i64 (q:Int)/\x∉l.take q) (fun i=>len-(intOf i).toNat)
 case atStart=>exact⟨0,ω,rfl,σ⟩
 case round=>
  obtain⟨q,hq,rfl,hn⟩:=hrel
  by_cases hlt:q<len
  ·obtain⟨gb,rfl,hg1,hg2,Dv⟩:=HP.out ω;obtain⟨y,pK⟩:∃y,l[q]?=some y:=⟨l[q]'(by rw[HLEN.out];exact hlt),σ⟩;have hc:=Dv q (.int .i64 y) (by unfold aQ;rw[List.getElem?_map,pK];rfl)
   by_cases hxy:x=y
   ·subst hxy;have hi:=GQ l x q hn pK;have HI:=χ hi;clear Dv hn pK hi;go_wp2;go_ret;exact⟨j3 HI.out.symm,rfl⟩
   ·have b1:(x == y)=false:=by simpa using hxy
    have hn2:x∉l.take (q+1):=by rw[List.take_add_one,pK];simp;exact⟨hn,hxy⟩
    have HN2:=χ hn2;clear Dv hn pK hn2 hxy;go_wp2
    go_round
    case rel=>exact⟨q+1,ω,by go_num,HN2.out⟩
    case measure=>simp[intOf];omega
  ·obtain rfl:q=len:=ω;rw[List.take_of_length_le (by rw[HLEN.out];omega)]at hn;have HI:=χ (Af l x hn);clear hn;go_wp2;go_ret;exact⟨j3 HI.out.symm,rfl⟩
def setAt(l:List Int)(x y:Int):List Int:=l.set (idxOf l x).toNat y
theorem kS(l:List Int)(x y:Int):(setAt l x y).length=l.length:=by unfold setAt;simp
theorem wu(l:List Int)(x:Int)(h:x∈l):∃i:Nat,i<l.length/\idxOf l x=i/\l[i]?=some x:=by
 cases hf:l.findIdx? (fun y=>y == x)with
 | none=>
  rw[List.findIdx?_eq_none_iff]at hf;have:=hf x h;simp at this
 | some i=>
  have h2:=hf;rw[List.findIdx?_eq_some_iff_getElem]at h2;obtain⟨h3,h4,_⟩:=h2;refine⟨i,h3,by unfold idxOf;rw[hf],?_⟩;rw[ε h3];simp at h4;rw[h4]
def iw(S:CS)(x p:Nat)(above:Int):CS:=
  ⟨fun y=>if y=x then S.v p else if y=p then S.v x else S.v y,
   fun y=>if y=x then setAt (S.k p) x p else if y=p then S.k x else if (y:Int)=above then setAt (S.k y) p x else S.k y,
   fun y=>if y=x then above else if (y:Int)∈S.k x then p else if (y:Int)∈setAt (S.k p) x p then x else S.u y⟩
def Lu(S:CS)(x p:Nat)(above:Int):Nat->Value:=
 jh (rQ (jh (rQ (jh (dC S) (x*2) (S.v p)) x (setAt (S.k p) x p)) (p*2) (S.v x)) p (S.k x)) (x*2+1) (.int .i64 above)
theorem pW(f:Nat->Value)(p:Int)(ks:List Int)(j:Nat)(h:j % 2=0):rQ f p ks j=f j:=by unfold rQ;rw[if_neg ω]
theorem nP(f:Nat->Value)(x:Nat)(v:Value)(j:Nat)(h:j≠x):jh f x v j=f j:=by unfold jh;rw[if_neg h]
theorem Ml(f:Nat->Value)(x:Nat)(v:Value):jh f x v x=v:=by unfold jh;rw[if_pos rfl]
theorem DC(S:CS)(x p:Nat)(above:Int)(hxp:x≠p)(j:Nat):Lu S x p above j=dC (iw S x p above) j:=by
 unfold Lu
 by_cases h:j % 2=0
 ·rw[nP _ _ _ _ (show j≠x*2+1 by omega),pW _ _ _ _ h];unfold dC iw;rw[if_pos h];simp only
  by_cases h3:j / 2=x
  ·rw[nP _ _ _ _ (show j≠p*2 by omega),pW _ _ _ _ h,show j=x*2 by omega,Ml,if_pos ω]
  ·by_cases h4:j / 2=p
   ·rw[show j=p*2 by omega,Ml,if_neg ω,if_pos ω]
   ·rw[nP _ _ _ _ (show j≠p*2 by omega),pW _ _ _ _ h,nP _ _ _ _ (show j≠x*2 by omega),if_pos h,if_neg h3,if_neg h4]
 ·have h0:j % 2=1:=ω;unfold dC iw jh rQ;simp only[h0,true_and]
  by_cases h3:j / 2=x
  ·rw[if_pos ω,if_neg ω,if_pos h3]
  ·rw[if_neg (show ¬j=x*2+1 by omega),if_neg (show ¬j=p*2 by omega),if_neg (show ¬j=x*2 by omega)];rw[if_neg (show ¬ (1=0) by omega),if_neg (show ¬ (1=0) by omega),if_neg h3]
   by_cases h5:((j / 2:Nat):Int)∈S.k x
   ·rw[if_pos h5,if_pos h5]
   ·rw[if_neg h5,if_neg h5]
    by_cases h6:((j / 2:Nat):Int)∈setAt (S.k p) x p
    ·rw[if_pos h6,if_pos h6]
    ·rw[if_neg h6,if_neg h6]
theorem He{w:World}{base n cap g:Nat}{e:TypeId}{xs:List Value}(h:w.ownsRow base e 1 (.slice (some ⟨g,0,none⟩) n cap) n xs)(j:Nat)(u:Value) :
  (w.setCell ⟨g,j,none⟩ u).ownsRow base e 1 (.slice (some ⟨g,0,none⟩) n cap) n (xs.set j u):=(h.stored j u).1
theorem Da(l:List Int)(j:Nat)(y:Int):aQ (l.set j y)=(aQ l).set j (.int .i64 y):=by unfold aQ;rw[List.map_set]
structure zP(n:Nat)(S:CS)(x p:Nat)(above:Int):Prop where
 hx:x<n
 hp:p<n
 ne:x≠p
 up:S.u x=p
 ab:S.u p=above
 mem:(x:Int)∈S.k p
 kx:∀k,k∈S.k x->0<=k/\k<n
 kp:∀k,k∈S.k p->0<=k/\k<n
 top:above=-1\/∃q:Nat,above=q/\q<n/\q≠x/\q≠p/\(p:Int)∈S.k q
theorem aY.lift{w w5:World}{bt ba lo n:Nat}{S:CS}(h:aY w bt ba lo n S){x p:Nat}{above:Int}(ok:zP n S x p above)(hN:fU w5 bt ba n (dC (iw S x p above)))(hs:w.heap.size<=w5.heap.size)
  (ho:∀y,y<n->w5.ownsRow lo 3 1 ((iw S x p above).v y) ((iw S x p above).k y).length (aQ ((iw S x p above).k y))):aY w5 bt ba lo n (iw S x p above):=by
 have hx:=ok.hx;have hp:=ok.hp;have hne:=ok.ne;refine⟨hN.head,hN.row,ho,fun y z hy hz Q8 g hg=>?_,h.ne,h.Ux,h.MQ,Nat.le_trans h.low hs,h.le,fun y hy=>?_⟩
 ·unfold iw at hg⊢;simp only at hg⊢;have key:∀a b,a<n->b<n->a≠b->(S.v a).ownBlock=some g->(S.v b).ownBlock≠some g:=fun a b ha hb hab=>h.sep a b ha hb hab g
  by_cases h1:y=x
  ·rw[if_pos h1]at hg;rw[if_neg (fun e=>Q8 ω)]
   by_cases h2:z=p
   ·rw[if_pos h2];exact key p x hp hx (Ne.symm hne) hg
   ·rw[if_neg h2];exact key p z hp hz (Ne.symm h2) hg
  ·rw[if_neg h1]at hg
   by_cases h2:y=p
   ·rw[if_pos h2]at hg
    by_cases h3:z=x
    ·rw[if_pos h3];exact key x p hx hp hne hg
    ·rw[if_neg h3,if_neg (fun e=>Q8 ω)];exact key x z hx hz (Ne.symm h3) hg
   ·rw[if_neg h2]at hg
    by_cases h3:z=x
    ·rw[if_pos h3];exact key y p hy hp h2 hg
    ·rw[if_neg h3]
     by_cases h4:z=p
     ·rw[if_pos h4];exact key y x hy hx h1 hg
     ·rw[if_neg h4];exact key y z hy hz Q8 hg
 ·unfold iw;simp only
  split
  ·rw[kS];exact h.len p hp
  ·split
   ·exact h.len x hx
   ·split
    ·rw[kS];exact h.len y hy
    ·exact h.len y hy
set_option maxRecDepth 100000 in
theorem H8(bt ba lo n:Nat)(S:CS)(x p:Nat)(above:Int)(w:World)(h:aY w bt ba lo n S)(ok:zP n S x p above) :
  Calls Tryz.prog 190 #[.pointer (some ⟨bt,0,none⟩),.int .i64 (x:Int)] w fun e w'=>e=.returned (.bool true)/\aY w' bt ba lo n (iw S x p above)/\aa (ba::S.blk n) w w':=by
 have hx:=ok.hx;have hp:=ok.hp;have hle:=h.le;have hne:=h.ne;have hl1:=h.Ux;have hl2:=h.MQ;have k1:=wh bt ba lo n S x w h;have hup:I7 n S x=some (p:Int):=by unfold I7;rw[if_pos ω,show((x:Int)).toNat=x by omega,ok.up,if_neg ω]
 rw[hup,show ov (some (p:Int))=(p:Int)from rfl,show ob (some (p:Int))=true from rfl]at k1;obtain⟨ax,cx,hvx,_⟩:=bq (h.own x hx);obtain⟨i,hil,hidx,hi⟩:=wu _ _ ok.mem;obtain⟨gp,cp,hvp,hg1,hg2,hgc,hgm,hgx,hgf⟩:=gJ (h.own p hp) ω;have c0:=h.head.cell 0 ω;have d0:=h.row.cellAt (x*2) ω ((nH S x).trans hvx);have d1:=h.row.cellAt (p*2) ω ((nH S p).trans hvp);have d2:=h.row.cellAt (p*2+1) ω ((uL S p).trans (by rw[ok.ab]));have hab:above≠-1->(above != -1)=true:=fun h=>by simpa using h
 clear hup
 go_enter Tryz.func190,Tryz.ntmps190
 go_wp2_with ((go_at_call 188;(with_reducible refine(k1).mono ?_);rintro e w9 ⟨rfl,aJ⟩;rw[aJ];clear aJ w9))
 go_quiet (fail)
 have h0:aY (w.drewN nq) bt ba lo n S:=h.au ((aa.refl _ _).drewN _);have hu0:aa (ba::S.blk n) w (w.drewN nq):=(aa.refl _ _).drewN _;generalize w.drewN nq=W at *;clear h c0 d0 d1 d2 hgx hgf k1 hg1 hg2;have hop:=h0.own p hp;have hox:=h0.own x hx;rw[hvp]at hop;have PW:=hop.lt gp rfl;have kI:=Dg W lo _ (S.k p) x (jq.uj hop);rw[hidx]at kI;have ci:W.cell? ⟨gp,i,none⟩=some (.int .i64 (x:Int)):=by rw[hop.cellAt i ω];unfold aQ;rw[List.getElem?_map,hi];rfl
 have fi:=hop.frozenAt i;have hset:(S.k p).set i p=setAt (S.k p) x p:=by unfold setAt;rw[hidx];rfl
 have X8:=He hop i (.int .i64 (p:Int));rw[←Da,hset]at X8;have hu1:aa [gp] W (W.setCell ⟨gp,i,none⟩ (.int .i64 (p:Int))):=(aa.refl _ _).setCell (Or.inl σ) _;have hN1:=h0.nodes.upd hu1 ζ ζ;have hsl:=kS (S.k p) x p
 have kA1:=Cn bt ba n lo x (dC S) _ (setAt (S.k p) x p) _ hN1 (by have:=jq.uj X8;rw[hsl];exact this) hx hl2 (fun k hk=>by
  rw[←hset]at hk;rcases List.mem_or_eq_of_mem_set hk with h|h
  ·exact ok.kp k h
  ·omega)
 have hxg:(S.v x).ownBlock≠some gp:=h0.sep p x hp hx (Ne.symm ok.ne) gp (by rw[hvp];rfl);have hox1:=aC hox hu1 (fun k hk hm=>by simp at hm;subst hm;exact hxg hk);have kA2:=fun w2 (Te:fU w2 bt ba n (rQ (jh (dC S) (x*2) (.slice (some ⟨gp,0,none⟩) (S.k p).length cp)) x (setAt (S.k p) x p))) (hu2:aa [ba] (W.setCell ⟨gp,i,none⟩ (.int .i64 (p:Int))) w2)=>
  Cn bt ba n lo p _ (S.v x) (S.k x) w2 Te (jq.uj (aC hox1 hu2 (fun k hk hm=>by have:=(hox.lt k hk).1;simp at hm;omega))) hp hl2 ok.kx
 rw[hvx]at kA2;have Qk:∀y,y<n->∀g,(S.v y).ownBlock=some g->g∈S.blk n:=fun y hy g hg=>(S.jY n g).2 ⟨y,hy,hg⟩;have hgpb:gp∈S.blk n:=Qk p hp gp (by rw[hvp];rfl);have hall:∀y,y<n->y≠p->(S.v y).ownBlock≠some gp:=fun y hy hyp=>h0.sep p y hp hy (Ne.symm hyp) gp (by rw[hvp];rfl);have hun1:∀y,y<n->y≠p->∀w4,aa [ba] (W.setCell ⟨gp,i,none⟩ (.int .i64 (p:Int))) w4->w4.ownsRow lo 3 1 (S.v y) (S.k y).length (aQ (S.k y)):=fun y hy hyp w4 hw=>
  aC (aC (h0.own y hy) hu1 (fun k hk hm=>by simp at hm;subst hm;exact hall y hy hyp hk)) hw (fun k hk hm=>by have:=((h0.own y hy).lt k hk).1;simp at hm;omega)
 have hun2:∀w4,aa [ba] (W.setCell ⟨gp,i,none⟩ (.int .i64 (p:Int))) w4->w4.ownsRow lo 3 1 (S.v p) (setAt (S.k p) x p).length (aQ (setAt (S.k p) x p)):=fun w4 hw=>by
  rw[hsl,hvp];exact aC X8 hw (fun k hk hm=>by simp[Value.ownBlock]at hk;simp at hm;omega)
 have HALL:=χ hall;have Um:=χ hun1;have HUN2:=χ hun2;have HM:=χ Qk;have H0:=χ h0;have OK:=χ ok;have HVX:=χ hvx;have HVP:=χ hvp;have HSET:=χ hset;have HSL:=χ hsl;have htop:=ok.top;clear hset hsl ok h0 hvx hvp hidx hi hall hun1 hun2 Qk;rcases htop with rfl|⟨q,rfl,hq,hqx,hqp,hqm⟩
 ·go_wp2_with (first
   | (go_at_call 189;(with_reducible refine(kI).mono ?_);rintro e w9 ⟨rfl,aJ⟩;rw[aJ];clear aJ w9)
   | ((go_at_call 196;(with_reducible refine(kA1).mono ?_));rintro e w2 ⟨rfl,Te,hu2⟩)
   | ((go_at_call 196;(with_reducible refine(kA2 _ Te hu2).mono ?_));rintro e w3 ⟨rfl,UB,hu3⟩;have c3:=UB.head.cell 0 ω;have d3:=UB.row.cell (x*2+1) ω;have e3:=UB.row.free (x*2+1)))
  go_ret;have hw4:=(hu2.trans hu3).setCell (p:=⟨ba,x*2+1,none⟩) (Or.inl σ) (.int .i64 (-1))
  have hN4:fU (w3.setCell ⟨ba,x*2+1,none⟩ (.int .i64 (-1))) bt ba n (dC (iw S x p (-1))):=(UB.set (x*2+1) (.int .i64 (-1))).ext (fun j hj=>by
   rw[←DC S x p (-1) OK.out.ne j];unfold Lu
   rw[HVX.out,HVP.out];rfl)
  refine⟨rfl,H0.out.lift OK.out hN4 (Nat.le_trans hu1.size hw4.size) (fun y hy=>?_),(hu0.trans (hu1.mono (by simp;exact Or.inr hgpb))).trans (hw4.mono σ)⟩;unfold iw;simp only
  by_cases hyx:y=x
  ·rw[if_pos hyx,if_pos hyx];exact HUN2.out _ hw4
  ·rw[if_neg hyx,if_neg hyx]
   by_cases hyp:y=p
   ·rw[if_pos hyp,if_pos hyp];exact Um.out x hx OK.out.ne _ hw4
   ·rw[if_neg hyp,if_neg hyp,if_neg ω];exact Um.out y hy hyp _ hw4
 ·obtain⟨j,hjl,Yw,hj⟩:=wu _ _ hqm;have hoq:=H0.out.own q hq;obtain⟨gq,cq,hvq,hq1,hq2,hqc,hqm2,hqx2,hqf⟩:=gJ hoq ω;have b4:((q:Int) != -1)=true:=by rw[bne_iff_ne];omega
  have VP:=Um.out q hq hqp;rw[hvq]at VP;have kI2:=fun W4 h4=>Dg W4 lo _ (S.k q) p (jq.uj (VP W4 h4));rw[Yw]at kI2;have HJ:=χ Yw;have HJ2:=χ hj;have HVQ:=χ hvq;have hz1:=nH S q;rw[hvq]at hz1;have HZ:=χ hz1;clear Yw hj hvq hz1 hoq hqx2 hqf hab
  go_wp2_with (first
   | (go_at_call 189;(with_reducible refine(kI).mono ?_);rintro e w9 ⟨rfl,aJ⟩;rw[aJ];clear aJ w9)
   | ((go_at_call 196;(with_reducible refine(kA1).mono ?_));rintro e w2 ⟨rfl,Te,hu2⟩)
   | ((go_at_call 196;(with_reducible refine(kA2 _ Te hu2).mono ?_));rintro e w3 ⟨rfl,UB,hu3⟩;have c3:=UB.head.cell 0 ω;have d3:=UB.row.cell (x*2+1) ω;have e3:=UB.row.free (x*2+1);have hN4:=UB.set (x*2+1) (.int .i64 (q:Int));have hw4:=(hu2.trans hu3).setCell (p:=⟨ba,x*2+1,none⟩) (Or.inl σ) (.int .i64 (q:Int));have c4:=hN4.head.cell 0 ω;have d4:=hN4.row.cellAt (q*2) ω (v:=.slice (some ⟨gq,0,none⟩) (S.k q).length cq) (by
     rw[if_neg ω,pW _ _ _ _ ω,nP _ _ _ _ ω,pW _ _ _ _ ω,nP _ _ _ _ ω];exact HZ.out);have o4:=VP _ hw4;have d5:=o4.cellAt j ω;have e5:=o4.frozenAt j;rw[show(aQ (S.k q))[j]?=some (.int .i64 (p:Int)) by unfold aQ;rw[List.getElem?_map,HJ2.out];rfl]at d5;have kI3:=kI2 _ hw4;clear VP kI2)
   | (go_at_call 189;(with_reducible refine(kI3).mono ?_);rintro e w9 ⟨rfl,aJ⟩;rw[aJ];clear aJ w9))
  go_ret
  have hN5:fU (w3.setCell ⟨ba,x*2+1,none⟩ (.int .i64 (q:Int))) bt ba n (dC (iw S x p q)):=(UB.set (x*2+1) (.int .i64 (q:Int))).ext (fun j hj=>by
   rw[←DC S x p q OK.out.ne j];unfold Lu
   rw[HVX.out,HVP.out];rfl)
  have Li:aa [gq] (w3.setCell ⟨ba,x*2+1,none⟩ (.int .i64 (q:Int))) ((w3.setCell ⟨ba,x*2+1,none⟩ (.int .i64 (q:Int))).setCell ⟨gq,j,none⟩ (.int .i64 (x:Int))):=(aa.refl _ _).setCell (Or.inl σ) _;have hgq:(S.v q).ownBlock=some gq:=by rw[HVQ.out];rfl
  have Q0:∀y,y<n->y≠q->∀k,(S.v y).ownBlock=some k->k∉[gq]:=fun y hy hyq k hk hm=>by
   simp at hm;subst hm;exact H0.out.sep y q hy hq hyq k hk hgq
  refine⟨rfl,H0.out.lift OK.out (hN5.upd Li ζ ζ) (Nat.le_trans (Nat.le_trans hu1.size hw4.size) Li.size) (fun y hy=>?_),((hu0.trans (hu1.mono (by simp;exact Or.inr hgpb))).trans (hw4.mono σ)).trans (Li.mono (by simp;exact Or.inr (HM.out q hq gq hgq)))⟩;unfold iw;simp only
  by_cases hyx:y=x
  ·rw[if_pos hyx,if_pos hyx];exact aC (HUN2.out _ hw4) Li (Q0 p hp (Ne.symm hqp))
  ·rw[if_neg hyx,if_neg hyx]
   by_cases hyp:y=p
   ·rw[if_pos hyp,if_pos hyp];exact aC (Um.out x hx OK.out.ne _ hw4) Li (Q0 x hx (Ne.symm hqx))
   ·rw[if_neg hyp,if_neg hyp]
    by_cases hyq:y=q
    ·subst hyq;rw[if_pos rfl,kS,HVQ.out];have:=He o4 j (.int .i64 (x:Int));rw[←Da]at this;unfold setAt;rw[HJ.out];exact this
    ·rw[if_neg ω];exact aC (Um.out y hy hyp _ hw4) Li (Q0 y hy hyq)
def bu(w:World)(base:Nat)(v:Value)(xs:List Int):Prop:=
 (v=.slice none 0 0/\xs=[])\/
 ∃g off cap cur,v=.slice (some ⟨g,off,none⟩) xs.length cap/\base<=g/\w.heap[g]?=some (.cells cur 3 (0,0))/\xs.length<=cap/\cap<=9223372036854775807/\off+cap<=cur.size/\∀j u,xs[j]?=some u->cur[off+j]?=some (.int .i64 u)
theorem bu.nil(w:World)(base:Nat):bu w base (.slice none 0 0) []:=Or.inl ⟨rfl,rfl⟩
theorem bu.iY{w:World}{base:Nat}{v:Value}{xs:List Int}(h:w.ownsRow base 3 1 v xs.length (aQ xs)):bu w base v xs:=by
 rcases h.2 with⟨rfl,h0⟩|⟨g,cap,cur,rfl,hb,hg,hn,hc,hs,ht⟩
 ·exact Or.inl ⟨rfl,List.eq_nil_of_length_eq_zero h0⟩
 ·refine Or.inr ⟨g,0,cap,cur,rfl,hb,hg,hn,by unfold maxLen at hc;exact hc,ω,fun j u hj=>?_⟩;have hjl:j<xs.length:=(List.getElem?_eq_some_iff.1 hj).1;have:(aQ xs)[j]?=some (.int .i64 u):=by unfold aQ;rw[List.getElem?_map,hj];rfl
  rw[←ht,List.getElem?_take,if_pos ω]at this;rw[Nat.zero_add];simpa using this
theorem LM{w:World}{g:Nat}{o:Obj}(h:w.heap[g]?=some o):g<w.heap.size:=by
 rcases Nat.lt_or_ge g w.heap.size with h'|h'
 ·exact h'
 ·rw[Array.getElem?_eq_none h']at h;cases h
theorem bu.lt{w:World}{base:Nat}{v:Value}{xs:List Int}(h:bu w base v xs)(g:Nat)(hg:v.ownBlock=some g):base<=g/\g<w.heap.size:=by
 rcases h with⟨rfl,_⟩|⟨g',off,cap,cur,rfl,hb,hh,_⟩
 ·cases hg
 ·simp only[Value.ownBlock,Option.some.injEq]at hg;subst hg;exact⟨hb,LM hh⟩
theorem bu.mono{w:World}{base base':Nat}{v:Value}{xs:List Int}(h:bu w base v xs)(hb:base'<=base):bu w base' v xs:=by
 rcases h with h|⟨g',off,cap,cur,rfl,hb',hh⟩
 ·exact Or.inl h
 ·exact Or.inr ⟨g',off,cap,cur,rfl,Nat.le_trans hb hb',hh⟩
theorem bu.upd{w w':World}{F:List Nat}{base:Nat}{v:Value}{xs:List Int}(h:bu w base v xs)(hu:aa F w w')(hF:∀g,v.ownBlock=some g->g∉F):bu w' base v xs:=by
 rcases h with h|⟨g,off,cap,cur,rfl,hb,hh,h1,h2⟩
 ·exact Or.inl h
 ·exact Or.inr ⟨g,off,cap,cur,rfl,hb,by rw[hu.block g (LM hh) (hF g rfl)];exact hh,h1,h2⟩
theorem bu.shape{w:World}{base:Nat}{v:Value}{xs:List Int}(h:bu w base v xs) :
  ∃a cap,v=.slice a xs.length cap/\xs.length<=cap/\cap<=9223372036854775807/\∀j u,xs[j]?=some u->∃g off,a=some ⟨g,off,none⟩/\w.cell? ⟨g,off+j,none⟩=some (.int .i64 u):=by
 rcases h with⟨rfl,rfl⟩|⟨g,off,cap,cur,rfl,hb,hh,h1,h2,h3,h4⟩
 ·exact⟨none,0,rfl,Nat.le_refl _,ω,fun j u hj=>by simp at hj⟩
 ·refine⟨_,cap,rfl,h1,h2,fun j u hj=>⟨g,off,rfl,?_⟩⟩;unfold World.cell?;simp only[hh];simpa using h4 j u hj
theorem bu.lit(w:World)(base:Nat)(x:Int)(hb:base<=w.heap.size):bu (w.alloc (.cells #[.int .i64 x] 3)) base (.slice (some ⟨w.heap.size,0,none⟩) 1 1) [x]:=
 bu.iY (nE w [.int .i64 x] 3 base 1 1 rfl hb μ)
def tailV(v:Value):Value:=match v with | .slice a n c=>.slice (if c=1 then a else a.map (·.add 1)) (n-1) (c-1)|v=>v
theorem xq(w:World)(a:Option Addr)(n c:Nat)(h1:1<=n)(h2:n<=9223372036854775807) :
  (Instr.slice 26 (.slice a n c) (some (.int .i64 1)) none none).run Tryz.prog w=.ok (tailV (.slice a n c)) w:=by
 have hs:(sizeOf 3).run Tryz.prog w=.ok 1 w:=by kernel_rfl
 unfold Instr.slice Instr.sliceBounds;simp[run_underlying Tryz.underlying26,go_sem,hs,tailV];intro h;omega
theorem bu.tail{w:World}{base:Nat}{v:Value}{x:Int}{xs:List Int}(h:bu w base v (x::xs)):bu w base (tailV v) xs/\(tailV v).ownBlock=v.ownBlock:=by
 rcases h with⟨rfl,h0⟩|⟨g,off,cap,cur,rfl,hb,hh,h1,h2,h3,h4⟩
 ·cases h0
 ·simp only[List.length_cons]at h1⊢;unfold tailV;simp only[Nat.add_sub_cancel]
  by_cases hc:cap=1
  ·subst hc;have:xs=[]:=List.eq_nil_of_length_eq_zero ω;subst this;rw[if_pos rfl];exact⟨Or.inr ⟨g,off,0,cur,rfl,hb,hh,Nat.le_refl _,ω,ω,fun j u hj=>by simp at hj⟩,rfl⟩
  ·rw[if_neg hc];have e:(some (⟨g,off,none⟩:Addr)).map (·.add 1)=some ⟨g,off+1,none⟩:=by simp[Addr.add_lit]
   rw[e];refine⟨Or.inr ⟨g,off+1,cap-1,cur,rfl,hb,hh,ω,ω,ω,fun j u hj=>?_⟩,rfl⟩;have:=h4 (j+1) u (by simpa using hj);rw[show off+1+j=off+(j+1) by omega];exact this
theorem qO(a:Option Addr)(n c:Nat):∃a',tailV (.slice a n c)=.slice a' (n-1) (c-1):=⟨_,rfl⟩
theorem Bq{w:World}{base:Nat}{v:Value}{xs:List Int}(hown:bu w base v xs)(t ty:TypeId)(ht:Tryz.prog.underlying t=some (.slice 3))(g1:Nat)(u:Int)(hnew:w.cell? ⟨g1,0,none⟩=some (.int .i64 u))(hn:xs.length+1<=1000000)(hbase:base<=w.heap.size) :
  ∃v' w',(Builtin.append_ #[t,t] ty #[v,.slice (some ⟨g1,0,none⟩) 1 1]).run Tryz.prog w=.ok v' w'/\bu w' base v' (xs++[u])/\aa v.ownBlock.toList w w'/\(∀k,v'.ownBlock=some k->v.ownBlock=some k\/w.heap.size<=k):=by
 obtain⟨i,hi,hz0,hz1,hz2⟩:=info_parts fF;have hnews:∀j x,[Value.int .i64 u][j]?=some x->w.cell? ((⟨g1,0,none⟩:Addr).add j)=some x:=fun j x hj=>by
  match j,hj with
  | 0,hj=>simp at hj;subst hj;rw[xU];exact hnew
 have h1:∀x∈[Value.int .i64 u],x.oneCell'=true:=by simp[Value.oneCell']
 rcases hown with⟨rfl,rfl⟩|⟨g,off,cap,cur,rfl,hb,hh,hc1,hc2,hc3,hc4⟩
 ·obtain⟨v',w',hr,h2,h3,_⟩:=run_append_own (P:=Tryz.prog) w w.heap.size t ty 3 i (.int .i64 0) 1 8 ht hi hz0 hz1 hz2 rfl δ (.slice none 0 0) 0 [] (World.ownsRow_nil w _ _ _) ⟨g1,0,none⟩ 1 1 [.int .i64 u] rfl hnews h1 μ ω (Nat.le_refl _);exact⟨v',w',hr,(bu.iY (xs:=[u]) h2).mono hbase,(aa.refl _ _).grown h3 (fun k hk=>by cases hk),fun k hk=>Or.inr (h2.lt k hk).1⟩
 ·by_cases hfit:xs.length+1<=cap
  ·have hf:=run_firstCells_some (P:=Tryz.prog) w i.size 1 ⟨g1,0,none⟩ 1 1 [.int .i64 u] (by rw[hz1];rfl) hnews;have hst:=run_storeCells_at Tryz.prog g (off+xs.length*i.size) 3 [.int .i64 u] 0 cur w hh (by rw[hz1];simp;omega) h1;simp only[Nat.add_zero]at hst;have hrun:(Builtin.append_ #[t,t] ty #[.slice (some ⟨g,off,none⟩) xs.length cap,.slice (some ⟨g1,0,none⟩) 1 1]).run Tryz.prog w=.ok (.slice (some ⟨g,off,none⟩) (xs.length+1) cap) (w.setRow g (cur.toList.take (off+xs.length*i.size)++[Value.int .i64 u]++cur.toList.drop (off+xs.length*i.size+1)).toArray):=by
    simp[Builtin.append_,run_underlying ht,sizeOf,typeInfo,hi,Builtin.lenOf,hfit,hf,Addr.add_lit];have:=hst;simp at this;simp[this]
   rw[hz1,Nat.mul_one]at hrun;refine⟨_,_,hrun,Or.inr ⟨g,off,cap,_,by rw[υ];rfl,hb,setRow_heap w g cur _ _ _ hh,by rw[υ];exact hfit,hc2,?_,fun j x hj=>?_⟩,?_,fun k hk=>Or.inl hk⟩
   ·simp;omega
   ·have hlen:off+xs.length<=cur.size:=ω;rcases Nat.lt_or_ge j xs.length with h|h
    ·rw[List.getElem?_append_left h]at hj;have:=hc4 j x hj;rw[List.getElem?_toArray,List.append_assoc,List.getElem?_append_left ζ,List.getElem?_take,if_pos ω];simpa using this
    ·have hj2:j=xs.length:=by
      have:=(List.getElem?_eq_some_iff.1 hj).1;rw[υ]at this;simp at this;omega
     subst hj2;rw[List.getElem?_append_right (Nat.le_refl _)]at hj;simp at hj;subst hj;rw[List.getElem?_toArray,List.append_assoc,List.getElem?_append_right ζ];simp[Nat.min_eq_left hlen]
   ·exact⟨rfl,rfl,rfl,σ,fun k hk hm=>setRow_other w g k _ (fun e=>hm (by simp[Value.ownBlock,e]))⟩
  ·obtain⟨v',w',hr,h2,h3⟩:=run_append_arg_grows (P:=Tryz.prog) w t ty 3 i (.int .i64 0) 1 8 ht hi hz0 hz1 hz2 rfl δ ⟨g,off,none⟩ xs.length cap (aQ xs) (by rw[eZ,Nat.mul_one]) (fun j x hj=>by
    unfold aQ at hj;rw[List.getElem?_map]at hj;cases hq:xs[j]? with
    | none=>rw[hq]at hj;cases hj
    | some y=>
     rw[hq]at hj;simp at hj;subst hj;rw[Addr.add_lit];unfold World.cell?;simp only[hh]
     simpa using hc4 j y hq) ⟨g1,0,none⟩ 1 1 [.int .i64 u] rfl hnews ω μ ω
   have h4:w'.ownsRow w.heap.size 3 1 v' (xs++[u]).length (aQ (xs++[u])):=by rw[υ,bM];exact h2
   exact⟨v',w',hr,(bu.iY h4).mono hbase,(aa.refl _ _).grown h3 (fun k hk=>by cases hk),fun k hk=>Or.inr (h2.lt k hk).1⟩
theorem vg{o:Oper}{a:Act}{w:World}{K:Act->World->Prop}{Q:Exit->Act->World->Prop}(s x:Operand)(t:TypeId)
  (ho:o.op=.call { callee:=.builtin .append,args:=#[s,x],argTypes:=#[t,t] }) (ht:Tryz.prog.underlying t=some (.slice 3))
  (base:Nat) (v:Value) (xs:List Int) (hs:a.eval s=v) (hown:bu w base v xs)
  (g1:Nat) (u:Int) (hx:a.eval x=.slice (some ⟨g1,0,none⟩) 1 1) (hnew:w.cell? ⟨g1,0,none⟩=some (.int .i64 u)) (hn:xs.length+1<=1000000) (hbase:base<=w.heap.size)
  (h:∀v' w',bu w' base v' (xs++[u])->aa v.ownBlock.toList w w'->(∀k,v'.ownBlock=some k->v.ownBlock=some k\/w.heap.size<=k)->K (a.put o.dst v') w'):Oper.wp Tryz.prog o a w K Q:=by
 obtain⟨v',w',hr,h2,h3,h4⟩:=Bq hown t o.type ht g1 u hnew hn hbase;unfold Oper.wp execOp;simp only[ho,resolve,invoke,builtin,Sem.run_bind,Sem.run_pure,Result.andThen_ok,List.map_toArray,List.map_cons,List.map_nil,hs,hx,hr];exact h _ _ h2 h3 h4
theorem rE{ops:Array Oper}{o:Oper}{a:Act}{w:World}{K:Act->World->Prop}{Q:Exit->Act->World->Prop}{E:Prop}(hgd:o.guard=none)(s x:Operand)(t:TypeId)
  (ho:o.op=.call { callee:=.builtin .append,args:=#[s,x],argTypes:=#[t,t] }) (ht:Tryz.prog.underlying t=some (.slice 3))
  (base:Nat) (v:Value) (xs:List Int) (hs:a.eval s=v) (hown:bu w base v xs)
  (g1:Nat) (u:Int) (hx:a.eval x=.slice (some ⟨g1,0,none⟩) 1 1) (hnew:w.cell? ⟨g1,0,none⟩=some (.int .i64 u)) (hn:xs.length+1<=1000000) (hbase:base<=w.heap.size)
  (h:∀v' w',bu w' base v' (xs++[u])->aa v.ownBlock.toList w w'->(∀k,v'.ownBlock=some k->v.ownBlock=some k\/w.heap.size<=k)->K (a.put o.dst v') w') :
  if Region.wanted o (yielded ops a.tmps)=true then Oper.wp Tryz.prog o a w K Q else E:=by
 have hw:Region.wanted o (yielded ops a.tmps)=true:=by simp[Region.wanted,hgd]
 rw[if_pos hw];exact vg s x t ho ht base v xs hs hown g1 u hx hnew hn hbase h
theorem xB{ops:Array Oper}{rest:List Oper}{o:Oper}{a:Act}{w:World}{Q:Exit->Act->World->Prop}(hgd:o.guard=none)(s x:Operand)(t:TypeId)
  (ho:o.op=.call { callee:=.builtin .append,args:=#[s,x],argTypes:=#[t,t] }) (ht:Tryz.prog.underlying t=some (.slice 3))
  (base:Nat) (v:Value) (xs:List Int) (hs:a.eval s=v) (hown:bu w base v xs)
  (g1:Nat) (u:Int) (hx:a.eval x=.slice (some ⟨g1,0,none⟩) 1 1) (hnew:w.cell? ⟨g1,0,none⟩=some (.int .i64 u)) (hn:xs.length+1<=1000000) (hbase:base<=w.heap.size)
  (h:∀v' w',bu w' base v' (xs++[u])->aa v.ownBlock.toList w w'->(∀k,v'.ownBlock=some k->v.ownBlock=some k\/w.heap.size<=k)->wpList Tryz.prog ops Q rest (a.put o.dst v') w'):wpList Tryz.prog ops Q (o::rest) a w:=
 wpList_plain hgd fun _ hK=>vg s x t ho ht base v xs hs hown g1 u hx hnew hn hbase fun v' w' h2 h3 h4=>hK _ _ (h v' w' h2 h3 h4)
theorem gI.tail{w:World}{F:List Nat}{v:Value}{x:Int}{xs:List Int}(h:gI w F v (x::xs)):gI w F (tailV v) xs:=by
 obtain⟨a,cap,rfl,h1,h2,h3⟩:=h;obtain⟨g,off,rfl,hg,hF,_⟩:=h3 0 x rfl;simp only[List.length_cons]at h1⊢;unfold tailV;simp only[Nat.add_sub_cancel];refine⟨_,_,rfl,ω,ω,fun j u hj=>?_⟩;have hjl:j<xs.length:=(List.getElem?_eq_some_iff.1 hj).1;rw[if_neg ω];obtain⟨g2,UQ,he,hg2,hF2,hc⟩:=h3 (j+1) u (by simpa using hj);simp only[Option.some.injEq,Addr.mk.injEq,and_true]at he;obtain⟨rfl,rfl⟩:=he;exact⟨g,off+1,by simp[Addr.add_lit],hg,hF,by rw[show off+1+j=off+(j+1) by omega];exact hc⟩
theorem gI.Zi{w:World}{F:List Nat}{lo:Nat}{v:Value}{xs:List Int}(h:jq w lo v xs.length (aQ xs))(hF:∀g,g∈F->g<lo):gI w F v xs:=by
 obtain⟨a,cap,rfl,h1,h2,h3⟩:=h.open;refine⟨a,cap,rfl,h2,h1,fun j u hj=>?_⟩;have hjl:j<xs.length:=(List.getElem?_eq_some_iff.1 hj).1;obtain⟨g,rfl,hlo,hg,hc⟩:=h3 ω;exact⟨g,0,rfl,hg,fun hm=>by have:=hF g hm;omega,by rw[Nat.zero_add];exact hc j _ (by unfold aQ;rw[List.getElem?_map,hj];rfl)⟩
theorem gI.upd{w w':World}{F G:List Nat}{v:Value}{xs:List Int}(h:gI w F v xs)(hu:aa G w w')(hG:∀g,g∈G->g∈F):gI w' F v xs:=by
 obtain⟨a,cap,rfl,h1,h2,h3⟩:=h;refine⟨a,cap,rfl,h1,h2,fun j u hj=>?_⟩;obtain⟨g,off,rfl,hg,hF,hc⟩:=h3 j u hj;exact⟨g,off,rfl,Nat.lt_of_lt_of_le hg hu.size,hF,by rw[hu.cell hg (fun hm=>hF (hG _ hm))];exact hc⟩
theorem Tx(bt ba lo n:Nat)(S:CS)(v:Value)(l:List Int)(w:World)(h:aY w bt ba lo n S)(F:List Nat)(hv:gI w F v l) :
  Calls Tryz.prog 200 #[.pointer (some ⟨bt,0,none⟩),v] w fun e w'=>e=.returned (.bool (Ot n S l))/\w'=w:=by
 obtain⟨a,cap,rfl,hlc,hcp,hp⟩:=hv;have HP:=χ hp;clear hp;unfold Ot;generalize hlen:l.length=len at *;have HLEN:=χ hlen;clear hlen;have kR:=fun x=>xe bt ba lo n S x w h;have kD:=fun x=>qN bt ba lo n S x w h;clear h
 go_enter Tryz.func200,Tryz.ntmps200
 go_wp2
 go_loop [9] (fun i=>∃k:Nat,k<=len/\i=.int .i64 (k:Int)/\wD n S l k=true) (fun i=>len-(intOf i).toNat)
 case atStart=>exact⟨0,ω,rfl,rfl⟩
 case round=>
  obtain⟨k,hk,rfl,ht⟩:=hrel
  by_cases hlt:k<len
  ·obtain⟨g,off,rfl,_,_,c1⟩:=HP.out k (l.getD k 0) (by simp[φ,HLEN.out,hlt]);have c2:0<k->w.cell? ⟨g,off+(k-1),none⟩=some (.int .i64 (l.getD (k-1) 0)):=fun hk0=>by
    have hk1:k-1<l.length:=by rw[HLEN.out];omega
    obtain⟨g2,UQ,he,_,_,c⟩:=HP.out (k-1) (l.getD (k-1) 0) (by simp[φ,hk1]);simp only[Option.some.injEq,Addr.mk.injEq,and_true]at he;obtain⟨rfl,rfl⟩:=he;exact c
   have hsu:=JF n S l k;have hno:=Rp n S l k ht;rw[ht,Bool.true_and]at hsu;unfold rowOk at hsu hno;have HS:=χ hsu;have HN:=χ hno;have k1:=kR (l.getD k 0);have k2:=kD (l.getD k 0);have k3:=kD (l.getD (k-1) 0);clear hsu hno ht kR kD;generalize l.getD k 0=x at *;generalize l.getD (k-1) 0=y at *;generalize oQ n S x=b at *;generalize oL n S x=d at *;generalize oL n S y=d2 at *;cases b with
   | false=>
    go_wp2_with (go_at_call 198;refine(k1).mono ?_;rintro e w' ⟨rfl,rfl⟩)
    go_ret;exact⟨aT (HN.out rfl _ hlt).symm,rfl⟩
   | true=>
    by_cases hk0:k=0
    ·subst hk0;clear c2;rw[Nat.add_zero]at c1
     go_wp2_with (go_at_call 198;refine(k1).mono ?_;rintro e w' ⟨rfl,rfl⟩)
     go_round
     case rel=>exact⟨1,ω,rfl,HS.out⟩
     case measure=>simp[intOf];omega
    ·have c3:=c2 ω;have hk1:1<=k:=ω;clear c2;obtain⟨k',rfl⟩:∃k',k=k'+1:=⟨k-1,ω⟩;simp only[Nat.add_sub_cancel]at c3
     by_cases hd:d2<d
     ·have hd':¬ (d<=d2):=ω
      go_wp2_with (first|(go_at_call 198;(with_reducible refine(k1).mono ?_);rintro e w' ⟨rfl,rfl⟩)|(go_at_call 204;(with_reducible refine(k3).mono ?_);rintro e w' ⟨rfl,rfl⟩)|(go_at_call 204;(with_reducible refine(k2).mono ?_);rintro e w' ⟨rfl,rfl⟩))
      go_round
      case rel=>exact⟨k'+1+1,ω,by go_num,by rw[HS.out];simp[hd]⟩
      case measure=>simp[intOf];omega
     ·have hd':d<=d2:=ω
      go_wp2_with (first|(go_at_call 198;(with_reducible refine(k1).mono ?_);rintro e w' ⟨rfl,rfl⟩)|(go_at_call 204;(with_reducible refine(k3).mono ?_);rintro e w' ⟨rfl,rfl⟩)|(go_at_call 204;(with_reducible refine(k2).mono ?_);rintro e w' ⟨rfl,rfl⟩))
      go_ret;exact⟨aT (HN.out ζ _ hlt).symm,rfl⟩
  ·obtain rfl:k=len:=ω;go_wp2;go_ret;exact⟨by first|rfl|exact aT ht.symm,rfl⟩
theorem FP(w:World)(F:List Nat)(v:Value)(l:List Int)(x:Int)(h:gI w F v l) :
  Calls Tryz.prog 189 #[v,.int .i64 x] w fun e w'=>e=.returned (.int .i64 (idxOf l x))/\w'=w:=by
 obtain⟨a,cap,rfl,hlc,hcp,hp⟩:=h;have HP:=χ hp;clear hp;generalize hlen:l.length=len at *;have HLEN:=χ hlen;clear hlen
 go_enter Tryz.func189,Tryz.ntmps189
 go_wp2
 go_loop [8] (fun i=>∃q:Nat,q<=len/\i=.int .i64 (q:Int)/\x∉l.take q) (fun i=>len-(intOf i).toNat)
 case atStart=>exact⟨0,ω,rfl,σ⟩
 case round=>
  obtain⟨q,hq,rfl,hn⟩:=hrel
  by_cases hlt:q<len
  ·obtain⟨y,pK⟩:∃y,l[q]?=some y:=⟨l[q]'(by rw[HLEN.out];exact hlt),σ⟩;obtain⟨gb,off,rfl,_,_,hc⟩:=HP.out q y pK
   by_cases hxy:x=y
   ·subst hxy;have hi:=GQ l x q hn pK;have HI:=χ hi;clear hn pK hi;go_wp2;go_ret;exact⟨j3 HI.out.symm,rfl⟩
   ·have b1:(x == y)=false:=by simpa using hxy
    have hn2:x∉l.take (q+1):=by rw[List.take_add_one,pK];simp;exact⟨hn,hxy⟩
    have HN2:=χ hn2;clear hn pK hn2 hxy;go_wp2
    go_round
    case rel=>exact⟨q+1,ω,by go_num,HN2.out⟩
    case measure=>simp[intOf];omega
  ·obtain rfl:q=len:=ω;rw[List.take_of_length_le (by rw[HLEN.out];omega)]at hn;have HI:=χ (Af l x hn);clear hn;go_wp2;go_ret;exact⟨j3 HI.out.symm,rfl⟩
theorem IA(w:World)(F:List Nat)(v:Value)(l:List Int)(x:Int)(h:gI w F v l) :
  Calls Tryz.prog 203 #[v,.int .i64 x] w fun e w'=>e=.returned (.bool (decide (x∈l)))/\w'=w:=by
 have k1:=FP w F v l x h;obtain⟨a,cap,rfl,_⟩:=h
 by_cases hx:x∈l
 ·obtain⟨i,hi,he,_⟩:=wu l x hx;rw[he]at k1
  go_enter Tryz.func203,Tryz.ntmps203
  go_wp2_with ((go_at_call 189;(with_reducible refine(k1).mono ?_);rintro e w9 ⟨rfl,aJ⟩;rw[aJ];clear aJ w9))
  go_ret;exact⟨aT (by simp[hx]),rfl⟩
 ·rw[Af l x hx]at k1
  go_enter Tryz.func203,Tryz.ntmps203
  go_wp2_with ((go_at_call 189;(with_reducible refine(k1).mono ?_);rintro e w9 ⟨rfl,aJ⟩;rw[aJ];clear aJ w9))
  go_ret;exact⟨aT (by simp[hx]),rfl⟩
theorem TH(w:World)(F:List Nat)(B7:Nat)(v:Value)(l:List Int)(x:Int)(h:gI w F v l)(hr:aL w B7 26 1 (fun _=>v)) :
  Calls Tryz.prog 202 #[.int .i64 x,.pointer (some ⟨B7,0,none⟩)] w fun e w'=>e=.returned (.bool (decide (x∈l)))/\w'=w:=by
 have k1:=IA w F v l x h;have c0:=hr.cell 0 ω;obtain⟨a,cap,rfl,_⟩:=h
 go_enter Tryz.func202,Tryz.ntmps202
 go_wp2_with ((go_at_call 203;(with_reducible refine(k1).mono ?_);rintro e w9 ⟨rfl,aJ⟩;rw[aJ];clear aJ w9))
 go_ret;exact⟨rfl,rfl⟩
theorem KC(w:World)(F:List Nat)(B7:Nat)(va v:Value)(A l:List Int)(ha:gI w F va A)(h:gI w F v l)(hr:aL w B7 26 1 (fun _=>v)) :
  Calls Tryz.prog 197 #[va,.func (Fn.func 202) #[] #[.pointer (some ⟨B7,0,none⟩)]] w fun e w'=>(∃i:Int,e=.returned (.int .i64 i)/\decide (0<=i)=A.any (fun x=>decide (x∈l)))/\w'=w:=by
 have kC:=fun x=>TH w F B7 v l x h hr;clear h hr;obtain⟨a,cap,rfl,hlc,hcp,hp⟩:=ha;have HP:=χ hp;clear hp;generalize hlen:A.length=len at *;have HLEN:=χ hlen;clear hlen
 go_enter Tryz.func197,Tryz.ntmps197
 go_wp2
 go_loop [8] (fun i=>∃q:Nat,q<=len/\i=.int .i64 (q:Int)/\(A.take q).any (fun x=>decide (x∈l))=false) (fun i=>len-(intOf i).toNat)
 case atStart=>exact⟨0,ω,rfl,σ⟩
 case round=>
  obtain⟨q,hq,rfl,hn⟩:=hrel
  by_cases hlt:q<len
  ·obtain⟨y,pK⟩:∃y,A[q]?=some y:=⟨A[q]'(by rw[HLEN.out];exact hlt),σ⟩;obtain⟨gb,off,rfl,_,_,hc⟩:=HP.out q y pK;have k1:=kC y
   by_cases hy:y∈l
   ·rw[decide_eq_true hy]at k1;have hfin:A.any (fun x=>decide (x∈l))=true:=List.any_eq_true.2 ⟨y,List.mem_of_getElem? pK,by simpa using hy⟩;have HF:=χ hfin;clear hn pK hy kC hfin
    go_wp2_with ((go_at_call 202;(with_reducible refine(k1).mono ?_);rintro e w9 ⟨rfl,aJ⟩;rw[aJ];clear aJ w9))
    go_ret;exact⟨⟨_,rfl,by rw[HF.out];simp⟩,rfl⟩
   ·rw[decide_eq_false hy]at k1;have hn2:(A.take (q+1)).any (fun x=>decide (x∈l))=false:=by rw[List.take_add_one,pK,List.any_append,hn];simpa using hy
    have HN2:=χ hn2;clear hn pK hn2 hy kC
    go_wp2_with ((go_at_call 202;(with_reducible refine(k1).mono ?_);rintro e w9 ⟨rfl,aJ⟩;rw[aJ];clear aJ w9))
    go_round
    case rel=>exact⟨q+1,ω,by go_num,HN2.out⟩
    case measure=>simp[intOf];omega
  ·obtain rfl:q=len:=ω;rw[List.take_of_length_le (by rw[HLEN.out];omega)]at hn;have HN:=χ hn;clear hn kC;go_wp2;go_ret;exact⟨⟨_,rfl,by rw[HN.out];rfl⟩,rfl⟩
theorem BJ(w:World)(F:List Nat)(B7:Nat)(va v:Value)(A l:List Int)(ha:gI w F va A)(h:gI w F v l)(hr:aL w B7 26 1 (fun _=>v)) :
  Calls Tryz.prog 201 #[va,.func (Fn.func 202) #[] #[.pointer (some ⟨B7,0,none⟩)]] w fun e w'=>e=.returned (.bool (A.any (fun x=>decide (x∈l))))/\w'=w:=by
 have k1:=KC w F B7 va v A l ha h hr;generalize A.any (fun x=>decide (x∈l))=b at *;obtain⟨a,cap,rfl,_⟩:=ha;clear h hr
 go_enter Tryz.func201,Tryz.ntmps201
 go_wp2_with (go_at_call 197;(with_reducible refine(k1).mono ?_);rintro e w9 ⟨⟨i,rfl,hi⟩,aJ⟩;rw[aJ];clear aJ w9;have HI:=χ hi;clear hi)
 go_ret;exact⟨aT (by first|exact HI.out|(rw[←HI.out];simp)),rfl⟩
end Go.Proofs.YtklibcncmbofpaaGreat
