/-
  Lemmas for PqAlike: OwnS, Words, Carry, Carry2, Carry3, Carry4, Carry5, Carry6, Off, Carry8, CarryLink, KarDef, KOrd, Kar7, Kar9, Kar10, KarPl, KarPl2, KarLaw, FrOk, BnP, BnQ, BnR. Conditions: those of each lemma.
-/
import Derived.Deep.RegionHeldLaw
import Derived.Deep.RegionLaw
import Derived.ArgAppend
import Derived.Deep.DeepCutAuto
import Derived.Outline
import Derived.Test.YtnpdakpagnpanaaGreatC01
set_option linter.all false
set_option maxHeartbeats 8000000
set_option maxRecDepth 10000
namespace Go.Proofs.YtnpdakpagnpanaaGreat
open Tryz
open Go Go.RowKit
theorem xH{w:World}{base size n g cap:Nat}{e:TypeId}{xs:List Value}(h:w.ownsRow base e size (.slice (some ⟨g,0,none⟩) n cap) n xs)(j:Nat)(u:Value) :
  (w.setCell ⟨g,j,none⟩ u).ownsRow base e size (.slice (some ⟨g,0,none⟩) n cap) n (xs.set j u):=by
 rcases h.2 with⟨h1,_⟩|⟨g',cap',cur,h1,hb,hg,hn,hc,hs,ht⟩
 ·cases h1
 ·cases h1;refine⟨by rw[Ι];exact h.1,Β ⟨g,cap,cur.setIfInBounds j u,rfl,hb,?_,hn,hc,by simp;exact hs,?_⟩⟩
  ·simp[World.setCell,Array.getElem?_modify,hg]
  ·rw[Array.toList_setIfInBounds]
   by_cases hj:j<n*size
   ·rw[List.take_set,ht]
   ·have hl:=h.1;rw[List.take_set_of_le ω,ht,List.set_eq_of_length_le ω]
def ov(o:Option Int):Int:=o.getD 0
def ob(o:Option Int):Bool:=o.isSome
structure CS where
 v:Nat->Value
 k:Nat->List Int
 u:Nat->Int
def CS.none:CS:=⟨λ_=>.slice Option.none 0 0,λ_=>[],λ_=>-1⟩
def dX(S:CS)(j:Nat):Value:=if j % 2=0 then S.v (j / 2) else .int .i64 (S.u (j / 2))
theorem nJ(S:CS)(x:Nat):dX S (x*2)=S.v x:=by unfold dX;rw[Δ ω,show x*2 / 2=x by omega]
theorem vk(S:CS)(x:Nat):dX S (x*2+1)=.int .i64 (S.u x):=by unfold dX;rw[Γ ω,show(x*2+1) / 2=x by omega]
def CS.blk(S:CS)(n:Nat):List Nat:=(List.range n).filterMap (λx=>(S.v x).ownBlock)
theorem CS.jQ(S:CS)(n g:Nat):g∈S.blk n↔∃x,x<n/\(S.v x).ownBlock=some g:=by unfold CS.blk;simp
structure bA(w:World)(bt ba lo n:Nat)(S:CS):Prop where
 head:aS w bt 231 1 (λ_=>.slice (some ⟨ba,0,none⟩) n n)
 row:aS w ba 233 (n*2) (dX S)
 own:∀x,x<n->w.ownsRow lo 3 1 (S.v x) (S.k x).length (bz (S.k x))
 sep:∀x y,x<n->y<n->x≠y->∀g,(S.v x).ownBlock=some g->(S.v y).ownBlock≠some g
 ne:bt≠ba
 Nf:bt<lo
 Nk:ba<lo
 low:lo<=w.heap.size
 le:n<=65536
 len:∀x,x<n->(S.k x).length<=n
theorem bA.oG{w:World}{bt ba lo n:Nat}{S:CS}(h:bA w bt ba lo n S){g:Nat}(hg:g∈S.blk n):lo<=g/\g<w.heap.size:=by
 obtain⟨x,hx,he⟩:=(S.jQ n g).1 hg;exact(h.own x hx).lt g he
theorem bA.upd{w w':World}{F:List Nat}{bt ba lo n:Nat}{S:CS}(h:bA w bt ba lo n S)(hu:ae F w w')(h1:bt∉F)(h2:ba∉F)(h3:∀g,g∈S.blk n->g∉F):bA w' bt ba lo n S:=
 ⟨h.head.upd hu h1,h.row.upd hu h2,λx hx=>ak (h.own x hx) hu (λk hk=>h3 k ((S.jQ n k).2 ⟨x,hx,hk⟩)),h.sep,h.ne,h.Nf,h.Nk,Χ h.low hu.size,h.le,h.len⟩
theorem bA.ag{w w':World}{bt ba lo n:Nat}{S:CS}(h:bA w bt ba lo n S)(hu:ae [] w w'):bA w' bt ba lo n S:=h.upd hu σ σ σ
theorem nodeInfo:(prog.info? 233).map (λi=>(i.zero,i.size,i.bytes))=some (some (.agg #[.slice none 0 0,.int .i64 0]),2,32):=by kernel_rfl
theorem FE(n:Nat)(w:World)(h:n<=65536) :
  Calls prog 86 #[.int .i64 (n:Int)] w λe w'=>∃bt ba,e=.returned (.tuple #[.pointer (some ⟨bt,0,none⟩),.int .i64 0])/\bA w' bt ba w'.heap.size n CS.none/\ae [] w w'/\w.heap.size<=bt/\w.heap.size<=ba:=by
 go_enter func86,ntmps86
 go_wp2_with (at_make;refine wpList_make_row rfl _ 229 rfl 233 (.agg #[.slice none 0 0,.int .i64 0]) 2 32 underlying229 nodeInfo n rfl ω μ ?_;intro w1 hr1 hu1)
 have hlt:=hr1.lt;have hz:∀j,j<n*2->(madeCells (Value.agg #[.slice none 0 0,.int .i64 0]).cells (n*2)).toList.getD j undef=if j % 2=0 then .slice none 0 0 else .int .i64 0:=λj hj=>by
  rw[show(Value.agg #[.slice none 0 0,.int .i64 0]).cells=#[Value.slice none 0 0,Value.int .i64 0] from rfl];unfold madeCells;simp[φ,hj];rcases(ω:j % 2=0\/j % 2=1) with h2|h2<;>simp[h2]
 go_loopw [21] (λi wr=>∃(k:Nat) (f:Nat->Value),k<=n/\i=.int .i64 k/\aS wr w1.heap.size 231 1 (λ_=>.slice (some ⟨w.heap.size,0,none⟩) n n)/\aS wr w.heap.size 233 (n*2) f/\(∀j,j<n*2->f j=if j % 2=0 then .slice none 0 0 else .int .i64 (if j<k*2 then -1 else 0))/\ae [] w wr) (λi _=>n-(intOf i).toNat)
 case atStart=>exact⟨0,_,ω,rfl,eZ _ _ _ |>.ext (λj hj=>by simp at hj;subst hj;rfl),hr1.alloc _,λj hj=>by rw[hz j hj,Γ (show ¬j<0*2 by omega)],hu1.alloc _⟩
 case round=>
  obtain⟨k,f,hk,rfl,hH,hR,hf,hu⟩:=hrel;have HZ:=χ hz;clear hz
  by_cases hkn:k<n
  ·have c0:=hH.cell 0 ω;have d1:=hR.cell (k*2+1) ω;have e1:=hR.free (k*2+1);have HF:=χ hf;clear hf;go_wp2
   go_roundw
   case rel=>
    refine⟨k+1,_,ω,by go_num,hH.far _ _ ζ,hR.set _ _,λj hj=>?_,hu.setCell (Β σ) _⟩
    by_cases hj1:j=k*2+1
    ·subst hj1;rw[Δ rfl,Γ ω,Δ ω]
    ·rw[Γ hj1,HF.out j hj]
     by_cases h2:j % 2=0
     ·rw[Δ h2,Δ h2]
     ·rw[Γ h2,Γ h2]
      by_cases h3:j<k*2
      ·rw[Δ h3,Δ ω]
      ·rw[Γ h3,Γ ω]
   case measure=>simp[intOf];omega
  ·obtain rfl:k=n:=ω;go_wp2;go_ret2;exact⟨_,_,rfl,⟨hH,hR.ext (λj hj=>by rw[hf j hj,Δ (show j<k*2 by omega)];rfl),λx hx=>World.ownsRow_nil _ _ _ _,λx y _ _ _ g hg=>by simp[CS.none,Value.ownBlock] at hg,by omega,hH.lt,hR.lt,Θ _,h,λx hx=>Nat.zero_le _⟩,hu,hu1.size,Θ _⟩
theorem nK(bt ba lo n:Nat)(S:CS)(x:Int)(w:World)(h:bA w bt ba lo n S)(b:Bool)(hb:b=decide (0<=x/\x<n)) :
  Calls prog 186 #[.pointer (some ⟨bt,0,none⟩),.int .i64 x] w λe w'=>e=.returned (.bool b)/\w'=w:=by
 have c0:=h.head.cell 0 ω;clear h;subst hb
 by_cases h0:0<=x
 ·by_cases h1:x<n
  ·go_enter func186,ntmps186
   go_wp2;go_ret;exact⟨cZ (by simp[h0,h1]),rfl⟩
  ·go_enter func186,ntmps186
   go_wp2;go_ret;exact⟨cZ (by simp[h0,h1]),rfl⟩
 ·go_enter func186,ntmps186
  go_wp2;go_ret;exact⟨cZ ζ,rfl⟩
def pF(n:Nat)(S:CS)(x:Int):Bool:=decide (0<=x/\x<n) && S.u x.toNat == -1
def oZ(n:Nat)(S:CS)(x:Int):Int:=if 0<=x/\x<n then(S.k x.toNat).length else 0
def JY(n:Nat)(S:CS)(x:Int):Option Int:=if 0<=x/\x<n then(if S.u x.toNat=-1 then none else some (S.u x.toNat)) else none
theorem xM(bt ba lo n:Nat)(S:CS)(x:Int)(w:World)(h:bA w bt ba lo n S) :
  Calls prog 189 #[.pointer (some ⟨bt,0,none⟩),.int .i64 x] w λe w'=>e=.returned (.bool (pF n S x))/\w'=w:=by
 by_cases hx:0<=x/\x<n
 ·obtain⟨k,rfl⟩:∃k:Nat,x=k:=⟨x.toNat,ω⟩;have hk:k<n:=ω;have c0:=h.head.cell 0 ω;have d1:=h.row.cellAt (k*2+1) ω (vk S k);have k1:=nK bt ba lo n S k w h true (by simp[hk]);have e:pF n S k=(S.u k == -1):=by unfold pF;rw[Ν hx];simp
  rw[e];clear h e hx;generalize S.u k=u at *
  go_enter func189,ntmps189
  go_wp2_with (go_at_call 186;refine(k1).mono ?_;rintro e w' ⟨rfl,rfl⟩)
  go_ret;exact⟨rfl,rfl⟩
 ·have k1:=nK bt ba lo n S x w h false (by simpa using hx);have e:pF n S x=false:=by unfold pF;rw[Ξ hx];rfl
  rw[e];clear h e hx
  go_enter func189,ntmps189
  go_wp2_with (go_at_call 186;refine(k1).mono ?_;rintro e w' ⟨rfl,rfl⟩)
  go_ret;exact⟨rfl,rfl⟩
theorem rJ(bt ba lo n:Nat)(S:CS)(x:Int)(w:World)(h:bA w bt ba lo n S) :
  Calls prog 194 #[.pointer (some ⟨bt,0,none⟩),.int .i64 x] w λe w'=>e=.returned (.int .i64 (oZ n S x))/\w'=w:=by
 by_cases hx:0<=x/\x<n
 ·obtain⟨k,rfl⟩:∃k:Nat,x=k:=⟨x.toNat,ω⟩;have hk:k<n:=ω;have c0:=h.head.cell 0 ω;obtain⟨a,cap,hv,_⟩:=aV (h.own k hk);have d0:=h.row.cellAt (k*2) ω ((nJ S k).trans hv);have k1:=nK bt ba lo n S k w h true (by simp[hk]);have e:oZ n S k=((S.k k).length:Int):=by unfold oZ;rw[Δ hx];simp
  rw[e];clear h e hx hv;generalize (S.k k).length=u at *
  go_enter func194,ntmps194
  go_wp2_with (go_at_call 186;refine(k1).mono ?_;rintro e w' ⟨rfl,rfl⟩)
  go_ret;exact⟨rfl,rfl⟩
 ·have k1:=nK bt ba lo n S x w h false (by simpa using hx);have e:oZ n S x=0:=by unfold oZ;rw[Γ hx]
  rw[e];clear h e hx
  go_enter func194,ntmps194
  go_wp2_with (go_at_call 186;refine(k1).mono ?_;rintro e w' ⟨rfl,rfl⟩)
  go_ret;exact⟨rfl,rfl⟩
theorem xZ(bt ba lo n:Nat)(S:CS)(x:Int)(w:World)(h:bA w bt ba lo n S) :
  Calls prog 179 #[.pointer (some ⟨bt,0,none⟩),.int .i64 x] w λe w'=>e=.returned (.tuple #[.int .i64 (ov (JY n S x)),.bool (ob (JY n S x))])/\w'=w:=by
 by_cases hx:0<=x/\x<n
 ·obtain⟨k,rfl⟩:∃k:Nat,x=k:=⟨x.toNat,ω⟩;have hk:k<n:=ω;have c0:=h.head.cell 0 ω;have d1:=h.row.cellAt (k*2+1) ω (vk S k);have k1:=nK bt ba lo n S k w h true (by simp[hk]);have e:JY n S k=if S.u k=-1 then none else some (S.u k):=by unfold JY;rw[Δ hx];simp
  rw[e];clear h e hx;generalize S.u k=u at *
  by_cases hu:u=-1
  ·subst hu
   go_enter func179,ntmps179
   go_wp2_with (go_at_call 186;refine(k1).mono ?_;rintro e w' ⟨rfl,rfl⟩)
   go_ret2;exact⟨rfl,rfl⟩
  ·have b1:(u == -1)=false:=by simpa using hu
   rw[Γ hu];clear hu
   go_enter func179,ntmps179
   go_wp2_with (go_at_call 186;refine(k1).mono ?_;rintro e w' ⟨rfl,rfl⟩)
   go_ret2;exact⟨rfl,rfl⟩
 ·have k1:=nK bt ba lo n S x w h false (by simpa using hx);have e:JY n S x=none:=by unfold JY;rw[Γ hx]
  rw[e];clear h e hx
  go_enter func179,ntmps179
  go_wp2_with (go_at_call 186;refine(k1).mono ?_;rintro e w' ⟨rfl,rfl⟩)
  go_ret2;exact⟨rfl,rfl⟩
theorem QK(w:World)(lo:Nat)(v:Value)(z:List Int)(h:jk w lo v z.length (bz z))(hz:z.length<=65536) :
  Calls prog 152 #[v] w λe w'=>∃v',e=.returned v'/\jk w' w.heap.size v' z.length (bz z)/\ae [] w w':=by
 have h0:=h;obtain⟨a,cap,rfl,hcp,hlc,hp⟩:=h.open;have hl:=gQ z;generalize hzz:bz z=zs at *;have h1:∀u∈zs,u.oneCell'=true:=by rw[←hzz];exact Du z
 generalize z.length=len at *;clear hzz;cases a with
 |none=>
  have hn:len=0:=by
   rcases Nat.eq_zero_or_pos len with h|h
   ·exact h
   ·obtain⟨g,hg,_⟩:=hp h;cases hg
  subst hn;have hzs:zs=[]:=Ϛ hl;subst hzs;have hs:=λ(W:World)=>Lib.run_eql_slice_nil (P:=prog) W 77 3 none 0 cap 0 0 underlying77;clear hp h h0
  go_enter func152,ntmps152
  go_wp2;go_ret;exact⟨_,rfl,Α ⟨rfl,rfl,rfl⟩,ae.refl _ _⟩
 |some a=>
  have hs:=λ(W:World)=>Lib.run_eql_slice_nil (P:=prog) W 77 3 (some a) len cap 0 0 underlying77;have hL:=h.upd ((ae.refl [] w).alloc (.cells #[] 3)) σ;have hO:=rZ w [] 3 w.heap.size 1 0 rfl (Θ _) μ;clear hp h h0
  go_enter func152,ntmps152
  go_wp2_with (at_builtin;refine xx rfl _ _ 77 rfl w.heap.size 3 (.int .i64 0) 1 8 underlying77 gI rfl δ _ _ _ rfl hO lo len zs _ rfl hL ω h1 μ ω σ ?_;intro v2 w2 ho2 hu2)
  go_ret;have hu3:ae [w.heap.size] (w.alloc (.cells #[] 3)) w2:=hu2;refine⟨_,rfl,?_,((ae.refl _ _).alloc _).joined hu3 (λx hx=>Β (by simp at hx;omega))⟩;have:=jk.uU ho2;simpa using this
def rowOk(n:Nat)(S:CS)(l:List Int)(i:Nat):Bool:=pF n S (l.getD i 0) && (i == 0 || decide (oZ n S (l.getD (i-1) 0)<oZ n S (l.getD i 0)))
def xI(n:Nat)(S:CS)(l:List Int)(j:Nat):Bool:=(List.range j).all (rowOk n S l)
theorem Ma(n:Nat)(S:CS)(l:List Int)(j:Nat):xI n S l (j+1)=(xI n S l j && rowOk n S l j):=by
 unfold xI;rw[List.range_succ,List.all_append];simp
theorem Rl(n:Nat)(S:CS)(l:List Int)(j:Nat)(h:xI n S l j=true)(hj:rowOk n S l j=false)(m:Nat)(hm:j<m):xI n S l m=false:=by
 unfold xI;rw[List.all_eq_false];exact⟨j,by simp[hm],by simp[hj]⟩
def Pw(n:Nat)(S:CS)(l:List Int):Bool:=xI n S l l.length
def CS.AJ(S:CS)(x:Nat)(v:Value)(l:List Int):CS:=⟨λy=>if y=x then v else S.v y,λy=>if y=x then l else S.k y,S.u⟩
def CS.uf(S:CS)(x:Nat)(p:Int):CS:=⟨S.v,S.k,λy=>if y=x then p else S.u y⟩
theorem CS.U8(S:CS)(x:Nat)(v:Value)(l:List Int)(n g:Nat)(h:g∈(S.AJ x v l).blk n):g∈S.blk n\/v.ownBlock=some g:=by
 obtain⟨y,hy,he⟩:=(CS.jQ _ n g).1 h;unfold CS.AJ at he;simp only at he
 split at he
 ·exact Β he
 ·exact Α ((CS.jQ _ n g).2 ⟨y,hy,he⟩)
theorem bA.dC{w:World}{bt ba lo n:Nat}{S:CS}(h:bA w bt ba lo n S)(x:Nat)(hx:x<n)(p:Int):bA (w.setCell ⟨ba,x*2+1,none⟩ (.int .i64 p)) bt ba lo n (S.uf x p):=by
 have hu:ae [ba] w (w.setCell ⟨ba,x*2+1,none⟩ (.int .i64 p)):=(ae.refl _ _).setCell (Α σ) _;refine⟨h.head.upd hu (by simp;exact h.ne),(h.row.set _ _).ext (λj hj=>?_),λy hy=>ak (h.own y hy) hu (λk hk hm=>?_),h.sep,h.ne,h.Nf,h.Nk,Χ h.low hu.size,h.le,h.len⟩
 ·unfold dX CS.uf;simp only
  by_cases hj1:j=x*2+1
  ·subst hj1;rw[Δ rfl,Γ ω,show(x*2+1) / 2=x by omega,Δ rfl]
  ·rw[Γ hj1]
   by_cases h2:j % 2=0
   ·rw[Δ h2,Δ h2]
   ·rw[Γ h2,Γ h2,Γ ω]
 ·have:=((h.own y hy).lt k hk).1;have:=h.Nk;simp at hm;omega
theorem bA.Xa{w w1:World}{bt ba lo n:Nat}{S:CS}(h:bA w bt ba lo n S)(x:Nat)(hx:x<n)(v:Value)(l:List Int){F:List Nat}(hu:ae F w w1)(hF:∀g,g∈F->(S.v x).ownBlock=some g)
  (ho:w1.ownsRow lo 3 1 v l.length (bz l)) (hb:∀g,v.ownBlock=some g->(S.v x).ownBlock=some g\/w.heap.size<=g) (hl:l.length<=n):bA (w1.setCell ⟨ba,x*2,none⟩ v) bt ba lo n (S.AJ x v l):=by
 have Yj:∀g,g∈F->lo<=g/\g<w.heap.size:=λg hg=>(h.own x hx).lt g (hF g hg);have hl1:=h.Nf;have hl2:=h.Nk;have hu2:ae [ba] w1 (w1.setCell ⟨ba,x*2,none⟩ v):=(ae.refl _ _).setCell (Α σ) _;have hr:=h.row.upd hu (λhm=>by have:=Yj _ hm;omega);refine⟨(h.head.upd hu (λhm=>by have:=Yj _ hm;omega)).upd hu2 (by simp;exact h.ne),(hr.set _ _).ext (λj hj=>?_),λy hy=>?_,?_,h.ne,h.Nf,h.Nk,Χ (Χ h.low hu.size) hu2.size,h.le,?_⟩
 ·unfold dX CS.AJ;simp only
  by_cases hj1:j=x*2
  ·subst hj1;rw[Δ rfl,Δ ω,show(x*2) / 2=x by omega,Δ rfl]
  ·rw[Γ hj1]
   by_cases h2:j % 2=0
   ·rw[Δ h2,Δ h2,Γ ω]
   ·rw[Γ h2,Γ h2]
 ·unfold CS.AJ;simp only
  by_cases hyx:y=x
  ·rw[Δ hyx,Δ hyx];exact ak ho hu2 (λk hk hm=>by have:=(ho.lt k hk).1;simp at hm;omega)
  ·rw[Γ hyx,Γ hyx];have h1:=h.own y hy;have h2:=ak h1 hu (λk hk hm=>h.sep y x hy hx hyx k hk (hF k hm));exact ak h2 hu2 (λk hk hm=>by have:=(h1.lt k hk).1;simp at hm;omega)
 ·intro y z hy hz Tu g hg;unfold CS.AJ at hg ⊢;simp only at hg ⊢
  by_cases hyx:y=x
  ·rw[Δ hyx] at hg;rw[Γ (λe=>Tu (by rw[hyx,e]))];rcases hb g hg with h1|h1
   ·exact h.sep x z hx hz ω g h1
   ·intro h2;have:=((h.own z hz).lt g h2).2;omega
  ·rw[Γ hyx] at hg
   by_cases hzx:z=x
   ·rw[Δ hzx];intro h2;rcases hb g h2 with h1|h1
    ·exact h.sep y x hy hx hyx g hg h1
    ·have:=((h.own y hy).lt g hg).2;omega
   ·rw[Γ hzx];exact h.sep y z hy hz Tu g hg
 ·intro y hy;unfold CS.AJ;simp only
  by_cases hyx:y=x
  ·rw[Δ hyx];exact hl
  ·rw[Γ hyx];exact h.len y hy
structure gz(w:World)(bt ba n:Nat)(f:Nat->Value):Prop where
 head:aS w bt 231 1 (λ_=>.slice (some ⟨ba,0,none⟩) n n)
 row:aS w ba 233 (n*2) f
 ne:bt≠ba
 le:n<=65536
theorem bA.nodes{w:World}{bt ba lo n:Nat}{S:CS}(h:bA w bt ba lo n S):gz w bt ba n (dX S):=⟨h.head,h.row,h.ne,h.le⟩
theorem gz.upd{w w':World}{F:List Nat}{bt ba n:Nat}{f:Nat->Value}(h:gz w bt ba n f)(hu:ae F w w')(h1:bt∉F)(h2:ba∉F):gz w' bt ba n f:=⟨h.head.upd hu h1,h.row.upd hu h2,h.ne,h.le⟩
theorem gz.set{w:World}{bt ba n:Nat}{f:Nat->Value}(h:gz w bt ba n f)(j:Nat)(v:Value):gz (w.setCell ⟨ba,j,none⟩ v) bt ba n (λi=>if i=j then v else f i):=
 ⟨h.head.far _ _ h.ne,h.row.set j v,h.ne,h.le⟩
theorem gz.ext{w:World}{bt ba n:Nat}{f g:Nat->Value}(h:gz w bt ba n f)(hg:∀j,j<n*2->f j=g j):gz w bt ba n g:=⟨h.head,h.row.ext hg,h.ne,h.le⟩
def sK(f:Nat->Value)(p:Int)(ks:List Int)(i:Nat):Value:=if i % 2=1/\((i / 2:Nat):Int)∈ks then .int .i64 p else f i
def jh(f:Nat->Value)(x:Nat)(v:Value)(i:Nat):Value:=if i=x then v else f i
theorem DV(f:Nat->Value)(p:Int)(ks:List Int)(q y:Nat)(hk:ks[q]?=some (y:Int))(i:Nat):(if i=y*2+1 then .int .i64 p else sK f p (ks.take q) i)=sK f p (ks.take (q+1)) i:=by
 unfold sK;rw[ϐ,hk]
 by_cases h1:i=y*2+1
 ·subst h1;rw[Δ rfl,Δ ⟨ω,by simp;exact Β ω⟩]
 ·rw[Γ h1]
  by_cases h2:i % 2=1/\((i / 2:Nat):Int)∈ks.take q
  ·rw[Δ h2,Δ ⟨h2.1,by simp only[τ];exact Α h2.2⟩]
  ·rw [Γ h2,Γ (λh=>by
    obtain⟨h3,h4⟩:=h;rcases τ.1 h4 with h4|h4
    ·exact h2 ⟨h3,h4⟩
    ·simp at h4;omega)]
theorem Ep(bt ba n lo x:Nat)(f:Nat->Value)(v:Value)(ks:List Int)(w:World)(h:gz w bt ba n f)(hv:jk w lo v ks.length (bz ks))(hx:x<n)(hlo:ba<lo)(hks:∀k,k∈ks->0<=k/\k<n) :
  Calls prog 187 #[.pointer (some ⟨bt,0,none⟩),.int .i64 (x:Int),v] w λe w'=>e=.returned (.tuple #[])/\gz w' bt ba n (sK (jh f (x*2) v) x ks)/\ae [ba] w w':=by
 obtain⟨a,cap,rfl,hcp,hlc,hp⟩:=hv.open;have c0:=h.head.cell 0 ω;have d0:=h.row.cell (x*2) ω;have e0:=h.row.free (x*2);have HN:gz (w.setCell ⟨ba,x*2,none⟩ (.slice a ks.length cap)) bt ba n (sK (jh f (x*2) (.slice a ks.length cap)) x (ks.take 0)):=by
  refine(h.set (x*2) (.slice a ks.length cap)).ext (λj hj=>?_)
  show jh f (x*2) (.slice a ks.length cap) j=_
  unfold sK;rw[Γ σ]
 have hu0:ae [ba] w (w.setCell ⟨ba,x*2,none⟩ (.slice a ks.length cap)):=(ae.refl _ _).setCell (Α σ) _;have HP:=χ hp;have HK:=χ hks;generalize jh f (x * 2) (.slice a ks.length cap)=g at *;clear hp hv hks h;generalize hlen:ks.length=len at *;have HLEN:=χ hlen;clear hlen
 go_enter func187,ntmps187
 go_wp2
 go_loopw [18] (λi wr=>∃q:Nat,q<=len/\i=.int .i64 (q:Int)/\gz wr bt ba n (sK g x (ks.take q))/\ae [ba] w wr) (λi _=>len-(intOf i).toNat)
 case atStart=>exact⟨0,ω,rfl,HN,hu0⟩
 case round=>
  obtain⟨q,hq,rfl,hN,hu⟩:=hrel
  by_cases hlt:q<len
  ·obtain⟨gb,rfl,hg1,hg2,Gm⟩:=HP.out ω;obtain⟨y,qh⟩:∃y,ks[q]?=some y:=⟨ks[q]'(by rw[HLEN.out];exact hlt),σ⟩;obtain⟨hy0,hyn⟩:=HK.out y (Η qh);obtain⟨Y,rfl⟩:=Int.eq_ofNat_of_zero_le hy0;have hc:=Gm q (.int .i64 (Y:Int)) (by unfold bz;rw[ϒ,qh];rfl);have hc2:wr.cell? ⟨gb,q,none⟩=some (.int .i64 (Y:Int)):=by rw[hu.cell hg2 ζ];exact hc
   have c1:=hN.head.cell 0 ω;have d1:=hN.row.cell (Y*2+1) ω;have e1:=hN.row.free (Y*2+1);have hs:=DV g x ks q Y qh;have HS:=χ hs;have HNN:=χ hN;clear hs qh Gm hc hN HN;go_wp2
   go_roundw
   case rel=>exact⟨q+1,ω,by go_num,(HNN.out.set _ _).ext (λj hj=>HS.out j),hu.setCell (Α σ) _⟩
   case measure=>simp[intOf];omega
  ·obtain rfl:q=len:=ω;rw[List.take_of_length_le (by rw[HLEN.out];omega)] at hN;go_wp2;go_end0;exact⟨rfl,hN,hu⟩
def gZ(S:CS)(x:Nat):CS:=⟨λy=>if y=x then .slice none 0 0 else S.v y,λy=>if y=x then[] else S.k y,λy=>if(y:Int)∈S.k x then -1 else S.u y⟩
theorem rA(S:CS)(x n g:Nat)(h:g∈(gZ S x).blk n):g∈S.blk n:=by
 obtain⟨y,hy,he⟩:=(CS.jQ _ n g).1 h;unfold gZ at he;simp only at he
 split at he
 ·cases he
 ·exact(CS.jQ _ n g).2 ⟨y,hy,he⟩
theorem Jw(S:CS)(x:Nat)(j:Nat):sK (jh (dX S) (x*2) (.slice none 0 0)) (-1) (S.k x) j=dX (gZ S x) j:=by
 unfold sK jh dX gZ;simp only
 by_cases h:j % 2=0
 ·rw[Γ ω,Δ h]
  by_cases h2:j=x*2
  ·rw[Δ h2,Δ h,Δ ω]
  ·rw[Γ h2,Δ h,Γ ω]
 ·rw[Γ h]
  by_cases h2:((j / 2:Nat):Int)∈S.k x
  ·rw[Δ ⟨ω,h2⟩,Γ h,Δ h2]
  ·rw[Γ (λh=>h2 h.2),Γ ω,Γ h,Γ h2]
theorem bA.split{w w1:World}{bt ba lo n:Nat}{S:CS}(h:bA w bt ba lo n S)(x:Nat)(hx:x<n)(hN:gz w1 bt ba n (dX (gZ S x)))(hu:ae [ba] w w1):bA w1 bt ba lo n (gZ S x):=by
 have h2:=h.Nk;refine⟨hN.head,hN.row,λy hy=>?_,λy z hy hz Tu g hg=>?_,h.ne,h.Nf,h.Nk,Χ h.low hu.size,h.le,λy hy=>?_⟩
 ·unfold gZ;simp only
  by_cases hyx:y=x
  ·rw[Δ hyx,Δ hyx];exact World.ownsRow_nil _ _ _ _
  ·rw[Γ hyx,Γ hyx];exact ak (h.own y hy) hu (λk hk hm=>by have:=((h.own y hy).lt k hk).1;simp at hm;omega)
 ·unfold gZ at hg ⊢;simp only at hg ⊢
  by_cases hyx:y=x
  ·rw[Δ hyx] at hg;cases hg
  ·rw[Γ hyx] at hg
   by_cases hzx:z=x
   ·rw[Δ hzx];intro h;cases h
   ·rw[Γ hzx];exact h.sep y z hy hz Tu g hg
 ·unfold gZ;simp only
  split
  ·exact Nat.zero_le _
  ·exact h.len y hy
theorem PG(bt ba lo n:Nat)(S:CS)(x:Nat)(w:World)(h:bA w bt ba lo n S)(hx:x<n)(hr:pF n S x=true)(hks:∀k,k∈S.k x->0<=k/\k<n) :
  Calls prog 184 #[.pointer (some ⟨bt,0,none⟩),.int .i64 (x:Int)] w λe w'=>∃v,e=.returned v/\jk w' w.heap.size v (S.k x).length (bz (S.k x))/\bA w' bt ba lo n (gZ S x)/\ae [ba] w w':=by
 have hle:=h.le;have hl2:=h.Nk;have hln:=h.len x hx;have k1:=xM bt ba lo n S x w h;rw[hr] at k1;have c0:=h.head.cell 0 ω;have hL:=jk.uU (h.own x hx);obtain⟨a,cap,hv,hcp,hlc,hp⟩:=hL.open;have d0:=h.row.cellAt (x*2) ω ((nJ S x).trans hv);have e0:=h.row.free (x*2);have hu0:ae [ba] w (w.setCell ⟨ba,x*2,none⟩ (.slice none 0 0)):=(ae.refl _ _).setCell (Α σ) _;have HN:gz (w.setCell ⟨ba,x*2,none⟩ (.slice none 0 0)) bt ba n (sK (jh (dX S) (x*2) (.slice none 0 0)) (-1) ((S.k x).take 0)):=by
  refine(h.nodes.set (x*2) (.slice none 0 0)).ext (λj hj=>?_)
  show jh (dX S) (x*2) (.slice none 0 0) j=_
  unfold sK;rw[Γ σ]
 have HC:=λW (hW:ae [ba] w W)=>QK W lo (.slice a (S.k x).length cap) (S.k x) (by rw[hv] at hL;exact hL.upd hW (λk hk=>by simp at hk;omega)) ω;have HE:=χ (Jw S x);have H:=χ h;have HP:=χ hp;have HK:=χ hks;generalize jh (dX S) (x * 2) (.slice none 0 0)=g at *;clear h hr hks hp hL hv;generalize S.k x=ks at *;generalize hlen:ks.length=len at *;have HLEN:=χ hlen;clear hlen
 go_enter func184,ntmps184
 go_wp2_with ((go_at_call 189;(with_reducible refine aT (k1) ?_)))
 go_loopw [29] (λi wr=>∃q:Nat,q<=len/\i=.int .i64 (q:Int)/\gz wr bt ba n (sK g (-1) (ks.take q))/\ae [ba] w wr) (λi _=>len-(intOf i).toNat)
 case atStart=>exact⟨0,ω,rfl,HN,hu0⟩
 case round=>
  obtain⟨q,hq,rfl,hN,hu⟩:=hrel
  by_cases hlt:q<len
  ·obtain⟨gb,rfl,hg1,hg2,Gm⟩:=HP.out ω;obtain⟨y,qh⟩:∃y,ks[q]?=some y:=⟨ks[q]'(by rw[HLEN.out];exact hlt),σ⟩;obtain⟨hy0,hyn⟩:=HK.out y (Η qh);obtain⟨Y,rfl⟩:=Int.eq_ofNat_of_zero_le hy0;have hc:=Gm q (.int .i64 (Y:Int)) (by unfold bz;rw[ϒ,qh];rfl);have hc2:wr.cell? ⟨gb,q,none⟩=some (.int .i64 (Y:Int)):=by rw[hu.cell hg2 ζ];exact hc
   have c1:=hN.head.cell 0 ω;have d1:=hN.row.cell (Y*2+1) ω;have e1:=hN.row.free (Y*2+1);have hs:=DV g (-1) ks q Y qh;have HS:=χ hs;have HNN:=χ hN;clear hs qh Gm hc hN HN;go_wp2
   go_roundw
   case rel=>exact⟨q+1,ω,by go_num,(HNN.out.set _ _).ext (λj hj=>HS.out j),hu.setCell (Α σ) _⟩
   case measure=>simp[intOf];omega
  ·obtain rfl:q=len:=ω;rw[List.take_of_length_le (by rw[HLEN.out];omega)] at hN;have kC:=HC wr hu;have VA:=hN.ext (λj hj=>HE.out j);have hsz:=hu.size;clear HC hN HN
   go_wp2_with (go_at_call 152;(with_reducible refine(kC).mono ?_);rintro e w2 ⟨v2,rfl,h2,h3⟩)
   go_ret;exact⟨_,rfl,h2.mono hsz,H.out.split x hx (VA.upd h3 σ σ) (hu.then h3),hu.then h3⟩
def idxOf(l:List Int)(x:Int):Int:=match l.findIdx? (λy=>y == x) with|some i=>(i:Int)|none=>-1
theorem GH(l:List Int)(x:Int)(k:Nat)(hn:x∉l.take k)(hk:l[k]?=some x):idxOf l x=k:=by
 have:l.findIdx? (λy=>y == x)=some k:=by
  rw[List.findIdx?_eq_some_iff_getElem];obtain⟨h1,h2⟩:=List.getElem?_eq_some_iff.1 hk;refine⟨h1,by simp[h2],λj hj=>?_⟩;simp only[ϟ];intro e;exact hn (by rw[←e];exact List.mem_take_iff_getElem.2 ⟨j,ω,rfl⟩)
 unfold idxOf;rw[this]
theorem Au(l:List Int)(x:Int)(hn:x∉l):idxOf l x=-1:=by
 have:l.findIdx? (λy=>y == x)=none:=by
  rw[List.findIdx?_eq_none_iff];intro y hy;simp only[beq_eq_false_iff_ne];intro e;subst e;exact hn hy
 unfold idxOf;rw[this]
theorem Df(w:World)(lo:Nat)(v:Value)(l:List Int)(x:Int)(h:jk w lo v l.length (bz l)) :
  Calls prog 180 #[v,.int .i64 x] w λe w'=>e=.returned (.int .i64 (idxOf l x))/\w'=w:=by
 obtain⟨a,cap,rfl,hcp,hlc,hp⟩:=h.open;have HP:=χ hp;clear hp h;generalize hlen:l.length=len at *;have HLEN:=χ hlen;clear hlen
 go_enter func180,ntmps180
 go_wp2
 go_loop [8] (λi=>∃q:Nat,q<=len/\i=.int .i64 (q:Int)/\x∉l.take q) (λi=>len-(intOf i).toNat)
 case atStart=>exact⟨0,ω,rfl,σ⟩
 case round=>
  obtain⟨q,hq,rfl,hn⟩:=hrel
  by_cases hlt:q<len
  ·obtain⟨gb,rfl,hg1,hg2,Gm⟩:=HP.out ω;obtain⟨y,qh⟩:∃y,l[q]?=some y:=⟨l[q]'(by rw[HLEN.out];exact hlt),σ⟩;have hc:=Gm q (.int .i64 y) (by unfold bz;rw[ϒ,qh];rfl)
   by_cases hxy:x=y
   ·subst hxy;have hi:=GH l x q hn qh;have HI:=χ hi;clear Gm hn qh hi;go_wp2;go_ret;exact⟨jR HI.out.symm,rfl⟩
   ·have b1:(x == y)=false:=by simpa using hxy
    have hn2:x∉l.take (q+1):=by rw[ϐ,qh];simp;exact⟨hn,hxy⟩
    have HN2:=χ hn2;clear Gm hn qh hn2 hxy;go_wp2
    go_round
    case rel=>exact⟨q+1,ω,by go_num,HN2.out⟩
    case measure=>simp[intOf];omega
  ·obtain rfl:q=len:=ω;rw[List.take_of_length_le (by rw[HLEN.out];omega)] at hn;have HI:=χ (Au l x hn);clear hn;go_wp2;go_ret;exact⟨jR HI.out.symm,rfl⟩
def setAt(l:List Int)(x y:Int):List Int:=l.set (idxOf l x).toNat y
theorem kH(l:List Int)(x y:Int):(setAt l x y).length=l.length:=by unfold setAt;simp
theorem xe(l:List Int)(x:Int)(h:x∈l):∃i:Nat,i<l.length/\idxOf l x=i/\l[i]?=some x:=by
 cases hf:l.findIdx? (λy=>y == x) with
 |none=>
  rw[List.findIdx?_eq_none_iff] at hf;have:=hf x h;simp at this
 |some i=>
  have h2:=hf;rw[List.findIdx?_eq_some_iff_getElem] at h2;obtain⟨h3,h4,_⟩:=h2;refine⟨i,h3,by unfold idxOf;rw[hf],?_⟩;rw[ε h3];simp at h4;rw[h4]
def ik(S:CS)(x p:Nat)(above:Int):CS:=
  ⟨λy=>if y=x then S.v p else if y=p then S.v x else S.v y,
   λy=>if y=x then setAt (S.k p) x p else if y=p then S.k x else if(y:Int)=above then setAt (S.k y) p x else S.k y,
   λy=>if y=x then above else if (y:Int)∈S.k x then p else if (y:Int)∈setAt (S.k p) x p then x else S.u y⟩
def Nr(S:CS)(x p:Nat)(above:Int):Nat->Value:=
 jh (sK (jh (sK (jh (dX S) (x*2) (S.v p)) x (setAt (S.k p) x p)) (p*2) (S.v x)) p (S.k x)) (x*2+1) (.int .i64 above)
theorem qN(f:Nat->Value)(p:Int)(ks:List Int)(j:Nat)(h:j % 2=0):sK f p ks j=f j:=by unfold sK;rw[Γ ω]
theorem nL(f:Nat->Value)(x:Nat)(v:Value)(j:Nat)(h:j≠x):jh f x v j=f j:=by unfold jh;rw[Γ h]
theorem N9(f:Nat->Value)(x:Nat)(v:Value):jh f x v x=v:=by unfold jh;rw[Δ rfl]
theorem Ec(S:CS)(x p:Nat)(above:Int)(hxp:x≠p)(j:Nat):Nr S x p above j=dX (ik S x p above) j:=by
 unfold Nr
 by_cases h:j % 2=0
 ·rw[nL _ _ _ _ (show j≠x*2+1 by omega),qN _ _ _ _ h];unfold dX ik;rw[Δ h];simp only
  by_cases h3:j / 2=x
  ·rw[nL _ _ _ _ (show j≠p*2 by omega),qN _ _ _ _ h,show j=x*2 by omega,N9,Δ ω]
  ·by_cases h4:j / 2=p
   ·rw[show j=p*2 by omega,N9,Γ ω,Δ ω]
   ·rw[nL _ _ _ _ (show j≠p*2 by omega),qN _ _ _ _ h,nL _ _ _ _ (show j≠x*2 by omega),Δ h,Γ h3,Γ h4]
 ·have h0:j % 2=1:=ω;unfold dX ik jh sK;simp only[h0,true_and]
  by_cases h3:j / 2=x
  ·rw[Δ ω,Γ ω,Δ h3]
  ·rw[Γ (show ¬j=x*2+1 by omega),Γ (show ¬j=p*2 by omega),Γ (show ¬j=x*2 by omega)];rw[Γ (show ¬(1=0) by omega),Γ (show ¬(1=0) by omega),Γ h3]
   by_cases h5:((j / 2:Nat):Int)∈S.k x
   ·rw[Δ h5,Δ h5]
   ·rw[Γ h5,Γ h5]
    by_cases h6:((j / 2:Nat):Int)∈setAt (S.k p) x p
    ·rw[Δ h6,Δ h6]
    ·rw[Γ h6,Γ h6]
theorem I7{w:World}{base n cap g:Nat}{e:TypeId}{xs:List Value}(h:w.ownsRow base e 1 (.slice (some ⟨g,0,none⟩) n cap) n xs)(j:Nat)(u:Value) :
  (w.setCell ⟨g,j,none⟩ u).ownsRow base e 1 (.slice (some ⟨g,0,none⟩) n cap) n (xs.set j u):=(h.stored j u).1
theorem Dm(l:List Int)(j:Nat)(y:Int):bz (l.set j y)=(bz l).set j (.int .i64 y):=by unfold bz;rw[List.map_set]
structure AX(n:Nat)(S:CS)(x p:Nat)(above:Int):Prop where
 hx:x<n
 hp:p<n
 ne:x≠p
 up:S.u x=p
 ab:S.u p=above
 mem:(x:Int)∈S.k p
 kx:∀k,k∈S.k x->0<=k/\k<n
 kp:∀k,k∈S.k p->0<=k/\k<n
 top:above=-1\/∃q:Nat,above=q/\q<n/\q≠x/\q≠p/\(p:Int)∈S.k q
theorem bA.lift{w w5:World}{bt ba lo n:Nat}{S:CS}(h:bA w bt ba lo n S){x p:Nat}{above:Int}(ok:AX n S x p above)(hN:gz w5 bt ba n (dX (ik S x p above)))(hs:w.heap.size<=w5.heap.size)
  (ho:∀y,y<n->w5.ownsRow lo 3 1 ((ik S x p above).v y) ((ik S x p above).k y).length (bz ((ik S x p above).k y))):bA w5 bt ba lo n (ik S x p above):=by
 have hx:=ok.hx;have hp:=ok.hp;have hne:=ok.ne;refine⟨hN.head,hN.row,ho,λy z hy hz Tu g hg=>?_,h.ne,h.Nf,h.Nk,Χ h.low hs,h.le,λy hy=>?_⟩
 ·unfold ik at hg ⊢;simp only at hg ⊢;have key:∀a b,a<n->b<n->a≠b->(S.v a).ownBlock=some g->(S.v b).ownBlock≠some g:=λa b ha hb hab=>h.sep a b ha hb hab g
  by_cases h1:y=x
  ·rw[Δ h1] at hg;rw[Γ (λe=>Tu ω)]
   by_cases h2:z=p
   ·rw[Δ h2];exact key p x hp hx (Ne.symm hne) hg
   ·rw[Γ h2];exact key p z hp hz (Ne.symm h2) hg
  ·rw[Γ h1] at hg
   by_cases h2:y=p
   ·rw[Δ h2] at hg
    by_cases h3:z=x
    ·rw[Δ h3];exact key x p hx hp hne hg
    ·rw[Γ h3,Γ (λe=>Tu ω)];exact key x z hx hz (Ne.symm h3) hg
   ·rw[Γ h2] at hg
    by_cases h3:z=x
    ·rw[Δ h3];exact key y p hy hp h2 hg
    ·rw[Γ h3]
     by_cases h4:z=p
     ·rw[Δ h4];exact key y x hy hx h1 hg
     ·rw[Γ h4];exact key y z hy hz Tu hg
 ·unfold ik;simp only
  split
  ·rw[kH];exact h.len p hp
  ·split
   ·exact h.len x hx
   ·split
    ·rw[kH];exact h.len y hy
    ·exact h.len y hy
set_option maxRecDepth 100000 in
theorem Ja(bt ba lo n:Nat)(S:CS)(x p:Nat)(above:Int)(w:World)(h:bA w bt ba lo n S)(ok:AX n S x p above) :
  Calls prog 181 #[.pointer (some ⟨bt,0,none⟩),.int .i64 (x:Int)] w λe w'=>e=.returned (.bool true)/\bA w' bt ba lo n (ik S x p above)/\ae (ba::S.blk n) w w':=by
 have hx:=ok.hx;have hp:=ok.hp;have hl1:=h.Nf;have hl2:=h.Nk;have k1:=xZ bt ba lo n S x w h;have hup:JY n S x=some (p:Int):=by unfold JY;rw[Δ ω,show((x:Int)).toNat=x by omega,ok.up,Γ ω]
 rw[hup,show ov (some (p:Int))=(p:Int) from rfl,show ob (some (p:Int))=true from rfl] at k1;obtain⟨ax,cx,hvx,_⟩:=aV (h.own x hx);obtain⟨i,hil,hidx,hi⟩:=xe _ _ ok.mem;obtain⟨gp,cp,hvp,hg1,hg2,hgc,hgm,hgx,hgf⟩:=fQ (h.own p hp) ω;have c0:=h.head.cell 0 ω;have d0:=h.row.cellAt (x*2) ω ((nJ S x).trans hvx);have d1:=h.row.cellAt (p*2) ω ((nJ S p).trans hvp);have d2:=h.row.cellAt (p*2+1) ω ((vk S p).trans (by rw[ok.ab]));have hab:above≠-1->(above != -1)=true:=λh=>by simpa using h
 clear hup
 go_enter func181,ntmps181
 go_wp2_with ((go_at_call 179;(with_reducible refine aT (k1) ?_)))
 go_quiet (fail)
 have h0:bA (w.drewN nq) bt ba lo n S:=h.ag ((ae.refl _ _).drewN _);have hu0:ae (ba::S.blk n) w (w.drewN nq):=(ae.refl _ _).drewN _;generalize w.drewN nq=W at *;clear h c0 d0 d1 d2 hgx hgf k1 hg1 hg2;have hop:=h0.own p hp;have hox:=h0.own x hx;rw[hvp] at hop;have Vu:=hop.lt gp rfl;have kI:=Df W lo _ (S.k p) x (jk.uU hop);rw[hidx] at kI;have ci:W.cell? ⟨gp,i,none⟩=some (.int .i64 (x:Int)):=by rw[hop.cellAt i ω];unfold bz;rw[ϒ,hi];rfl
 have fi:=hop.frozenAt i;have hset:(S.k p).set i p=setAt (S.k p) x p:=by unfold setAt;rw[hidx];rfl
 have Zx:=I7 hop i (.int .i64 (p:Int));rw[←Dm,hset] at Zx;have hu1:ae [gp] W (W.setCell ⟨gp,i,none⟩ (.int .i64 (p:Int))):=(ae.refl _ _).setCell (Α σ) _;have hN1:=h0.nodes.upd hu1 ζ ζ;have hsl:=kH (S.k p) x p
 have kA1:=Ep bt ba n lo x (dX S) _ (setAt (S.k p) x p) _ hN1 (by have:=jk.uU Zx;rw [hsl];exact this) hx hl2 (λk hk=>by
  rw[←hset] at hk;rcases List.mem_or_eq_of_mem_set hk with h|h
  ·exact ok.kp k h
  ·omega)
 have hxg:(S.v x).ownBlock≠some gp:=h0.sep p x hp hx (Ne.symm ok.ne) gp (by rw[hvp];rfl);have hox1:=ak hox hu1 (λk hk hm=>by simp at hm;subst hm;exact hxg hk);have kA2:=λw2 (VA:gz w2 bt ba n (sK (jh (dX S) (x*2) (.slice (some ⟨gp,0,none⟩) (S.k p).length cp)) x (setAt (S.k p) x p))) (hu2:ae [ba] (W.setCell ⟨gp,i,none⟩ (.int .i64 (p:Int))) w2)=>
  Ep bt ba n lo p _ (S.v x) (S.k x) w2 VA (jk.uU (ak hox1 hu2 (λk hk hm=>by have:=(hox.lt k hk).1;simp at hm;omega))) hp hl2 ok.kx
 rw[hvx] at kA2;have Ui:∀y,y<n->∀g,(S.v y).ownBlock=some g->g∈S.blk n:=λy hy g hg=>(S.jQ n g).2 ⟨y,hy,hg⟩;have hgpb:gp∈S.blk n:=Ui p hp gp (by rw[hvp];rfl);have hall:∀y,y<n->y≠p->(S.v y).ownBlock≠some gp:=λy hy hyp=>h0.sep p y hp hy (Ne.symm hyp) gp (by rw[hvp];rfl);have hun1:∀y,y<n->y≠p->∀w4,ae [ba] (W.setCell ⟨gp,i,none⟩ (.int .i64 (p:Int))) w4->w4.ownsRow lo 3 1 (S.v y) (S.k y).length (bz (S.k y)):=λy hy hyp w4 hw=>
  ak (ak (h0.own y hy) hu1 (λk hk hm=>by simp at hm;subst hm;exact hall y hy hyp hk)) hw (λk hk hm=>by have:=((h0.own y hy).lt k hk).1;simp at hm;omega)
 have hun2:∀w4,ae [ba] (W.setCell ⟨gp,i,none⟩ (.int .i64 (p:Int))) w4->w4.ownsRow lo 3 1 (S.v p) (setAt (S.k p) x p).length (bz (setAt (S.k p) x p)):=λw4 hw=>by
  rw[hsl,hvp];exact ak Zx hw (λk hk hm=>by simp[Value.ownBlock] at hk;simp at hm;omega)
 have Tx:=χ hun1;have HUN2:=χ hun2;have HM:=χ Ui;have H0:=χ h0;have OK:=χ ok;have HVX:=χ hvx;have HVP:=χ hvp;have htop:=ok.top;clear hset hsl ok h0 hvx hvp hidx hi hall hun1 hun2 Ui;rcases htop with rfl|⟨q,rfl,hq,hqx,hqp,hqm⟩
 ·go_wp2_with (first
   |(go_at_call 180;(with_reducible refine aT (kI) ?_))
   |((go_at_call 187;(with_reducible refine(kA1).mono ?_));rintro e w2 ⟨rfl,VA,hu2⟩)
   | ((go_at_call 187;(with_reducible refine (kA2 _ VA hu2).mono ?_));rintro e w3 ⟨rfl,Vz,hu3⟩;have c3:=Vz.head.cell 0 ω;have d3:=Vz.row.cell (x*2+1) ω;have e3:=Vz.row.free (x*2+1)))
  go_ret;have hw4:=(hu2.trans hu3).setCell (p:=⟨ba,x*2+1,none⟩) (Α σ) (.int .i64 (-1))
  have hN4:gz (w3.setCell ⟨ba,x*2+1,none⟩ (.int .i64 (-1))) bt ba n (dX (ik S x p (-1))):=(Vz.set (x*2+1) (.int .i64 (-1))).ext (λj hj=>by
   rw[←Ec S x p (-1) OK.out.ne j];unfold Nr
   rw [HVX.out,HVP.out];rfl)
  refine⟨rfl,H0.out.lift OK.out hN4 (Χ hu1.size hw4.size) (λy hy=>?_),(hu0.trans (hu1.mono (by simp;exact Β hgpb))).trans (hw4.mono σ)⟩;unfold ik;simp only
  by_cases hyx:y=x
  ·rw[Δ hyx,Δ hyx];exact HUN2.out _ hw4
  ·rw[Γ hyx,Γ hyx]
   by_cases hyp:y=p
   ·rw[Δ hyp,Δ hyp];exact Tx.out x hx OK.out.ne _ hw4
   ·rw[Γ hyp,Γ hyp,Γ ω];exact Tx.out y hy hyp _ hw4
 ·obtain⟨j,hjl,ZI,hj⟩:=xe _ _ hqm;have hoq:=H0.out.own q hq;obtain⟨gq,cq,hvq,hq1,hq2,hqc,hqm2,hqx2,hqf⟩:=fQ hoq ω;have b4:((q:Int) != -1)=true:=by rw[bne_iff_ne];omega
  have Xl:=Tx.out q hq hqp;rw[hvq] at Xl;have ZA:=λW4 h4=>Df W4 lo _ (S.k q) p (jk.uU (Xl W4 h4));rw[ZI] at ZA;have HJ:=χ ZI;have HJ2:=χ hj;have HVQ:=χ hvq;have hz1:=nJ S q;rw[hvq] at hz1;have HZ:=χ hz1;clear ZI hj hvq hz1 hoq hqx2 hqf hab
  go_wp2_with (first
   |(go_at_call 180;(with_reducible refine aT (kI) ?_))
   |((go_at_call 187;(with_reducible refine(kA1).mono ?_));rintro e w2 ⟨rfl,VA,hu2⟩)
   | ((go_at_call 187;(with_reducible refine (kA2 _ VA hu2).mono ?_));rintro e w3 ⟨rfl,Vz,hu3⟩;have c3:=Vz.head.cell 0 ω;have d3:=Vz.row.cell (x*2+1) ω;have e3:=Vz.row.free (x*2+1);have hN4:=Vz.set (x*2+1) (.int .i64 (q:Int));have hw4:=(hu2.trans hu3).setCell (p:=⟨ba,x*2+1,none⟩) (Α σ) (.int .i64 (q:Int));have c4:=hN4.head.cell 0 ω;have d4:=hN4.row.cellAt (q*2) ω (v:=.slice (some ⟨gq,0,none⟩) (S.k q).length cq) (by
     rw [Γ ω,qN _ _ _ _ ω,nL _ _ _ _ ω,qN _ _ _ _ ω,nL _ _ _ _ ω];exact HZ.out);have o4:=Xl _ hw4;have d5:=o4.cellAt j ω;have e5:=o4.frozenAt j;rw [show (bz (S.k q))[j]?=some (.int .i64 (p:Int)) by unfold bz;rw [ϒ,HJ2.out];rfl] at d5;have kI3:=ZA _ hw4;clear Xl ZA)
   | (go_at_call 180;(with_reducible refine aT (kI3) ?_)))
  go_ret
  have hN5:gz (w3.setCell ⟨ba,x*2+1,none⟩ (.int .i64 (q:Int))) bt ba n (dX (ik S x p q)):=(Vz.set (x*2+1) (.int .i64 (q:Int))).ext (λj hj=>by
   rw[←Ec S x p q OK.out.ne j];unfold Nr
   rw [HVX.out,HVP.out];rfl)
  have X3:ae [gq] (w3.setCell ⟨ba,x*2+1,none⟩ (.int .i64 (q:Int))) ((w3.setCell ⟨ba,x*2+1,none⟩ (.int .i64 (q:Int))).setCell ⟨gq,j,none⟩ (.int .i64 (x:Int))):=(ae.refl _ _).setCell (Α σ) _;have hgq:(S.v q).ownBlock=some gq:=by rw[HVQ.out];rfl
  have Uu:∀y,y<n->y≠q->∀k,(S.v y).ownBlock=some k->k∉[gq]:=λy hy hyq k hk hm=>by
   simp at hm;subst hm;exact H0.out.sep y q hy hq hyq k hk hgq
  refine⟨rfl,H0.out.lift OK.out (hN5.upd X3 ζ ζ) (Χ (Χ hu1.size hw4.size) X3.size) (λy hy=>?_),((hu0.trans (hu1.mono (by simp;exact Β hgpb))).trans (hw4.mono σ)).trans (X3.mono (by simp;exact Β (HM.out q hq gq hgq)))⟩;unfold ik;simp only
  by_cases hyx:y=x
  ·rw[Δ hyx,Δ hyx];exact ak (HUN2.out _ hw4) X3 (Uu p hp (Ne.symm hqp))
  ·rw[Γ hyx,Γ hyx]
   by_cases hyp:y=p
   ·rw[Δ hyp,Δ hyp];exact ak (Tx.out x hx OK.out.ne _ hw4) X3 (Uu x hx (Ne.symm hqx))
   ·rw[Γ hyp,Γ hyp]
    by_cases hyq:y=q
    ·subst hyq;rw[Δ rfl,kH,HVQ.out];have:=I7 o4 j (.int .i64 (x:Int));rw[←Dm] at this;unfold setAt;rw[HJ.out];exact this
    ·rw[Γ ω];exact ak (Tx.out y hy hyp _ hw4) X3 (Uu y hy hyq)
def bF(w:World)(base:Nat)(v:Value)(xs:List Int):Prop:=
 (v=.slice none 0 0/\xs=[])\/
 ∃g off cap cur,v=.slice (some ⟨g,off,none⟩) xs.length cap/\base<=g/\w.heap[g]?=some (.cells cur 3 (0,0))/\xs.length<=cap/\cap<=9223372036854775807/\off+cap<=cur.size/\∀j u,xs[j]?=some u->cur[off+j]?=some (.int .i64 u)
theorem bF.nil(w:World)(base:Nat):bF w base (.slice none 0 0) []:=Α ⟨rfl,rfl⟩
theorem bF.iA{w:World}{base:Nat}{v:Value}{xs:List Int}(h:w.ownsRow base 3 1 v xs.length (bz xs)):bF w base v xs:=by
 rcases h.2 with⟨rfl,h0⟩|⟨g,cap,cur,rfl,hb,hg,hn,hc,hs,ht⟩
 ·exact Α ⟨rfl,Ϛ h0⟩
 ·refine Β ⟨g,0,cap,cur,rfl,hb,hg,hn,by unfold maxLen at hc;exact hc,ω,λj u hj=>?_⟩;have hjl:j<xs.length:=(List.getElem?_eq_some_iff.1 hj).1;have:(bz xs)[j]?=some (.int .i64 u):=by unfold bz;rw[ϒ,hj];rfl
  rw[←ht,List.getElem?_take,Δ ω] at this;rw[ϔ];simpa using this
theorem NV{w:World}{g:Nat}{o:Obj}(h:w.heap[g]?=some o):g<w.heap.size:=by
 rcases ϖ g w.heap.size with h'|h'
 ·exact h'
 ·rw[Array.getElem?_eq_none h'] at h;cases h
theorem bF.lt{w:World}{base:Nat}{v:Value}{xs:List Int}(h:bF w base v xs)(g:Nat)(hg:v.ownBlock=some g):base<=g/\g<w.heap.size:=by
 rcases h with⟨rfl,_⟩|⟨g',off,cap,cur,rfl,hb,hh,_⟩
 ·cases hg
 ·simp only[Value.ownBlock,ϗ] at hg;subst hg;exact⟨hb,NV hh⟩
theorem bF.mono{w:World}{base base':Nat}{v:Value}{xs:List Int}(h:bF w base v xs)(hb:base'<=base):bF w base' v xs:=by
 rcases h with h|⟨g',off,cap,cur,rfl,hb',hh⟩
 ·exact Α h
 ·exact Β ⟨g',off,cap,cur,rfl,Χ hb hb',hh⟩
theorem bF.upd{w w':World}{F:List Nat}{base:Nat}{v:Value}{xs:List Int}(h:bF w base v xs)(hu:ae F w w')(hF:∀g,v.ownBlock=some g->g∉F):bF w' base v xs:=by
 rcases h with h|⟨g,off,cap,cur,rfl,hb,hh,h1,h2⟩
 ·exact Α h
 ·exact Β ⟨g,off,cap,cur,rfl,hb,by rw[hu.block g (NV hh) (hF g rfl)];exact hh,h1,h2⟩
theorem bF.shape{w:World}{base:Nat}{v:Value}{xs:List Int}(h:bF w base v xs) :
  ∃a cap,v=.slice a xs.length cap/\xs.length<=cap/\cap<=9223372036854775807/\∀j u,xs[j]?=some u->∃g off,a=some ⟨g,off,none⟩/\w.cell? ⟨g,off+j,none⟩=some (.int .i64 u):=by
 rcases h with⟨rfl,rfl⟩|⟨g,off,cap,cur,rfl,hb,hh,h1,h2,h3,h4⟩
 ·exact⟨none,0,rfl,Θ _,ω,λj u hj=>by simp at hj⟩
 ·refine⟨_,cap,rfl,h1,h2,λj u hj=>⟨g,off,rfl,?_⟩⟩;unfold World.cell?;simp only[hh];simpa using h4 j u hj
theorem bF.lit(w:World)(base:Nat)(x:Int)(hb:base<=w.heap.size):bF (w.alloc (.cells #[.int .i64 x] 3)) base (.slice (some ⟨w.heap.size,0,none⟩) 1 1) [x]:=
 bF.iA (rZ w [.int .i64 x] 3 base 1 1 rfl hb μ)
def tailV(v:Value):Value:=match v with | .slice a n c=>.slice (if c=1 then a else a.map (·.add 1)) (n-1) (c-1)|v=>v
theorem yl(w:World)(a:Option Addr)(n c:Nat)(h1:1<=n)(h2:n<=9223372036854775807) :
  (Instr.slice 77 (.slice a n c) (some (.int .i64 1)) none none).run prog w=.ok (tailV (.slice a n c)) w:=by
 have hs:(sizeOf 3).run prog w=.ok 1 w:=by kernel_rfl
 unfold Instr.slice Instr.sliceBounds;simp[run_underlying underlying77,go_sem,hs,tailV];intro h;omega
theorem bF.tail{w:World}{base:Nat}{v:Value}{x:Int}{xs:List Int}(h:bF w base v (x::xs)):bF w base (tailV v) xs/\(tailV v).ownBlock=v.ownBlock:=by
 rcases h with⟨rfl,h0⟩|⟨g,off,cap,cur,rfl,hb,hh,h1,h2,h3,h4⟩
 ·cases h0
 ·simp only[Ω] at h1 ⊢;unfold tailV;simp only[Nat.add_sub_cancel]
  by_cases hc:cap=1
  ·subst hc;have:xs=[]:=Ϛ ω;subst this;rw[Δ rfl];exact⟨Β ⟨g,off,0,cur,rfl,hb,hh,Θ _,ω,ω,λj u hj=>by simp at hj⟩,rfl⟩
  ·rw[Γ hc];have e:(some (⟨g,off,none⟩:Addr)).map (·.add 1)=some ⟨g,off+1,none⟩:=by simp[Addr.add_lit]
   rw[e];refine⟨Β ⟨g,off+1,cap-1,cur,rfl,hb,hh,ω,ω,ω,λj u hj=>?_⟩,rfl⟩;have:=h4 (j+1) u (by simpa using hj);rw[show off+1+j=off+(j+1) by omega];exact this
theorem qY(a:Option Addr)(n c:Nat):∃a',tailV (.slice a n c)=.slice a' (n-1) (c-1):=⟨_,rfl⟩
theorem Bi{w:World}{base:Nat}{v:Value}{xs:List Int}(hown:bF w base v xs)(t ty:TypeId)(ht:prog.underlying t=some (.slice 3))(g1:Nat)(u:Int)(hnew:w.cell? ⟨g1,0,none⟩=some (.int .i64 u))(hn:xs.length+1<=1000000)(hbase:base<=w.heap.size) :
  ∃v' w',(Builtin.append_ #[t,t] ty #[v,.slice (some ⟨g1,0,none⟩) 1 1]).run prog w=.ok v' w'/\bF w' base v' (xs++[u])/\ae v.ownBlock.toList w w'/\(∀k,v'.ownBlock=some k->v.ownBlock=some k\/w.heap.size<=k):=by
 obtain⟨i,hi,hz0,hz1,hz2⟩:=info_parts gI;have hnews:∀j x,[Value.int .i64 u][j]?=some x->w.cell? ((⟨g1,0,none⟩:Addr).add j)=some x:=λj x hj=>by
  match j,hj with
  |0,hj=>simp at hj;subst hj;rw[yG];exact hnew
 have h1:∀x∈[Value.int .i64 u],x.oneCell'=true:=by simp[Value.oneCell']
 rcases hown with⟨rfl,rfl⟩|⟨g,off,cap,cur,rfl,hb,hh,hc1,hc2,hc3,hc4⟩
 ·obtain⟨v',w',hr,h2,h3,_⟩:=run_append_own (P:=prog) w w.heap.size t ty 3 i (.int .i64 0) 1 8 ht hi hz0 hz1 hz2 rfl δ (.slice none 0 0) 0 [] (World.ownsRow_nil w _ _ _) ⟨g1,0,none⟩ 1 1 [.int .i64 u] rfl hnews h1 μ ω (Θ _);exact⟨v',w',hr,(bF.iA (xs:=[u]) h2).mono hbase,(ae.refl _ _).grown h3 (λk hk=>by cases hk),λk hk=>Β (h2.lt k hk).1⟩
 ·by_cases hfit:xs.length+1<=cap
  ·have hf:=run_firstCells_some (P:=prog) w i.size 1 ⟨g1,0,none⟩ 1 1 [.int .i64 u] (by rw[hz1];rfl) hnews;have hst:=run_storeCells_at prog g (off+xs.length*i.size) 3 [.int .i64 u] 0 cur w hh (by rw[hz1];simp;omega) h1;simp only[ϕ] at hst;have hrun:(Builtin.append_ #[t,t] ty #[.slice (some ⟨g,off,none⟩) xs.length cap,.slice (some ⟨g1,0,none⟩) 1 1]).run prog w=.ok (.slice (some ⟨g,off,none⟩) (xs.length+1) cap) (w.setRow g (cur.toList.take (off+xs.length*i.size)++[Value.int .i64 u]++cur.toList.drop (off+xs.length*i.size+1)).toArray):=by
    simp[Builtin.append_,run_underlying ht,sizeOf,typeInfo,hi,Builtin.lenOf,hfit,hf,Addr.add_lit];have:=hst;simp at this;simp[this]
   rw[hz1,Nat.mul_one] at hrun;refine⟨_,_,hrun,Β ⟨g,off,cap,_,by rw[υ];rfl,hb,setRow_heap w g cur _ _ _ hh,by rw[υ];exact hfit,hc2,?_,λj x hj=>?_⟩,?_,λk hk=>Α hk⟩
   ·simp;omega
   ·have hlen:off+xs.length<=cur.size:=ω;rcases ϖ j xs.length with h|h
    ·rw[Ρ h] at hj;have:=hc4 j x hj;rw[List.getElem?_toArray,ϋ,Ρ ζ,List.getElem?_take,Δ ω];simpa using this
    ·have hj2:j=xs.length:=by
      have:=(List.getElem?_eq_some_iff.1 hj).1;rw[υ] at this;simp at this;omega
     subst hj2;rw[ϊ (Θ _)] at hj;simp at hj;subst hj;rw[List.getElem?_toArray,ϋ,ϊ ζ];simp[Nat.min_eq_left hlen]
   ·exact⟨rfl,rfl,rfl,σ,λk hk hm=>setRow_other w g k _ (λe=>hm (by simp[Value.ownBlock,e]))⟩
  ·obtain ⟨v',w',hr,h2,h3⟩:=run_append_arg_grows (P:=prog) w t ty 3 i (.int .i64 0) 1 8 ht hi hz0 hz1 hz2 rfl δ ⟨g,off,none⟩ xs.length cap (bz xs) (by rw [gQ,Nat.mul_one]) (λj x hj=>by
    unfold bz at hj;rw[ϒ] at hj;cases hq:xs[j]? with
    |none=>rw[hq] at hj;cases hj
    |some y=>
     rw[hq] at hj;simp at hj;subst hj;rw[Addr.add_lit];unfold World.cell?;simp only[hh]
     simpa using hc4 j y hq) ⟨g1,0,none⟩ 1 1 [.int .i64 u] rfl hnews ω μ ω
   have h4:w'.ownsRow w.heap.size 3 1 v' (xs++[u]).length (bz (xs++[u])):=by rw[υ,dO];exact h2
   exact⟨v',w',hr,(bF.iA h4).mono hbase,(ae.refl _ _).grown h3 (λk hk=>by cases hk),λk hk=>Β (h2.lt k hk).1⟩
theorem vS{o:Oper}{a:Act}{w:World}{K:Act->World->Prop}{Q:Exit->Act->World->Prop}(s x:Operand)(t:TypeId)
  (ho:o.op=.call { callee:=.builtin .append,args:=#[s,x],argTypes:=#[t,t] }) (ht:prog.underlying t=some (.slice 3))
  (base:Nat) (v:Value) (xs:List Int) (hs:a.eval s=v) (hown:bF w base v xs)
  (g1:Nat) (u:Int) (hx:a.eval x=.slice (some ⟨g1,0,none⟩) 1 1) (hnew:w.cell? ⟨g1,0,none⟩=some (.int .i64 u)) (hn:xs.length+1<=1000000) (hbase:base<=w.heap.size)
  (h:∀v' w',bF w' base v' (xs++[u])->ae v.ownBlock.toList w w'->(∀k,v'.ownBlock=some k->v.ownBlock=some k\/w.heap.size<=k)->K (a.put o.dst v') w'):Oper.wp prog o a w K Q:=by
 obtain⟨v',w',hr,h2,h3,h4⟩:=Bi hown t o.type ht g1 u hnew hn hbase;unfold Oper.wp execOp;simp only[ho,resolve,invoke,builtin,Sem.run_bind,Sem.run_pure,Result.andThen_ok,List.map_toArray,List.map_cons,List.map_nil,hs,hx,hr];exact h _ _ h2 h3 h4
theorem sj{ops:Array Oper}{o:Oper}{a:Act}{w:World}{K:Act->World->Prop}{Q:Exit->Act->World->Prop}{E:Prop}(hgd:o.guard=none)(s x:Operand)(t:TypeId)
  (ho:o.op=.call { callee:=.builtin .append,args:=#[s,x],argTypes:=#[t,t] }) (ht:prog.underlying t=some (.slice 3))
  (base:Nat) (v:Value) (xs:List Int) (hs:a.eval s=v) (hown:bF w base v xs)
  (g1:Nat) (u:Int) (hx:a.eval x=.slice (some ⟨g1,0,none⟩) 1 1) (hnew:w.cell? ⟨g1,0,none⟩=some (.int .i64 u)) (hn:xs.length+1<=1000000) (hbase:base<=w.heap.size)
  (h:∀v' w',bF w' base v' (xs++[u])->ae v.ownBlock.toList w w'->(∀k,v'.ownBlock=some k->v.ownBlock=some k\/w.heap.size<=k)->K (a.put o.dst v') w') :
  if Region.wanted o (yielded ops a.tmps)=true then Oper.wp prog o a w K Q else E:=by
 have hw:Region.wanted o (yielded ops a.tmps)=true:=by simp[Region.wanted,hgd]
 rw[Δ hw];exact vS s x t ho ht base v xs hs hown g1 u hx hnew hn hbase h
theorem xz{ops:Array Oper}{rest:List Oper}{o:Oper}{a:Act}{w:World}{Q:Exit->Act->World->Prop}(hgd:o.guard=none)(s x:Operand)(t:TypeId)
  (ho:o.op=.call { callee:=.builtin .append,args:=#[s,x],argTypes:=#[t,t] }) (ht:prog.underlying t=some (.slice 3))
  (base:Nat) (v:Value) (xs:List Int) (hs:a.eval s=v) (hown:bF w base v xs)
  (g1:Nat) (u:Int) (hx:a.eval x=.slice (some ⟨g1,0,none⟩) 1 1) (hnew:w.cell? ⟨g1,0,none⟩=some (.int .i64 u)) (hn:xs.length+1<=1000000) (hbase:base<=w.heap.size)
  (h:∀v' w',bF w' base v' (xs++[u])->ae v.ownBlock.toList w w'->(∀k,v'.ownBlock=some k->v.ownBlock=some k\/w.heap.size<=k)->wpList prog ops Q rest (a.put o.dst v') w'):wpList prog ops Q (o::rest) a w:=
 wpList_plain hgd λ_ hK=>vS s x t ho ht base v xs hs hown g1 u hx hnew hn hbase λv' w' h2 h3 h4=>hK _ _ (h v' w' h2 h3 h4)
theorem j6.tail{w:World}{F:List Nat}{v:Value}{x:Int}{xs:List Int}(h:j6 w F v (x::xs)):j6 w F (tailV v) xs:=by
 obtain⟨a,cap,rfl,h1,h2,h3⟩:=h;obtain⟨g,off,rfl,hg,hF,_⟩:=h3 0 x rfl;simp only[Ω] at h1 ⊢;unfold tailV;simp only[Nat.add_sub_cancel];refine⟨_,_,rfl,ω,ω,λj u hj=>?_⟩;have hjl:j<xs.length:=(List.getElem?_eq_some_iff.1 hj).1;rw[Γ ω];obtain⟨g2,off2,he,hg2,hF2,hc⟩:=h3 (j+1) u (by simpa using hj);simp only[ϗ,Addr.mk.injEq,and_true] at he;obtain⟨rfl,rfl⟩:=he;exact⟨g,off+1,by simp[Addr.add_lit],hg,hF,by rw[show off+1+j=off+(j+1) by omega];exact hc⟩
theorem j6.Zh{w:World}{F:List Nat}{lo:Nat}{v:Value}{xs:List Int}(h:jk w lo v xs.length (bz xs))(hF:∀g,g∈F->g<lo):j6 w F v xs:=by
 obtain⟨a,cap,rfl,h1,h2,h3⟩:=h.open;refine⟨a,cap,rfl,h2,h1,λj u hj=>?_⟩;have hjl:j<xs.length:=(List.getElem?_eq_some_iff.1 hj).1;obtain⟨g,rfl,hlo,hg,hc⟩:=h3 ω;exact⟨g,0,rfl,hg,λhm=>by have:=hF g hm;omega,by rw[ϔ];exact hc j _ (by unfold bz;rw[ϒ,hj];rfl)⟩
theorem j6.upd{w w':World}{F G:List Nat}{v:Value}{xs:List Int}(h:j6 w F v xs)(hu:ae G w w')(hG:∀g,g∈G->g∈F):j6 w' F v xs:=by
 obtain⟨a,cap,rfl,h1,h2,h3⟩:=h;refine⟨a,cap,rfl,h1,h2,λj u hj=>?_⟩;obtain⟨g,off,rfl,hg,hF,hc⟩:=h3 j u hj;exact⟨g,off,rfl,Ψ hg hu.size,hF,by rw[hu.cell hg (λhm=>hF (hG _ hm))];exact hc⟩
theorem Rj(bt ba lo n:Nat)(S:CS)(v:Value)(l:List Int)(w:World)(h:bA w bt ba lo n S)(F:List Nat)(hv:j6 w F v l) :
  Calls prog 190 #[.pointer (some ⟨bt,0,none⟩),v] w λe w'=>e=.returned (.bool (Pw n S l))/\w'=w:=by
 obtain⟨a,cap,rfl,hlc,hcp,hp⟩:=hv;have HP:=χ hp;clear hp;unfold Pw;generalize hlen:l.length=len at *;have HLEN:=χ hlen;clear hlen;have kR:=λx=>xM bt ba lo n S x w h;have kD:=λx=>rJ bt ba lo n S x w h;clear h
 go_enter func190,ntmps190
 go_wp2
 go_loop [9] (λi=>∃k:Nat,k<=len/\i=.int .i64 (k:Int)/\xI n S l k=true) (λi=>len-(intOf i).toNat)
 case atStart=>exact⟨0,ω,rfl,rfl⟩
 case round=>
  obtain⟨k,hk,rfl,ht⟩:=hrel
  by_cases hlt:k<len
  ·obtain⟨g,off,rfl,_,_,c1⟩:=HP.out k (l.getD k 0) (by simp[φ,HLEN.out,hlt]);have c2:0<k->w.cell? ⟨g,off+(k-1),none⟩=some (.int .i64 (l.getD (k-1) 0)):=λhk0=>by
    have hk1:k-1<l.length:=by rw[HLEN.out];omega
    obtain⟨g2,off2,he,_,_,c⟩:=HP.out (k-1) (l.getD (k-1) 0) (by simp[φ,hk1]);simp only[ϗ,Addr.mk.injEq,and_true] at he;obtain⟨rfl,rfl⟩:=he;exact c
   have hsu:=Ma n S l k;have hno:=Rl n S l k ht;rw[ht,Bool.true_and] at hsu;unfold rowOk at hsu hno;have HS:=χ hsu;have HN:=χ hno;have k1:=kR (l.getD k 0);have k2:=kD (l.getD k 0);have k3:=kD (l.getD (k-1) 0);clear hsu hno ht kR kD;generalize l.getD k 0=x at *;generalize l.getD (k-1) 0=y at *;generalize pF n S x=b at *;generalize oZ n S x=d at *;generalize oZ n S y=d2 at *;cases b with
   |false=>
    go_wp2_with (go_at_call 189;refine(k1).mono ?_;rintro e w' ⟨rfl,rfl⟩)
    go_ret;exact⟨cZ (HN.out rfl _ hlt).symm,rfl⟩
   |true=>
    by_cases hk0:k=0
    ·subst hk0;clear c2;rw[ϕ] at c1
     go_wp2_with (go_at_call 189;refine(k1).mono ?_;rintro e w' ⟨rfl,rfl⟩)
     go_round
     case rel=>exact⟨1,ω,rfl,HS.out⟩
     case measure=>simp[intOf];omega
    ·have c3:=c2 ω;have hk1:1<=k:=ω;clear c2;obtain⟨k',rfl⟩:∃k',k=k'+1:=⟨k-1,ω⟩;simp only[Nat.add_sub_cancel] at c3
     by_cases hd:d2<d
     ·have hd':¬(d<=d2):=ω
      go_wp2_with (first|(go_at_call 189;(with_reducible refine(k1).mono ?_);rintro e w' ⟨rfl,rfl⟩)|(go_at_call 194;(with_reducible refine(k3).mono ?_);rintro e w' ⟨rfl,rfl⟩)|(go_at_call 194;(with_reducible refine(k2).mono ?_);rintro e w' ⟨rfl,rfl⟩))
      go_round
      case rel=>exact⟨k'+1+1,ω,by go_num,by rw[HS.out];simp[hd]⟩
      case measure=>simp[intOf];omega
     ·have hd':d<=d2:=ω
      go_wp2_with (first|(go_at_call 189;(with_reducible refine(k1).mono ?_);rintro e w' ⟨rfl,rfl⟩)|(go_at_call 194;(with_reducible refine(k3).mono ?_);rintro e w' ⟨rfl,rfl⟩)|(go_at_call 194;(with_reducible refine(k2).mono ?_);rintro e w' ⟨rfl,rfl⟩))
      go_ret;exact⟨cZ (HN.out ζ _ hlt).symm,rfl⟩
  ·obtain rfl:k=len:=ω;go_wp2;go_ret;exact⟨by first|rfl|exact cZ ht.symm,rfl⟩
theorem Hq(w:World)(F:List Nat)(v:Value)(l:List Int)(x:Int)(h:j6 w F v l) :
  Calls prog 180 #[v,.int .i64 x] w λe w'=>e=.returned (.int .i64 (idxOf l x))/\w'=w:=by
 obtain⟨a,cap,rfl,hlc,hcp,hp⟩:=h;have HP:=χ hp;clear hp;generalize hlen:l.length=len at *;have HLEN:=χ hlen;clear hlen
 go_enter func180,ntmps180
 go_wp2
 go_loop [8] (λi=>∃q:Nat,q<=len/\i=.int .i64 (q:Int)/\x∉l.take q) (λi=>len-(intOf i).toNat)
 case atStart=>exact⟨0,ω,rfl,σ⟩
 case round=>
  obtain⟨q,hq,rfl,hn⟩:=hrel
  by_cases hlt:q<len
  ·obtain⟨y,qh⟩:∃y,l[q]?=some y:=⟨l[q]'(by rw[HLEN.out];exact hlt),σ⟩;obtain⟨gb,off,rfl,_,_,hc⟩:=HP.out q y qh
   by_cases hxy:x=y
   ·subst hxy;have hi:=GH l x q hn qh;have HI:=χ hi;clear hn qh hi;go_wp2;go_ret;exact⟨jR HI.out.symm,rfl⟩
   ·have b1:(x == y)=false:=by simpa using hxy
    have hn2:x∉l.take (q+1):=by rw[ϐ,qh];simp;exact⟨hn,hxy⟩
    have HN2:=χ hn2;clear hn qh hn2 hxy;go_wp2
    go_round
    case rel=>exact⟨q+1,ω,by go_num,HN2.out⟩
    case measure=>simp[intOf];omega
  ·obtain rfl:q=len:=ω;rw[List.take_of_length_le (by rw[HLEN.out];omega)] at hn;have HI:=χ (Au l x hn);clear hn;go_wp2;go_ret;exact⟨jR HI.out.symm,rfl⟩
theorem Jv(w:World)(F:List Nat)(v:Value)(l:List Int)(x:Int)(h:j6 w F v l) :
  Calls prog 193 #[v,.int .i64 x] w λe w'=>e=.returned (.bool (decide (x∈l)))/\w'=w:=by
 have k1:=Hq w F v l x h;obtain⟨a,cap,rfl,_⟩:=h
 by_cases hx:x∈l
 ·obtain⟨i,hi,he,_⟩:=xe l x hx;rw[he] at k1
  go_enter func193,ntmps193
  go_wp2_with ((go_at_call 180;(with_reducible refine aT (k1) ?_)))
  go_ret;exact⟨cZ (by simp[hx]),rfl⟩
 ·rw[Au l x hx] at k1
  go_enter func193,ntmps193
  go_wp2_with ((go_at_call 180;(with_reducible refine aT (k1) ?_)))
  go_ret;exact⟨cZ (by simp[hx]),rfl⟩
theorem Tw(w:World)(F:List Nat)(B7:Nat)(v:Value)(l:List Int)(x:Int)(h:j6 w F v l)(hr:aS w B7 77 1 (λ_=>v)) :
  Calls prog 192 #[.int .i64 x,.pointer (some ⟨B7,0,none⟩)] w λe w'=>e=.returned (.bool (decide (x∈l)))/\w'=w:=by
 have k1:=Jv w F v l x h;have c0:=hr.cell 0 ω;obtain⟨a,cap,rfl,_⟩:=h
 go_enter func192,ntmps192
 go_wp2_with ((go_at_call 193;(with_reducible refine aT (k1) ?_)))
 go_ret;exact⟨rfl,rfl⟩
theorem LQ(w:World)(F:List Nat)(B7:Nat)(va v:Value)(A l:List Int)(ha:j6 w F va A)(h:j6 w F v l)(hr:aS w B7 77 1 (λ_=>v)) :
  Calls prog 188 #[va,.func (Fn.func 192) #[] #[.pointer (some ⟨B7,0,none⟩)]] w λe w'=>(∃i:Int,e=.returned (.int .i64 i)/\decide (0<=i)=A.any (λx=>decide (x∈l)))/\w'=w:=by
 have kC:=λx=>Tw w F B7 v l x h hr;clear h hr;obtain⟨a,cap,rfl,hlc,hcp,hp⟩:=ha;have HP:=χ hp;clear hp;generalize hlen:A.length=len at *;have HLEN:=χ hlen;clear hlen
 go_enter func188,ntmps188
 go_wp2
 go_loop [8] (λi=>∃q:Nat,q<=len/\i=.int .i64 (q:Int)/\(A.take q).any (λx=>decide (x∈l))=false) (λi=>len-(intOf i).toNat)
 case atStart=>exact⟨0,ω,rfl,σ⟩
 case round=>
  obtain⟨q,hq,rfl,hn⟩:=hrel
  by_cases hlt:q<len
  ·obtain⟨y,qh⟩:∃y,A[q]?=some y:=⟨A[q]'(by rw[HLEN.out];exact hlt),σ⟩;obtain⟨gb,off,rfl,_,_,hc⟩:=HP.out q y qh;have k1:=kC y
   by_cases hy:y∈l
   ·rw[Ν hy] at k1;have hfin:A.any (λx=>decide (x∈l))=true:=List.any_eq_true.2 ⟨y,Η qh,by simpa using hy⟩;have HF:=χ hfin;clear hn qh hy kC hfin
    go_wp2_with ((go_at_call 192;(with_reducible refine aT (k1) ?_)))
    go_ret;exact⟨⟨_,rfl,by rw[HF.out];simp⟩,rfl⟩
   ·rw[Ξ hy] at k1;have hn2:(A.take (q+1)).any (λx=>decide (x∈l))=false:=by rw[ϐ,qh,List.any_append,hn];simpa using hy
    have HN2:=χ hn2;clear hn qh hn2 hy kC
    go_wp2_with ((go_at_call 192;(with_reducible refine aT (k1) ?_)))
    go_round
    case rel=>exact⟨q+1,ω,by go_num,HN2.out⟩
    case measure=>simp[intOf];omega
  ·obtain rfl:q=len:=ω;rw[List.take_of_length_le (by rw[HLEN.out];omega)] at hn;have HN:=χ hn;clear hn kC;go_wp2;go_ret;exact⟨⟨_,rfl,by rw[HN.out];rfl⟩,rfl⟩
theorem Cm(w:World)(F:List Nat)(B7:Nat)(va v:Value)(A l:List Int)(ha:j6 w F va A)(h:j6 w F v l)(hr:aS w B7 77 1 (λ_=>v)) :
  Calls prog 191 #[va,.func (Fn.func 192) #[] #[.pointer (some ⟨B7,0,none⟩)]] w λe w'=>e=.returned (.bool (A.any (λx=>decide (x∈l))))/\w'=w:=by
 have k1:=LQ w F B7 va v A l ha h hr;generalize A.any (λx=>decide (x∈l))=b at *;obtain⟨a,cap,rfl,_⟩:=ha;clear h hr
 go_enter func191,ntmps191
 go_wp2_with (go_at_call 188;(with_reducible refine(k1).mono ?_);rintro e w9 ⟨⟨i,rfl,hi⟩,zu⟩;rw[zu];clear zu w9;have HI:=χ hi;clear hi)
 go_ret;exact⟨cZ (by first|exact HI.out|(rw[←HI.out];simp)),rfl⟩
def pG(S:CS)(v:Value)(a b:Nat):CS:=(S.AJ a v (S.k a++[(b:Int)])).uf b a
theorem I9(bt ba lo n:Nat)(S:CS)(a b:Nat)(w:World)(h:bA w bt ba lo n S)(ha:a<n)(hb:b<n)(hra:pF n S a=true)(hrb:pF n S b=true)(hne:a≠b)(hd:oZ n S a=oZ n S b)(hlen:(S.k a).length+1<=n) :
    Calls prog 196 #[.pointer (some ⟨bt,0,none⟩),.int .i64 (a:Int),.int .i64 (b:Int)] w λe w'=>∃v,e=.returned (.bool true)/\bA w' bt ba lo n (pG S v a b)/\ae (ba::S.blk n) w w'/\(∀g,g∈(pG S v a b).blk n->g∈S.blk n\/w.heap.size<=g):=by
  have hle:=h.le;have hl1:=h.Nf;have hl2:=h.Nk;have hlow:=h.low;have hnb:=h.ne;have k1:=xM bt ba lo n S a w h;have k2:=xM bt ba lo n S b w h;have k3:=rJ bt ba lo n S a w h;have k4:=rJ bt ba lo n S b w h;rw[hra] at k1;rw[hrb] at k2;rw[hd] at k3;have b1:((a:Int) == (b:Int))=false:=ζ;have ho:=h.own a ha;obtain⟨sa,cap,hv,hcap⟩:=aV ho;have Yj:∀g,g∈(S.v a).ownBlock.toList->lo<=g/\g<w.heap.size:=λg hg=>ho.lt g (by simpa using hg);have r1:∀W,ae (S.v a).ownBlock.toList w W->W.cell? ⟨bt,0,none⟩=some (.slice (some ⟨ba,0,none⟩) n n):=λW hW=>by
    rw[hW.cell h.head.lt (λhm=>by have:=Yj _ hm;simp at this;omega)];exact h.head.cell 0 ω
  have r2:∀W,ae (S.v a).ownBlock.toList w W->W.cell? ⟨ba,a*2,none⟩=some (S.v a):=λW hW=>by
    rw[hW.cell h.row.lt (λhm=>by have:=Yj _ hm;simp at this;omega)];exact h.row.cellAt (a*2) ω (nJ S a)
  have r3:∀W,ae (S.v a).ownBlock.toList w W->W.cell? ⟨ba,b*2+1,none⟩=some (.int .i64 (S.u b)):=λW hW=>by
    rw[hW.cell h.row.lt (λhm=>by have:=Yj _ hm;simp at this;omega)];exact h.row.cellAt (b*2+1) ω (vk S b)
  have q1:∀W,ae (S.v a).ownBlock.toList w W->W.frozen? ⟨ba,a*2,none⟩=false:=λW hW=>by
    rw[hW.frozen h.row.lt (λhm=>by have:=Yj _ hm;simp at this;omega)];exact h.row.free _
  have q2:∀W,ae (S.v a).ownBlock.toList w W->W.frozen? ⟨ba,b*2+1,none⟩=false:=λW hW=>by
    rw[hW.frozen h.row.lt (λhm=>by have:=Yj _ hm;simp at this;omega)];exact h.row.free _
  have s0:ae (S.v a).ownBlock.toList w w:=ae.refl _ _;have H:=χ h;have HV:=χ hv;have hk:=gQ (S.k a);generalize hva:S.v a=va at *;have HVA:=χ hva;subst hv;clear h hra hrb hd hva hne
  go_enter func196,ntmps196
  go_wp2_with (first
    |(go_at_call 189;(with_reducible refine aT (k1) ?_))
    |(go_at_call 189;(with_reducible refine aT (k2) ?_))
    |(go_at_call 194;(with_reducible refine aT (k3) ?_))
    | (go_at_call 194;(with_reducible refine aT (k4) ?_)))
  have s1:ae (Value.slice sa (S.k a).length cap).ownBlock.toList w (w.drew.alloc (.cells #[.int .i64 (b:Int)] 3)):=s0.drew.alloc _;have a1:=r1 _ (s0.alloc (.cells #[.int .i64 (b:Int)] 3));have a2:=r2 _ (s0.alloc (.cells #[.int .i64 (b:Int)] 3))
  go_region_law
    (first
      | (refine ny rfl _ _ 77 rfl lo 3 (.int .i64 0) 1 8 underlying77 gI rfl δ (.slice sa (S.k a).length cap) (S.k a).length (bz (S.k a)) rfl (ho.drew.alloc _) w.heap.size [.int .i64 (b:Int)] rfl rfl (λj u hj=>oK w [.int .i64 (b:Int)] 3 j u hj) (by simp [Value.oneCell']) μ ω ζ ?_
         intro v2 w2 ho2 hu2 hv2;have hS2:ae (Value.slice sa (S.k a).length cap).ownBlock.toList w w2:=s1.trans hu2
         obtain ⟨a2,cap2,rfl,hcap2⟩:=aV ho2))
  all_goals
    have ho3:w2.ownsRow lo 3 1 (.slice a2 ((S.k a).length+1) cap2) (S.k a++[(b:Int)]).length (bz (S.k a++[(b:Int)])):=by rw[dO,υ];exact ho2
    have hF:=H.out.Xa a ha (.slice a2 ((S.k a).length+1) cap2) (S.k a++[(b:Int)]) hS2 (λg hg=>by rw [HVA.out];simpa using hg) ho3 (λg hg=>by
      rcases hv2 with h|h
      · rw[h] at hg;exact Α (by rw[HVA.out];exact hg)
      · rw [h] at hg;simp at hg;exact Β ω) (by rw [υ];exact hlen)
    have e0:=hF.head.cell 0 ω;have e1:=hF.row.cell (b*2+1) ω;have e2:=hF.row.free (b*2+1);have HF:=χ hF;have HV2:=χ hv2;clear hF hv2 ho2 ho3 r1 r2 r3 q1 q2;go_wp2;go_ret;refine⟨_,rfl,HF.out.dC b hb a,?_,λg hg=>?_⟩
    · refine((hS2.mono (λg hg=>?_)).setCell (Α σ) _).setCell (Α σ) _
      simp only[ρ];refine Β ((S.jQ n g).2 ⟨a,ha,?_⟩);rw[HVA.out];simpa using hg
    · rcases S.U8 a (.slice a2 ((S.k a).length+1) cap2) (S.k a++[(b:Int)]) n g hg with h|h
      · exact Α h
      · rcases HV2.out with h2|h2
        · exact Α ((S.jQ n g).2 ⟨a,ha,by rw[HVA.out,←h2];exact h⟩)
        · rw[h2] at h;simp at h;exact Β ω
end Go.Proofs.YtnpdakpagnpanaaGreat
namespace Go.Proofs.YtnpdakpagnpanaaGreat
open Tryz
def jI(lt:Int->Int->Bool)(a b:Nat):Nat:=if lt b a then b else a
def mZ(lt:Int->Int->Bool)(a b:Nat):Nat:=if lt b a then a else b
structure CF where
 k:Nat->List Int
 u:Nat->Int
def CS.f(S:CS):CF:=⟨S.k,S.u⟩
def Aj(n:Nat)(F:CF)(x:Int):Bool:=decide (0<=x/\x<n) && F.u x.toNat == -1
def dW(n:Nat)(F:CF)(x:Int):Int:=if 0<=x/\x<n then(F.k x.toNat).length else 0
theorem aap(n:Nat)(S:CS)(x:Int):pF n S x=Aj n S.f x:=rfl
theorem YL(n:Nat)(S:CS)(x:Int):oZ n S x=dW n S.f x:=rfl
def iw(F:CF)(a b:Nat):CF:=⟨λy=>if y=a then F.k a++[(b:Int)] else F.k y,λy=>if y=b then(a:Int) else F.u y⟩
theorem Zt(S:CS)(v:Go.Value)(a b:Nat):(pG S v a b).f=iw S.f a b:=rfl
structure CC where
 F:CF
 A:List Int
 B:List Int
 N:List Int
 O:List Int
 q:Nat
def takeA(n k:Nat)(C:CC):CC:=match C.A with|x::t=>(if dW n C.F x=k then{ C with A:=t,N:=C.N++[x] } else C)|[]=>C
def takeB(n k:Nat)(C:CC):CC:=match C.B with|x::t=>(if dW n C.F x=k then{ C with B:=t,N:=C.N++[x] } else C)|[]=>C
def fV(C:CC):CC:=match C.N with|[x]=>{ C with N:=[],O:=C.O++[x] }|[x,y,z]=>{ C with N:=[y,z],O:=C.O++[x] }|_=>C
def nE(lt:Int->Int->Bool)(C:CC):CC:=match C.N with
 | [x,y]=>{ C with F:=iw C.F (jI lt x.toNat y.toNat) (mZ lt x.toNat y.toNat),N:=[(jI lt x.toNat y.toNat:Int)],q:=C.q+1 }
 |_=>C
def Ji(lt:Int->Int->Bool)(n k:Nat)(C:CC):CC:=nE lt (fV (takeB n k (takeA n k C)))
def gU(lt:Int->Int->Bool)(n:Nat):Nat->CC->CC
 |0,C=>C
 |k+1,C=>Ji lt n k (gU lt n k C)
structure M0(dom:Int->Prop)(lt:Int->Int->Bool)(n k:Nat)(C:CC):Prop where
 few:C.N.length<=1
 join:∀x y,(fV (takeB n k (takeA n k C))).N=[x,y]->∃a b:Nat,x=a/\y=b/\dom a/\dom b/\a<n/\b<n/\a≠b/\Aj n (fV (takeB n k (takeA n k C))).F a=true/\Aj n (fV (takeB n k (takeA n k C))).F b=true/\
  dW n (fV (takeB n k (takeA n k C))).F a=dW n (fV (takeB n k (takeA n k C))).F b/\((fV (takeB n k (takeA n k C))).F.k a).length+1<=n/\((fV (takeB n k (takeA n k C))).F.k b).length+1<=n
 small:C.A.length+C.B.length+C.O.length<=100000
 asked:C.q<=1000000
 ends:C.A≠[]\/C.B≠[]\/C.N≠[]->k<=n
def tA(n k:Nat)(A:List Int)(F:CF):Bool:=match A with|x::_=>dW n F x == (k:Int)|[]=>false
def tot(C:CC):Nat:=C.A.length+C.B.length+C.N.length+C.O.length
theorem yw(n k:Nat)(C:CC):tot (takeA n k C)=tot C/\(takeA n k C).N.length<=C.N.length+1:=by
 unfold takeA tot
 split
 ·rename_i x t h
  split
  ·simp only[h,υ,Ω,List.length_nil];omega
  ·simp
 ·simp
theorem y5(n k:Nat)(C:CC):tot (takeB n k C)=tot C/\(takeB n k C).N.length<=C.N.length+1:=by
 unfold takeB tot
 split
 ·rename_i x t h
  split
  ·simp only[h,υ,Ω,List.length_nil];omega
  ·simp
 ·simp
theorem OG(C:CC)(h3:C.N.length<=3):tot (fV C)=tot C/\(fV C).N.length<=2:=by
 obtain⟨F,A,B,N,O,q⟩:=C;simp only at h3
 match N,h3 with
 | [],_=>simp[fV,tot]
 | [x],_=>simp[fV,tot];try omega
 | [x,y],_=>simp[fV,tot]
 | [x,y,z],_=>simp[fV,tot];try omega
 |_::_::_::_::_,h3=>simp at h3;try omega
theorem Vb(n k:Nat)(C:CC):(fV (takeB n k (takeA n k C))).q=C.q:=by
 have h1:∀C,(fV C).q=C.q:=λC=>by unfold fV;split<;>rfl
 have h2:∀C,(takeB n k C).q=C.q:=λC=>by
  unfold takeB;split
  ·split<;>rfl
  ·rfl
 have h3:∀C,(takeA n k C).q=C.q:=λC=>by
  unfold takeA;split
  ·split<;>rfl
  ·rfl
 rw[h1,h2,h3]
end Go.Proofs.YtnpdakpagnpanaaGreat
namespace Go.Proofs.YtnpdakpagnpanaaGreat
open Tryz
open Go Go.RowKit
structure vJ where
 ty:TypeId
 p:Nat
 rd:List Nat
 wr:List Nat
 lt:Int->Int->Bool
 dom:Int->Prop
 at_:World->Nat->Prop
 sub:∀x,x∈wr->x∈rd
 low:∀{w:World} {q:Nat},at_ w q->∀x,x∈rd->x<w.heap.size
 upd:∀{w w':World} {S:List Nat} {q:Nat},at_ w q->ae S w w'->(∀x,x∈S->x∉rd)->at_ w' q
 asym:∀a b,lt a b=true->lt b a=false
 ahead:∀{w:World} {q:Nat} (x y:Int),at_ w q->dom x->dom y->q<=1000000->IJ ty p "Ahead" w (λv=>#[v,.int .i64 x,.int .i64 y]) λw e w'=>e=.returned (.bool (lt x y))/\at_ w' (q+1)/\ae wr w w'
structure Apart(O:vJ)(bt ba n:Nat)(S:CS):Prop where
 bt:bt∉O.rd
 ba:ba∉O.rd
 blk:∀g,g∈S.blk n->g∉O.rd
theorem Apart.rd{O:vJ}{bt ba n:Nat}{S:CS}(h:Apart O bt ba n S):∀g,g∈ba::S.blk n->g∉O.rd:=λg hg=>by
 rcases ρ.1 hg with rfl|hg
 ·exact h.ba
 ·exact h.blk g hg
theorem Apart.wr{O:vJ}{bt ba n:Nat}{S:CS}(h:Apart O bt ba n S):bt∉O.wr/\ba∉O.wr/\∀g,g∈S.blk n->g∉O.wr:=
 ⟨λhm=>h.bt (O.sub _ hm),λhm=>h.ba (O.sub _ hm),λg hg hm=>h.blk g hg (O.sub _ hm)⟩
theorem TM(O:vJ)(bt ba lo n:Nat)(S:CS)(asked a b:Nat)(w:World)(h:bA w bt ba lo n S)(hO:O.at_ w asked)(hda:O.dom a)(hdb:O.dom b)(hk:asked<=1000000)
  (ha:a<n) (hb:b<n) (hra:pF n S a=true) (hrb:pF n S b=true) (hne:a≠b) (hd:oZ n S a=oZ n S b) (hl1:(S.k a).length+1<=n) (hl2:(S.k b).length+1<=n)
  (hA:Apart O bt ba n S) :
  Calls prog 195 #[.pointer (some ⟨bt,0,none⟩),.iface O.ty (.pointer (some ⟨O.p,0,none⟩)),.int .i64 (a:Int),.int .i64 (b:Int)] w λe w'=>
   ∃v,e=.returned (.int .i64 (jI O.lt a b:Int))/\bA w' bt ba lo n (pG S v (jI O.lt a b) (mZ O.lt a b))/\O.at_ w' (asked+1)/\ae (O.wr++ba::S.blk n) w w'/\(∀g,g∈(pG S v (jI O.lt a b) (mZ O.lt a b)).blk n->g∈S.blk n\/w.heap.size<=g):=by
 obtain⟨f,fv,hen,hm,hc⟩:=(O.ahead (b:Int) (a:Int) hO hdb hda hk).now;unfold Enters at hen;have hF:=λW (hW:ae O.wr w W)=>h.upd hW hA.wr.1 hA.wr.2.1 hA.wr.2.2;have kL1:=λW (hW:ae O.wr w W)=>I9 bt ba lo n S a b W (hF W hW) ha hb hra hrb hne hd hl1;have kL2:=λW (hW:ae O.wr w W)=>I9 bt ba lo n S b a W (hF W hW) hb ha hrb hra (Ne.symm hne) hd.symm hl2;have HS:=χ hA.rd;clear hF h hO hA hd hra hrb hda hdb;unfold jI mZ;generalize O.ty=ty at *;cases hab:O.lt b a with
 |true=>
  rw[hab] at hc;rw[Δ rfl,Δ rfl];clear hab kL1
  go_enter func195,ntmps195
  go_wp2_with (first
   |((with_reducible refine(hc).mono ?_);rintro e w1 ⟨rfl,hL1,hu1⟩)
   | ((go_at_call 196;(with_reducible refine (kL2 _ hu1).mono ?_));rintro e w2 ⟨v2,rfl,hF2,hu2,hb2⟩))
  go_ret;refine⟨_,rfl,hF2,O.upd hL1 hu2 HS.out,(hu1.mono (by simp +contextual)).trans (hu2.mono (λg hg=>τ.2 (Β hg))),λg hg=>?_⟩;rcases hb2 g hg with h|h
  ·exact Α h
  ·exact Β (Χ hu1.size h)
 |false=>
  rw[hab] at hc;rw[Γ σ,Γ σ];clear hab kL2
  go_enter func195,ntmps195
  go_wp2_with (first
   |((with_reducible refine(hc).mono ?_);rintro e w1 ⟨rfl,hL1,hu1⟩)
   | ((go_at_call 196;(with_reducible refine (kL1 _ hu1).mono ?_));rintro e w2 ⟨v2,rfl,hF2,hu2,hb2⟩))
  go_ret;refine⟨_,rfl,hF2,O.upd hL1 hu2 HS.out,(hu1.mono (by simp +contextual)).trans (hu2.mono (λg hg=>τ.2 (Β hg))),λg hg=>?_⟩;rcases hb2 g hg with h|h
  ·exact Α h
  ·exact Β (Χ hu1.size h)
theorem j6.shape{w:World}{F:List Nat}{v:Value}{xs:List Int}(h:j6 w F v xs):∃a cap,v=.slice a xs.length cap/\cap<=9223372036854775807:=by
 obtain⟨a,cap,rfl,_,h2,_⟩:=h;exact⟨a,cap,rfl,h2⟩
structure KM(O:vJ)(w0 w:World)(bt ba lo n:Nat)(F0:List Nat)(va vb vn vo:Value)(C:CC):Prop where
 vV:∃S:CS,S.f=C.F/\bA w bt ba lo n S/\Apart O bt ba n S/\(∀g,g∈S.blk n->g∈F0\/w0.heap.size<g)/\(∀g,vn.ownBlock=some g->g∉S.blk n)/\(∀g,vo.ownBlock=some g->g∉S.blk n)
 les:O.at_ w C.q
 a:j6 w0 F0 va C.A
 b:j6 w0 F0 vb C.B
 box:aS w w0.heap.size 77 1 (λ_=>vb)
 now:bF w (w0.heap.size+1) vn C.N
 out:bF w (w0.heap.size+1) vo C.O
 sep:∀g,vn.ownBlock=some g->vo.ownBlock≠some g
 upd:ae F0 w0 w
 old:∀g,g∈F0->g<w0.heap.size
 Ng:(∀x,x∈O.wr->x∈F0)/\ba∈F0
 t0:bt<w0.heap.size
 k0:∀x,x∈O.rd->x<w0.heap.size
theorem j6.head{w:World}{F:List Nat}{a:Option Addr}{n c:Nat}{x:Int}{xs:List Int}(h:j6 w F (.slice a n c) (x::xs)):∃g off,a=some ⟨g,off,none⟩/\g<w.heap.size/\g∉F/\w.cell? ⟨g,off,none⟩=some (.int .i64 x):=by
 obtain⟨a',cap,he,_,_,h3⟩:=h;obtain⟨g,off,rfl,hg,hF,hc⟩:=h3 0 x rfl;cases he;exact⟨g,off,rfl,hg,hF,by rw[ϕ] at hc;exact hc⟩
theorem KM.deg{w0 w:World}{O:vJ}{bt ba lo n:Nat}{F0:List Nat}{va vb vn vo:Value}{C:CC}(h:KM O w0 w bt ba lo n F0 va vb vn vo C)(x:Int) :
  Calls prog 194 #[.pointer (some ⟨bt,0,none⟩),.int .i64 x] w λe w'=>e=.returned (.int .i64 (dW n C.F x))/\w'=w:=by
 obtain⟨S,h1,h2,_⟩:=h.vV;have:=rJ bt ba lo n S x w h2;rw[YL,h1] at this;exact this
theorem KM.far{w0 w:World}{O:vJ}{bt ba lo n:Nat}{F0:List Nat}{va vb vn vo:Value}{C:CC}(h:KM O w0 w bt ba lo n F0 va vb vn vo C){g off:Nat}{u:Value}(hg:g<w0.heap.size)(hF:g∉F0)(hc:w0.cell? ⟨g,off,none⟩=some u){G:List Nat}{W:World}(hu:ae G w W)(hG:∀x,x∈G->w0.heap.size<=x) :
  W.cell? ⟨g,off,none⟩=some u:=by
 rw[hu.cell (Ψ hg h.upd.size) (λhm=>by have:=hG _ hm;simp at this;omega),h.upd.cell hg hF];exact hc
theorem KM.R9{w0 w:World}{O:vJ}{bt ba lo n:Nat}{F0:List Nat}{va vb vn vo:Value}{C:CC}(h:KM O w0 w bt ba lo n F0 va vb vn vo C){W:World}{vn':Value}{N':List Int}
  (hu:ae vn.ownBlock.toList w W) (ho:bF W (w0.heap.size+1) vn' N') (hb:∀g,vn'.ownBlock=some g->vn.ownBlock=some g\/w.heap.size<=g):KM O w0 W bt ba lo n F0 va vb vn' vo { C with N:=N' }:=by
 obtain⟨S,h1,h2,h3,h4,h5,h6⟩:=h.vV;have hn:∀g,g∈vn.ownBlock.toList->w0.heap.size<g/\g∉S.blk n/\vo.ownBlock≠some g:=λg hg=>by
  have hg':vn.ownBlock=some g:=by simpa using hg
  exact⟨by have:=(h.now.lt g hg').1;omega,h5 g hg',h.sep g hg'⟩
 have hbt:=h.t0;have Ra:=h.old ba h.Ng.2;have hk:=h.k0
 refine ⟨⟨S,h1,h2.upd hu (λhm=>by have:=hn _ hm;omega) (λhm=>by have:=hn _ hm;omega) (λg hg hm=>(hn g hm).2.1 hg),h3,h4,λg hg hm=>?_,h6⟩,O.upd h.les hu (λg hg hm=>by have:=hn g hg;have:=hk g hm;omega),h.a,h.b,h.box.upd hu (λhm=>by have:=hn _ hm;omega),ho,
  h.out.upd hu (λg hg hm=>(hn g hm).2.2 hg),λg hg he=>?_,h.upd.joined hu (λg hg=>Β (by have:=hn g hg;omega)),h.old,h.Ng,h.t0,h.k0⟩
 ·rcases hb g hg with h'|h'
  ·exact h5 g h' hm
  ·have:=(h2.oG hm).2;omega
 ·rcases hb g hg with h'|h'
  ·exact h.sep g h' he
  ·have:=(h.out.lt g he).2;omega
theorem KM.adA{w0 w:World}{O:vJ}{bt ba lo n:Nat}{F0:List Nat}{va vb vn vo:Value}{C:CC}(h:KM O w0 w bt ba lo n F0 va vb vn vo C){W:World}{vo':Value}{O':List Int}
  (hu:ae vo.ownBlock.toList w W) (ho:bF W (w0.heap.size+1) vo' O') (hb:∀g,vo'.ownBlock=some g->vo.ownBlock=some g\/w.heap.size<=g):KM O w0 W bt ba lo n F0 va vb vn vo' { C with O:=O' }:=by
 obtain⟨S,h1,h2,h3,h4,h5,h6⟩:=h.vV;have hn:∀g,g∈vo.ownBlock.toList->w0.heap.size<g/\g∉S.blk n/\vn.ownBlock≠some g:=λg hg=>by
  have hg':vo.ownBlock=some g:=by simpa using hg
  exact⟨by have:=(h.out.lt g hg').1;omega,h6 g hg',λe=>h.sep g e hg'⟩
 have hbt:=h.t0;have Ra:=h.old ba h.Ng.2;have hk:=h.k0
 refine ⟨⟨S,h1,h2.upd hu (λhm=>by have:=hn _ hm;omega) (λhm=>by have:=hn _ hm;omega) (λg hg hm=>(hn g hm).2.1 hg),h3,h4,h5,λg hg hm=>?_⟩,O.upd h.les hu (λg hg hm=>by have:=hn g hg;have:=hk g hm;omega),h.a,h.b,h.box.upd hu (λhm=>by have:=hn _ hm;omega),
  h.now.upd hu (λg hg hm=>(hn g hm).2.2 hg),ho,λg hg he=>?_,h.upd.joined hu (λg hg=>Β (by have:=hn g hg;omega)),h.old,h.Ng,h.t0,h.k0⟩
 ·rcases hb g hg with h'|h'
  ·exact h6 g h' hm
  ·have:=(h2.oG hm).2;omega
 ·rcases hb g he with h'|h'
  ·exact h.sep g hg h'
  ·have:=(h.now.lt g hg).2;omega
theorem KM.aTo{w0 w:World}{O:vJ}{bt ba lo n:Nat}{F0:List Nat}{va vb vn vo va':Value}{C:CC}(h:KM O w0 w bt ba lo n F0 va vb vn vo C){A':List Int}(ha:j6 w0 F0 va' A'):KM O w0 w bt ba lo n F0 va' vb vn vo { C with A:=A' }:=
 ⟨h.vV,h.les,ha,h.b,h.box,h.now,h.out,h.sep,h.upd,h.old,h.Ng,h.t0,h.k0⟩
theorem KM.bTo{w0 w:World}{O:vJ}{bt ba lo n:Nat}{F0:List Nat}{va vb vn vo Yk:Value}{C:CC}(h:KM O w0 w bt ba lo n F0 va vb vn vo C){B':List Int}(hb:j6 w0 F0 Yk B') :
  KM O w0 (w.setCell ⟨w0.heap.size,0,none⟩ Yk) bt ba lo n F0 va Yk vn vo { C with B:=B' }:=by
 obtain⟨S,h1,h2,h3,h4,h5,h6⟩:=h.vV;have hu:ae [w0.heap.size] w (w.setCell ⟨w0.heap.size,0,none⟩ Yk):=(ae.refl _ _).setCell (Α σ) _;have hbt:=h.t0;have Ra:=h.old ba h.Ng.2;have hk:=h.k0;refine⟨⟨S,h1,h2.upd hu ζ ζ (λg hg hm=>?_),h3,h4,h5,h6⟩,O.upd h.les hu (λg hg hm=>by have:=hk g hm;simp at hg;omega),h.a,hb,(h.box.set 0 Yk).ext (λj hj=>ζ),h.now.upd hu (λg hg hm=>?_),h.out.upd hu (λg hg hm=>?_),h.sep,h.upd.joined hu (λg hg=>Β (by simp at hg;omega)),h.old,h.Ng,h.t0,h.k0⟩
 ·simp at hm;subst hm;rcases h4 _ hg with h'|h'
  ·have:=h.old _ h';omega
  ·omega
 ·have:=(h.now.lt g hg).1;simp at hm;omega
 ·have:=(h.out.lt g hg).1;simp at hm;omega
theorem KM.aa2{w0 w:World}{O:vJ}{bt ba lo n:Nat}{F0:List Nat}{va vb vn vo:Value}{C:CC}(h:KM O w0 w bt ba lo n F0 va vb vn vo C){S:CS}(hS:S.f=C.F)(h2:bA w bt ba lo n S)(h3:Apart O bt ba n S)
  (h4:∀g,g∈S.blk n->g∈F0\/w0.heap.size<g) (h6:∀g,vo.ownBlock=some g->g∉S.blk n) {W:World} {v:Value} {a b:Nat} (hF:bA W bt ba lo n (pG S v a b)) (hL:O.at_ W (C.q+1)) (hu:ae (O.wr++ba::S.blk n) w W)
  (hg:∀g,g∈(pG S v a b).blk n->g∈S.blk n\/w.heap.size<=g) :
  KM O w0 (W.alloc (.cells #[.int .i64 (a:Int)] 3)) bt ba lo n F0 va vb (.slice (some ⟨W.heap.size,0,none⟩) 1 1) vo { C with F:=iw C.F a b,N:=[(a:Int)],q:=C.q+1 }:=by
 have Ra:=h.old ba h.Ng.2;have hk:=h.k0;have hbx:=h.box.lt;have hsz:=hu.size;have hm:∀g,g∈O.wr++ba::S.blk n->g∈F0\/w0.heap.size<g:=λg hg=>by
  rcases τ.1 hg with hg|hg
  ·exact Α (h.Ng.1 _ hg)
  ·rcases ρ.1 hg with rfl|hg
   ·exact Α h.Ng.2
   ·exact h4 g hg
 have hvo:∀g,vo.ownBlock=some g->g∉O.wr++ba::S.blk n:=λg hg hm=>by
  have:=(h.out.lt g hg).1;rcases τ.1 hm with hm|hm
  ·have:=hk _ (O.sub _ hm);omega
  ·rcases ρ.1 hm with rfl|hm
   ·omega
   ·exact h6 g hg hm
 have ha:ae [] W (W.alloc (.cells #[.int .i64 (a:Int)] 3)):=(ae.refl _ _).alloc _;have hb:w0.heap.size∉O.wr++ba::S.blk n:=λhm2=>by
  rcases hm _ hm2 with h'|h'
  ·have:=h.old _ h';omega
  ·omega
 refine ⟨⟨pG S v a b,by rw [Zt,hS],hF.ag ha,⟨h3.bt,h3.ba,λg hg1 hm=>?_⟩,λg hgm=>?_,λg hg1 hgm=>?_,λg hg1 hgm=>?_⟩,O.upd hL ha σ,h.a,h.b,(h.box.upd hu hb).upd ha σ,bF.lit W _ a ω,
  (h.out.upd hu hvo).upd ha σ,λg hg1 hg2=>?_,(h.upd.joined hu (λg hg=>by rcases hm g hg with h'|h';exact Α h';exact Β ω)).then ha,h.old,h.Ng,h.t0,h.k0⟩
 ·rcases hg _ hg1 with h'|h'
  ·exact h3.blk g h' hm
  ·have:=hk _ hm;omega
 ·rcases hg g hgm with h'|h'
  ·exact h4 g h'
  ·exact Β ω
 ·simp[Value.ownBlock] at hg1;have:=(hF.oG hgm).2;omega
 ·rcases hg g hgm with h'|h'
  ·exact h6 g hg1 h'
  ·have:=(h.out.lt g hg1).2;omega
 ·simp[Value.ownBlock] at hg1;have:=(h.out.lt g hg2).2;omega
set_option maxRecDepth 100000 in
theorem OJ(Od:vJ)(bt ba lo n:Nat)(S0:CS)(va vb:Value)(A B:List Int)(q0:Nat)(w:World)(h:bA w bt ba lo n S0)(hO:Od.at_ w q0)(hap:Apart Od bt ba n S0)(hbt:bt<w.heap.size)
    (ha:j6 w (Od.wr++ba::S0.blk n) va A) (hb:j6 w (Od.wr++ba::S0.blk n) vb B) (hrA:Pw n S0 A=true) (hrB:Pw n S0 B=true) (hno:A.any (λx=>decide (x∈B))=false)
    (hok:∀k,M0 Od.dom Od.lt n k (gU Od.lt n k ⟨S0.f,A,B,[],[],q0⟩)) :
    Calls prog 185 #[.pointer (some ⟨bt,0,none⟩),.iface Od.ty (.pointer (some ⟨Od.p,0,none⟩)),va,vb] w λe w'=>
      ∃k vn va' Yk vo,e=.returned (.tuple #[vo,.bool true])/\KM Od w w' bt ba lo n (Od.wr++ba::S0.blk n) va' Yk vn vo (gU Od.lt n k ⟨S0.f,A,B,[],[],q0⟩)/\(gU Od.lt n k ⟨S0.f,A,B,[],[],q0⟩).A=[]/\(gU Od.lt n k ⟨S0.f,A,B,[],[],q0⟩).B=[]/\(gU Od.lt n k ⟨S0.f,A,B,[],[],q0⟩).N=[]:=by
  have hle:=h.le;have hu1:∀v,ae [] w (w.alloc (.cells #[v] 77)):=λv=>(ae.refl _ _).alloc _;have hbx:=eZ w [vb] 77;have kA:=Rj bt ba lo n S0 va A (w.alloc (.cells #[vb] 77)) (h.ag (hu1 vb)) _ (ha.upd (hu1 vb) σ);have kB:=Rj bt ba lo n S0 vb B (w.alloc (.cells #[vb] 77)) (h.ag (hu1 vb)) _ (hb.upd (hu1 vb) σ);have kF:=Cm (w.alloc (.cells #[vb] 77)) _ w.heap.size va vb A B (ha.upd (hu1 vb) σ) (hb.upd (hu1 vb) σ) (hbx.ext (λj hj=>by simp at hj;subst hj;rfl));rw[hrA] at kA;rw[hrB] at kB;rw[hno] at kF;have hold:∀g,g∈Od.wr++ba::S0.blk n->g<w.heap.size:=λg hg=>by
    rcases τ.1 hg with hg|hg
    · exact Od.low hO _ (Od.sub _ hg)
    · rcases ρ.1 hg with rfl|hg
      · exact h.row.lt
      · exact(h.oG hg).2
  have hM:KM Od w (w.alloc (.cells #[vb] 77)) bt ba lo n (Od.wr++ba::S0.blk n) va vb (.slice none 0 0) (.slice none 0 0) (gU Od.lt n 0 ⟨S0.f,A,B,[],[],q0⟩):=
    ⟨⟨S0,rfl,h.ag (hu1 vb),hap,(λg hg=>Α (by simp[hg])),(λg hg=>by cases hg),(λg hg=>by cases hg)⟩,Od.upd hO (hu1 vb) σ,ha,hb,hbx.ext (λj hj=>by simp at hj;subst hj;rfl),bF.nil _ _,bF.nil _ _,(λg hg=>by cases hg),(ae.refl _ _).alloc _,hold,⟨λx hx=>τ.2 (Α hx),σ⟩,hbt,λx hx=>Od.low hO x hx⟩
  have HOK:=χ hok;have HM0:=χ hM;have sa:=ha.shape;have sb:=hb.shape;obtain⟨a1,c1,rfl,hc1⟩:=sa;obtain⟨b1,d1,rfl,hd1⟩:=sb;clear hok hM ha hb hbx h hO hap hrA hrB hno hold;generalize hF0:Od.wr++ba::S0.blk n=F0 at *;clear hF0;generalize hC0:(⟨S0.f,A,B,[],[],q0⟩:CC)=C0 at *;clear hC0
  go_enter func185,ntmps185
  go_wp2_with (first
    |(go_at_call 190;(with_reducible refine aT (kA) ?_))
    |(go_at_call 190;(with_reducible refine aT (kB) ?_))
    | (go_at_call 191;(with_reducible refine aT (kF) ?_)))
  clear kA kB kF
  go_loopw [2,10,11,12] (λs2 s10 s11 s12 wr=>∃(k:Nat) (vb:Value),s12=.int .i64 (k:Int)/\k<=n+1/\KM Od w wr bt ba lo n F0 s2 vb s11 s10 (gU Od.lt n k C0)) (λ_ _ _ s12 _=>n+2-(intOf s12).toNat)
  case atStart=>exact⟨0,_,rfl,ω,HM0.out⟩
  case round=>
    obtain⟨k,vb,rfl,hk,hM⟩:=hrel;have hok:=HOK.out k;generalize hC:gU Od.lt n k C0=C at *;have HC:=χ hC;clear hC;obtain⟨F,A,B,N,O,q⟩:=C;obtain⟨a2,c2,rfl,hc2⟩:=hM.a.shape;obtain⟨b2,d2,rfl,hd2⟩:=hM.b.shape;obtain⟨n2,e2,rfl,hn2,he2,_⟩:=hM.now.shape;have hbx:=hM.box.cell 0 ω;have hsm:=hok.small;have hfw:=hok.few;simp only at hsm hfw
    by_cases hemp:A=[]/\B=[]/\N=[]
    · obtain⟨rfl,rfl,rfl⟩:=hemp
      obtain⟨o2,f2,rfl,_⟩:=hM.out.shape;have HM:=χ hM;clear hM hok;go_wp2;go_ret2;exact⟨k,_,_,_,_,rfl,by rw[HC.out];exact HM.out,by rw[HC.out],by rw[HC.out],by rw[HC.out]⟩
    · have hpos:0<A.length+B.length+N.length:=by
        rcases A with _|⟨x,t⟩
        · rcases B with _|⟨x,t⟩
          · rcases N with _|⟨x,t⟩
            · exact absurd ⟨rfl,rfl,rfl⟩ hemp
            · simp
          · simp;omega
        · simp;omega
      have hkn:k<=n:=hok.ends (by
        rcases A with _|⟨x,t⟩
        · rcases B with _|⟨x,t⟩
          · rcases N with _|⟨x,t⟩
            · exact absurd ⟨rfl,rfl,rfl⟩ hemp
            · exact Β (Β σ)
          · exact Β (Α σ)
        · exact Α σ)
      have HOKK:=χ hok;have HM:=χ hM;clear hemp hok hM
      go_upto_region 7 with(fail)
      go_cut [50] (λs50 wx=>s50=.bool (tA n k A F)/\KM Od w wx bt ba lo n F0 (.slice a2 A.length c2) (.slice b2 B.length d2) (.slice n2 N.length e2) u10 ⟨F,A,B,N,O,q⟩)
      case first=>
        rcases A with _|⟨x,t⟩
        · go_wp2_with fail
          go_meet
          exact⟨rfl,HM.out⟩
        · obtain⟨ga,oa,rfl,hgl,wy,hc⟩:=HM.out.a.head
          have hc1:=HM.out.far hgl wy hc (ae.refl [] _) σ;have kD:=HM.out.deg x;have Lv:tA n k (x::t) F=(dW n F x == (k:Int)):=rfl;have HT:=χ Lv;simp only at kD;clear Lv hc;generalize dW n F x=d at *
          go_wp2_with ((go_at_call 194;(with_reducible refine aT (kD) ?_)))
          go_meet
          exact⟨by rw[HT.out],HM.out⟩
      case rest=>
        obtain⟨rfl,hM1⟩:=hcut;have jJ:=χ hM1;clear hM1 HM hbx
        go_upto_if 50 with(fail)
        go_cut [2,11] (λs2 s11 wx=>∃vb,KM Od w wx bt ba lo n F0 s2 vb s11 u10 (takeA n k ⟨F,A,B,N,O,q⟩))
        case first=>
          cases Lv:tA n k A F with
          |false=>
            go_wp2_with fail
            go_meet
            have e:takeA n k ⟨F,A,B,N,O,q⟩=⟨F,A,B,N,O,q⟩:=by
              rcases A with _|⟨x,t⟩
              · rfl
              · unfold takeA;simp only;rw[Γ (by simpa[tA] using Lv)]
            rw[e];exact⟨_,jJ.out⟩
          |true=>
            rcases A with _|⟨x,t⟩
            · cases Lv
            · have e:takeA n k ⟨F,x::t,B,N,O,q⟩=⟨F,t,B,N++[x],O,q⟩:=by
                unfold takeA;simp only;rw[Δ (by simpa[tA] using Lv)]
              obtain⟨ga,oa,rfl,hgl,wy,hc⟩:=jJ.out.a.head;have hown:∀g,g∈(Value.slice n2 N.length e2).ownBlock.toList->w.heap.size<=g:=λg hg=>by have:=(jJ.out.now.lt g (by simpa using hg)).1;omega
              have r1:∀W,ae (Value.slice n2 N.length e2).ownBlock.toList wc W->W.cell? ⟨ga,oa,none⟩=some (.int .i64 x):=λW hW=>jJ.out.far hgl wy hc hW hown;have s0:ae (Value.slice n2 N.length e2).ownBlock.toList wc wc.drew:=(ae.refl _ _).drew;have hsl:=λW=>yl W (some ⟨ga,oa,none⟩) (t.length+1) c2 ω (by simp at hsm;omega);have Cf:=(show j6 w F0 (.slice (some ⟨ga,oa,none⟩) (t.length+1) c2) (x::t) from jJ.out.a).tail;obtain⟨a3,Az⟩:=qY (some ⟨ga,oa,none⟩) (t.length+1) c2;rw[Az] at hsl Cf;simp only[Nat.add_sub_cancel] at hsl Cf;have HTA:=χ Cf;have hno:=jJ.out.now;have E:=χ e
              clear Cf e Lv Az hc
              go_wp2_with fail
              go_region_held3 (λW=>ae (Value.slice n2 N.length e2).ownBlock.toList wc W)
                (first|assumption|exact(ae.refl _ _).drew|(have hS:=(by assumption:ae _ _ _);exact hS.alloc _))
                (first
                  | (have hS:=s0.alloc (.cells #[.int .i64 x] 3)
                     refine sj rfl _ _ 77 rfl underlying77 (w.heap.size+1) (.slice n2 N.length e2) N rfl (hno.upd ((ae.refl [] _).drew.alloc (.cells #[.int .i64 x] 3)) σ) wc.heap.size x rfl (oK wc [.int .i64 x] 3 0 _ rfl) ω (by have:=jJ.out.upd.size;have:=jJ.out.box.lt;simp;omega) ?_;intro v2 w2 ho2 hu2 hv2
                     have hS2:ae (Value.slice n2 N.length e2).ownBlock.toList wc w2:=hS.trans hu2))
              go_wp2_with fail
              go_meet
              rw[E.out];exact⟨_,(jJ.out.R9 hS2 ho2 (λg hg=>by rcases hv2 g hg with h|h;exact Α h;exact Β (by simp at h;omega))).aTo HTA.out⟩
        case rest=>
          have hT1:=yw n k ⟨F,A,B,N,O,q⟩;generalize gG:takeA n k ⟨F,A,B,N,O,q⟩=C1 at *;have HC1:=χ gG;clear gG jJ;obtain⟨F1,A1,B1,N1,O1,q1⟩:=C1;have hs1:A1.length+B1.length+N1.length+O1.length<=100001/\N1.length<=2:=by
            obtain⟨h1,h2⟩:=hT1;unfold tot at h1;simp only at h1 h2;omega
          obtain⟨hs1,hf1⟩:=hs1;obtain⟨vb1,hcut⟩:=hcut;obtain⟨a5,c5,rfl,hc5⟩:=hcut.a.shape;obtain⟨b5,d5,rfl,hd5⟩:=hcut.b.shape;obtain⟨n5,e5,rfl,Jy,he5,_⟩:=hcut.now.shape;simp only at Jy;have hbx:=hcut.box.cell 0 ω;have jJ:=χ hcut;clear hcut hT1 hsm hfw hpos
          go_upto_region 9 with(fail)
          go_cut [70] (λs70 wx=>s70=.bool (tA n k B1 F1)/\KM Od w wx bt ba lo n F0 (.slice a5 A1.length c5) (.slice b5 B1.length d5) (.slice n5 N1.length e5) u10 ⟨F1,A1,B1,N1,O1,q1⟩)
          case first=>
            rcases B1 with _|⟨x,t⟩
            · go_wp2_with fail
              go_meet
              exact⟨rfl,jJ.out⟩
            · obtain⟨ga,oa,rfl,hgl,wy,hc⟩:=jJ.out.b.head
              have hc1:=jJ.out.far hgl wy hc (ae.refl [] _) σ;have kD:=jJ.out.deg x;have Lv:tA n k (x::t) F1=(dW n F1 x == (k:Int)):=rfl;have HT:=χ Lv;simp only at kD;clear Lv hc;generalize dW n F1 x=d at *
              go_wp2_with ((go_at_call 194;(with_reducible refine aT (kD) ?_)))
              go_meet
              exact⟨by rw[HT.out],jJ.out⟩
          case rest=>
            obtain⟨rfl,hM2⟩:=hcut;have hbx:=hM2.box.cell 0 ω;have hbf:=hM2.box.free 0;have oQ:=χ hM2;clear hM2 jJ
            go_upto_if 70 with(fail)
            go_cut [11] (λs11 wx=>∃vb,KM Od w wx bt ba lo n F0 (.slice a5 A1.length c5) vb s11 u10 (takeB n k ⟨F1,A1,B1,N1,O1,q1⟩))
            case first=>
              cases Lv:tA n k B1 F1 with
              |false=>
                go_wp2_with fail
                go_meet
                have e:takeB n k ⟨F1,A1,B1,N1,O1,q1⟩=⟨F1,A1,B1,N1,O1,q1⟩:=by
                  rcases B1 with _|⟨x,t⟩
                  · rfl
                  · unfold takeB;simp only;rw[Γ (by simpa[tA] using Lv)]
                rw[e];exact⟨_,oQ.out⟩
              |true=>
                rcases B1 with _|⟨x,t⟩
                · cases Lv
                · have e:takeB n k ⟨F1,A1,x::t,N1,O1,q1⟩=⟨F1,A1,t,N1++[x],O1,q1⟩:=by
                    unfold takeB;simp only;rw[Δ (by simpa[tA] using Lv)]
                  obtain⟨ga,oa,rfl,hgl,wy,hc⟩:=oQ.out.b.head;have hown:∀g,g∈(Value.slice n5 N1.length e5).ownBlock.toList->w.heap.size<g:=λg hg=>by have:=(oQ.out.now.lt g (by simpa using hg)).1;omega
                  have r1:∀W,ae (Value.slice n5 N1.length e5).ownBlock.toList wc W->W.cell? ⟨ga,oa,none⟩=some (.int .i64 x):=λW hW=>oQ.out.far hgl wy hc hW (λg hg=>by have:=hown g hg;omega);have r2:∀W,ae (Value.slice n5 N1.length e5).ownBlock.toList wc W->W.cell? ⟨w.heap.size,0,none⟩=some (.slice (some ⟨ga,oa,none⟩) (x::t).length d5):=λW hW=>by rw[hW.cell oQ.out.box.lt (λhm=>by have:=hown _ hm;simp at this)];exact hbx
                  have r3:∀W,ae (Value.slice n5 N1.length e5).ownBlock.toList wc W->W.frozen? ⟨w.heap.size,0,none⟩=false:=λW hW=>by rw[hW.frozen oQ.out.box.lt (λhm=>by have:=hown _ hm;simp at this)];exact hbf
                  have s0:ae (Value.slice n5 N1.length e5).ownBlock.toList wc wc:=ae.refl _ _;have p4:=r2 _ (s0.alloc (.cells #[.int .i64 x] 3));have hsl:=λW=>yl W (some ⟨ga,oa,none⟩) (t.length+1) d5 ω (by simp at hs1;omega);have Cf:=(show j6 w F0 (.slice (some ⟨ga,oa,none⟩) (t.length+1) d5) (x::t) from oQ.out.b).tail;obtain⟨a3,Az⟩:=qY (some ⟨ga,oa,none⟩) (t.length+1) d5;rw[Az] at hsl Cf;simp only[Nat.add_sub_cancel] at hsl Cf;have HTA:=χ Cf;have hno:=oQ.out.now;have E:=χ e;clear Cf e Lv Az hc
                  go_wp2_with fail
                  go_region_law
                    (first
                      | (refine sj rfl _ _ 77 rfl underlying77 (w.heap.size+1) (.slice n5 N1.length e5) N1 rfl (hno.upd ((ae.refl [] _).drew.alloc (.cells #[.int .i64 x] 3)) σ) wc.heap.size x rfl (oK wc [.int .i64 x] 3 0 _ rfl) ω (by have:=oQ.out.upd.size;have:=oQ.out.box.lt;simp;omega) ?_
                         intro v2 w2 ho2 hu2 hv2;have hS2:ae (Value.slice n5 N1.length e5).ownBlock.toList wc w2:=(s0.drew.alloc (.cells #[.int .i64 x] 3)).trans hu2
                         have g3:=r3 _ hS2))
                  all_goals
                    go_wp2_with fail
                    go_meet
                    rw[E.out];exact⟨_,(oQ.out.R9 hS2 ho2 (λg hg=>by rcases hv2 g hg with h|h;exact Α h;exact Β (by simp at h;omega))).bTo HTA.out⟩
            case rest=>
              have hT1:=y5 n k ⟨F1,A1,B1,N1,O1,q1⟩;generalize hC2:takeB n k ⟨F1,A1,B1,N1,O1,q1⟩=C2 at *;have HC2:=χ hC2;clear hC2 oQ;obtain⟨F2,A2,B2,N2,O2,q2⟩:=C2;have hs2:A2.length+B2.length+N2.length+O2.length<=100001/\N2.length<=3:=by
                obtain⟨h1,h2⟩:=hT1;unfold tot at h1;simp only at h1 h2;omega
              obtain⟨hs2,hf2⟩:=hs2;obtain⟨vb2,hcut⟩:=hcut;obtain⟨n6,e6,rfl,hn6,he6,_⟩:=hcut.now.shape;obtain⟨o6,p6,rfl,ho6,hp6,_⟩:=hcut.out.shape;simp only at hn6;have Dt:=χ hcut;clear hcut hT1 hs1 hf1
              go_upto_region 11 with(fail)
              go_cut [82] (λs82 wx=>s82=.bool (N2.length % 2 == 1)/\KM Od w wx bt ba lo n F0 (.slice a5 A1.length c5) vb2 (.slice n6 N2.length e6) (.slice o6 O2.length p6) ⟨F2,A2,B2,N2,O2,q2⟩)
              case first=>
                have key:∀m:Nat,N2.length=m->N2.length % 2=m % 2:=λm h=>by rw[h]
                match N2,hf2 with
                | [],_=>go_wp2_with fail;go_meet;exact⟨σ,Dt.out⟩
                | [x],_=>go_wp2_with fail;go_meet;exact⟨σ,Dt.out⟩
                | [x,y],_=>go_wp2_with fail;go_meet;exact⟨σ,Dt.out⟩
                | [x,y,z],_=>go_wp2_with fail;go_meet;exact⟨σ,Dt.out⟩
                |_::_::_::_::_,hf2=>simp at hf2;try omega
              case rest=>
                obtain⟨rfl,sM⟩:=hcut;have Mj:=χ sM;clear sM Dt
                go_upto_if 82 with(fail)
                go_cut [10,11] (λs10 s11 wx=>∃va vb,va=.slice a5 A1.length c5/\KM Od w wx bt ba lo n F0 va vb s11 s10 (fV ⟨F2,A2,B2,N2,O2,q2⟩))
                case first=>
                  cases Vw:(N2.length % 2 == 1) with
                  |false=>
                    go_wp2_with fail
                    go_meet
                    have e:fV ⟨F2,A2,B2,N2,O2,q2⟩=⟨F2,A2,B2,N2,O2,q2⟩:=by
                      match N2,hf2,Vw with
                      | [],_,_=>rfl
                      | [x],_,Vw=>simp at Vw
                      | [x,y],_,_=>rfl
                      | [x,y,z],_,Vw=>simp at Vw
                      |_::_::_::_::_,hf2,_=>simp at hf2;try omega
                    rw[e];exact⟨_,_,rfl,Mj.out⟩
                  |true=>
                    rcases N2 with _|⟨x,r⟩
                    · simp at Vw
                    · have e:fV ⟨F2,A2,B2,x::r,O2,q2⟩=⟨F2,A2,B2,r,O2++[x],q2⟩:=by
                        match r,hf2,Vw with
                        | [],_,_=>rfl
                        | [y],_,Vw=>simp at Vw
                        | [y,z],_,_=>rfl
                        |_::_::_::_,hf2,_=>simp at hf2;try omega
                      obtain⟨n7,e7,he7,hn7,_,hcells⟩:=Mj.out.now.shape;obtain⟨gn,on,rfl,hc0⟩:=hcells 0 x rfl;cases he7;rw[ϕ] at hc0;have hsl:=λW=>yl W (some ⟨gn,on,none⟩) (r.length+1) e6 ω (by simp at hs2;omega);have hno:=λW (h:bF W (w.heap.size+1) (.slice (some ⟨gn,on,none⟩) (r.length+1) e6) (x::r))=>h.tail;obtain⟨a3,Az⟩:=qY (some ⟨gn,on,none⟩) (r.length+1) e6;rw[Az] at hsl hno;simp only[Nat.add_sub_cancel] at hsl hno;have HNO:=χ hno;have xk:=Mj.out.out;have E:=χ e;clear hno e Vw Az hcells
                      go_wp2_with (at_builtin;refine xz rfl _ _ 77 rfl underlying77 (w.heap.size+1) (.slice o6 O2.length p6) O2 rfl (xk.upd ((ae.refl [] _).alloc (.cells #[.int .i64 x] 3)) σ) wc.heap.size x rfl (oK wc [.int .i64 x] 3 0 _ rfl) ω (by have:=Mj.out.upd.size;have:=Mj.out.box.lt;simp;omega) ?_;intro v2 w2 ho2 hu2 hv2)
                      go_meet
                      have hS2:ae (Value.slice o6 O2.length p6).ownBlock.toList wc w2:=((ae.refl _ _).alloc (.cells #[.int .i64 x] 3)).trans hu2;have hm1:=Mj.out.adA hS2 ho2 (λg hg=>by rcases hv2 g hg with h|h;exact Α h;exact Β (by simp at h;omega));have hm2:=hm1.R9 (ae.refl _ _) (HNO.out _ hm1.now).1 (λg hg=>by rw[(HNO.out _ hm1.now).2] at hg;exact Α hg);rw[E.out];exact⟨_,_,rfl,hm2⟩
                case rest=>
                  have hT1:=OG ⟨F2,A2,B2,N2,O2,q2⟩ hf2;have Nh:=HOKK.out.join;rw[HC1.out,HC2.out] at Nh;generalize wY:fV ⟨F2,A2,B2,N2,O2,q2⟩=C3 at *;have HC3:=χ wY;clear wY Mj;obtain⟨F3,A3,B3,N3,O3,q3⟩:=C3;simp only at Nh;obtain⟨hT1,hf3⟩:=hT1;simp only at hf3;obtain⟨va3,vb3,rfl,hcut⟩:=hcut;obtain⟨n8,e8,rfl,hn8,he8,_⟩:=hcut.now.shape;obtain⟨o8,p8,rfl,JU,hp8,_⟩:=hcut.out.shape;simp only at hn8;have wK:=χ hcut;have HJ:=χ Nh;clear hcut hT1 hs2 hf2 Nh
                  go_upto_region 14 with(fail)
                  go_cut [93] (λs93 wx=>s93=.bool (N3.length == 2)/\KM Od w wx bt ba lo n F0 (.slice a5 A1.length c5) vb3 (.slice n8 N3.length e8) (.slice o8 O3.length p8) ⟨F3,A3,B3,N3,O3,q3⟩)
                  case first=>
                    match N3,hf3 with
                    | [],_=>go_wp2_with fail;go_meet;exact⟨σ,wK.out⟩
                    | [x],_=>go_wp2_with fail;go_meet;exact⟨σ,wK.out⟩
                    | [x,y],_=>go_wp2_with fail;go_meet;exact⟨σ,wK.out⟩
                    |_::_::_::_,hf3=>simp at hf3;try omega
                  case rest=>
                    obtain⟨rfl,vE⟩:=hcut;have xn:=χ vE;clear vE wK;have hst:Ji Od.lt n k ⟨F,A,B,N,O,q⟩=nE Od.lt ⟨F3,A3,B3,N3,O3,q3⟩:=by
                      unfold Ji;rw[HC1.out,HC2.out,HC3.out]
                    have hru:gU Od.lt n (k+1) C0=nE Od.lt ⟨F3,A3,B3,N3,O3,q3⟩:=by rw[gU,HC.out,hst]
                    have hq3:q3<=1000000:=by
                      have h:=Vb n k ⟨F,A,B,N,O,q⟩;rw[HC1.out,HC2.out,HC3.out] at h;simp only at h;rw[h];exact HOKK.out.asked
                    have HRU:=χ hru;clear hst hru HC1 HC2 HC3
                    match N3,hf3,HJ,xn,HRU with
                    | [],_,_,xn,HRU=>
                      go_wp2_with fail
                      go_roundw
                      case rel=>exact⟨k+1,_,by go_num,ω,by rw[HRU.out];exact xn.out⟩
                      case measure=>simp[intOf];omega
                    | [x],_,_,xn,HRU=>
                      go_wp2_with fail
                      go_roundw
                      case rel=>exact⟨k+1,_,by go_num,ω,by rw[HRU.out];exact xn.out⟩
                      case measure=>simp[intOf];omega
                    | [x,y],_,HJ,xn,HRU=>
                      obtain⟨a,b,rfl,rfl,hda,hdb,hja,hjb,hjne,hjra,hjrb,hjd,hjl1,hjl2⟩:=HJ.out x y rfl;obtain⟨S,hSf,hFo,hAp,hS4,hS5,hS6⟩:=xn.out.vV;obtain⟨n9,e9,he9,hn9,_,hcells⟩:=xn.out.now.shape;obtain⟨gn,on,rfl,hc0⟩:=hcells 0 (a:Int) rfl;obtain⟨gn2,on2,heq,hc1⟩:=hcells 1 (b:Int) rfl;cases heq;cases he9;rw[ϕ] at hc0;simp only at hSf;rw[←hSf] at hjra hjrb hjd hjl1 hjl2;have hgn:∀g,g∈Od.wr++ba::S.blk n->g≠gn:=λg hg e=>by
                        subst e;have hl:=(xn.out.now.lt g rfl).1;rcases τ.1 hg with hg|hg
                        · have:=xn.out.old _ (xn.out.Ng.1 _ hg);omega
                        · rcases ρ.1 hg with rfl|hg
                          · have:=xn.out.old _ xn.out.Ng.2;omega
                          · exact hS5 g rfl hg
                      have hgl:=(xn.out.now.lt gn rfl).2;have r1:∀W,ae (Od.wr++ba::S.blk n) wc W->W.cell? ⟨gn,on,none⟩=some (.int .i64 (a:Int)):=λW hW=>by rw[hW.cell hgl (λhm=>hgn _ hm rfl)];exact hc0
                      have r2:∀W,ae (Od.wr++ba::S.blk n) wc W->W.cell? ⟨gn,on+1,none⟩=some (.int .i64 (b:Int)):=λW hW=>by rw[hW.cell hgl (λhm=>hgn _ hm rfl)];exact hc1
                      have kJ:=TM Od bt ba lo n S q3 a b wc.drew (hFo.ag (ae.refl [] _).drew) (Od.upd xn.out.les (ae.refl [] _).drew σ) hda hdb hq3 hja hjb hjra hjrb hjne hjd hjl1 hjl2 hAp;clear hcells
                      go_wp2_with fail
                      go_region_held3 (λW=>ae (Od.wr++ba::S.blk n) wc W)
                        (first|assumption|exact(ae.refl _ _).drew|(have hS:=(by assumption:ae _ _ _);exact hS.alloc _))
                        (first
                          | ((go_at_call 195;(with_reducible refine (kJ).mono ?_));rintro e w2 ⟨v2,rfl,hF2,hL2,hu2,hg2⟩;have hS2:ae (Od.wr++ba::S.blk n) wc w2:=(ae.refl _ _).drew.trans hu2))
                      go_wp2_with fail
                      go_roundw
                      case rel=>
                        refine⟨k+1,vb3,by go_num,ω,?_⟩;rw[HRU.out];exact xn.out.aa2 hSf hFo hAp hS4 hS6 hF2 hL2 hS2 hg2
                      case measure=>simp[intOf];omega
                    |_::_::_::_,hf3,_,_,_=>simp at hf3;try omega
end Go.Proofs.YtnpdakpagnpanaaGreat
namespace Go.Proofs.YtnpdakpagnpanaaGreat
open Tryz
theorem uA:∀(n:Nat) (l:List Int),l.Nodup->(∀x,x∈l->0<=x/\x<n)->l.length<=n
 |0,l,_,h=>by
  cases l with
  |nil=>simp
  |cons x r=>have:=h x σ;omega
 |n+1,l,hn,h=>by
  have h1:=uA n (l.filter (λx=>x != (n:Int))) (hn.filter _) (λx hx=>by
   simp only[List.mem_filter] at hx;have:=h x hx.1;have h2:x≠n:=by simpa using hx.2
   omega)
  have h2:l.length<=(l.filter (λx=>x != (n:Int))).length+1:=by
   clear h1 h
   induction l with
   |nil=>simp
   |cons y r ih=>
    rw[Ζ] at hn
    by_cases hy:y=n
    ·subst hy;have e:r.filter (λx=>x != (n:Int))=r:=by
      rw[List.filter_eq_self];intro a ha;simp;intro e;subst e;exact hn.1 ha
     rw[List.filter_cons_of_neg σ,e];simp
    ·have:=ih hn.2;rw[List.filter_cons_of_pos (by simpa using hy)];simp only[Ω];omega
  omega
structure pI(n:Nat)(F:CF):Prop where
 wL:∀x,x<n->∀y,y∈F.k x->0<=y/\y<n/\F.u y.toNat=x
 nd:∀x,x<n->(F.k x).Nodup
 up:∀y,y<n->F.u y=-1\/∃p:Nat,p<n/\F.u y=p/\(y:Int)∈F.k p
 y7:∀x,x<n->∀i z,(F.k x)[i]?=some z->(F.k z.toNat).length=i
theorem RO(n:Nat):pI n CS.none.f:=⟨λx _ y hy=>(by cases hy),λx _=>Ϥ,λy _=>Α rfl,λx _ i z h=>by simp[CS.none,CS.f] at h⟩
theorem pI.self{n:Nat}{F:CF}(h:pI n F){x:Nat}(hx:x<n):(x:Int)∉F.k x:=λhm=>by
 obtain⟨i,hi,he⟩:=List.getElem_of_mem hm;have:=h.y7 x hx i x (by rw[ε hi,he]);simp at this;omega
theorem pI.len{n:Nat}{F:CF}(h:pI n F){x:Nat}(hx:x<n):(F.k x).length+1<=n:=by
 have:=uA n ((x:Int)::F.k x) (Ζ.2 ⟨h.self hx,h.nd x hx⟩) (λy hy=>by
  rcases ρ.1 hy with rfl|hy
  ·omega
  ·have:=h.wL x hx y hy;omega)
 simpa using this
theorem pI.link{n:Nat}{F:CF}(h:pI n F){a b:Nat}(ha:a<n)(hb:b<n)(hne:a≠b)(ra:F.u a=-1)(rb:F.u b=-1)(hd:(F.k a).length=(F.k b).length):pI n (iw F a b):=by
 have nb:∀x,x<n->(b:Int)∉F.k x:=λx hx hm=>by
  have:=(h.wL x hx b hm).2.2;simp at this;omega
 have na:∀x,x<n->(a:Int)∉F.k x:=λx hx hm=>by
  have:=(h.wL x hx a hm).2.2;simp at this;omega
 refine⟨λx hx y hy=>?_,λx hx=>?_,λy hy=>?_,λx hx i z hz=>?_⟩
 ·unfold iw at hy ⊢;simp only at hy ⊢
  split at hy
  ·rename_i e
   subst e;rcases τ.1 hy with hy|hy
   ·obtain⟨h1,h2,h3⟩:=h.wL x hx y hy;refine⟨h1,h2,?_⟩;rw[Γ (λe=>by rw[e,rb] at h3;omega)];exact h3
   ·simp at hy;subst hy;exact⟨ω,ω,σ⟩
  ·obtain⟨h1,h2,h3⟩:=h.wL x hx y hy;refine⟨h1,h2,?_⟩;rw[Γ (λe=>by rw[e,rb] at h3;omega)];exact h3
 ·unfold iw;simp only
  split
  ·rw[θ];exact⟨h.nd a ha,σ,λy hy z hz e=>by simp at hz;subst hz;subst e;exact nb a ha hy⟩
  ·exact h.nd x hx
 ·unfold iw;simp only
  by_cases hyb:y=b
  ·subst hyb;exact Β ⟨a,ha,σ,σ⟩
  ·rw[Γ hyb];rcases h.up y hy with h1|⟨p,hp,h1,h2⟩
   ·exact Α h1
   ·refine Β ⟨p,hp,h1,?_⟩
    split
    ·rename_i e;subst e;exact τ.2 (Α h2)
    ·exact h2
 ·have kz:∀z,z∈F.k x->(iw F a b).k z.toNat=F.k z.toNat:=λz hz=>by
   unfold iw;simp only
   rw [Γ (λe=>by
    have:=h.wL x hx z hz
    exact na x hx (by rw [←e,show ((z.toNat:Nat):Int)=z by omega];exact hz))]
  have hz':=hz;unfold iw at hz';simp only at hz'
  split at hz'
  ·rename_i e
   subst e;rcases ϖ i (F.k x).length with hi|hi
   ·rw[Ρ hi] at hz';rw[kz z (Η hz')];exact h.y7 x hx i z hz'
   ·have hil:i=(F.k x).length:=by
     have:=(List.getElem?_eq_some_iff.1 hz').1;simp at this;omega
    subst hil;rw[ϊ (Θ _)] at hz';simp at hz';subst hz';unfold iw;simp only[π];rw[Γ (λe=>hne ω),hd]
  ·rw[kz z (Η hz')];exact h.y7 x hx i z hz'
def CC.L(C:CC):List Int:=C.A++(C.B++(C.N++C.O))
structure G(n ka kb kn ko:Nat)(C:CC):Prop where
 f:pI n C.F
 rt:∀x,x∈C.L->0<=x/\x<n/\C.F.u x.toNat=-1
 nd:C.L.Nodup
 a1:C.A.Pairwise (λx y=>dW n C.F x<dW n C.F y)
 a2:∀x,x∈C.A->(ka:Int)<=dW n C.F x
 b1:C.B.Pairwise (λx y=>dW n C.F x<dW n C.F y)
 b2:∀x,x∈C.B->(kb:Int)<=dW n C.F x
 n1:∀x,x∈C.N->dW n C.F x=kn
 o1:C.O.Pairwise (λx y=>dW n C.F x<dW n C.F y)
 o2:∀x,x∈C.O->dW n C.F x<ko
theorem rD(n k:Nat)(C:CC):(takeA n k C).L.Perm C.L:=by
 obtain⟨F,A,B,N,O,q⟩:=C;unfold takeA
 split
 ·rename_i x t h
  simp only at h;subst h
  split
  ·unfold CC.L;simp only;rw[List.perm_iff_count];intro y;simp[List.count_append,List.count_cons];omega
  ·exact ό _
 ·exact ό _
theorem qZ(n k:Nat)(C:CC):(takeB n k C).L.Perm C.L:=by
 obtain⟨F,A,B,N,O,q⟩:=C;unfold takeB
 split
 ·rename_i x t h
  simp only at h;subst h
  split
  ·unfold CC.L;simp only;rw[List.perm_iff_count];intro y;simp[List.count_append,List.count_cons];omega
  ·exact ό _
 ·exact ό _
theorem qV(C:CC):(fV C).L.Perm C.L:=by
 obtain⟨F,A,B,N,O,q⟩:=C;unfold fV
 split
 ·rename_i x h
  simp only at h;subst h;unfold CC.L;simp only;rw[List.perm_iff_count];intro y;simp[List.count_append,List.count_cons]
  try omega
 ·rename_i x y z h
  simp only at h;subst h;unfold CC.L;simp only;rw[List.perm_iff_count];intro y;simp[List.count_append,List.count_cons]
  try omega
 ·exact ό _
theorem N8(n k:Nat)(C:CC):(takeA n k C).F=C.F:=by unfold takeA;split;(split<;>rfl);rfl
theorem Nc(n k:Nat)(C:CC):(takeB n k C).F=C.F:=by unfold takeB;split;(split<;>rfl);rfl
theorem Nt(C:CC):(fV C).F=C.F:=by unfold fV;split<;>rfl
theorem Ex{n k:Nat}{C:CC}(h:G n k k k k C):G n (k+1) k k k (takeA n k C):=by
 have hp:=rD n k C;have hF:=N8 n k C;have rt:=λx (hx:x∈(takeA n k C).L)=>h.rt x (hp.mem_iff.1 hx);have nd:=hp.nodup_iff.2 h.nd;have key:((takeA n k C).A.Pairwise (λx y=>dW n C.F x<dW n C.F y))/\(∀x,x∈(takeA n k C).A->((k+1:Nat):Int)<=dW n C.F x)/\(takeA n k C).B=C.B/\(∀x,x∈(takeA n k C).N->dW n C.F x=k)/\(takeA n k C).O=C.O:=by
  obtain⟨F,A,B,N,O,q⟩:=C;have a1:=h.a1;have a2:=h.a2;have n1:=h.n1;simp only at a1 a2 n1;unfold takeA;rcases A with _|⟨x,t⟩
  ·exact⟨List.Pairwise.nil,λx hx=>by(cases hx),rfl,n1,rfl⟩
  ·simp only;rw[List.pairwise_cons] at a1;have hx:=a2 x σ
   split
   ·rename_i hd
    refine⟨a1.2,λy hy=>?_,rfl,λy hy=>?_,rfl⟩
    ·have:=a1.1 y hy;omega
    ·simp only at hy;rcases τ.1 hy with hy|hy
     ·exact n1 y hy
     ·simp at hy;subst hy;exact hd
   ·rename_i hd
    refine⟨List.pairwise_cons.2 a1,λy hy=>?_,rfl,n1,rfl⟩;rcases ρ.1 hy with rfl|hy
    ·omega
    ·have:=a1.1 y hy;omega
 obtain⟨k1,k2,k3,k4,k5⟩:=key;rw[←hF] at k1 k2 k4;exact⟨by rw[hF];exact h.f,λx hx=>by rw[hF];exact rt x hx,nd,k1,k2,by rw[k3,hF];exact h.b1,by rw[k3,hF];exact h.b2,k4,by rw[k5,hF];exact h.o1,by rw[k5,hF];exact h.o2⟩
theorem FJ{n k:Nat}{C:CC}(h:G n (k+1) k k k C):G n (k+1) (k+1) k k (takeB n k C):=by
 have hp:=qZ n k C;have hF:=Nc n k C;have rt:=λx (hx:x∈(takeB n k C).L)=>h.rt x (hp.mem_iff.1 hx);have nd:=hp.nodup_iff.2 h.nd;have key:((takeB n k C).B.Pairwise (λx y=>dW n C.F x<dW n C.F y))/\(∀x,x∈(takeB n k C).B->((k+1:Nat):Int)<=dW n C.F x)/\(takeB n k C).A=C.A/\(∀x,x∈(takeB n k C).N->dW n C.F x=k)/\(takeB n k C).O=C.O:=by
  obtain⟨F,A,B,N,O,q⟩:=C;have a1:=h.b1;have a2:=h.b2;have n1:=h.n1;simp only at a1 a2 n1;unfold takeB;rcases B with _|⟨x,t⟩
  ·exact⟨List.Pairwise.nil,λx hx=>by(cases hx),rfl,n1,rfl⟩
  ·simp only;rw[List.pairwise_cons] at a1;have hx:=a2 x σ
   split
   ·rename_i hd
    refine⟨a1.2,λy hy=>?_,rfl,λy hy=>?_,rfl⟩
    ·have:=a1.1 y hy;omega
    ·simp only at hy;rcases τ.1 hy with hy|hy
     ·exact n1 y hy
     ·simp at hy;subst hy;exact hd
   ·rename_i hd
    refine⟨List.pairwise_cons.2 a1,λy hy=>?_,rfl,n1,rfl⟩;rcases ρ.1 hy with rfl|hy
    ·omega
    ·have:=a1.1 y hy;omega
 obtain⟨k1,k2,k3,k4,k5⟩:=key;rw[←hF] at k1 k2 k4;exact⟨by rw[hF];exact h.f,λx hx=>by rw[hF];exact rt x hx,nd,by rw[k3,hF];exact h.a1,by rw[k3,hF];exact h.a2,k1,k2,k4,by rw[k5,hF];exact h.o1,by rw[k5,hF];exact h.o2⟩
theorem ED{n k:Nat}{C:CC}(h:G n (k+1) (k+1) k k C):G n (k+1) (k+1) k (k+1) (fV C):=by
 have hp:=qV C;have hF:=Nt C;have rt:=λx (hx:x∈(fV C).L)=>h.rt x (hp.mem_iff.1 hx);have nd:=hp.nodup_iff.2 h.nd;have key:(fV C).A=C.A/\(fV C).B=C.B/\(∀x,x∈(fV C).N->x∈C.N)/\((fV C).O=C.O\/∃x,x∈C.N/\(fV C).O=C.O++[x]):=by
  unfold fV
  split
  ·rename_i x hx
   exact⟨rfl,rfl,λy hy=>by(cases hy),Β ⟨x,by rw[hx];simp,rfl⟩⟩
  ·rename_i x y z hx
   exact⟨rfl,rfl,λu hu=>by rw[hx];exact Λ _ hu,Β ⟨x,by rw[hx];simp,rfl⟩⟩
  ·exact⟨rfl,rfl,λy hy=>hy,Α rfl⟩
 obtain⟨k1,k2,k3,k4⟩:=key;refine⟨by rw[hF];exact h.f,λx hx=>by rw[hF];exact rt x hx,nd,by rw[k1,hF];exact h.a1,by rw[k1,hF];exact h.a2,by rw[k2,hF];exact h.b1,by rw[k2,hF];exact h.b2,λx hx=>by rw[hF];exact h.n1 x (k3 x hx),?_,?_⟩
 ·rw[hF];rcases k4 with e|⟨x,hx,e⟩
  ·rw[e];exact h.o1
  ·rw[e,List.pairwise_append];exact⟨h.o1,List.pairwise_singleton _ _,λy hy z hz=>by simp at hz;subst hz;rw[h.n1 z hx];exact h.o2 y hy⟩
 ·rw[hF];intro y hy;rcases k4 with e|⟨x,hx,e⟩
  ·rw[e] at hy;have:=h.o2 y hy;omega
  ·rw[e] at hy;rcases τ.1 hy with hy|hy
   ·have:=h.o2 y hy;omega
   ·simp at hy;subst hy;rw[h.n1 y hx];omega
theorem BJ{C:CC}(h:C.N.length<=3):(fV C).N=[]\/∃x y,(fV C).N=[x,y]:=by
 obtain⟨F,A,B,N,O,q⟩:=C;simp only at h
 match N,h with
 | [],_=>exact Α rfl
 | [x],_=>exact Α rfl
 | [x,y],_=>exact Β ⟨x,y,rfl⟩
 | [x,y,z],_=>exact Β ⟨y,z,rfl⟩
 |_::_::_::_::_,h=>simp at h;try omega
theorem fK(n:Nat)(F:CF){x:Nat}(hx:x<n):dW n F x=(F.k x).length:=by unfold dW;rw[Δ ω];simp
theorem yf(n:Nat)(F:CF){a b:Nat}(ha:a<n)(x:Int)(hx:0<=x/\x<n):dW n (iw F a b) x=if x=a then dW n F a+1 else dW n F x:=by
 obtain⟨y,rfl⟩:=Int.eq_ofNat_of_zero_le hx.1;have hy:y<n:=ω;rw[fK _ _ hy,fK _ _ ha,fK _ _ hy];unfold iw;simp only
 by_cases e:y=a
 ·subst e;simp
 ·rw[Γ e,Γ ω]
theorem Me{n k:Nat}{C:CC}(h:G n (k+1) (k+1) k (k+1) C){x y:Int}(hN:C.N=[x,y]):∃a b:Nat,x=a/\y=b/\a<n/\b<n/\a≠b/\C.F.u a=-1/\C.F.u b=-1/\(C.F.k a).length=k/\(C.F.k b).length=k:=by
 have hx:=h.rt x (by unfold CC.L;rw[hN];simp);have hy:=h.rt y (by unfold CC.L;rw[hN];simp);have dx:=h.n1 x (by rw[hN];simp);have dy:=h.n1 y (by rw[hN];simp);obtain⟨a,rfl⟩:=Int.eq_ofNat_of_zero_le hx.1;obtain⟨b,rfl⟩:=Int.eq_ofNat_of_zero_le hy.1;have ha:a<n:=ω;have hb:b<n:=ω;rw[fK _ _ ha] at dx;rw[fK _ _ hb] at dy;refine⟨a,b,rfl,rfl,ha,hb,λe=>?_,by simpa using hx.2.2,by simpa using hy.2.2,ω,ω⟩;subst e;have:=h.nd;unfold CC.L at this;rw[hN] at this;rw[θ] at this;have:=this.2.1;rw[θ] at this;have:=this.2.1;simp at this
theorem Pz(lt:Int->Int->Bool)(a b:Nat):(jI lt a b=a/\mZ lt a b=b)\/(jI lt a b=b/\mZ lt a b=a):=by
 unfold jI mZ
 split
 ·exact Β ⟨rfl,rfl⟩
 ·exact Α ⟨rfl,rfl⟩
theorem ZR{lt:Int->Int->Bool}{n k:Nat}{C:CC}(h:G n (k+1) (k+1) k (k+1) C)(hN:C.N=[]\/∃x y,C.N=[x,y]):G n (k+1) (k+1) (k+1) (k+1) (nE lt C)/\(nE lt C).N.length<=1/\(nE lt C).q+(nE lt C).L.length=C.q+C.L.length:=by
 rcases hN with hN|⟨x,y,hN⟩
 ·have e:nE lt C=C:=by unfold nE;rw[hN]
  rw[e];exact⟨⟨h.f,h.rt,h.nd,h.a1,h.a2,h.b1,h.b2,λx hx=>(by rw[hN] at hx;cases hx),h.o1,h.o2⟩,by rw[hN];simp,rfl⟩
 ·obtain⟨a,b,rfl,rfl,ha,hb,hne,ra,rb,da,db⟩:=Me h hN;have e:nE lt C={ C with F:=iw C.F (jI lt a b) (mZ lt a b),N:=[(jI lt a b:Int)],q:=C.q+1 }:=by unfold nE;rw[hN];simp
  have hm:∀z,z∈C.A++(C.B++C.O)->z∈C.L/\z≠a/\z≠b:=λz hz=>by
   have hnd:=h.nd;unfold CC.L at hnd ⊢;rw[hN] at hnd ⊢;have hp:(C.A++(C.B++([(a:Int),(b:Int)]++C.O))).Perm ((a:Int)::(b:Int)::(C.A++(C.B++C.O))):=by
    rw[List.perm_iff_count];intro y;simp[List.count_append,List.count_cons];omega
   have Fv:=hp.nodup_iff.1 hnd;rw[Ζ,Ζ] at Fv;refine⟨hp.mem_iff.2 (Λ _ (Λ _ hz)),λe=>?_,λe=>?_⟩
   ·subst e;exact Fv.1 (Λ _ hz)
   ·subst e;exact Fv.2.1 hz
  have hmA:∀z,z∈C.A->z∈C.A++(C.B++C.O):=λz hz=>by simp[hz]
  have hmB:∀z,z∈C.B->z∈C.A++(C.B++C.O):=λz hz=>by simp[hz]
  have hmO:∀z,z∈C.O->z∈C.A++(C.B++C.O):=λz hz=>by simp[hz]
  obtain⟨hi,lo,ehi,elo,hhi,hlo,hne2,rhi,rlo,dhi,dlo,ZH⟩:∃hi lo,jI lt a b=hi/\mZ lt a b=lo/\hi<n/\lo<n/\hi≠lo/\C.F.u hi=-1/\C.F.u lo=-1/\(C.F.k hi).length=k/\(C.F.k lo).length=k/\((hi=a/\lo=b)\/(hi=b/\lo=a)):=by
   rcases Pz lt a b with⟨h1,h2⟩|⟨h1,h2⟩
   ·exact⟨a,b,h1,h2,ha,hb,hne,ra,rb,da,db,Α ⟨rfl,rfl⟩⟩
   ·exact⟨b,a,h1,h2,hb,ha,Ne.symm hne,rb,ra,db,da,Β ⟨rfl,rfl⟩⟩
  have FV:∀z,z∈C.A++(C.B++C.O)->z≠(hi:Int)/\z≠(lo:Int):=λz hz=>by
   have:=hm z hz;rcases ZH with⟨rfl,rfl⟩|⟨rfl,rfl⟩
   ·exact this.2
   ·exact⟨this.2.2,this.2.1⟩
  have Gc:∀z,z∈C.A++(C.B++C.O)->dW n (iw C.F hi lo) z=dW n C.F z:=λz hz=>by
   have hr:=h.rt z (hm z hz).1;rw[yf n C.F hhi z ⟨hr.1,hr.2.1⟩,Γ (FV z hz).1]
  rw[e,ehi,elo];have hL:(CC.L { C with F:=iw C.F hi lo,N:=[(hi:Int)],q:=C.q+1 }).Perm ((hi:Int)::(C.A++(C.B++C.O))):=by
   unfold CC.L;simp only;rw[List.perm_iff_count];intro y;simp[List.count_append,List.count_cons];omega
  refine⟨⟨h.f.link hhi hlo hne2 rhi rlo (by rw[dhi,dlo]),λz hz=>?_,hL.nodup_iff.2 (Ζ.2 ⟨λhm2=>(FV _ hm2).1 rfl,?_⟩),?_,?_,?_,?_,?_,?_,?_⟩,σ,?_⟩
  ·rcases ρ.1 (hL.mem_iff.1 hz) with rfl|hz
   ·refine⟨ω,ω,?_⟩;unfold iw;simp only[π];rw[Γ hne2];exact rhi
   ·have hr:=h.rt z (hm z hz).1;refine⟨hr.1,hr.2.1,?_⟩;unfold iw;simp only;rw[Γ (λe=>by have:=(FV z hz).2;omega)];exact hr.2.2
  ·have hnd:=h.nd;unfold CC.L at hnd;rw[hN] at hnd;have hp:(C.A++(C.B++([(a:Int),(b:Int)]++C.O))).Perm ((a:Int)::(b:Int)::(C.A++(C.B++C.O))):=by
    rw[List.perm_iff_count];intro y;simp[List.count_append,List.count_cons];omega
   have Fv:=hp.nodup_iff.1 hnd;rw[Ζ,Ζ] at Fv;exact Fv.2.2
  ·exact h.a1.imp_of_mem (λ{x y} hx hy hxy=>by rw[Gc x (hmA x hx),Gc y (hmA y hy)];exact hxy)
  ·intro x hx
   show _<=dW n (iw C.F hi lo) x
   rw[Gc x (hmA x hx)];exact h.a2 x hx
  ·exact h.b1.imp_of_mem (λ{x y} hx hy hxy=>by rw[Gc x (hmB x hx),Gc y (hmB y hy)];exact hxy)
  ·intro x hx
   show _<=dW n (iw C.F hi lo) x
   rw[Gc x (hmB x hx)];exact h.b2 x hx
  ·intro x hx;simp at hx;subst hx
   show dW n (iw C.F hi lo) (hi:Int)=_
   rw[yf n C.F hhi hi ω,Δ rfl,fK n C.F hhi,dhi];omega
  ·exact h.o1.imp_of_mem (λ{x y} hx hy hxy=>by rw[Gc x (hmO x hx),Gc y (hmO y hy)];exact hxy)
  ·intro x hx
   show dW n (iw C.F hi lo) x<_
   rw[Gc x (hmO x hx)];exact h.o2 x hx
  ·unfold CC.L;simp only[υ,Ω,List.length_nil,hN];omega
theorem GY{lt:Int->Int->Bool}{n:Nat}{C0:CC}(h:G n 0 0 0 0 C0)(hN:C0.N=[]):∀k,G n k k k k (gU lt n k C0)/\(gU lt n k C0).N.length<=1/\(gU lt n k C0).q+(gU lt n k C0).L.length=C0.q+C0.L.length
 |0=>⟨h,by rw[gU,hN];simp,rfl⟩
 |k+1=>by
  obtain⟨g,h1,h2⟩:=GY (lt:=lt) h hN k;have g1:=Ex g;have g2:=FJ g1;have g3:=ED g2;have t1:=(yw n k (gU lt n k C0)).2;have t2:=(y5 n k (takeA n k (gU lt n k C0))).2;have ev:=BJ (C:=takeB n k (takeA n k (gU lt n k C0))) ω;obtain⟨g4,h3,h4⟩:=ZR (lt:=lt) g3 ev;refine⟨g4,h3,?_⟩;rw[gU];unfold Ji;rw[h4,Vb,(qV _).length_eq,(qZ _ _ _).length_eq,(rD _ _ _).length_eq];exact h2
def wt(n:Nat)(F:CF)(l:List Int):Nat:=(l.map (λx=>2 ^ (dW n F x).toNat)).sum
theorem EE{n:Nat}{F:CF}{l m:List Int}(h:l.Perm m):wt n F l=wt n F m:=by
 unfold wt;exact(h.map _).sum_nat
theorem Ag{n:Nat}{F F':CF}{l:List Int}(h:∀x,x∈l->dW n F x=dW n F' x):wt n F l=wt n F' l:=by
 unfold wt
 congr 1
 exact List.map_congr_left (λx hx=>by rw[h x hx])
structure RI(lt:Int->Int->Bool)(n:Nat)(C0 C:CC):Prop where
 sub:∀x,x∈C.L->x∈C0.L
 out:∀x:Nat,(x:Int)∉C0.L->C.F.u x=C0.F.u x/\C.F.k x=C0.F.k x
 wt:wt n C.F C.L=wt n C0.F C0.L
 nl:∀y p:Nat,y<n->C.F.u y=p->C0.F.u y=p\/((y:Int)∈C0.L/\(p:Int)∈C0.L/\y≠p/\lt y p=false)
 ro:∀y:Nat,(y:Int)∈C0.L->(y:Int)∈C.L\/∃p:Nat,p<n/\C.F.u y=p
theorem RI.refl(lt:Int->Int->Bool)(n:Nat)(C:CC):RI lt n C C:=⟨λx h=>h,λx _=>⟨rfl,rfl⟩,rfl,λy p _ h=>Α h,λy h=>Α h⟩
theorem RI.trans{lt:Int->Int->Bool}{n:Nat}{A B C:CC}(h:RI lt n A B)(k:RI lt n B C):RI lt n A C:=
 ⟨λx hx=>h.sub x (k.sub x hx),λx hx=>by
  have h1:=h.out x hx;have h2:=k.out x (λhm=>hx (h.sub _ hm));exact⟨h2.1.trans h1.1,h2.2.trans h1.2⟩,k.wt.trans h.wt,λy p hy hu=>by
  rcases k.nl y p hy hu with h1|⟨h1,h2,h3,h4⟩
  ·exact h.nl y p hy h1
  ·exact Β ⟨h.sub _ h1,h.sub _ h2,h3,h4⟩,λy hy=>by
  by_cases hB:(y:Int)∈B.L
  ·exact k.ro y hB
  ·rcases h.ro y hy with h1|⟨p,hp,h1⟩
   ·exact absurd h1 hB
   ·exact Β ⟨p,hp,by rw [(k.out y hB).1];exact h1⟩⟩
theorem RI.perm{lt:Int->Int->Bool}{n:Nat}{C D:CC}(hp:D.L.Perm C.L)(hF:D.F=C.F):RI lt n C D:=
 ⟨λx hx=>hp.mem_iff.1 hx,λx _=>by rw[hF];exact⟨rfl,rfl⟩,by rw[hF];exact EE hp,λy p _ h=>by rw[hF] at h;exact Α h,λy h=>Α (hp.mem_iff.2 h)⟩
theorem VT{lt:Int->Int->Bool}{n k:Nat}{C:CC}(has:∀a b,lt a b=true->lt b a=false)(h:G n (k+1) (k+1) k (k+1) C)(hN:C.N=[]\/∃x y,C.N=[x,y]):RI lt n C (nE lt C):=by
 rcases hN with hN|⟨x,y,hN⟩
 ·have e:nE lt C=C:=by unfold nE;rw[hN]
  rw[e];exact RI.refl _ _ _
 ·obtain⟨a,b,rfl,rfl,ha,hb,hne,ra,rb,da,db⟩:=Me h hN;have e:nE lt C={ C with F:=iw C.F (jI lt a b) (mZ lt a b),N:=[(jI lt a b:Int)],q:=C.q+1 }:=by unfold nE;rw[hN];simp
  rw[e];obtain⟨hi,lo,ehi,elo,hhi,hlo,hne2,dhi,dlo,hah,ZH⟩:∃hi lo,jI lt a b=hi/\mZ lt a b=lo/\hi<n/\lo<n/\hi≠lo/\(C.F.k hi).length=k/\(C.F.k lo).length=k/\lt lo hi=false/\((hi=a/\lo=b)\/(hi=b/\lo=a)):=by
   unfold jI mZ
   by_cases hab:lt b a=true
   ·rw[Δ hab,Δ hab];exact⟨b,a,rfl,rfl,hb,ha,Ne.symm hne,db,da,has _ _ hab,Β ⟨rfl,rfl⟩⟩
   ·rw[Γ hab,Γ hab];exact⟨a,b,rfl,rfl,ha,hb,hne,da,db,by simpa using hab,Α ⟨rfl,rfl⟩⟩
  have QS:C.L.Perm ((hi:Int)::(lo:Int)::(C.A++(C.B++C.O))):=by
   unfold CC.L;rw[hN,List.perm_iff_count];intro y;rcases ZH with⟨rfl,rfl⟩|⟨rfl,rfl⟩<;>simp[List.count_append,List.count_cons]<;>omega
  have hL:(CC.L { C with F:=iw C.F hi lo,N:=[(hi:Int)],q:=C.q+1 }).Perm ((hi:Int)::(C.A++(C.B++C.O))):=by
   unfold CC.L;simp only;rw[List.perm_iff_count];intro y;simp[List.count_append,List.count_cons];omega
  have Fv:=QS.nodup_iff.1 h.nd;rw[Ζ,Ζ] at Fv;rw[ehi,elo];refine⟨λx hx=>QS.mem_iff.2 ?_,λx hx=>?_,?_,λy p hy hu=>?_,λy hy=>?_⟩
  ·rcases ρ.1 (hL.mem_iff.1 hx) with rfl|hx
   ·simp
   ·exact Λ _ (Λ _ hx)
  ·unfold iw;simp only;rw[Γ (λe=>hx (by subst e;exact QS.mem_iff.2 σ)),Γ (λe=>hx (by subst e;exact QS.mem_iff.2 σ))];exact⟨rfl,rfl⟩
  ·rw[EE hL,EE QS];have hd:∀z,z∈C.A++(C.B++C.O)->dW n (iw C.F hi lo) z=dW n C.F z:=λz hz=>by
    have hr:=h.rt z (QS.mem_iff.2 (Λ _ (Λ _ hz)));rw[yf n C.F hhi z ⟨hr.1,hr.2.1⟩,Γ (λe=>by subst e;exact Fv.1 (Λ _ hz))]
   have e1:=Ag hd;have e2:dW n (iw C.F hi lo) (hi:Int)=(k:Int)+1:=by rw[yf n C.F hhi hi ω,Δ rfl,fK n C.F hhi,dhi]
   have e3:dW n C.F (hi:Int)=(k:Int):=by rw[fK n C.F hhi,dhi]
   have e4:dW n C.F (lo:Int)=(k:Int):=by rw[fK n C.F hlo,dlo]
   have:∀(F:CF) (x:Int) (l:List Int),wt n F (x::l)=2 ^ (dW n F x).toNat + wt n F l:=λF x l=>by unfold wt;simp
   rw[this,this,this,e1,e2,e3,e4];have e5:((k:Int)+1).toNat=k+1:=ω;rw[e5,π,Nat.pow_succ];omega
  ·unfold iw at hu;simp only at hu
   split at hu
   ·rename_i e
    subst e;obtain rfl:hi=p:=ω;exact Β ⟨QS.mem_iff.2 σ,QS.mem_iff.2 σ,Ne.symm hne2,hah⟩
   ·exact Α hu
  ·rcases ρ.1 (QS.mem_iff.1 hy) with e|hy
   ·exact Α (hL.mem_iff.2 (by rw[e];simp))
   ·rcases ρ.1 hy with e|hy
    ·refine Β ⟨hi,hhi,?_⟩;unfold iw;simp only;rw[Δ ω]
    ·exact Α (hL.mem_iff.2 (Λ _ hy))
theorem Kr{lt:Int->Int->Bool}{n:Nat}{C0:CC}(has:∀a b,lt a b=true->lt b a=false)(h:G n 0 0 0 0 C0)(hN:C0.N=[]):∀k,RI lt n C0 (gU lt n k C0)
 |0=>RI.refl _ _ _
 |k+1=>by
  obtain⟨g,h1,h2⟩:=GY (lt:=lt) h hN k;have g1:=Ex g;have g2:=FJ g1;have g3:=ED g2;have t1:=(yw n k (gU lt n k C0)).2;have t2:=(y5 n k (takeA n k (gU lt n k C0))).2;have ev:=BJ (C:=takeB n k (takeA n k (gU lt n k C0))) ω;have r4:=VT has g3 ev;exact((((Kr has h hN k).trans (RI.perm (rD n k _) (N8 n k _))).trans (RI.perm (qZ n k _) (Nc n k _))).trans (RI.perm (qV _) (Nt _))).trans r4
theorem g_ok{lt:Int->Int->Bool}{n:Nat}{C0:CC}{dom:Int->Prop}(has:∀a b,lt a b=true->lt b a=false)(hdm:∀x,x∈C0.L->dom x)(h:G n 0 0 0 0 C0)(hN:C0.N=[])(hn:n<=65536)(hq:C0.q<=900000)(k:Nat):M0 dom lt n k (gU lt n k C0):=by
 obtain⟨g,h1,h2⟩:=GY (lt:=lt) h hN k;have hL0:C0.L.length<=n:=uA n _ h.nd (λx hx=>by have:=h.rt x hx;omega);have hL:(gU lt n k C0).L.length<=n:=uA n _ g.nd (λx hx=>by have:=g.rt x hx;omega);have hLL:(gU lt n k C0).L.length=(gU lt n k C0).A.length+((gU lt n k C0).B.length+((gU lt n k C0).N.length+(gU lt n k C0).O.length)):=by unfold CC.L;simp
 have dn:∀x,x∈(gU lt n k C0).L->dW n (gU lt n k C0).F x<=n:=λx hx=>by
  have hr:=g.rt x hx;obtain⟨y,rfl⟩:=Int.eq_ofNat_of_zero_le hr.1;have hy:y<n:=ω;rw[fK _ _ hy];have:=g.f.len hy;omega
 refine⟨h1,λx y hxy=>?_,ω,ω,λhne=>?_⟩
 ·have g3:=ED (FJ (Ex g));obtain⟨a,b,e1,e2,ha,hb,hab,ra,rb,da,db⟩:=Me g3 hxy;have hsub:∀z,z∈(fV (takeB n k (takeA n k (gU lt n k C0)))).L->dom z:=λz hz=>hdm z ((Kr has h hN k).sub z ((rD n k _).mem_iff.1 ((qZ n k _).mem_iff.1 ((qV _).mem_iff.1 hz))));have da':dom (a:Int):=by rw[←e1];exact hsub x (by unfold CC.L;rw[hxy];simp)
  have db':dom (b:Int):=by rw[←e2];exact hsub y (by unfold CC.L;rw[hxy];simp)
  refine⟨a,b,e1,e2,da',db',ha,hb,hab,?_,?_,?_,g3.f.len ha,g3.f.len hb⟩
  ·unfold Aj;rw[Ν ω];simp[ra]
  ·unfold Aj;rw[Ν ω];simp[rb]
  ·rw[fK _ _ ha,fK _ _ hb,da,db]
 ·rcases hne with hne|hne|hne
  ·obtain⟨x,t,e⟩:=List.exists_cons_of_ne_nil hne;have h3:=g.a2 x (by rw[e];simp);have h4:=dn x (by unfold CC.L;rw[e];simp);omega
  ·obtain⟨x,t,e⟩:=List.exists_cons_of_ne_nil hne;have h3:=g.b2 x (by rw[e];simp);have h4:=dn x (by unfold CC.L;rw[e];simp);omega
  ·obtain⟨x,t,e⟩:=List.exists_cons_of_ne_nil hne;have h3:=g.n1 x (by rw[e];simp);have h4:=dn x (by unfold CC.L;rw[e];simp);omega
end Go.Proofs.YtnpdakpagnpanaaGreat
namespace Go.Proofs.YtnpdakpagnpanaaGreat
open Tryz
open Go Go.RowKit
def lJ(n:Nat)(F:CF)(l:List Int):Prop:=(∀x,x∈l->0<=x/\x<n/\F.u x.toNat=-1)/\l.Pairwise (λx y=>dW n F x<dW n F y)
theorem DW(n:Nat)(F:CF)(x:Int):Aj n F x=true↔0<=x/\x<n/\F.u x.toNat=-1:=by
 unfold Aj;simp only[Τ,Ο,ϟ];exact⟨λh=>⟨h.1.1,h.1.2,h.2⟩,λh=>⟨⟨h.1,h.2.1⟩,h.2.2⟩⟩
theorem mI{l:List Int}{i:Nat}(h:i<l.length):l.getD i 0=l[i]:=by simp[φ,h]
theorem Gy(n:Nat)(S:CS)(l:List Int):Pw n S l=true↔lJ n S.f l:=by
 unfold Pw xI rowOk;simp only[aap,YL];rw[List.all_eq_true];simp only[List.mem_range,Τ,Bool.or_eq_true,ϟ,Ο];constructor
 ·intro h;refine⟨λx hx=>?_,?_⟩
  ·obtain⟨i,hi,rfl⟩:=List.getElem_of_mem hx;have:=(h i hi).1;rw[mI hi] at this;exact(DW n S.f _).1 this
  ·rw[List.pairwise_iff_getElem];have key:∀(d i:Nat) (hi:i<l.length) (hj:i+d+1<l.length),dW n S.f l[i]<dW n S.f l[i+d+1]:=λd=>by
    induction d with
    |zero=>
     intro i hi hj;rcases(h (i+1) hj).2 with h2|h2
     ·omega
     ·rw[Nat.add_sub_cancel,mI hi,mI hj] at h2;exact ϣ h2
    |succ d ih=>
     intro i hi hj;have h1:=ih i hi ω;rcases(h (i+d+1+1) ω).2 with h2|h2
     ·omega
     ·rw[Nat.add_sub_cancel,mI (show i+d+1<l.length by omega),mI (show i+d+1+1<l.length by omega)] at h2;exact Int.lt_trans h1 (ϣ h2)
   intro i j hi hj hij;have:=key (j-i-1) i hi ω;simpa[show i+(j-i-1)+1=j by omega] using this
 ·rintro⟨h1,h2⟩ i hi;refine⟨?_,?_⟩
  ·rw[mI hi];exact(DW n S.f _).2 (h1 _ (Ϙ hi))
  ·rcases Nat.eq_zero_or_pos i with h0|h0
   ·exact Α h0
   ·rw[mI hi,mI (show i-1<l.length by omega)];exact Β (Ν ((List.pairwise_iff_getElem.1 h2) (i-1) i ω hi ω))
theorem lJ.nodup{n:Nat}{F:CF}{l:List Int}(h:lJ n F l):l.Nodup:=h.2.imp (λ{a b} hab e=>by subst e;omega)
theorem any_false{A B:List Int}:A.any (λx=>decide (x∈B))=false↔∀x,x∈A->x∉B:=by
 rw[List.any_eq_false];simp
theorem MH{n:Nat}{F:CF}{A B:List Int}{q:Nat}(f:pI n F)(hA:lJ n F A)(hB:lJ n F B)(hd:∀x,x∈A->x∉B):G n 0 0 0 0 ⟨F,A,B,[],[],q⟩:=by
 have d0:∀x,0<=dW n F x:=λx=>by unfold dW;split<;>omega
 refine⟨f,λx hx=>?_,?_,hA.2,λx _=>by simpa using d0 x,hB.2,λx _=>by simpa using d0 x,λx hx=>(by cases hx),List.Pairwise.nil,λx hx=>(by cases hx)⟩
 ·unfold CC.L at hx;simp only[Υ,τ] at hx;rcases hx with hx|hx
  ·exact hA.1 x hx
  ·exact hB.1 x hx
 ·unfold CC.L;simp only[Υ];rw[θ];exact⟨hA.nodup,hB.nodup,λx hx y hy e=>by subst e;exact hd x hx hy⟩
def CC.done(C:CC):Prop:=C.A=[]/\C.B=[]/\C.N=[]
instance (C:CC):Decidable C.done:=by unfold CC.done;exact inferInstance
theorem step_done{lt:Int->Int->Bool}{n k:Nat}{C:CC}(h:C.done):Ji lt n k C=C:=by
 obtain⟨F,A,B,N,O,q⟩:=C;obtain⟨h1,h2,h3⟩:=h;simp only at h1 h2 h3;subst h1 h2 h3
 rfl
theorem AV{lt:Int->Int->Bool}{n k:Nat}{C0:CC}(h:(gU lt n k C0).done):∀j,gU lt n (k+j) C0=gU lt n k C0
 |0=>rfl
 |j+1=>by
  have ih:=AV h j;rw[Nat.add_succ,gU,ih,step_done h]
theorem R6{lt:Int->Int->Bool}{n k m:Nat}{C0:CC}(hk:(gU lt n k C0).done)(hm:(gU lt n m C0).done):gU lt n k C0=gU lt n m C0:=by
 rcases Nat.le_total k m with h|h
 ·have:=AV hk (m-k);rw[show k+(m-k)=m by omega] at this;exact this.symm
 ·have:=AV hm (k-m);rw[show m+(k-m)=k by omega] at this;exact this
def x9(lt:Int->Int->Bool)(n:Nat)(C0:CC)(F:CF)(O:List Int)(q:Nat):Prop:=∃k,gU lt n k C0=⟨F,[],[],[],O,q⟩
theorem x9.eq{lt:Int->Int->Bool}{n:Nat}{C0:CC}{F:CF}{O:List Int}{q:Nat}(h:x9 lt n C0 F O q){m:Nat}(hm:(gU lt n m C0).done):gU lt n m C0=⟨F,[],[],[],O,q⟩:=by
 obtain⟨k,hk⟩:=h;rw[←hk];exact R6 hm (by rw[hk];exact⟨rfl,rfl,rfl⟩)
structure FL(O:vJ)(w:World)(bt ba lo n:Nat)(S:CS)(q:Nat):Prop where
 f:bA w bt ba lo n S
 l:O.at_ w q
 a:Apart O bt ba n S
 t:bt<w.heap.size
 ok:pI n S.f
theorem OV(O:vJ)(bt ba lo n:Nat)(S:CS)(va vb:Value)(A B:List Int)(q:Nat)(w:World)(h:FL O w bt ba lo n S q)
  (ha:j6 w (O.wr++ba::S.blk n) va A) (hb:j6 w (O.wr++ba::S.blk n) vb B) (hA:lJ n S.f A) (hB:lJ n S.f B) (hd:∀x,x∈A->x∉B) (hq:q<=900000) (hdA:∀x,x∈A->O.dom x) (hdB:∀x,x∈B->O.dom x) :
  Calls prog 185 #[.pointer (some ⟨bt,0,none⟩),.iface O.ty (.pointer (some ⟨O.p,0,none⟩)),va,vb] w λe w'=>
   ∃S' vo X q',e=.returned (.tuple #[vo,.bool true])/\FL O w' bt ba lo n S' q'/\x9 O.lt n ⟨S.f,A,B,[],[],q⟩ S'.f X q'/\G n 0 0 0 0 ⟨S.f,A,B,[],[],q⟩/\bF w' w.heap.size vo X/\j6 w' (O.wr++ba::S'.blk n) vo X/\ae (O.wr++ba::S.blk n) w w'/\(∀g,g∈S'.blk n->g∈S.blk n\/w.heap.size<=g)/\(∀g,vo.ownBlock=some g->g∉S'.blk n):=by
 have g0:=MH (q:=q) h.ok hA hB hd
 refine (OJ O bt ba lo n S va vb A B q w h.f h.l h.a h.t ha hb ((Gy n S A).2 hA) ((Gy n S B).2 hB) (any_false.2 hd) (g_ok O.asym (λx hx=>by
  have e:CC.L ⟨S.f,A,B,[],[],q⟩=A++B:=by unfold CC.L;simp
  rw[e] at hx;rcases τ.1 hx with hx|hx
  ·exact hdA x hx
  ·exact hdB x hx) g0 rfl h.f.le hq)).mono ?_
 rintro e w' ⟨k,vn,va',Yk,vo,rfl,hM,e1,e2,e3⟩;have gk:=(GY (lt:=O.lt) g0 rfl k).1;generalize hC:gU O.lt n k ⟨S.f,A,B,[],[],q⟩=C at *;obtain⟨F,A1,B1,N1,O1,q1⟩:=C;simp only at e1 e2 e3;subst e1 e2 e3;obtain⟨S',hS,hF,hAp,h4,h5,h6⟩:=hM.vV;simp only at hS;subst hS;have Ra:=hM.old _ hM.Ng.2;have hlt2:=hF.Nk;have hblk:∀g,g∈S'.blk n->g∈S.blk n\/w.heap.size<=g:=λg hg=>by
  rcases h4 g hg with h'|h'
  ·rcases τ.1 h' with h'|h'
   ·exact absurd (O.sub _ h') (hAp.blk g hg)
   ·rcases ρ.1 h' with rfl|h'
    ·have:=(hF.oG hg).1;omega
    ·exact Α h'
  ·exact Β ω
 refine⟨S',vo,O1,q1,rfl,⟨hF,hM.les,hAp,Ψ h.t hM.upd.size,gk.f⟩,⟨k,hC⟩,g0,hM.out.mono ω,?_,hM.upd,hblk,h6⟩;obtain⟨a,cap,rfl,h1,h2,h3⟩:=hM.out.shape;refine⟨a,cap,rfl,h1,h2,λj u hj=>?_⟩;obtain⟨g,off,rfl,hc⟩:=h3 j u hj;have hg:=hM.out.lt g rfl;refine⟨g,off,rfl,hg.2,λhm=>?_,hc⟩;rcases τ.1 hm with hm|hm
 ·have:=hM.k0 _ (O.sub _ hm);omega
 ·rcases ρ.1 hm with rfl|hm
  ·omega
  ·exact h6 g rfl hm
structure FQ(lt:Int->Int->Bool)(n:Nat)(F:CF)(A B:List Int)(q:Nat)(F':CF)(O:List Int)(q':Nat):Prop where
 row:lJ n F' O
 ok:pI n F'
 cnt:q'+O.length=q+(A.length+B.length)
 sub:∀x,x∈O->x∈A\/x∈B
 out:∀x:Nat,(x:Int)∉A->(x:Int)∉B->F'.u x=F.u x/\F'.k x=F.k x
 wt:wt n F' O=wt n F A+wt n F B
 nl:∀y p:Nat,y<n->F'.u y=p->F.u y=p\/(((y:Int)∈A\/(y:Int)∈B)/\((p:Int)∈A\/(p:Int)∈B)/\y≠p/\lt y p=false)
 ro:∀y:Nat,((y:Int)∈A\/(y:Int)∈B)->(y:Int)∈O\/∃p:Nat,p<n/\F'.u y=p
theorem carried{lt:Int->Int->Bool}(has:∀a b,lt a b=true->lt b a=false){n:Nat}{F:CF}{A B:List Int}{q:Nat}{F':CF}{O:List Int}{q':Nat}(g:G n 0 0 0 0 ⟨F,A,B,[],[],q⟩)(h:x9 lt n ⟨F,A,B,[],[],q⟩ F' O q'):FQ lt n F A B q F' O q':=by
 obtain⟨k,hk⟩:=h;have g1:=GY (lt:=lt) g rfl k;have r:=Kr has g rfl k;rw[hk] at g1 r;obtain⟨g1,_,g2⟩:=g1;have eL:CC.L ⟨F',[],[],[],O,q'⟩=O:=by unfold CC.L;simp
 have eL0:CC.L ⟨F,A,B,[],[],q⟩=A++B:=by unfold CC.L;simp
 have s:=r.sub;have o:=r.out;have w:=r.wt;rw[eL] at s w g2;rw[eL0] at s o w g2;refine⟨⟨λx hx=>g1.rt x (by rw[eL];exact hx),g1.o1⟩,g1.f,by simpa using g2,λx hx=>by simpa using s x hx,λx h1 h2=>o x (by simp;exact⟨h1,h2⟩),?_,λy p hy hu=>by have:=r.nl y p hy hu;rw[eL0] at this;simpa using this,λy hy=>by have:=r.ro y (by rw[eL0];simpa using hy);rw[eL] at this;exact this⟩;rw[w];unfold wt;simp
end Go.Proofs.YtnpdakpagnpanaaGreat
namespace Go.Proofs.YtnpdakpagnpanaaGreat
open Tryz
def Qk(l:List Int)(x y:Int):List Int:=l.map (λz=>if z=x then y else z)
theorem pI.split{n:Nat}{S:CS}(h:pI n S.f){x:Nat}(hx:x<n)(hr:S.u x=-1):pI n (gZ S x).f:=by
 have nx:∀z,z<n->(x:Int)∉S.k z:=λz hz hm=>by
  have:=(h.wL z hz _ hm).2.2;rw[π] at this;have e:S.f.u x=S.u x:=rfl;omega
 have uk:∀y z,y<n->z<n->(y:Int)∈S.k z->S.u y=z:=λy z hy hz hm=>by
  have:=(h.wL z hz _ hm).2.2;rwa[π] at this
 refine⟨λz hz y hy=>?_,λz hz=>?_,λy hy=>?_,λz hz i w hw=>?_⟩
 ·show 0<=y/\y<n/\(if((y.toNat:Nat):Int)∈S.k x then(-1:Int) else S.u y.toNat)=z
  have hy':y∈(if z=x then([]:List Int) else S.k z):=hy
  by_cases e:z=x
  ·rw[Δ e] at hy';cases hy'
  ·rw[Γ e] at hy';obtain⟨h1,h2,h3⟩:=h.wL z hz y hy';refine⟨h1,h2,?_⟩;rw[Γ (λhm=>?_)]
   ·exact h3
   ·have:=uk y.toNat x ω hx hm;have e3:S.f.u y.toNat=S.u y.toNat:=rfl;omega
 ·show(if z=x then([]:List Int) else S.k z).Nodup
  split
  ·exact Ϥ
  ·exact h.nd z hz
 ·show(if(y:Int)∈S.k x then(-1:Int) else S.u y)=-1\/∃p:Nat,p<n/\(if(y:Int)∈S.k x then(-1:Int) else S.u y)=p/\(y:Int)∈(if p=x then([]:List Int) else S.k p)
  by_cases hm:(y:Int)∈S.k x
  ·rw[Δ hm];exact Α rfl
  ·rw[Γ hm];rcases h.up y hy with h1|⟨p,hp,h1,h2⟩
   ·exact Α h1
   ·refine Β ⟨p,hp,h1,?_⟩;rw[Γ (λe=>by subst e;exact hm h2)];exact h2
 ·have hw':(if z=x then([]:List Int) else S.k z)[i]?=some w:=hw
  show(if w.toNat=x then([]:List Int) else S.k w.toNat).length=i
  by_cases e:z=x
  ·rw[Δ e] at hw';simp at hw'
  ·rw[Γ e] at hw';have hm:=Η hw';have hr:=h.wL z hz w hm;rw[Γ (λe2=>nx z hz (by rw[←e2,show((w.toNat:Nat):Int)=w by omega];exact hm))];exact h.y7 z hz i w hw'
theorem zU{l:List Int}(h:l.Nodup)(x y:Int)(hx:x∈l):Qk l x y=setAt l x y:=by
 obtain⟨i,hi,he,hxi⟩:=xe l x hx;unfold Qk setAt;rw[he,π];apply List.ext_getElem σ;intro j h1 h2;rw[List.getElem_map,List.getElem_set];have hil:l[i]=x:=(List.getElem?_eq_some_iff.1 hxi).2
 by_cases e:i=j
 ·subst e;rw[Δ hil,Δ rfl]
 ·rw[Γ e,Γ (λe2=>e ?_)];have hj:j<l.length:=by simpa using h1
  have hp:=List.pairwise_iff_getElem.1 (List.nodup_iff_pairwise_ne.1 h);rcases Nat.lt_trichotomy i j with h'|h'|h'
  ·exact absurd (hil.trans e2.symm) (hp i j hi hj h')
  ·exact h'
  ·exact absurd (e2.trans hil.symm) (hp j i hj hi h')
theorem qi{l:List Int}(h:l.Nodup){x y z:Int}(hx:x∈l):z∈setAt l x y↔z=y\/(z∈l/\z≠x):=by
 rw[←zU h x y hx];unfold Qk;rw[List.mem_map];constructor
 ·rintro⟨w,hw,rfl⟩
  by_cases e:w=x
  ·rw[Δ e];exact Α rfl
  ·rw[Γ e];exact Β ⟨hw,e⟩
 ·rintro(rfl|⟨h1,h2⟩)
  ·exact⟨x,hx,by rw[Δ rfl]⟩
  ·exact⟨z,h1,by rw[Γ h2]⟩
theorem G8{l:List Int}(h:l.Nodup){x y z:Int}(hx:x∈l){i:Nat}(hz:(setAt l x y)[i]?=some z):(l[i]?=some x/\z=y)\/(l[i]?=some z/\z≠x):=by
 rw[←zU h x y hx] at hz;unfold Qk at hz;rw[ϒ] at hz;cases hq:l[i]? with
 |none=>rw[hq] at hz;cases hz
 |some w=>
  rw[hq] at hz;simp at hz
  by_cases e:w=x
  ·rw[Δ e] at hz;subst e;exact Α ⟨rfl,hz.symm⟩
  ·rw[Γ e] at hz;subst hz;exact Β ⟨rfl,e⟩
theorem zg{l:List Int}(h:l.Nodup){x y:Int}(hx:x∈l)(hy:y∉l):(setAt l x y).Nodup:=by
 rw[←zU h x y hx];unfold Qk;rw[List.nodup_iff_pairwise_ne,List.pairwise_map];refine(List.nodup_iff_pairwise_ne.1 h).imp_of_mem (λ{a b} ha hb hab=>?_)
 by_cases e1:a=x
 ·rw[Δ e1]
  by_cases e2:b=x
  ·exact absurd (e1.trans e2.symm) hab
  ·rw[Γ e2];intro e;subst e;exact hy hb
 ·rw[Γ e1]
  by_cases e2:b=x
  ·rw[Δ e2];intro e;subst e;exact hy ha
  ·rw[Γ e2];exact hab
theorem pI.lift{n:Nat}{S:CS}(h:pI n S.f){x p:Nat}{above:Int}(ok:AX n S x p above):pI n (ik S x p above).f:=by
 have hx:=ok.hx;have hp:=ok.hp;have hne:=ok.ne;have uk:∀y z:Nat,y<n->z<n->(y:Int)∈S.k z->S.u y=z:=λy z hy hz hm=>by
  have:=(h.wL z hz _ hm).2.2;rwa[π] at this
 have rg:∀z,z<n->∀w,w∈S.k z->∃y:Nat,w=y/\y<n/\S.u y=z:=λz hz w hw=>by
  obtain⟨h1,h2,h3⟩:=h.wL z hz w hw;exact⟨w.toNat,ω,ω,h3⟩
 have dg:∀y z:Nat,z<n->(y:Int)∈S.k z->(S.k y).length<(S.k z).length:=λy z hz hm=>by
  obtain⟨i,hi,he⟩:=List.getElem_of_mem hm;have hge:(S.k z)[i]?=some (y:Int):=by rw[ε hi,he]
  have:=h.y7 z hz i (y:Int) hge;rw[π] at this;have aek:(S.k y).length=i:=this;omega
 have pk:(p:Int)∉S.k p:=h.self hp;have px:(p:Int)∉S.k x:=λhm=>by
  have h1:=dg p x hx hm;have h2:=dg x p hp ok.mem;omega
 have ux:S.u x=p:=ok.up;have up:S.u p=above:=ok.ab;have nd:=h.nd p hp;have top:∀q:Nat,(q:Int)=above->q<n/\q≠x/\q≠p/\(p:Int)∈S.k q:=λq hq=>by
  rcases ok.top with e|⟨q',e,h1,h2,h3,h4⟩
  ·omega
  ·obtain rfl:q=q':=ω;exact⟨h1,h2,h3,h4⟩
 have K:∀z:Nat,(ik S x p above).f.k z=if z=x then setAt (S.k p) x p else if z=p then S.k x else if(z:Int)=above then setAt (S.k z) p x else S.k z:=λz=>rfl;have U:∀z:Nat,(ik S x p above).f.u z=if z=x then above else if(z:Int)∈S.k x then(p:Int) else if(z:Int)∈setAt (S.k p) x p then(x:Int) else S.u z:=λz=>rfl;have mo:∀z:Int,z∈setAt (S.k p) x p↔z=p\/(z∈S.k p/\z≠x):=λz=>qi nd ok.mem;have D:∀y:Nat,((ik S x p above).f.k y).length=if y=x then(S.k p).length else if y=p then(S.k x).length else(S.k y).length:=λy=>by
  rw[K]
  split
  ·rw[kH]
  ·split
   ·rfl
   ·split
    ·rw[kH]
    ·rfl
 have U1:∀y:Nat,y<n->(y:Int)∈S.k x->(ik S x p above).f.u y=p:=λy hy hm=>by
  rw[U,Γ (λe=>by subst e;exact h.self hx hm),Δ hm]
 have U2:∀y:Nat,y<n->(y:Int)∈setAt (S.k p) x p->(ik S x p above).f.u y=x:=λy hy hm=>by
  rcases(mo y).1 hm with e|⟨h1,h2⟩
  ·obtain rfl:y=p:=ω;rw[U,Γ (Ne.symm hne),Γ px,Δ hm]
  ·rw[U,Γ (λe=>h2 (by rw[e])),Γ (λhm2=>by have:=uk y x hy hx hm2;have:=uk y p hy hp h1;omega),Δ hm]
 have U3:∀y:Nat,y<n->y≠x->y≠p->S.u y≠x->S.u y≠p->(ik S x p above).f.u y=S.u y:=λy hy h1 h2 h3 h4=>by
  rw [U,Γ h1,Γ (λhm=>h3 (uk y x hy hx hm)),Γ (λhm=>by
   rcases(mo y).1 hm with e|⟨h5,_⟩
   ·omega
   ·exact h4 (uk y p hy hp h5))]
 refine⟨λz hz w hw=>?_,λz hz=>?_,λy hy=>?_,λz hz i w hw=>?_⟩
 ·rw[K] at hw
  split at hw
  ·rename_i e;subst e
   have hwm:=hw;rcases(mo w).1 hw with rfl|⟨h1,h2⟩
   ·exact⟨ω,ω,by rw[π];exact U2 p hp hwm⟩
   ·obtain⟨y,rfl,hy,_⟩:=rg p hp w h1;exact⟨ω,ω,by rw[π];exact U2 y hy hwm⟩
  ·rename_i hzx
   split at hw
   ·rename_i e;subst e
    obtain⟨y,rfl,hy,_⟩:=rg x hx w hw;exact⟨ω,ω,by rw[π];exact U1 y hy hw⟩
   ·rename_i hzp
    split at hw
    ·rename_i e
     obtain⟨_,_,_,hm⟩:=top z e;rcases(qi (h.nd z hz) hm).1 hw with rfl|⟨h1,h2⟩
     ·exact⟨ω,ω,by rw[π,U,Δ rfl];exact e.symm⟩
     ·obtain⟨y,rfl,hy,hu⟩:=rg z hz w h1;have hyx:y≠x:=λe=>by subst e;omega
      exact⟨ω,ω,by rw[π,U3 y hy hyx (λe=>h2 (by rw[e])) ω ω];exact hu⟩
    ·rename_i hza
     obtain⟨y,rfl,hy,hu⟩:=rg z hz w hw;have hyx:y≠x:=λe=>by subst e;omega
     have hyp:y≠p:=λe=>by subst e;omega
     exact⟨ω,ω,by rw[π,U3 y hy hyx hyp ω ω];exact hu⟩
 ·rw[K]
  split
  ·exact zg nd ok.mem pk
  ·split
   ·exact h.nd x hx
   ·split
    ·rename_i e
     obtain⟨h1,h2,h3,hm⟩:=top z e;exact zg (h.nd z hz) hm (λhm2=>by have:=uk x z hx hz hm2;omega)
    ·exact h.nd z hz
 ·by_cases hyx:y=x
  ·subst hyx;rw[U,Δ rfl];rcases ok.top with e|⟨q,e,h1,h2,h3,h4⟩
   ·exact Α e
   ·refine Β ⟨q,h1,e,?_⟩;rw[K,Γ h2,Γ h3,Δ e.symm];exact(qi (h.nd q h1) h4).2 (Α rfl)
  ·by_cases hm1:(y:Int)∈S.k x
   ·refine Β ⟨p,hp,U1 y hy hm1,?_⟩;rw[K,Γ (Ne.symm hne),Δ rfl];exact hm1
   ·by_cases hm2:(y:Int)∈setAt (S.k p) x p
    ·refine Β ⟨x,hx,U2 y hy hm2,?_⟩;rw[K,Δ rfl];exact hm2
    ·have e:(ik S x p above).f.u y=S.u y:=by rw[U,Γ hyx,Γ hm1,Γ hm2]
     rw[e];rcases h.up y hy with h1|⟨r,hr,h1,h2⟩
     ·exact Α h1
     ·refine Β ⟨r,hr,h1,?_⟩;have hrx:r≠x:=λe=>by subst e;exact hm1 h2
      have hrp:r≠p:=λe=>by subst e;exact hm2 ((mo y).2 (Β ⟨h2,λe=>hyx ω⟩))
      rw[K,Γ hrx,Γ hrp]
      split
      ·rename_i e
       obtain⟨_,_,_,hm⟩:=top r e;exact(qi (h.nd r hr) hm).2 (Β ⟨h2,λe2=>hm2 ((mo y).2 (Α e2))⟩)
      ·exact h2
 ·have other:∀(z:Nat) (w:Int),z<n->z≠x->(S.k z)[i]?=some w->w≠p->w≠x->((ik S x p above).f.k w.toNat).length=i:=λz w hz _ hw h1 h2=>by
   obtain⟨y,rfl,hy,_⟩:=rg z hz w (Η hw);rw[π,D,Γ (λe=>h2 (by rw[e])),Γ (λe=>h1 (by rw[e]))];have:=h.y7 z hz i (y:Int) hw;rwa[π] at this
  have xi:∀i,(S.k p)[i]?=some (x:Int)->(S.k x).length=i:=λi hi=>by
   have:=h.y7 p hp i (x:Int) hi;rwa[π] at this
  rw[K] at hw
  split at hw
  ·rename_i e;subst e
   rcases G8 nd ok.mem hw with⟨h1,rfl⟩|⟨h1,h2⟩
   ·rw[π,D,Γ (Ne.symm hne),Δ rfl];exact xi i h1
   ·exact other p w hp (Ne.symm hne) h1 (λe=>pk (by rw[←e];exact Η h1)) h2
  ·rename_i hzx
   split at hw
   ·rename_i e;subst e
    have hm:=Η hw;obtain⟨y,rfl,hy,_⟩:=rg x hx w hm;rw[π,D,Γ (λe=>by subst e;exact h.self hx hm),Γ (λe=>by subst e;exact px hm)];have:=h.y7 x hx i (y:Int) hw;rwa[π] at this
   ·rename_i hzp
    split at hw
    ·rename_i e
     obtain⟨_,_,_,hm⟩:=top z e;rcases G8 (h.nd z hz) hm hw with⟨h1,rfl⟩|⟨h1,h2⟩
     ·rw[π,D,Δ rfl];have:=h.y7 z hz i (p:Int) h1;rwa[π] at this
     ·exact other z w hz hzx h1 h2 (λe2=>by have:=uk x z hx hz (by rw[←e2];exact Η h1);omega)
    ·rename_i hza
     have hm:=Η hw;exact other z w hz hzx hw (λe2=>by have:=uk p z hp hz (by rw[←e2];exact hm);omega) (λe2=>by have:=uk x z hx hz (by rw[←e2];exact hm);omega)
theorem Nz{n:Nat}{S:CS}(h:pI n S.f){x:Nat}(hx:x<n){p:Nat}(hp:p<n)(hu:S.u x=p)(hm:(x:Int)∈S.k p):AX n S x p (S.u p):=by
 have dg:∀y z:Nat,z<n->(y:Int)∈S.k z->(S.k y).length<(S.k z).length:=λy z hz hm=>by
  obtain⟨i,hi,he⟩:=List.getElem_of_mem hm;have hge:(S.k z)[i]?=some (y:Int):=by rw[ε hi,he]
  have:=h.y7 z hz i (y:Int) hge;rw[π] at this;have aek:(S.k y).length=i:=this;omega
 refine⟨hx,hp,λe=>by subst e;exact h.self hx hm,hu,rfl,hm,λk hk=>by have:=h.wL x hx k hk;omega,λk hk=>by have:=h.wL p hp k hk;omega,?_⟩;rcases h.up p hp with h1|⟨q,hq,h1,h2⟩
 ·exact Α h1
 ·have d1:=dg x p hp hm;have d2:=dg p q hq h2;exact Β ⟨q,h1,hq,λe=>by subst e;omega,λe=>by subst e;omega,h2⟩
theorem Va(S:CS)(x p:Nat)(above:Int)(y:Nat):((ik S x p above).k y).length=if y=x then(S.k p).length else if y=p then(S.k x).length else(S.k y).length:=by
 show(if y=x then setAt (S.k p) x p else if y=p then S.k x else if(y:Int)=above then setAt (S.k y) p x else S.k y).length=_
 split
 ·rw[kH]
 ·split
  ·rfl
  ·split
   ·rw[kH]
   ·rfl
structure FH(n:Nat)(F:CF)(bX:Nat->Int)(L:Nat->Nat->Prop):Prop where
 f:pI n F
 home:∀y p:Nat,y<n->F.u y=p->bX y=bX p/\0<bX y
 ord:∀y p:Nat,y<n->F.u y=p->L p y
 alone:∀y:Nat,y<n->¬0<bX y->F.u y=-1/\F.k y=[]
theorem pI.above{n:Nat}{F:CF}(h:pI n F){y p:Nat}(hy:y<n)(hu:F.u y=p):p<n/\(y:Int)∈F.k p:=by
 rcases h.up y hy with h1|⟨q,hq,h1,h2⟩
 ·omega
 ·obtain rfl:q=p:=ω;exact⟨hq,h2⟩
theorem pI.below{n:Nat}{F:CF}(h:pI n F){p:Nat}(hp:p<n){z:Int}(hz:z∈F.k p):∃y:Nat,z=y/\y<n/\F.u y=p/\(F.k y).length<(F.k p).length:=by
 obtain⟨r1,r2,r3⟩:=h.wL p hp z hz;obtain⟨i,hi,he⟩:=List.getElem_of_mem hz;have hc:=h.y7 p hp i z (by rw[ε hi,he]);obtain⟨y,rfl⟩:=Int.eq_ofNat_of_zero_le r1;rw[π] at r3 hc;exact⟨y,rfl,ω,r3,ω⟩
theorem pI.O6{n:Nat}{F:CF}(h:pI n F){y p:Nat}(hy:y<n)(hu:F.u y=p):(F.k y).length<(F.k p).length:=by
 obtain⟨h1,h2⟩:=h.above hy hu;obtain⟨z,e,_,_,hd⟩:=h.below h1 h2;obtain rfl:y=z:=ω;exact hd
theorem lJ.ext{n:Nat}{F F':CF}{l:List Int}(h:lJ n F l)(e:∀x,x∈l->F'.u x.toNat=F.u x.toNat/\F'.k x.toNat=F.k x.toNat):lJ n F' l:=by
 refine⟨λx hx=>?_,h.2.imp_of_mem (λ{a b} ha hb hab=>?_)⟩
 ·have:=h.1 x hx;exact⟨this.1,this.2.1,by rw[(e x hx).1];exact this.2.2⟩
 ·unfold dW at hab ⊢;rw[(e a ha).2,(e b hb).2];exact hab
theorem Xv{n:Nat}{F F':CF}{x:Int}(e:F'.k x.toNat=F.k x.toNat):dW n F' x=dW n F x:=by unfold dW;rw[e]
theorem Sa{n:Nat}{F:CF}{bX:Nat->Int}{L:Nat->Nat->Prop}{lt:Int->Int->Bool}{h:Int}{A0 B0:List Int}{q:Nat}{F':CF}{O:List Int}{q':Nat}(H:FH n F bX L)
  (hL:∀y p:Nat,y<n->p<n->bX y=h->bX p=h->y≠p->lt y p=false->L p y) (h1:1<=h)
  (m:∀y:Nat,y<n/\F.u y=-1/\bX y=h↔(y:Int)∈A0\/(y:Int)∈B0) (C:FQ lt n F A0 B0 q F' O q') :
  FH n F' bX L/\(∀y:Nat,(y:Int)∈O↔y<n/\F'.u y=-1/\bX y=h)/\(∀y:Nat,y<n->bX y≠h->F'.u y=F.u y/\F'.k y=F.k y):=by
 have far:∀y:Nat,y<n->bX y≠h->F'.u y=F.u y/\F'.k y=F.k y:=λy hy hh=>C.out y (λhm=>hh ((m y).2 (Α hm)).2.2) (λhm=>hh ((m y).2 (Β hm)).2.2);have key:∀y p:Nat,y<n->F'.u y=p->F.u y=p\/(y<n/\p<n/\bX y=h/\bX p=h/\y≠p/\lt y p=false):=λy p hy hu=>by
  rcases C.nl y p hy hu with e|⟨k1,k2,k3,k4⟩
  ·exact Α e
  ·have a1:=(m y).2 k1;have a2:=(m p).2 k2;exact Β ⟨hy,a2.1,a1.2.2,a2.2.2,k3,k4⟩
 refine⟨⟨C.ok,λy p hy hu=>?_,λy p hy hu=>?_,λy hy hh=>?_⟩,λy=>⟨λhm=>?_,λhm=>?_⟩,far⟩
 ·rcases key y p hy hu with e|⟨_,_,k1,k2,_,_⟩
  ·exact H.home y p hy e
  ·rw[k1,k2];exact⟨rfl,ω⟩
 ·rcases key y p hy hu with e|⟨k0,kp,k1,k2,k3,k4⟩
  ·exact H.ord y p hy e
  ·exact hL y p k0 kp k1 k2 k3 k4
 ·have:=far y hy ω;rw[this.1,this.2];exact H.alone y hy hh
 ·have r:=C.row.1 _ hm;have a:=(m y).2 (C.sub _ hm);exact⟨a.1,by simpa using r.2.2,a.2.2⟩
 ·obtain⟨hy,hu,hh⟩:=hm
  by_cases hAB:(y:Int)∈A0\/(y:Int)∈B0
  ·rcases C.ro y hAB with h2|⟨p,hp,h2⟩
   ·exact h2
   ·omega
  ·have h2:=C.out y (λh=>hAB (Α h)) (λh=>hAB (Β h));exact absurd ((m y).1 ⟨hy,by rw[←h2.1];exact hu,hh⟩) hAB
structure BG where
 F:CF
 R:Nat->List Int
structure RH(n:Nat)(G:BG)(bX:Nat->Int):Prop where
 row:∀h,lJ n G.F (G.R h)
 mem:∀h y:Nat,(y:Int)∈G.R h↔1<=h/\y<n/\G.F.u y=-1/\bX y=h
def BG.none:BG:=⟨CS.none.f,λ_=>[]⟩
def cO(R:Nat->List Int)(h:Nat)(l:List Int):Nat->List Int:=λk=>if k=h then l else R k
def jK(lt:Int->Int->Bool)(n:Nat)(F:CF)(A B:List Int):CC:=gU lt n (n+1) ⟨F,A,B,[],[],0⟩
theorem GU{lt:Int->Int->Bool}{n:Nat}{F:CF}{A B:List Int}(g:G n 0 0 0 0 ⟨F,A,B,[],[],0⟩)(has:∀a b,lt a b=true->lt b a=false)(hn:n<=65536):(jK lt n F A B).done:=by
 have r:=g_ok (dom:=λ_=>True) has (λx hx=>trivial) g rfl hn (Nat.zero_le _) (n+1);unfold jK CC.done;refine⟨?_,?_,?_⟩
 all_goals
  apply ϙ;intro hne;have:=r.ends (by first|exact Α hne|exact Β (Α hne)|exact Β (Β hne));omega
theorem aaA{lt:Int->Int->Bool}{n:Nat}{F:CF}{A B:List Int}{F':CF}{O:List Int}{q:Nat}(g:G n 0 0 0 0 ⟨F,A,B,[],[],0⟩)(has:∀a b,lt a b=true->lt b a=false)(hn:n<=65536)(h:x9 lt n ⟨F,A,B,[],[],0⟩ F' O q) :
  (jK lt n F A B).F=F'/\(jK lt n F A B).O=O/\(jK lt n F A B).q=q:=by
 have:=h.eq (m:=n+1) (GU g has hn);unfold jK;rw[this];exact⟨rfl,rfl,rfl⟩
theorem Zk{lt:Int->Int->Bool}{n:Nat}{F:CF}{A B:List Int}(g:G n 0 0 0 0 ⟨F,A,B,[],[],0⟩)(has:∀a b,lt a b=true->lt b a=false)(hn:n<=65536):FQ lt n F A B 0 (jK lt n F A B).F (jK lt n F A B).O (jK lt n F A B).q:=by
 refine carried has g ⟨n+1,?_⟩;obtain⟨h1,h2,h3⟩:=GU g has hn;unfold jK at *;generalize gU lt n (n+1) ⟨F,A,B,[],[],0⟩=C at *;obtain⟨F1,A1,B1,N1,O1,q1⟩:=C;simp only at h1 h2 h3;subst h1 h2 h3
 rfl
def wh(lt:Int->Int->Bool)(n h:Nat)(l:List Int)(G:BG):BG:=⟨(jK lt n G.F (G.R h) l).F,cO G.R h (jK lt n G.F (G.R h) l).O⟩
theorem yC{n:Nat}{G:BG}{bX:Nat->Int}{L:Nat->Nat->Prop}{lt:Int->Int->Bool}{h:Nat}{l:List Int}(H:FH n G.F bX L)(hn:n<=65536)(has:∀a b,lt a b=true->lt b a=false)
  (hL:∀y p:Nat,y<n->p<n->bX y=h->bX p=h->y≠p->lt y p=false->L p y) (h1:1<=h)
  (hrow:∀k,lJ n G.F (G.R k)) (hmem:∀k y:Nat,k≠h->((y:Int)∈G.R k↔1<=k/\y<n/\G.F.u y=-1/\bX y=k))
  (m:∀y:Nat,y<n/\G.F.u y=-1/\bX y=h↔(y:Int)∈G.R h\/(y:Int)∈l) (hl:lJ n G.F l) (hd:∀x,x∈G.R h->x∉l) :
  FH n (wh lt n h l G).F bX L/\RH n (wh lt n h l G) bX/\(∀k,wt n (wh lt n h l G).F ((wh lt n h l G).R k)=if k=h then wt n G.F (G.R h)+wt n G.F l else wt n G.F (G.R k))/\
   (jK lt n G.F (G.R h) l).q+((wh lt n h l G).R h).length=(G.R h).length+l.length:=by
 have g:=MH (q:=0) H.f (hrow h) hl hd;have C:=Zk g has hn;obtain⟨h2,h3,h4⟩:=Sa H hL ω m C;have far:∀k:Nat,k≠h->∀x,x∈G.R k->(jK lt n G.F (G.R h) l).F.u x.toNat=G.F.u x.toNat/\(jK lt n G.F (G.R h) l).F.k x.toNat=G.F.k x.toNat:=λk hk x hx=>by
  have hr:=(hrow k).1 x hx;have:=(hmem k x.toNat hk).1 (by rw[show((x.toNat:Nat):Int)=x by omega];exact hx);exact h4 x.toNat this.2.1 ω
 unfold wh;refine⟨h2,⟨λk=>?_,λk y=>?_⟩,λk=>?_,?_⟩
 ·simp only[cO]
  split
  ·exact C.row
  ·rename_i hk
   exact(hrow k).ext (far k hk)
 ·simp only[cO]
  split
  ·rename_i hk
   subst hk;rw[h3 y];exact⟨λa=>⟨h1,a⟩,λa=>a.2⟩
  ·rename_i hk
   rw[hmem k y hk];constructor
   ·rintro⟨a1,a2,a3,a4⟩;exact⟨a1,a2,by rw[(h4 y a2 ω).1];exact a3,a4⟩
   ·rintro⟨a1,a2,a3,a4⟩;exact⟨a1,a2,by rw[←(h4 y a2 ω).1];exact a3,a4⟩
 ·simp only[cO]
  split
  ·exact C.wt
  ·rename_i hk
   exact Ag (λx hx=>Xv (far k hk x hx).2)
 ·simp only[cO,if_true];have:=C.cnt;omega
theorem Ni:∀d:Nat,((List.range d).map (λi=>2 ^ i)).sum+1=2 ^ d
 |0=>rfl
 |d+1=>by
  have ih:=Ni d;rw[List.range_succ,List.map_append,List.sum_append,Nat.pow_succ];simp only[List.map_cons,List.map_nil,List.sum_cons,List.sum_nil];omega
def fT(F:CF)(x:Nat):CF:=⟨λy=>if y=x then[] else F.k y,λy=>if(y:Int)∈F.k x then -1 else F.u y⟩
theorem zR(S:CS)(x:Nat):(gZ S x).f=fT S.f x:=rfl
theorem XR{n:Nat}{F:CF}(ok:pI n F){x:Nat}(hx:x<n){F':CF}(e:∀z,z∈F.k x->dW n F' z=dW n F z):wt n F' (F.k x)+1=2 ^ (F.k x).length:=by
 rw[←Ni]
 congr 1
 rw[Ag e];unfold wt
 congr 1
 apply List.ext_getElem σ;intro i h1 h2;rw[List.getElem_map,List.getElem_map,List.getElem_range];have hi:i<(F.k x).length:=by simpa using h1
 have hm:(F.k x)[i]∈F.k x:=Ϙ hi;have hc:=ok.y7 x hx i _ (ε hi);have hr:=ok.wL x hx _ hm;unfold dW;rw[Δ ⟨hr.1,hr.2.1⟩,hc];simp
theorem TR{n:Nat}{F:CF}(ok:pI n F){x:Nat}(hx:x<n){F':CF}(e:∀z,z∈F.k x->dW n F' z=dW n F z)(u:∀z,z∈F.k x->F'.u z.toNat=-1):lJ n F' (F.k x):=by
 refine⟨λz hz=>⟨(ok.wL x hx z hz).1,(ok.wL x hx z hz).2.1,u z hz⟩,?_⟩;rw[List.pairwise_iff_getElem];intro i j hi hj hij;have d:∀i (hi:i<(F.k x).length),dW n F' (F.k x)[i]=i:=λi hi=>by
  have hm:(F.k x)[i]∈F.k x:=Ϙ hi;have hc:=ok.y7 x hx i _ (ε hi);have hr:=ok.wL x hx _ hm;rw[e _ hm];unfold dW;rw[Δ ⟨hr.1,hr.2.1⟩,hc]
 rw[d i hi,d j hj];omega
theorem pI.Uk{n:Nat}{F:CF}(h:pI n F){x:Nat}(hx:x<n)(hr:F.u x=-1):pI n (fT F x):=by
 have:=pI.split (n:=n) (S:=⟨λ_=>.slice none 0 0,F.k,F.u⟩) h hx hr;exact this
structure zY(A:NS)(G:BG):Prop where
 fh:FH A.cs.length G.F (λy=>(A.c y).i) (dB A)
 rh:RH A.cs.length G (λy=>(A.c y).i)
 w:∀h:Nat,1<=h->wt A.cs.length G.F (G.R h)=dD A h
structure EY(A:NS)(G:BG)(x:Nat):Prop where
 fh:FH A.cs.length G.F (λy=>(A.c y).i) (λp y=>y≠x->p≠x->dB A p y)
 two:∀p c:Nat,c<A.cs.length->G.F.u x=p->G.F.u c=x->dB A p c
 rh:RH A.cs.length G (λy=>(A.c y).i)
 w:∀h:Nat,1<=h->wt A.cs.length G.F (G.R h)=dD A h
theorem zY.x{A:NS}{G:BG}(h:zY A G){x:Nat}(hx:x<A.cs.length):EY A G x:=
 ⟨⟨h.fh.f,h.fh.home,λy p hy hu _ _=>h.fh.ord y p hy hu,h.fh.alone⟩,λp c hc h1 h2=>dI (h.fh.ord x p hx h1) (h.fh.ord c x hc h2),h.rh,h.w⟩
def tN(F:CF)(x p:Nat)(above:Int):CF:=
  ⟨λy=>if y=x then setAt (F.k p) x p else if y=p then F.k x else if (y:Int)=above then setAt (F.k y) p x else F.k y,
   λy=>if y=x then above else if (y:Int)∈F.k x then p else if (y:Int)∈setAt (F.k p) x p then x else F.u y⟩
theorem aaa(S:CS)(x p:Nat)(above:Int):(ik S x p above).f=tN S.f x p above:=rfl
def KX(x p:Nat)(above:Int)(z:Int):Int:=if z=p/\above=-1 then(x:Int) else z
def su(G:BG)(x p:Nat):BG:=⟨tN G.F x p (G.F.u p),λk=>(G.R k).map (KX x p (G.F.u p))⟩
section
variable{n:Nat}{F:CF}
theorem SV(h:pI n F){x p:Nat}(hx:x<n)(hu:F.u x=p):AX n ⟨λ_=>.slice none 0 0,F.k,F.u⟩ x p (F.u p):=by
 obtain⟨hp,hm⟩:=h.above hx hu;exact Nz (S:=⟨λ_=>.slice none 0 0,F.k,F.u⟩) h hx hp hu hm
theorem UW(h:pI n F){x p:Nat}(hx:x<n)(hu:F.u x=p):pI n (tN F x p (F.u p)):=
 pI.lift (S:=⟨λ_=>.slice none 0 0,F.k,F.u⟩) h (SV h hx hu)
theorem uZ(x p:Nat)(above:Int)(y:Nat):((tN F x p above).k y).length=if y=x then(F.k p).length else if y=p then(F.k x).length else(F.k y).length:=
 Va ⟨λ_=>.slice none 0 0,F.k,F.u⟩ x p above y
theorem xY(h:pI n F){x y:Nat}(hx:x<n)(hy:y<n):(y:Int)∈F.k x↔F.u y=x:=by
 constructor
 ·intro hm;obtain⟨z,e,_,h2,_⟩:=h.below hx hm;obtain rfl:y=z:=ω;exact h2
 ·intro hu;exact(h.above hy hu).2
theorem F8(h:pI n F){x p:Nat}(hx:x<n)(hu:F.u x=p){y:Nat}(hy:y<n) :
  (tN F x p (F.u p)).u y=if y=x then F.u p else if F.u y=x then(p:Int) else if y=p\/F.u y=p then(x:Int) else F.u y:=by
 obtain⟨hp,hm⟩:=h.above hx hu
 show(if y=x then F.u p else if(y:Int)∈F.k x then(p:Int) else if(y:Int)∈setAt (F.k p) x p then(x:Int) else F.u y)=_
 by_cases e:y=x
 ·rw[Δ e,Δ e]
 ·rw[Γ e,Γ e]
  by_cases e2:F.u y=x
  ·rw[Δ ((xY h hx hy).2 e2),Δ e2]
  ·rw[Γ (λhm2=>e2 ((xY h hx hy).1 hm2)),Γ e2];have e3:(y:Int)∈setAt (F.k p) x p↔(y=p\/F.u y=p):=by
    rw[qi (h.nd p hp) hm,xY h hp hy];constructor
    ·rintro(h1|⟨h1,_⟩)
     ·exact Α ω
     ·exact Β h1
    ·rintro(h1|h1)
     ·exact Α ω
     ·exact Β ⟨h1,ω⟩
   by_cases e4:y=p\/F.u y=p
   ·rw[Δ (e3.2 e4),Δ e4]
   ·rw[Γ (λhm2=>e4 (e3.1 hm2)),Γ e4]
theorem uP(h:pI n F){x p:Nat}(hx:x<n)(hu:F.u x=p){y r:Nat}(hy:y<n)(hr:(tN F x p (F.u p)).u y=r) :
  (y=x/\F.u p=r)\/(y≠x/\F.u y=x/\r=p)\/(y=p/\r=x)\/(y≠x/\y≠p/\F.u y=p/\r=x)\/(y≠x/\y≠p/\F.u y=r/\r≠x/\r≠p):=by
 rw[F8 h hx hu hy] at hr
 by_cases e:y=x
 ·rw[Δ e] at hr;exact Α ⟨e,hr⟩
 ·rw[Γ e] at hr
  by_cases e2:F.u y=x
  ·rw[Δ e2] at hr;exact Β (Α ⟨e,e2,ω⟩)
  ·rw[Γ e2] at hr
   by_cases e3:y=p\/F.u y=p
   ·rw[Δ e3] at hr
    by_cases e4:y=p
    ·exact Β (Β (Α ⟨e4,ω⟩))
    ·exact Β (Β (Β (Α ⟨e,e4,e3.resolve_left e4,ω⟩)))
   ·rw[Γ e3] at hr;exact Β (Β (Β (Β ⟨e,λe4=>e3 (Α e4),hr,λe5=>e2 ω,λe5=>e3 (Β ω)⟩)))
theorem rV(h:pI n F){x p:Nat}(hx:x<n)(hu:F.u x=p){y:Nat}(hy:y<n):(tN F x p (F.u p)).u y=-1↔(y=x/\F.u p=-1)\/(y≠x/\y≠p/\F.u y=-1):=by
 rw[F8 h hx hu hy]
 by_cases e:y=x
 ·rw[Δ e];exact⟨λh=>Α ⟨e,h⟩,λh=>by rcases h with h|h;exact h.2;exact absurd e h.1⟩
 ·rw[Γ e]
  by_cases e2:F.u y=x
  ·rw[Δ e2];exact⟨λh=>ω,λh=>by rcases h with h|h;exact absurd h.1 e;omega⟩
  ·rw[Γ e2]
   by_cases e3:y=p\/F.u y=p
   ·rw[Δ e3];exact⟨λh=>ω,λh=>by rcases h with h|h;exact absurd h.1 e;rcases e3 with e3|e3;exact absurd e3 h.2.1;omega⟩
   ·rw[Γ e3];exact⟨λh=>Β ⟨e,λe4=>e3 (Α e4),h⟩,λh=>by rcases h with h|h;exact absurd h.1 e;exact h.2.2⟩
end
section
variable{A:NS}{G:BG}{x p:Nat}
theorem Br(h:EY A G x)(hx:x<A.cs.length)(hu:G.F.u x=p){k:Nat}{z:Int}(hz:z∈G.R k) :
  0<=KX x p (G.F.u p) z/\KX x p (G.F.u p) z<A.cs.length/\(su G x p).F.u (KX x p (G.F.u p) z).toNat=-1/\dW A.cs.length (su G x p).F (KX x p (G.F.u p) z)=dW A.cs.length G.F z/\(A.c (KX x p (G.F.u p) z).toNat).i=(A.c z.toNat).i:=by
 obtain⟨hp,hm⟩:=h.fh.f.above hx hu;have hne:p≠x:=λe=>by subst e;exact h.fh.f.self hx hm
 have hr:=(h.rh.row k).1 z hz;obtain⟨y,rfl⟩:=Int.eq_ofNat_of_zero_le hr.1;rw[π] at hr;have hy:y<A.cs.length:=ω;unfold KX
 by_cases e:(y:Int)=p/\G.F.u p=-1
 ·rw[Δ e,π,π];obtain rfl:y=p:=ω;refine⟨ω,ω,(rV h.fh.f hx hu hx).2 (Α ⟨rfl,e.2⟩),?_,(h.fh.home x y hx hu).1⟩;rw[fK _ _ hx,fK _ _ hy]
  show(((tN G.F x y (G.F.u y)).k x).length:Int)=_
  rw[uZ,Δ rfl]
 ·rw[Γ e,π];have hyp:y≠p:=λe2=>by subst e2;exact e ⟨rfl,hr.2.2⟩
  have hyx:y≠x:=λe2=>by subst e2;omega
  refine⟨ω,ω,(rV h.fh.f hx hu hy).2 (Β ⟨hyx,hyp,hr.2.2⟩),?_,rfl⟩;rw[fK _ _ hy,fK _ _ hy]
  show(((tN G.F x p (G.F.u p)).k y).length:Int)=_
  rw[uZ,Γ hyx,Γ hyp]
theorem BK(h:EY A G x)(hx:x<A.cs.length)(hu:G.F.u x=p):EY A (su G x p) x:=by
 obtain⟨hp,hm⟩:=h.fh.f.above hx hu;have hne:p≠x:=λe=>by subst e;exact h.fh.f.self hx hm
 have hxp:=h.fh.home x p hx hu;have hqx:∀q:Nat,G.F.u p=q->q≠x:=λq hq e=>by
  have d1:=h.fh.f.O6 hx hu;have d2:=h.fh.f.O6 hp hq;subst e;omega
 refine⟨⟨UW h.fh.f hx hu,λy r hy hr=>?_,λy r hy hr hyx hrx=>?_,λy hy hh=>?_⟩,λq c hc h1 h2=>?_,⟨λk=>⟨λz hz=>?_,?_⟩,λk y=>⟨λhm2=>?_,λhm2=>?_⟩⟩,λk hk=>?_⟩
 ·rcases uP h.fh.f hx hu hy hr with⟨e,h2⟩|⟨_,h2,e⟩|⟨e,e2⟩|⟨_,_,h2,e⟩|⟨_,_,h2,_,_⟩
  ·subst e;have:=h.fh.home p r hp h2;exact⟨hxp.1.trans this.1,hxp.2⟩
  ·subst e;have:=h.fh.home y x hy h2;exact⟨this.1.trans hxp.1,this.2⟩
  ·subst e e2;exact⟨hxp.1.symm,by rw[←hxp.1];exact hxp.2⟩
  ·subst e;have:=h.fh.home y p hy h2;exact⟨this.1.trans hxp.1.symm,this.2⟩
  ·exact h.fh.home y r hy h2
 ·rcases uP h.fh.f hx hu hy hr with⟨e,h2⟩|⟨_,h2,e⟩|⟨e,e2⟩|⟨_,_,h2,e⟩|⟨_,_,h2,_,_⟩
  ·exact absurd e hyx
  ·subst e;exact h.two r y hy hu h2
  ·exact absurd e2 hrx
  ·exact absurd e hrx
  ·exact h.fh.ord y r hy h2 hyx hrx
 ·have h0:=h.fh.alone y hy hh;have hyx:y≠x:=λe=>by subst e;exact hh hxp.2
  have hyp:y≠p:=λe=>by subst e;exact hh (by rw[←hxp.1];exact hxp.2)
  refine⟨(rV h.fh.f hx hu hy).2 (Β ⟨hyx,hyp,h0.1⟩),?_⟩;have:((tN G.F x p (G.F.u p)).k y).length=0:=by rw[uZ,Γ hyx,Γ hyp,h0.2];rfl
  exact Ϛ this
 ·have h3:G.F.u p=q:=by
   have:=F8 h.fh.f hx hu hx;rw[Δ rfl] at this;rw[←this];exact h1
  have hpq:=h.fh.ord p q hp h3 hne (hqx q h3);rcases uP h.fh.f hx hu hc h2 with⟨e,h4⟩|⟨_,h4,e⟩|⟨e,e2⟩|⟨e3,_,h4,e⟩|⟨_,_,h4,e3,_⟩
  ·exact absurd rfl (hqx x h4)
  ·exact absurd e.symm hne
  ·subst e;exact hpq
  ·exact dI hpq (h.fh.ord c p hc h4 e3 hne)
  ·exact absurd rfl e3
 ·obtain⟨z0,hz0,rfl⟩:=List.mem_map.1 hz;have:=Br h hx hu hz0;exact⟨this.1,this.2.1,this.2.2.1⟩
 ·show((G.R k).map _).Pairwise _
  rw[List.pairwise_map];exact(h.rh.row k).2.imp_of_mem (λ{a b} ha hb hab=>by rw[(Br h hx hu ha).2.2.2.1,(Br h hx hu hb).2.2.2.1];exact hab)
 ·obtain⟨z0,hz0,e⟩:=List.mem_map.1 hm2;have h1:=Br h hx hu hz0;rw[e] at h1;rw[π] at h1;have hr:=(h.rh.row k).1 z0 hz0;have h2:=(h.rh.mem k z0.toNat).1 (by rw[show((z0.toNat:Nat):Int)=z0 by omega];exact hz0);exact⟨h2.1,ω,h1.2.2.1,by show(A.c y).i=(k:Int);rw[h1.2.2.2.2];exact h2.2.2.2⟩
 ·obtain⟨k1,hy,hr,hh⟩:=hm2
  show(y:Int)∈(G.R k).map _
  rw[List.mem_map];rcases(rV h.fh.f hx hu hy).1 hr with⟨e,h2⟩|⟨hyx,hyp,h2⟩
  ·subst e;refine⟨(p:Int),(h.rh.mem k p).2 ⟨k1,hp,h2,?_⟩,by unfold KX;rw[Δ ⟨rfl,h2⟩]⟩;have e9:(A.c y).i=(A.c p).i:=hxp.1
   show(A.c p).i=(k:Int)
   rw[←e9];exact hh
  ·exact⟨(y:Int),(h.rh.mem k y).2 ⟨k1,hy,h2,hh⟩,by unfold KX;rw[Γ (λe=>hyp ω)]⟩
 ·rw[←h.w k hk];unfold wt
  show(((G.R k).map _).map _).sum=_
  rw[List.map_map]
  congr 1
  exact List.map_congr_left (λz hz=>by simp only[Function.comp];rw[(Br h hx hu hz).2.2.2.1])
theorem Qd(h:EY A G x)(hx:x<A.cs.length)(hu:G.F.u x=p)(hk:∀c:Nat,c<A.cs.length->G.F.u c=x->dB A x c)(hl:dB A x p) :
  ∀c:Nat,c<A.cs.length->(su G x p).F.u c=x->dB A x c:=λc hc h2=>by
 obtain⟨hp,hm⟩:=h.fh.f.above hx hu;have hne:p≠x:=λe=>by subst e;exact h.fh.f.self hx hm
 rcases uP h.fh.f hx hu hc h2 with⟨e,h4⟩|⟨_,h4,e⟩|⟨e,e2⟩|⟨e3,_,h4,e⟩|⟨_,_,h4,e3,_⟩
 ·have d1:=h.fh.f.O6 hx hu;have d2:=h.fh.f.O6 hp h4;omega
 ·exact absurd e.symm hne
 ·subst e;exact hl
 ·exact dI hl (h.fh.ord c p hc h4 e3 hne)
 ·exact absurd rfl e3
theorem EY.done(h:EY A G x)(hx:x<A.cs.length)(hk:∀c:Nat,c<A.cs.length->G.F.u c=x->dB A x c)(ht:∀p:Nat,G.F.u x=p->dB A p x):zY A G:=by
 refine⟨⟨h.fh.f,h.fh.home,λy r hy hr=>?_,h.fh.alone⟩,h.rh,h.w⟩
 by_cases e1:y=x
 ·subst e1;exact ht r hr
 ·by_cases e2:r=x
  ·subst e2;exact hk y hy hr
  ·exact h.fh.ord y r hy hr e1 e2
theorem Da{k s:Int}(h:zY A G)(hB:jf A x k s=true)(hx:x<A.cs.length):EY (aA A x k s) G x/\∀c:Nat,c<A.cs.length->G.F.u c=x->dB (aA A x k s) x c:=by
 have hc:=λy=>uo hB hx y;have hi:=λy=>iH hB hx y;have hle:=uJ hB;rw[π] at hle;have hne:∀y r:Nat,y<A.cs.length->G.F.u y=r->y≠r:=λy r hy hu e=>by
  subst e;exact h.fh.f.self hy (h.fh.f.above hy hu).2
 have low:∀y:Nat,y≠x->dB A x y->dB (aA A x k s) x y:=λy hy hl=>mD hl (by rw[hc,Γ hy]) (by rw[hc,Δ rfl];exact hle);have same:∀y r:Nat,y≠x->r≠x->dB A y r->dB (aA A x k s) y r:=λy r h1 h2 hl=>(fE (by rw[hc,Γ h1]) (by rw[hc,Γ h2])).2 hl;have hn:=gD A x k s;have hw:∀q:Nat,dD (aA A x k s) q=dD A q:=λq=>by
  unfold aA;rw[Δ hB,π];have e:=nT A x ⟨(A.c x).i,k,s⟩ q hx;simp only at e;omega
 refine⟨⟨⟨by rw[hn];exact h.fh.f,λy r hy hr=>?_,λy r hy hr e1 e2=>?_,λy hy hh=>?_⟩,λq c hc' h1 h2=>?_,⟨λq=>by rw[hn];exact h.rh.row q,λq y=>?_⟩,λq hq=>by rw[hn,hw];exact h.w q hq⟩,λc hc' hu=>?_⟩
 ·rw[hn] at hy;simp only[hi];exact h.fh.home y r hy hr
 ·rw[hn] at hy;exact same r y e2 e1 (h.fh.ord y r hy hr)
 ·rw[hn] at hy;simp only[hi] at hh;exact h.fh.alone y hy hh
 ·rw[hn] at hc';have h3:=h.fh.ord x q hx h1;have h4:=h.fh.ord c x hc' h2;exact same q c (λe=>hne x q hx h1 e.symm) (hne c x hc' h2) (dI h3 h4)
 ·rw[hn];simp only[hi];exact h.rh.mem q y
 ·exact low c (hne c x hc' hu) (h.fh.ord c x hc' hu)
end
theorem mO(A:NS)(a b:Int)(h:dA A a b=true):dA A b a=false:=by
 unfold dA at *;simp only[Τ,Ο] at h;have:=p9 h.2;simp[this]
theorem xG{A:NS}{y p:Nat}(hy:bY A (y:Int)=true)(hp:bY A (p:Int)=true)(hne:y≠p)(h:dA A y p=false):dB A p y:=by
 rw[mi,hy,hp] at h;simp only[Bool.and_self,Bool.true_and,decide_eq_false_iff_not] at h;exact(jc hne).resolve_left h
def iE(G:BG)(h x:Nat):BG:=⟨fT G.F x,cO G.R h ((G.R h).filter (λz=>z != (x:Int)))⟩
def qF(A:NS)(h x:Nat)(G:BG):BG:=wh (dA A) A.cs.length h (G.F.k x) (iE G h x)
def xE(A:NS)(h x:Nat)(G:BG):Nat:=(jK (dA A) A.cs.length (iE G h x).F ((iE G h x).R h) (G.F.k x)).q
theorem J4{l:List Int}(hn:l.Nodup){x:Int}(hx:x∈l):(l.filter (λz=>z != x)).length+1=l.length:=by
 induction l with
 |nil=>cases hx
 |cons y r ih=>
  rw[Ζ] at hn;rcases ρ.1 hx with e|h
  ·subst e;have:r.filter (λz=>z != x)=r:=by
    rw[List.filter_eq_self];intro a ha;simp;intro e;subst e;exact hn.1 ha
   rw[List.filter_cons_of_neg σ,this];simp
  ·have hne:y≠x:=λe=>by subst e;exact hn.1 h
   rw[List.filter_cons_of_pos (by simpa using hne)];have:=ih hn.2 h;simp only[Ω];omega
theorem OP{n:Nat}{F:CF}{l:List Int}(hn:l.Nodup){x:Int}(hx:x∈l):wt n F (l.filter (λz=>z != x))+2 ^ (dW n F x).toNat=wt n F l:=by
 have hc:∀(y:Int) (l:List Int),wt n F (y::l)=2 ^ (dW n F y).toNat + wt n F l:=λy l=>by unfold wt;simp
 induction l with
 |nil=>cases hx
 |cons y r ih=>
  rw[Ζ] at hn;rcases ρ.1 hx with e|h
  ·subst e;have:r.filter (λz=>z != x)=r:=by
    rw[List.filter_eq_self];intro a ha;simp;intro e;subst e;exact hn.1 ha
   rw[List.filter_cons_of_neg σ,this,hc];omega
  ·have hne:y≠x:=λe=>by subst e;exact hn.1 h
   rw[List.filter_cons_of_pos (by simpa using hne),hc,hc];have:=ih hn.2 h;omega
section
variable{A:NS}{G:BG}{h x:Nat}
theorem F7(B:EY A G x)(ok:A.Ok)(hx:x<A.cs.length)(hr:G.F.u x=-1)(hin:0<(A.c x).i)(hh:(A.c x).i=h) :
  zY (bg A x) (qF A h x G)/\xE A h x G+((qF A h x G).R h).length+1=(G.R h).length+(G.F.k x).length/\(x:Int)∈G.R h/\
   lJ A.cs.length (fT G.F x) ((G.R h).filter (λz=>z != (x:Int)))/\lJ A.cs.length (fT G.F x) (G.F.k x)/\(∀z,z∈(G.R h).filter (λz=>z != (x:Int))->z∉G.F.k x)/\pI A.cs.length (fT G.F x)/\
   (∀z,z∈G.R h\/z∈G.F.k x->bY A z=true):=by
 have Cj:1<=h:=ω;have hn:=ok.c1;have inx:bY A (x:Int)=true:=(aj _ _).2 ⟨hx,hin⟩;have hc:=λy=>yA inx y;have hcs:=fD A (x:Int);have dn:=B.fh.f.nd x hx;have ku:∀z,z∈G.F.k x->∃y:Nat,z=y/\y<A.cs.length/\G.F.u y=x:=λz hz=>by
  obtain⟨y,h1,h2,h3,_⟩:=B.fh.f.below hx hz;exact⟨y,h1,h2,h3⟩
 have sx:(x:Int)∉G.F.k x:=B.fh.f.self hx;have dS:∀z:Int,z≠x->dW A.cs.length (fT G.F x) z=dW A.cs.length G.F z:=λz hz=>by
  unfold dW fT;simp only
  by_cases h0:0<=z/\z<A.cs.length
  ·rw[Δ h0,Δ h0,Γ ω]
  ·rw[Γ h0,Γ h0]
 have uS:∀z:Int,0<=z->G.F.u z.toNat=-1->(fT G.F x).u z.toNat=-1:=λz h0 hu=>by
  unfold fT;simp only
  split
  ·rfl
  ·exact hu
 have kU:∀z,z∈G.F.k x->(fT G.F x).u z.toNat=-1:=λz hz=>by
  obtain⟨y,rfl,_,_⟩:=ku z hz;unfold fT;simp only[π];rw[Δ hz]
 have mx:(x:Int)∈G.R h:=(B.rh.mem h x).2 ⟨Cj,hx,hr,hh⟩;have hrow:∀k,lJ A.cs.length (fT G.F x) ((iE G h x).R k):=λk=>by
  have base:∀l:List Int,lJ A.cs.length G.F l->(x:Int)∉l->lJ A.cs.length (fT G.F x) l:=λl hl hxl=>by
   refine⟨λz hz=>?_,hl.2.imp_of_mem (λ{a b} ha hb hab=>?_)⟩
   ·have:=hl.1 z hz;exact⟨this.1,this.2.1,uS z this.1 this.2.2⟩
   ·rw[dS a (λe=>hxl (e▸ha)),dS b (λe=>hxl (e▸hb))];exact hab
  unfold iE cO;simp only
  split
  ·refine base _ ⟨λz hz=>(B.rh.row h).1 z (List.mem_filter.1 hz).1,(B.rh.row h).2.filter _⟩ (λhm=>by simp at hm)
  ·rename_i hk
   exact base _ (B.rh.row k) (λhm=>hk (by have:=((B.rh.mem k x).1 hm).2.2.2;omega))
 have hl:lJ A.cs.length (fT G.F x) (G.F.k x):=TR B.fh.f hx (λz hz=>dS z (λe=>sx (e▸hz))) kU;have hd:∀z,z∈(iE G h x).R h->z∉G.F.k x:=λz hz hk=>by
  unfold iE cO at hz;simp only[if_true] at hz;obtain⟨y,rfl,hy,hu⟩:=ku z hk;have:=((B.rh.mem h y).1 (List.mem_filter.1 hz).1).2.2.1;omega
 have hF:FH A.cs.length (fT G.F x) (λy=>((bg A x).c y).i) (dB (bg A x)):=by
  refine⟨B.fh.f.Uk hx hr,λy p hy hu=>?_,λy p hy hu=>?_,λy hy h0=>?_⟩
  all_goals unfold fT at *;simp only at *
  ·split at hu
   ·omega
   ·rename_i hk
    have hyx:y≠x:=λe=>by subst e;omega
    have hpx:p≠x:=λe=>by subst e;exact hk (B.fh.f.above hy hu).2
    rw[hc,hc,Γ hyx,Γ hpx];exact B.fh.home y p hy hu
  ·split at hu
   ·omega
   ·rename_i hk
    have hyx:y≠x:=λe=>by subst e;omega
    have hpx:p≠x:=λe=>by subst e;exact hk (B.fh.f.above hy hu).2
    exact(fE (by rw[hc,Γ hpx]) (by rw[hc,Γ hyx])).2 (B.fh.ord y p hy hu hyx hpx)
  ·by_cases hyx:y=x
   ·subst hyx;exact⟨by rw[Γ sx];exact hr,by rw[Δ rfl]⟩
   ·rw[hc,Γ hyx] at h0;have:=B.fh.alone y hy h0;rw[Γ hyx,this.2];exact⟨by split;rfl;exact this.1,rfl⟩
 have hL:∀y p:Nat,y<A.cs.length->p<A.cs.length->((bg A x).c y).i=(h:Int)->((bg A x).c p).i=(h:Int)->y≠p->dA A y p=false->dB (bg A x) p y:=λy p hy hp h1 h2 hne ha=>by
  have hyx:y≠x:=λe=>by rw[hc,Δ e] at h1;simp[Cl.z] at h1;omega
  have hpx:p≠x:=λe=>by rw[hc,Δ e] at h2;simp[Cl.z] at h2;omega
  rw[hc,Γ hyx] at h1;rw[hc,Γ hpx] at h2;exact(fE (by rw[hc,Γ hpx]) (by rw[hc,Γ hyx])).2 (xG ((aj _ _).2 ⟨hy,ω⟩) ((aj _ _).2 ⟨hp,ω⟩) hne ha)
 have hroot:∀y:Nat,y<A.cs.length->((fT G.F x).u y=-1↔G.F.u y=-1\/G.F.u y=x):=λy hy=>by
  unfold fT;simp only;have hk:=xY B.fh.f hx hy
  by_cases e:G.F.u y=x
  ·rw[Δ (hk.2 e)];exact⟨λ_=>Β e,λ_=>rfl⟩
  ·rw[Γ (λhm=>e (hk.1 hm))];exact⟨λh=>Α h,λh=>h.resolve_right e⟩
 have hmem:∀k y:Nat,k≠h->((y:Int)∈(iE G h x).R k↔1<=k/\y<A.cs.length/\(fT G.F x).u y=-1/\((bg A x).c y).i=(k:Int)):=λk y hk=>by
  unfold iE cO;simp only[Γ hk];rw[B.rh.mem k y];constructor
  ·rintro⟨a1,a2,a3,a4⟩;have hyx:y≠x:=λe=>by subst e;omega
   exact⟨a1,a2,(hroot y a2).2 (Α a3),by rw[hc,Γ hyx];exact a4⟩
  ·rintro⟨a1,a2,a3,a4⟩;have hyx:y≠x:=λe=>by rw[hc,Δ e] at a4;simp[Cl.z] at a4;omega
   rw[hc,Γ hyx] at a4;refine⟨a1,a2,((hroot y a2).1 a3).resolve_right (λe=>?_),a4⟩;have:=(B.fh.home y x a2 e).1;omega
 have hm:∀y:Nat,y<A.cs.length/\(fT G.F x).u y=-1/\((bg A x).c y).i=(h:Int)↔(y:Int)∈(iE G h x).R h\/(y:Int)∈G.F.k x:=λy=>by
  unfold iE cO;simp only[if_true,List.mem_filter,bne_iff_ne,ne_eq];rw[B.rh.mem h y];constructor
  ·rintro⟨a2,a3,a4⟩;have hyx:y≠x:=λe=>by rw[hc,Δ e] at a4;simp[Cl.z] at a4;omega
   rw[hc,Γ hyx] at a4;rcases(hroot y a2).1 a3 with e|e
   ·exact Α ⟨⟨Cj,a2,e,a4⟩,ω⟩
   ·exact Β ((xY B.fh.f hx a2).2 e)
  ·rintro(⟨⟨_,a2,a3,a4⟩,a5⟩|a1)
   ·exact⟨a2,(hroot y a2).2 (Α a3),by rw[hc,Γ ω];exact a4⟩
   ·obtain⟨z,e,a2,a3⟩:=ku _ a1;obtain rfl:y=z:=ω;have hyx:y≠x:=λe=>by subst e;exact sx a1
    refine⟨a2,(hroot y a2).2 (Β a3),?_⟩;rw[hc,Γ hyx];have:=(B.fh.home y x a2 a3).1;omega
 obtain⟨r1,r2,r3,r4⟩:=yC (G:=iE G h x) hF hn (mO A) hL Cj hrow hmem hm hl hd;have nd:(G.R h).Nodup:=(B.rh.row h).nodup;have eR:(iE G h x).R h=(G.R h).filter (λz=>z != (x:Int)):=by unfold iE cO;simp
 have fl:=J4 nd mx;refine⟨⟨by rw[hcs];exact r1,by rw[hcs];exact r2,λk hk=>?_⟩,?_,mx,by rw[←eR];exact hrow h,hl,by rw[←eR];exact hd,hF.f,λz hz=>?_⟩
 ·rw[hcs];have e1:wt A.cs.length (qF A h x G).F ((qF A h x G).R k)=_:=r3 k;rw[e1];have hlen:=nT A x Cl.z (k:Int) hx;have e2:bg A x=iW A x Cl.z:=by unfold bg;rw[Δ inx,π]
  rw[e2]
  by_cases ek:k=h
  ·subst ek;rw[Δ rfl,eR];rw[Δ ω,Γ (by simp[Cl.z];omega)] at hlen;have w1:=OP (F:=G.F) (n:=A.cs.length) nd mx;rw[fK _ _ hx,π] at w1;have w2:=XR (F':=fT G.F x) B.fh.f hx (λz hz=>dS z (λe=>sx (e▸hz)));have w3:wt A.cs.length (fT G.F x) ((G.R k).filter (λz=>z != (x:Int)))=wt A.cs.length G.F ((G.R k).filter (λz=>z != (x:Int))):=Ag (λz hz=>dS z (by simpa using(List.mem_filter.1 hz).2));have w4:=B.w k hk
   show wt A.cs.length (fT G.F x) _+wt A.cs.length (fT G.F x) _=_
   omega
  ·rw[Γ ek];rw[Γ ω,Γ (by simp[Cl.z];omega)] at hlen;have eK:(iE G h x).R k=G.R k:=by unfold iE cO;simp only[Γ ek]
   rw[eK];have w4:=B.w k hk
   have w3:wt A.cs.length (fT G.F x) (G.R k)=wt A.cs.length G.F (G.R k):=Ag (λz hz=>dS z (λe=>by
    subst e;have:=((B.rh.mem k x).1 hz).2.2.2
    omega))
   show wt A.cs.length (fT G.F x) _=_
   omega
 ·rw[eR] at r4;have e3:xE A h x G=(jK (dA A) A.cs.length (iE G h x).F ((G.R h).filter (λz=>z != (x:Int))) (G.F.k x)).q:=by unfold xE;rw[eR]
  rw[e3];have e4:(qF A h x G).R h=(wh (dA A) A.cs.length h (G.F.k x) (iE G h x)).R h:=rfl;rw[e4];omega
 ·rcases hz with hz|hz
  ·have hr:=(B.rh.row h).1 z hz;have:=(B.rh.mem h z.toNat).1 (by rw[show((z.toNat:Nat):Int)=z by omega];exact hz);exact(zV _ _).2 ⟨hr.1,hr.2.1,by have:=this.2.2.2;omega⟩
  ·obtain⟨y,rfl,hy,hu⟩:=ku z hz;exact(aj _ _).2 ⟨hy,(B.fh.home y x hy hu).2⟩
end
end Go.Proofs.YtnpdakpagnpanaaGreat
