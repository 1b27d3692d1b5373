/-
  Lemmas for PqOpens: Carry, Carry2, Carry3, Carry5, Carry6, Off, Carry8, CarryLink, KarDef, KOrd, Kar7, Kar9, Kar10, KarPl, KarPl2, KarLaw, BnP, BnQ, BnR, BnS, OwnS, Bn, Bn2, Bn3, Bn4, Bn5, Bn8, BnW. Conditions: those of each lemma.
-/
import Derived.Deep.RegionHeldLaw
import Derived.ArgAppend
import Derived.Outline
import Derived.Lib.SliceRun
import Derived.IntWalk
import Derived.Deep.LoopGhost
import Derived.Test.YtnpdakpagnpanaaGreatD02
set_option linter.all false
set_option maxHeartbeats 8000000
set_option maxRecDepth 10000
namespace Go.Proofs.YtnpdakpagnpanaaGreat
open Go Go.RowKit
structure CS where
 v:Nat->Value
 k:Nat->List Int
 u:Nat->Int
def CS.none:CS:=⟨λ_=>.slice Option.none 0 0,λ_=>[],λ_=>-1⟩
def fV (S:CS) (j:Nat):Value:=if j % 2=0 then S.v (j / 2) else .int .i64 (S.u (j / 2))
theorem oO (S:CS) (x:Nat):fV S (x*2)=S.v x:=by unfold fV;rw [Δ ω,show x*2 / 2=x by omega]
theorem o9 (S:CS) (x:Nat):fV S (x*2+1)=.int .i64 (S.u x):=by unfold fV;rw [Γ ω,show (x*2+1) / 2=x by omega]
def CS.blk (S:CS) (n:Nat):List Nat:=(List.range n).filterMap (λx=>(S.v x).ownBlock)
theorem CS.iG (S:CS) (n g:Nat):g∈S.blk n↔∃x,x<n/\(S.v x).ownBlock=some g:=by unfold CS.blk;simp
structure aJ (w:World) (bt ba lo n:Nat) (S:CS):Prop where
 head:ak w bt 231 1 (λ_=>.slice (some ⟨ba,0,none⟩) n n)
 row:ak w ba 233 (n*2) (fV S)
 own:∀x,x<n->w.ownsRow lo 3 1 (S.v x) (S.k x).length (bD (S.k x))
 sep:∀x y,x<n->y<n->x≠y->∀g,(S.v x).ownBlock=some g->(S.v y).ownBlock≠some g
 ne:bt≠ba
 EE:bt<lo
 BR:ba<lo
 low:lo<=w.heap.size
 le:n<=65536
 len:∀x,x<n->(S.k x).length<=n
theorem aJ.iy {w:World} {bt ba lo n:Nat} {S:CS} (h:aJ w bt ba lo n S) {g:Nat} (hg:g∈S.blk n):lo<=g/\g<w.heap.size:=by
 obtain ⟨x,hx,he⟩:=(S.iG n g).1 hg;exact (h.own x hx).lt g he
theorem aJ.upd {w w':World} {F:List Nat} {bt ba lo n:Nat} {S:CS} (h:aJ w bt ba lo n S) (hu:aa F w w') (h1:bt∉F) (h2:ba∉F) (h3:∀g,g∈S.blk n->g∉F):aJ w' bt ba lo n S:=
 ⟨h.head.upd hu h1,h.row.upd hu h2,λx hx=>ay (h.own x hx) hu (λk hk=>h3 k ((S.iG n k).2 ⟨x,hx,hk⟩)),h.sep,h.ne,h.EE,h.BR,Χ h.low hu.size,h.le,h.len⟩
theorem aJ.ah {w w':World} {bt ba lo n:Nat} {S:CS} (h:aJ w bt ba lo n S) (hu:aa [] w w'):aJ w' bt ba lo n S:=h.upd hu σ σ σ
theorem nodeInfo:(Tryz.prog.info? 233).map (λi=>(i.zero,i.size,i.bytes))=some (some (.agg #[.slice none 0 0,.int .i64 0]),2,32):=by kernel_rfl
theorem qo (n:Nat) (w:World) (h:n<=65536) :
  Calls Tryz.prog 86 #[.int .i64 (n:Int)] w λe w'=>∃bt ba,e=.returned (.tuple #[.pointer (some ⟨bt,0,none⟩),.int .i64 0])/\aJ w' bt ba w'.heap.size n CS.none/\aa [] w w'/\w.heap.size<=bt/\w.heap.size<=ba:=by
 go_enter Tryz.func86,Tryz.ntmps86
 go_wp2_with (at_make;refine wpList_make_row rfl _ 229 rfl 233 (.agg #[.slice none 0 0,.int .i64 0]) 2 32 Tryz.underlying229 nodeInfo n rfl ω μ ?_;intro w1 hr1 hu1)
 have hlt:=hr1.lt;have hz:∀j,j<n*2->(madeCells (Value.agg #[.slice none 0 0,.int .i64 0]).cells (n*2)).toList.getD j undef=if j % 2=0 then .slice none 0 0 else .int .i64 0:=λj hj=>by
  rw [show (Value.agg #[.slice none 0 0,.int .i64 0]).cells=#[Value.slice none 0 0,Value.int .i64 0] from rfl];unfold madeCells;simp [φ,hj];rcases (ω:j % 2=0\/j % 2=1) with h2|h2<;>simp [h2]
 go_loopw [21] (λi wr=>∃ (k:Nat) (f:Nat->Value),k<=n/\i=.int .i64 k/\ak wr w1.heap.size 231 1 (λ_=>.slice (some ⟨w.heap.size,0,none⟩) n n)/\ak wr w.heap.size 233 (n*2) f/\(∀j,j<n*2->f j=if j % 2=0 then .slice none 0 0 else .int .i64 (if j<k*2 then -1 else 0))/\aa [] w wr) (λi _=>n-(intOf i).toNat)
 case atStart=>exact ⟨0,_,ω,rfl,aY _ _ _ |>.ext (λj hj=>by simp at hj;subst hj;rfl),hr1.alloc _,λj hj=>by rw [hz j hj,Γ (show ¬j<0*2 by omega)],hu1.alloc _⟩
 case round=>
  obtain ⟨k,f,hk,rfl,hH,hR,hf,hu⟩:=hrel;have HZ:=χ hz;clear hz
  by_cases hkn:k<n
  ·have c0:=hH.cell 0 ω;have d1:=hR.cell (k*2+1) ω;have e1:=hR.free (k*2+1);have HF:=χ hf;clear hf;go_wp2
   go_roundw
   case rel=>
    refine ⟨k+1,_,ω,by go_num,hH.far _ _ ζ,hR.set _ _,λj hj=>?_,hu.setCell (Β σ) _⟩
    by_cases hj1:j=k*2+1
    ·subst hj1;rw [Δ rfl,Γ ω,Δ ω]
    ·rw [Γ hj1,HF.out j hj]
     by_cases h2:j % 2=0
     ·rw [Δ h2,Δ h2]
     ·rw [Γ h2,Γ h2]
      by_cases h3:j<k*2
      ·rw [Δ h3,Δ ω]
      ·rw [Γ h3,Γ ω]
   case measure=>simp [intOf];omega
  ·obtain rfl:k=n:=ω;go_wp2;go_ret2;exact ⟨_,_,rfl,⟨hH,hR.ext (λj hj=>by rw [hf j hj,Δ (show j<k*2 by omega)];rfl),λx hx=>World.ownsRow_nil _ _ _ _,λx y _ _ _ g hg=>by simp [CS.none,Value.ownBlock] at hg,by omega,hH.lt,hR.lt,Θ _,h,λx hx=>Nat.zero_le _⟩,hu,hu1.size,Θ _⟩
theorem jr (bt ba lo n:Nat) (S:CS) (x:Int) (w:World) (h:aJ w bt ba lo n S) (b:Bool) (hb:b=decide (0<=x/\x<n)) :
  Calls Tryz.prog 186 #[.pointer (some ⟨bt,0,none⟩),.int .i64 x] w λe w'=>e=.returned (.bool b)/\w'=w:=by
 have hle:=h.le;have c0:=h.head.cell 0 ω;clear h;subst hb
 by_cases h0:0<=x
 ·by_cases h1:x<n
  ·go_enter Tryz.func186,Tryz.ntmps186
   go_wp2;go_ret;exact ⟨aP (by simp [h0,h1]),rfl⟩
  ·go_enter Tryz.func186,Tryz.ntmps186
   go_wp2;go_ret;exact ⟨aP (by simp [h0,h1]),rfl⟩
 ·go_enter Tryz.func186,Tryz.ntmps186
  go_wp2;go_ret;exact ⟨aP ζ,rfl⟩
def iK (n:Nat) (S:CS) (x:Int):Bool:=decide (0<=x/\x<n) && S.u x.toNat == -1
def gH (n:Nat) (S:CS) (x:Int):Int:=if 0<=x/\x<n then (S.k x.toNat).length else 0
theorem nN (bt ba lo n:Nat) (S:CS) (x:Int) (w:World) (h:aJ w bt ba lo n S) :
  Calls Tryz.prog 189 #[.pointer (some ⟨bt,0,none⟩),.int .i64 x] w λe w'=>e=.returned (.bool (iK n S x))/\w'=w:=by
 by_cases hx:0<=x/\x<n
 ·obtain ⟨k,rfl⟩:∃k:Nat,x=k:=⟨x.toNat,ω⟩;have hk:k<n:=ω;have hle:=h.le;have c0:=h.head.cell 0 ω;have d1:=h.row.cellAt (k*2+1) ω (o9 S k);have k1:=jr bt ba lo n S k w h true (by simp [hk]);have e:iK n S k=(S.u k == -1):=by unfold iK;rw [Ν hx];simp
  rw [e];clear h e hx;generalize S.u k=u at *
  go_enter Tryz.func189,Tryz.ntmps189
  go_wp2_with (go_at_call 186;refine (k1).mono ?_;rintro e w' ⟨rfl,rfl⟩)
  go_ret;exact ⟨rfl,rfl⟩
 ·have k1:=jr bt ba lo n S x w h false (by simpa using hx);have e:iK n S x=false:=by unfold iK;rw [Ξ hx];rfl
  rw [e];clear h e hx
  go_enter Tryz.func189,Tryz.ntmps189
  go_wp2_with (go_at_call 186;refine (k1).mono ?_;rintro e w' ⟨rfl,rfl⟩)
  go_ret;exact ⟨rfl,rfl⟩
theorem iE (bt ba lo n:Nat) (S:CS) (x:Int) (w:World) (h:aJ w bt ba lo n S) :
  Calls Tryz.prog 194 #[.pointer (some ⟨bt,0,none⟩),.int .i64 x] w λe w'=>e=.returned (.int .i64 (gH n S x))/\w'=w:=by
 by_cases hx:0<=x/\x<n
 ·obtain ⟨k,rfl⟩:∃k:Nat,x=k:=⟨x.toNat,ω⟩;have hk:k<n:=ω;have hle:=h.le;have c0:=h.head.cell 0 ω;obtain ⟨a,cap,hv,_⟩:=bM (h.own k hk);have d0:=h.row.cellAt (k*2) ω ((oO S k).trans hv);have k1:=jr bt ba lo n S k w h true (by simp [hk]);have e:gH n S k=((S.k k).length:Int):=by unfold gH;rw [Δ hx];simp
  rw [e];clear h e hx hv;generalize (S.k k).length=u at *
  go_enter Tryz.func194,Tryz.ntmps194
  go_wp2_with (go_at_call 186;refine (k1).mono ?_;rintro e w' ⟨rfl,rfl⟩)
  go_ret;exact ⟨rfl,rfl⟩
 ·have k1:=jr bt ba lo n S x w h false (by simpa using hx);have e:gH n S x=0:=by unfold gH;rw [Γ hx]
  rw [e];clear h e hx
  go_enter Tryz.func194,Tryz.ntmps194
  go_wp2_with (go_at_call 186;refine (k1).mono ?_;rintro e w' ⟨rfl,rfl⟩)
  go_ret;exact ⟨rfl,rfl⟩
def rowOk (n:Nat) (S:CS) (l:List Int) (i:Nat):Bool:=iK n S (l.getD i 0) && (i == 0 || decide (gH n S (l.getD (i-1) 0)<gH n S (l.getD i 0)))
def j5 (n:Nat) (S:CS) (l:List Int) (j:Nat):Bool:=(List.range j).all (rowOk n S l)
theorem ui (n:Nat) (S:CS) (l:List Int) (j:Nat):j5 n S l (j+1)=(j5 n S l j && rowOk n S l j):=by
 unfold j5;rw [List.range_succ,List.all_append];simp
theorem zH (n:Nat) (S:CS) (l:List Int) (j:Nat) (h:j5 n S l j=true) (hj:rowOk n S l j=false) (m:Nat) (hm:j<m):j5 n S l m=false:=by
 unfold j5;rw [List.all_eq_false];exact ⟨j,by simp [hm],by simp [hj]⟩
def yC (n:Nat) (S:CS) (l:List Int):Bool:=j5 n S l l.length
def CS.nV (S:CS) (x:Nat) (v:Value) (l:List Int):CS:=⟨λy=>if y=x then v else S.v y,λy=>if y=x then l else S.k y,S.u⟩
def CS.nU (S:CS) (x:Nat) (p:Int):CS:=⟨S.v,S.k,λy=>if y=x then p else S.u y⟩
theorem CS.Ak (S:CS) (x:Nat) (v:Value) (l:List Int) (n g:Nat) (h:g∈(S.nV x v l).blk n):g∈S.blk n\/v.ownBlock=some g:=by
 obtain ⟨y,hy,he⟩:=(CS.iG _ n g).1 h;unfold CS.nV at he;simp only at he
 split at he
 ·exact Β he
 ·exact Α ((CS.iG _ n g).2 ⟨y,hy,he⟩)
theorem aJ.bL {w:World} {bt ba lo n:Nat} {S:CS} (h:aJ w bt ba lo n S) (x:Nat) (hx:x<n) (p:Int):aJ (w.setCell ⟨ba,x*2+1,none⟩ (.int .i64 p)) bt ba lo n (S.nU x p):=by
 have hu:aa [ba] w (w.setCell ⟨ba,x*2+1,none⟩ (.int .i64 p)):=(aa.refl _ _).setCell (Α σ) _;refine ⟨h.head.upd hu (by simp;exact h.ne),(h.row.set _ _).ext (λj hj=>?_),λy hy=>ay (h.own y hy) hu (λk hk hm=>?_),h.sep,h.ne,h.EE,h.BR,Χ h.low hu.size,h.le,h.len⟩
 ·unfold fV CS.nU;simp only
  by_cases hj1:j=x*2+1
  ·subst hj1;rw [Δ rfl,Γ ω,show (x*2+1) / 2=x by omega,Δ rfl]
  ·rw [Γ hj1]
   by_cases h2:j % 2=0
   ·rw [Δ h2,Δ h2]
   ·rw [Γ h2,Γ h2,Γ ω]
 ·have:=((h.own y hy).lt k hk).1;have:=h.BR;simp at hm;omega
theorem aJ.DD {w w1:World} {bt ba lo n:Nat} {S:CS} (h:aJ w bt ba lo n S) (x:Nat) (hx:x<n) (v:Value) (l:List Int) {F:List Nat} (hu:aa F w w1) (hF:∀g,g∈F->(S.v x).ownBlock=some g)
  (ho:w1.ownsRow lo 3 1 v l.length (bD l)) (hb:∀g,v.ownBlock=some g->(S.v x).ownBlock=some g\/w.heap.size<=g) (hl:l.length<=n):aJ (w1.setCell ⟨ba,x*2,none⟩ v) bt ba lo n (S.nV x v l):=by
 have D5:∀g,g∈F->lo<=g/\g<w.heap.size:=λg hg=>(h.own x hx).lt g (hF g hg);have hl1:=h.EE;have hl2:=h.BR;have hu2:aa [ba] w1 (w1.setCell ⟨ba,x*2,none⟩ v):=(aa.refl _ _).setCell (Α σ) _;have hr:=h.row.upd hu (λhm=>by have:=D5 _ hm;omega);refine ⟨(h.head.upd hu (λhm=>by have:=D5 _ hm;omega)).upd hu2 (by simp;exact h.ne),(hr.set _ _).ext (λj hj=>?_),λy hy=>?_,?_,h.ne,h.EE,h.BR,Χ (Χ h.low hu.size) hu2.size,h.le,?_⟩
 ·unfold fV CS.nV;simp only
  by_cases hj1:j=x*2
  ·subst hj1;rw [Δ rfl,Δ ω,show (x*2) / 2=x by omega,Δ rfl]
  ·rw [Γ hj1]
   by_cases h2:j % 2=0
   ·rw [Δ h2,Δ h2,Γ ω]
   ·rw [Γ h2,Γ h2]
 ·unfold CS.nV;simp only
  by_cases hyx:y=x
  ·rw [Δ hyx,Δ hyx];exact ay ho hu2 (λk hk hm=>by have:=(ho.lt k hk).1;simp at hm;omega)
  ·rw [Γ hyx,Γ hyx];have h1:=h.own y hy;have h2:=ay h1 hu (λk hk hm=>h.sep y x hy hx hyx k hk (hF k hm));exact ay h2 hu2 (λk hk hm=>by have:=(h1.lt k hk).1;simp at hm;omega)
 ·intro y z hy hz Ih g hg;unfold CS.nV at hg ⊢;simp only at hg ⊢
  by_cases hyx:y=x
  ·rw [Δ hyx] at hg;rw [Γ (λe=>Ih (by rw [hyx,e]))];rcases hb g hg with h1|h1
   ·exact h.sep x z hx hz ω g h1
   ·intro h2;have:=((h.own z hz).lt g h2).2;omega
  ·rw [Γ hyx] at hg
   by_cases hzx:z=x
   ·rw [Δ hzx];intro h2;rcases hb g h2 with h1|h1
    ·exact h.sep y x hy hx hyx g hg h1
    ·have:=((h.own y hy).lt g hg).2;omega
   ·rw [Γ hzx];exact h.sep y z hy hz Ih g hg
 ·intro y hy;unfold CS.nV;simp only
  by_cases hyx:y=x
  ·rw [Δ hyx];exact hl
  ·rw [Γ hyx];exact h.len y hy
def idxOf (l:List Int) (x:Int):Int:=match l.findIdx? (λy=>y == x) with|some i=>(i:Int)|none=>-1
theorem Bj (l:List Int) (x:Int) (k:Nat) (hn:x∉l.take k) (hk:l[k]?=some x):idxOf l x=k:=by
 have:l.findIdx? (λy=>y == x)=some k:=by
  rw [List.findIdx?_eq_some_iff_getElem];obtain ⟨h1,h2⟩:=List.getElem?_eq_some_iff.1 hk;refine ⟨h1,by simp [h2],λj hj=>?_⟩;simp only [beq_iff_eq];intro e;exact hn (by rw [←e];exact List.mem_take_iff_getElem.2 ⟨j,ω,rfl⟩)
 unfold idxOf;rw [this]
theorem tL (l:List Int) (x:Int) (hn:x∉l):idxOf l x=-1:=by
 have:l.findIdx? (λy=>y == x)=none:=by
  rw [List.findIdx?_eq_none_iff];intro y hy;simp only [beq_eq_false_iff_ne];intro e;subst e;exact hn hy
 unfold idxOf;rw [this]
theorem Di (l:List Int) (x:Int) (h:x∈l):∃i:Nat,i<l.length/\idxOf l x=i/\l[i]?=some x:=by
 cases hf:l.findIdx? (λy=>y == x) with
 | none=>
  rw [List.findIdx?_eq_none_iff] at hf;have:=hf x h;simp at this
 | some i=>
  have h2:=hf;rw [List.findIdx?_eq_some_iff_getElem] at h2;obtain ⟨h3,h4,_⟩:=h2;refine ⟨i,h3,by unfold idxOf;rw [hf],?_⟩;rw [ε h3];simp at h4;rw [h4]
def aH (w:World) (base:Nat) (v:Value) (xs:List Int):Prop:=
 (v=.slice none 0 0/\xs=[])\/
 ∃g off cap cur,v=.slice (some ⟨g,off,none⟩) xs.length cap/\base<=g/\w.heap[g]?=some (.cells cur 3 (0,0))/\xs.length<=cap/\cap<=9223372036854775807/\off+cap<=cur.size/\∀j u,xs[j]?=some u->cur[off+j]?=some (.int .i64 u)
theorem aH.nil (w:World) (base:Nat):aH w base (.slice none 0 0) []:=Α ⟨rfl,rfl⟩
theorem aH.gp {w:World} {base:Nat} {v:Value} {xs:List Int} (h:w.ownsRow base 3 1 v xs.length (bD xs)):aH w base v xs:=by
 rcases h.2 with ⟨rfl,h0⟩|⟨g,cap,cur,rfl,hb,hg,hn,hc,hs,ht⟩
 ·exact Α ⟨rfl,ϕ h0⟩
 ·refine Β ⟨g,0,cap,cur,rfl,hb,hg,hn,by unfold maxLen at hc;exact hc,ω,λj u hj=>?_⟩;have hjl:j<xs.length:=(List.getElem?_eq_some_iff.1 hj).1;have:(bD xs)[j]?=some (.int .i64 u):=by unfold bD;rw [List.getElem?_map,hj];rfl
  rw [←ht,List.getElem?_take,Δ ω] at this;rw [Nat.zero_add];simpa using this
theorem wT {w:World} {g:Nat} {o:Obj} (h:w.heap[g]?=some o):g<w.heap.size:=by
 rcases ϑ g w.heap.size with h'|h'
 ·exact h'
 ·rw [Array.getElem?_eq_none h'] at h;cases h
theorem aH.lt {w:World} {base:Nat} {v:Value} {xs:List Int} (h:aH w base v xs) (g:Nat) (hg:v.ownBlock=some g):base<=g/\g<w.heap.size:=by
 rcases h with ⟨rfl,_⟩|⟨g',off,cap,cur,rfl,hb,hh,_⟩
 ·cases hg
 ·simp only [Value.ownBlock,ϒ] at hg;subst hg;exact ⟨hb,wT hh⟩
theorem aH.mono {w:World} {base base':Nat} {v:Value} {xs:List Int} (h:aH w base v xs) (hb:base'<=base):aH w base' v xs:=by
 rcases h with h|⟨g',off,cap,cur,rfl,hb',hh⟩
 ·exact Α h
 ·exact Β ⟨g',off,cap,cur,rfl,Χ hb hb',hh⟩
theorem aH.upd {w w':World} {F:List Nat} {base:Nat} {v:Value} {xs:List Int} (h:aH w base v xs) (hu:aa F w w') (hF:∀g,v.ownBlock=some g->g∉F):aH w' base v xs:=by
 rcases h with h|⟨g,off,cap,cur,rfl,hb,hh,h1,h2⟩
 ·exact Α h
 ·exact Β ⟨g,off,cap,cur,rfl,hb,by rw [hu.block g (wT hh) (hF g rfl)];exact hh,h1,h2⟩
theorem aH.shape {w:World} {base:Nat} {v:Value} {xs:List Int} (h:aH w base v xs) :
  ∃a cap,v=.slice a xs.length cap/\xs.length<=cap/\cap<=9223372036854775807/\∀j u,xs[j]?=some u->∃g off,a=some ⟨g,off,none⟩/\w.cell? ⟨g,off+j,none⟩=some (.int .i64 u):=by
 rcases h with ⟨rfl,rfl⟩|⟨g,off,cap,cur,rfl,hb,hh,h1,h2,h3,h4⟩
 ·exact ⟨none,0,rfl,Θ _,ω,λj u hj=>by simp at hj⟩
 ·refine ⟨_,cap,rfl,h1,h2,λj u hj=>⟨g,off,rfl,?_⟩⟩;unfold World.cell?;simp only [hh];simpa using h4 j u hj
theorem aH.lit (w:World) (base:Nat) (x:Int) (hb:base<=w.heap.size):aH (w.alloc (.cells #[.int .i64 x] 3)) base (.slice (some ⟨w.heap.size,0,none⟩) 1 1) [x]:=
 aH.gp (kG w [.int .i64 x] 3 base 1 1 rfl hb μ)
def tailV (v:Value):Value:=match v with | .slice a n c=>.slice (if c=1 then a else a.map (·.add 1)) (n-1) (c-1)|v=>v
theorem jU (w:World) (a:Option Addr) (n c:Nat) (h1:1<=n) (h2:n<=9223372036854775807) :
  (Instr.slice 77 (.slice a n c) (some (.int .i64 1)) none none).run Tryz.prog w=.ok (tailV (.slice a n c)) w:=by
 have hs:(sizeOf 3).run Tryz.prog w=.ok 1 w:=by kernel_rfl
 unfold Instr.slice Instr.sliceBounds;simp [run_underlying Tryz.underlying77,go_sem,hs,tailV];intro h;omega
theorem aH.tail {w:World} {base:Nat} {v:Value} {x:Int} {xs:List Int} (h:aH w base v (x::xs)):aH w base (tailV v) xs/\(tailV v).ownBlock=v.ownBlock:=by
 rcases h with ⟨rfl,h0⟩|⟨g,off,cap,cur,rfl,hb,hh,h1,h2,h3,h4⟩
 ·cases h0
 ·simp only [Ω] at h1 ⊢;unfold tailV;simp only [Nat.add_sub_cancel]
  by_cases hc:cap=1
  ·subst hc;have:xs=[]:=ϕ ω;subst this;rw [Δ rfl];exact ⟨Β ⟨g,off,0,cur,rfl,hb,hh,Θ _,ω,ω,λj u hj=>by simp at hj⟩,rfl⟩
  ·rw [Γ hc];have e:(some (⟨g,off,none⟩:Addr)).map (·.add 1)=some ⟨g,off+1,none⟩:=by simp [Addr.add_lit]
   rw [e];refine ⟨Β ⟨g,off+1,cap-1,cur,rfl,hb,hh,ω,ω,ω,λj u hj=>?_⟩,rfl⟩;have:=h4 (j+1) u (by simpa using hj);rw [show off+1+j=off+(j+1) by omega];exact this
theorem iB (a:Option Addr) (n c:Nat):∃a',tailV (.slice a n c)=.slice a' (n-1) (c-1):=⟨_,rfl⟩
theorem nE {w:World} {base:Nat} {v:Value} {xs:List Int} (hown:aH w base v xs) (t ty:TypeId) (ht:Tryz.prog.underlying t=some (.slice 3)) (g1:Nat) (u:Int) (hnew:w.cell? ⟨g1,0,none⟩=some (.int .i64 u)) (hn:xs.length+1<=1000000) (hbase:base<=w.heap.size) :
  ∃v' w',(Builtin.append_ #[t,t] ty #[v,.slice (some ⟨g1,0,none⟩) 1 1]).run Tryz.prog w=.ok v' w'/\aH w' base v' (xs++[u])/\aa v.ownBlock.toList w w'/\(∀k,v'.ownBlock=some k->v.ownBlock=some k\/w.heap.size<=k):=by
 obtain ⟨i,hi,hz0,hz1,hz2⟩:=info_parts dO;have hnews:∀j x,[Value.int .i64 u][j]?=some x->w.cell? ((⟨g1,0,none⟩:Addr).add j)=some x:=λj x hj=>by
  match j,hj with
  | 0,hj=>simp at hj;subst hj;rw [lD];exact hnew
 have h1:∀x∈[Value.int .i64 u],x.oneCell'=true:=by simp [Value.oneCell']
 rcases hown with ⟨rfl,rfl⟩|⟨g,off,cap,cur,rfl,hb,hh,hc1,hc2,hc3,hc4⟩
 ·obtain ⟨v',w',hr,h2,h3,_⟩:=run_append_own (P:=Tryz.prog) w w.heap.size t ty 3 i (.int .i64 0) 1 8 ht hi hz0 hz1 hz2 rfl δ (.slice none 0 0) 0 [] (World.ownsRow_nil w _ _ _) ⟨g1,0,none⟩ 1 1 [.int .i64 u] rfl hnews h1 μ ω (Θ _);exact ⟨v',w',hr,(aH.gp (xs:=[u]) h2).mono hbase,(aa.refl _ _).grown h3 (λk hk=>by cases hk),λk hk=>Β (h2.lt k hk).1⟩
 ·by_cases hfit:xs.length+1<=cap
  ·have hf:=run_firstCells_some (P:=Tryz.prog) w i.size 1 ⟨g1,0,none⟩ 1 1 [.int .i64 u] (by rw [hz1];rfl) hnews;have hst:=run_storeCells_at Tryz.prog g (off+xs.length*i.size) 3 [.int .i64 u] 0 cur w hh (by rw [hz1];simp;omega) h1;simp only [ϐ] at hst;have hrun:(Builtin.append_ #[t,t] ty #[.slice (some ⟨g,off,none⟩) xs.length cap,.slice (some ⟨g1,0,none⟩) 1 1]).run Tryz.prog w=.ok (.slice (some ⟨g,off,none⟩) (xs.length+1) cap) (w.setRow g (cur.toList.take (off+xs.length*i.size)++[Value.int .i64 u]++cur.toList.drop (off+xs.length*i.size+1)).toArray):=by
    simp [Builtin.append_,run_underlying ht,sizeOf,typeInfo,hi,Builtin.lenOf,hfit,hf,Addr.add_lit];have:=hst;simp at this;simp [this]
   rw [hz1,Nat.mul_one] at hrun;refine ⟨_,_,hrun,Β ⟨g,off,cap,_,by rw [υ];rfl,hb,setRow_heap w g cur _ _ _ hh,by rw [υ];exact hfit,hc2,?_,λj x hj=>?_⟩,?_,λk hk=>Α hk⟩
   ·simp;omega
   ·have hlen:off+xs.length<=cur.size:=ω;rcases ϑ j xs.length with h|h
    ·rw [Ρ h] at hj;have:=hc4 j x hj;rw [List.getElem?_toArray,ϋ,Ρ ζ,List.getElem?_take,Δ ω];simpa using this
    ·have hj2:j=xs.length:=by
      have:=(List.getElem?_eq_some_iff.1 hj).1;rw [υ] at this;simp at this;omega
     subst hj2;rw [ϊ (Θ _)] at hj;simp at hj;subst hj;rw [List.getElem?_toArray,ϋ,ϊ ζ];simp [Nat.min_eq_left hlen]
   ·exact ⟨rfl,rfl,rfl,σ,λk hk hm=>setRow_other w g k _ (λe=>hm (by simp [Value.ownBlock,e]))⟩
  ·obtain ⟨v',w',hr,h2,h3⟩:=run_append_arg_grows (P:=Tryz.prog) w t ty 3 i (.int .i64 0) 1 8 ht hi hz0 hz1 hz2 rfl δ ⟨g,off,none⟩ xs.length cap (bD xs) (by rw [fM,Nat.mul_one]) (λj x hj=>by
    unfold bD at hj;rw [List.getElem?_map] at hj;cases hq:xs[j]? with
    | none=>rw [hq] at hj;cases hj
    | some y=>
     rw [hq] at hj;simp at hj;subst hj;rw [Addr.add_lit];unfold World.cell?;simp only [hh]
     simpa using hc4 j y hq) ⟨g1,0,none⟩ 1 1 [.int .i64 u] rfl hnews ω μ ω
   have h4:w'.ownsRow w.heap.size 3 1 v' (xs++[u]).length (bD (xs++[u])):=by rw [υ,bT];exact h2
   exact ⟨v',w',hr,(aH.gp h4).mono hbase,(aa.refl _ _).grown h3 (λk hk=>by cases hk),λk hk=>Β (h2.lt k hk).1⟩
theorem jG {o:Oper} {a:Act} {w:World} {K:Act->World->Prop} {Q:Exit->Act->World->Prop} (s x:Operand) (t:TypeId)
  (ho:o.op=.call { callee:=.builtin .append,args:=#[s,x],argTypes:=#[t,t] }) (ht:Tryz.prog.underlying t=some (.slice 3))
  (base:Nat) (v:Value) (xs:List Int) (hs:a.eval s=v) (hown:aH w base v xs)
  (g1:Nat) (u:Int) (hx:a.eval x=.slice (some ⟨g1,0,none⟩) 1 1) (hnew:w.cell? ⟨g1,0,none⟩=some (.int .i64 u)) (hn:xs.length+1<=1000000) (hbase:base<=w.heap.size)
  (h:∀v' w',aH w' base v' (xs++[u])->aa v.ownBlock.toList w w'->(∀k,v'.ownBlock=some k->v.ownBlock=some k\/w.heap.size<=k)->K (a.put o.dst v') w'):Oper.wp Tryz.prog o a w K Q:=by
 obtain ⟨v',w',hr,h2,h3,h4⟩:=nE hown t o.type ht g1 u hnew hn hbase;unfold Oper.wp execOp;simp only [ho,resolve,invoke,builtin,Sem.run_bind,Sem.run_pure,Result.andThen_ok,List.map_toArray,List.map_cons,List.map_nil,hs,hx,hr];exact h _ _ h2 h3 h4
theorem iJ {ops:Array Oper} {o:Oper} {a:Act} {w:World} {K:Act->World->Prop} {Q:Exit->Act->World->Prop} {E:Prop} (hgd:o.guard=none) (s x:Operand) (t:TypeId)
  (ho:o.op=.call { callee:=.builtin .append,args:=#[s,x],argTypes:=#[t,t] }) (ht:Tryz.prog.underlying t=some (.slice 3))
  (base:Nat) (v:Value) (xs:List Int) (hs:a.eval s=v) (hown:aH w base v xs)
  (g1:Nat) (u:Int) (hx:a.eval x=.slice (some ⟨g1,0,none⟩) 1 1) (hnew:w.cell? ⟨g1,0,none⟩=some (.int .i64 u)) (hn:xs.length+1<=1000000) (hbase:base<=w.heap.size)
  (h:∀v' w',aH w' base v' (xs++[u])->aa v.ownBlock.toList w w'->(∀k,v'.ownBlock=some k->v.ownBlock=some k\/w.heap.size<=k)->K (a.put o.dst v') w') :
  if Region.wanted o (yielded ops a.tmps)=true then Oper.wp Tryz.prog o a w K Q else E:=by
 have hw:Region.wanted o (yielded ops a.tmps)=true:=by simp [Region.wanted,hgd]
 rw [Δ hw];exact jG s x t ho ht base v xs hs hown g1 u hx hnew hn hbase h
theorem kU {ops:Array Oper} {rest:List Oper} {o:Oper} {a:Act} {w:World} {Q:Exit->Act->World->Prop} (hgd:o.guard=none) (s x:Operand) (t:TypeId)
  (ho:o.op=.call { callee:=.builtin .append,args:=#[s,x],argTypes:=#[t,t] }) (ht:Tryz.prog.underlying t=some (.slice 3))
  (base:Nat) (v:Value) (xs:List Int) (hs:a.eval s=v) (hown:aH w base v xs)
  (g1:Nat) (u:Int) (hx:a.eval x=.slice (some ⟨g1,0,none⟩) 1 1) (hnew:w.cell? ⟨g1,0,none⟩=some (.int .i64 u)) (hn:xs.length+1<=1000000) (hbase:base<=w.heap.size)
  (h:∀v' w',aH w' base v' (xs++[u])->aa v.ownBlock.toList w w'->(∀k,v'.ownBlock=some k->v.ownBlock=some k\/w.heap.size<=k)->wpList Tryz.prog ops Q rest (a.put o.dst v') w'):wpList Tryz.prog ops Q (o::rest) a w:=
 wpList_plain hgd λ_ hK=>jG s x t ho ht base v xs hs hown g1 u hx hnew hn hbase λv' w' h2 h3 h4=>hK _ _ (h v' w' h2 h3 h4)
theorem iT.tail {w:World} {F:List Nat} {v:Value} {x:Int} {xs:List Int} (h:iT w F v (x::xs)):iT w F (tailV v) xs:=by
 obtain ⟨a,cap,rfl,h1,h2,h3⟩:=h;obtain ⟨g,off,rfl,hg,hF,_⟩:=h3 0 x rfl;simp only [Ω] at h1 ⊢;unfold tailV;simp only [Nat.add_sub_cancel];refine ⟨_,_,rfl,ω,ω,λj u hj=>?_⟩;have hjl:j<xs.length:=(List.getElem?_eq_some_iff.1 hj).1;rw [Γ ω];obtain ⟨g2,JE,he,hg2,hF2,hc⟩:=h3 (j+1) u (by simpa using hj);simp only [ϒ,Addr.mk.injEq,and_true] at he;obtain ⟨rfl,rfl⟩:=he;exact ⟨g,off+1,by simp [Addr.add_lit],hg,hF,by rw [show off+1+j=off+(j+1) by omega];exact hc⟩
theorem iT.upd {w w':World} {F G:List Nat} {v:Value} {xs:List Int} (h:iT w F v xs) (hu:aa G w w') (hG:∀g,g∈G->g∈F):iT w' F v xs:=by
 obtain ⟨a,cap,rfl,h1,h2,h3⟩:=h;refine ⟨a,cap,rfl,h1,h2,λj u hj=>?_⟩;obtain ⟨g,off,rfl,hg,hF,hc⟩:=h3 j u hj;exact ⟨g,off,rfl,Ψ hg hu.size,hF,by rw [hu.cell hg (λhm=>hF (hG _ hm))];exact hc⟩
theorem Bf (bt ba lo n:Nat) (S:CS) (v:Value) (l:List Int) (w:World) (h:aJ w bt ba lo n S) (F:List Nat) (hv:iT w F v l) :
  Calls Tryz.prog 190 #[.pointer (some ⟨bt,0,none⟩),v] w λe w'=>e=.returned (.bool (yC n S l))/\w'=w:=by
 obtain ⟨a,cap,rfl,hlc,hcp,hp⟩:=hv;have HP:=χ hp;clear hp;unfold yC;generalize hlen:l.length=len at *;have HLEN:=χ hlen;clear hlen;have kR:=λx=>nN bt ba lo n S x w h;have kD:=λx=>iE bt ba lo n S x w h;clear h
 go_enter Tryz.func190,Tryz.ntmps190
 go_wp2
 go_loop [9] (λi=>∃k:Nat,k<=len/\i=.int .i64 (k:Int)/\j5 n S l k=true) (λi=>len-(intOf i).toNat)
 case atStart=>exact ⟨0,ω,rfl,rfl⟩
 case round=>
  obtain ⟨k,hk,rfl,ht⟩:=hrel
  by_cases hlt:k<len
  ·obtain ⟨g,off,rfl,_,_,c1⟩:=HP.out k (l.getD k 0) (by simp [φ,HLEN.out,hlt]);have c2:0<k->w.cell? ⟨g,off+(k-1),none⟩=some (.int .i64 (l.getD (k-1) 0)):=λhk0=>by
    have hk1:k-1<l.length:=by rw [HLEN.out];omega
    obtain ⟨g2,JE,he,_,_,c⟩:=HP.out (k-1) (l.getD (k-1) 0) (by simp [φ,hk1]);simp only [ϒ,Addr.mk.injEq,and_true] at he;obtain ⟨rfl,rfl⟩:=he;exact c
   have hsu:=ui n S l k;have hno:=zH n S l k ht;rw [ht,Bool.true_and] at hsu;unfold rowOk at hsu hno;have HS:=χ hsu;have HN:=χ hno;have k1:=kR (l.getD k 0);have k2:=kD (l.getD k 0);have k3:=kD (l.getD (k-1) 0);clear hsu hno ht kR kD;generalize l.getD k 0=x at *;generalize l.getD (k-1) 0=y at *;generalize iK n S x=b at *;generalize gH n S x=d at *;generalize gH n S y=d2 at *;cases b with
   | false=>
    go_wp2_with (go_at_call 189;refine (k1).mono ?_;rintro e w' ⟨rfl,rfl⟩)
    go_ret;exact ⟨aP (HN.out rfl _ hlt).symm,rfl⟩
   | true=>
    by_cases hk0:k=0
    ·subst hk0;clear c2;rw [ϐ] at c1
     go_wp2_with (go_at_call 189;refine (k1).mono ?_;rintro e w' ⟨rfl,rfl⟩)
     go_round
     case rel=>exact ⟨1,ω,rfl,HS.out⟩
     case measure=>simp [intOf];omega
    ·have c3:=c2 ω;have hk1:1<=k:=ω;clear c2;obtain ⟨k',rfl⟩:∃k',k=k'+1:=⟨k-1,ω⟩;simp only [Nat.add_sub_cancel] at c3
     by_cases hd:d2<d
     ·have hd':¬ (d<=d2):=ω
      go_wp2_with (first|(go_at_call 189;(with_reducible refine (k1).mono ?_);rintro e w' ⟨rfl,rfl⟩)|(go_at_call 194;(with_reducible refine (k3).mono ?_);rintro e w' ⟨rfl,rfl⟩)|(go_at_call 194;(with_reducible refine (k2).mono ?_);rintro e w' ⟨rfl,rfl⟩))
      go_round
      case rel=>exact ⟨k'+1+1,ω,by go_num,by rw [HS.out];simp [hd]⟩
      case measure=>simp [intOf];omega
     ·have hd':d<=d2:=ω
      go_wp2_with (first|(go_at_call 189;(with_reducible refine (k1).mono ?_);rintro e w' ⟨rfl,rfl⟩)|(go_at_call 194;(with_reducible refine (k3).mono ?_);rintro e w' ⟨rfl,rfl⟩)|(go_at_call 194;(with_reducible refine (k2).mono ?_);rintro e w' ⟨rfl,rfl⟩))
      go_ret;exact ⟨aP (HN.out ζ _ hlt).symm,rfl⟩
  ·obtain rfl:k=len:=ω;go_wp2;go_ret;exact ⟨by first|rfl|exact aP ht.symm,rfl⟩
theorem AQ (w:World) (F:List Nat) (v:Value) (l:List Int) (x:Int) (h:iT w F v l) :
  Calls Tryz.prog 180 #[v,.int .i64 x] w λe w'=>e=.returned (.int .i64 (idxOf l x))/\w'=w:=by
 obtain ⟨a,cap,rfl,hlc,hcp,hp⟩:=h;have HP:=χ hp;clear hp;generalize hlen:l.length=len at *;have HLEN:=χ hlen;clear hlen
 go_enter Tryz.func180,Tryz.ntmps180
 go_wp2
 go_loop [8] (λi=>∃q:Nat,q<=len/\i=.int .i64 (q:Int)/\x∉l.take q) (λi=>len-(intOf i).toNat)
 case atStart=>exact ⟨0,ω,rfl,σ⟩
 case round=>
  obtain ⟨q,hq,rfl,hn⟩:=hrel
  by_cases hlt:q<len
  ·obtain ⟨y,tY⟩:∃y,l[q]?=some y:=⟨l[q]'(by rw [HLEN.out];exact hlt),σ⟩;obtain ⟨gb,off,rfl,_,_,hc⟩:=HP.out q y tY
   by_cases hxy:x=y
   ·subst hxy;have hi:=Bj l x q hn tY;have HI:=χ hi;clear hn tY hi;go_wp2;go_ret;exact ⟨fo HI.out.symm,rfl⟩
   ·have b1:(x == y)=false:=by simpa using hxy
    have hn2:x∉l.take (q+1):=by rw [List.take_add_one,tY];simp;exact ⟨hn,hxy⟩
    have KA:=χ hn2;clear hn tY hn2 hxy;go_wp2
    go_round
    case rel=>exact ⟨q+1,ω,by go_num,KA.out⟩
    case measure=>simp [intOf];omega
  ·obtain rfl:q=len:=ω;rw [List.take_of_length_le (by rw [HLEN.out];omega)] at hn;have HI:=χ (tL l x hn);clear hn;go_wp2;go_ret;exact ⟨fo HI.out.symm,rfl⟩
theorem qV (w:World) (F:List Nat) (v:Value) (l:List Int) (x:Int) (h:iT w F v l) :
  Calls Tryz.prog 193 #[v,.int .i64 x] w λe w'=>e=.returned (.bool (decide (x∈l)))/\w'=w:=by
 have k1:=AQ w F v l x h;obtain ⟨a,cap,rfl,_⟩:=h
 by_cases hx:x∈l
 ·obtain ⟨i,hi,he,_⟩:=Di l x hx;rw [he] at k1
  go_enter Tryz.func193,Tryz.ntmps193
  go_wp2_with ((go_at_call 180;(with_reducible refine (k1).mono ?_);rintro e w9 ⟨rfl,aB⟩;rw [aB];clear aB w9))
  go_ret;exact ⟨aP (by simp [hx]),rfl⟩
 ·rw [tL l x hx] at k1
  go_enter Tryz.func193,Tryz.ntmps193
  go_wp2_with ((go_at_call 180;(with_reducible refine (k1).mono ?_);rintro e w9 ⟨rfl,aB⟩;rw [aB];clear aB w9))
  go_ret;exact ⟨aP (by simp [hx]),rfl⟩
theorem zi (w:World) (F:List Nat) (B7:Nat) (v:Value) (l:List Int) (x:Int) (h:iT w F v l) (hr:ak w B7 77 1 (λ_=>v)) :
  Calls Tryz.prog 192 #[.int .i64 x,.pointer (some ⟨B7,0,none⟩)] w λe w'=>e=.returned (.bool (decide (x∈l)))/\w'=w:=by
 have k1:=qV w F v l x h;have c0:=hr.cell 0 ω;obtain ⟨a,cap,rfl,_⟩:=h
 go_enter Tryz.func192,Tryz.ntmps192
 go_wp2_with ((go_at_call 193;(with_reducible refine (k1).mono ?_);rintro e w9 ⟨rfl,aB⟩;rw [aB];clear aB w9))
 go_ret;exact ⟨rfl,rfl⟩
theorem uR (w:World) (F:List Nat) (B7:Nat) (va v:Value) (A l:List Int) (ha:iT w F va A) (h:iT w F v l) (hr:ak w B7 77 1 (λ_=>v)) :
  Calls Tryz.prog 188 #[va,.func (Fn.func 192) #[] #[.pointer (some ⟨B7,0,none⟩)]] w λe w'=>(∃i:Int,e=.returned (.int .i64 i)/\decide (0<=i)=A.any (λx=>decide (x∈l)))/\w'=w:=by
 have kC:=λx=>zi w F B7 v l x h hr;clear h hr;obtain ⟨a,cap,rfl,hlc,hcp,hp⟩:=ha;have HP:=χ hp;clear hp;generalize hlen:A.length=len at *;have HLEN:=χ hlen;clear hlen
 go_enter Tryz.func188,Tryz.ntmps188
 go_wp2
 go_loop [8] (λi=>∃q:Nat,q<=len/\i=.int .i64 (q:Int)/\(A.take q).any (λx=>decide (x∈l))=false) (λi=>len-(intOf i).toNat)
 case atStart=>exact ⟨0,ω,rfl,σ⟩
 case round=>
  obtain ⟨q,hq,rfl,hn⟩:=hrel
  by_cases hlt:q<len
  ·obtain ⟨y,tY⟩:∃y,A[q]?=some y:=⟨A[q]'(by rw [HLEN.out];exact hlt),σ⟩;obtain ⟨gb,off,rfl,_,_,hc⟩:=HP.out q y tY;have k1:=kC y
   by_cases hy:y∈l
   ·rw [Ν hy] at k1;have hfin:A.any (λx=>decide (x∈l))=true:=List.any_eq_true.2 ⟨y,Η tY,by simpa using hy⟩;have HF:=χ hfin;clear hn tY hy kC hfin
    go_wp2_with ((go_at_call 192;(with_reducible refine (k1).mono ?_);rintro e w9 ⟨rfl,aB⟩;rw [aB];clear aB w9))
    go_ret;exact ⟨⟨_,rfl,by rw [HF.out];simp⟩,rfl⟩
   ·rw [Ξ hy] at k1;have hn2:(A.take (q+1)).any (λx=>decide (x∈l))=false:=by rw [List.take_add_one,tY,List.any_append,hn];simpa using hy
    have KA:=χ hn2;clear hn tY hn2 hy kC
    go_wp2_with ((go_at_call 192;(with_reducible refine (k1).mono ?_);rintro e w9 ⟨rfl,aB⟩;rw [aB];clear aB w9))
    go_round
    case rel=>exact ⟨q+1,ω,by go_num,KA.out⟩
    case measure=>simp [intOf];omega
  ·obtain rfl:q=len:=ω;rw [List.take_of_length_le (by rw [HLEN.out];omega)] at hn;have HN:=χ hn;clear hn kC;go_wp2;go_ret;exact ⟨⟨_,rfl,by rw [HN.out];rfl⟩,rfl⟩
theorem nY (w:World) (F:List Nat) (B7:Nat) (va v:Value) (A l:List Int) (ha:iT w F va A) (h:iT w F v l) (hr:ak w B7 77 1 (λ_=>v)) :
  Calls Tryz.prog 191 #[va,.func (Fn.func 192) #[] #[.pointer (some ⟨B7,0,none⟩)]] w λe w'=>e=.returned (.bool (A.any (λx=>decide (x∈l))))/\w'=w:=by
 have k1:=uR w F B7 va v A l ha h hr;generalize A.any (λx=>decide (x∈l))=b at *;obtain ⟨a,cap,rfl,_⟩:=ha;clear h hr
 go_enter Tryz.func191,Tryz.ntmps191
 go_wp2_with (go_at_call 188;(with_reducible refine (k1).mono ?_);rintro e w9 ⟨⟨i,rfl,hi⟩,aB⟩;rw [aB];clear aB w9;have HI:=χ hi;clear hi)
 go_ret;exact ⟨aP (by first|exact HI.out|(rw [←HI.out];simp)),rfl⟩
def gJ (S:CS) (v:Value) (a b:Nat):CS:=(S.nV a v (S.k a++[(b:Int)])).nU b a
theorem qP (bt ba lo n:Nat) (S:CS) (a b:Nat) (w:World) (h:aJ w bt ba lo n S) (ha:a<n) (hb:b<n) (hra:iK n S a=true) (hrb:iK n S b=true) (hne:a≠b) (hd:gH n S a=gH n S b) (hlen:(S.k a).length+1<=n) :
    Calls Tryz.prog 196 #[.pointer (some ⟨bt,0,none⟩),.int .i64 (a:Int),.int .i64 (b:Int)] w λe w'=>∃v,e=.returned (.bool true)/\aJ w' bt ba lo n (gJ S v a b)/\aa (ba::S.blk n) w w'/\(∀g,g∈(gJ S v a b).blk n->g∈S.blk n\/w.heap.size<=g):=by
  have hle:=h.le;have hl1:=h.EE;have hl2:=h.BR;have hlow:=h.low;have hnb:=h.ne;have k1:=nN bt ba lo n S a w h;have k2:=nN bt ba lo n S b w h;have k3:=iE bt ba lo n S a w h;have k4:=iE bt ba lo n S b w h;rw [hra] at k1;rw [hrb] at k2;rw [hd] at k3;have b1:((a:Int) == (b:Int))=false:=ζ;have ho:=h.own a ha;obtain ⟨sa,cap,hv,hcap⟩:=bM ho;have D5:∀g,g∈(S.v a).ownBlock.toList->lo<=g/\g<w.heap.size:=λg hg=>ho.lt g (by simpa using hg);have r1:∀W,aa (S.v a).ownBlock.toList w W->W.cell? ⟨bt,0,none⟩=some (.slice (some ⟨ba,0,none⟩) n n):=λW hW=>by
    rw [hW.cell h.head.lt (λhm=>by have:=D5 _ hm;simp at this;omega)];exact h.head.cell 0 ω
  have r2:∀W,aa (S.v a).ownBlock.toList w W->W.cell? ⟨ba,a*2,none⟩=some (S.v a):=λW hW=>by
    rw [hW.cell h.row.lt (λhm=>by have:=D5 _ hm;simp at this;omega)];exact h.row.cellAt (a*2) ω (oO S a)
  have r3:∀W,aa (S.v a).ownBlock.toList w W->W.cell? ⟨ba,b*2+1,none⟩=some (.int .i64 (S.u b)):=λW hW=>by
    rw [hW.cell h.row.lt (λhm=>by have:=D5 _ hm;simp at this;omega)];exact h.row.cellAt (b*2+1) ω (o9 S b)
  have q1:∀W,aa (S.v a).ownBlock.toList w W->W.frozen? ⟨ba,a*2,none⟩=false:=λW hW=>by
    rw [hW.frozen h.row.lt (λhm=>by have:=D5 _ hm;simp at this;omega)];exact h.row.free _
  have q2:∀W,aa (S.v a).ownBlock.toList w W->W.frozen? ⟨ba,b*2+1,none⟩=false:=λW hW=>by
    rw [hW.frozen h.row.lt (λhm=>by have:=D5 _ hm;simp at this;omega)];exact h.row.free _
  have s0:aa (S.v a).ownBlock.toList w w:=aa.refl _ _;have H:=χ h;have HV:=χ hv;have hk:=fM (S.k a);have HLEN:=χ hlen;generalize hva:S.v a=va at *;have I6:=χ hva;subst hv;clear h hra hrb hd hva hne
  go_enter Tryz.func196,Tryz.ntmps196
  go_wp2_with (first
    | (go_at_call 189;(with_reducible refine (k1).mono ?_);rintro e w9 ⟨rfl,aB⟩;rw [aB];clear aB w9)
    | (go_at_call 189;(with_reducible refine (k2).mono ?_);rintro e w9 ⟨rfl,aB⟩;rw [aB];clear aB w9)
    | (go_at_call 194;(with_reducible refine (k3).mono ?_);rintro e w9 ⟨rfl,aB⟩;rw [aB];clear aB w9)
    | (go_at_call 194;(with_reducible refine (k4).mono ?_);rintro e w9 ⟨rfl,aB⟩;rw [aB];clear aB w9))
  have s1:aa (Value.slice sa (S.k a).length cap).ownBlock.toList w (w.drew.alloc (.cells #[.int .i64 (b:Int)] 3)):=s0.drew.alloc _;have g1:=r1 _ s0;have g2:=r2 _ s0;have a1:=r1 _ (s0.alloc (.cells #[.int .i64 (b:Int)] 3));have a2:=r2 _ (s0.alloc (.cells #[.int .i64 (b:Int)] 3))
  go_region_law
    (first
      | (refine lW rfl _ _ 77 rfl lo 3 (.int .i64 0) 1 8 Tryz.underlying77 dO rfl δ (.slice sa (S.k a).length cap) (S.k a).length (bD (S.k a)) rfl (ho.drew.alloc _) w.heap.size [.int .i64 (b:Int)] rfl rfl (λj u hj=>iV w [.int .i64 (b:Int)] 3 j u hj) (by simp [Value.oneCell']) μ ω ζ ?_
         intro v2 w2 ho2 hu2 hv2;have hS2:aa (Value.slice sa (S.k a).length cap).ownBlock.toList w w2:=s1.trans hu2;have g3:=r1 _ hS2;have g4:=r2 _ hS2;have g5:=q1 _ hS2
         obtain ⟨a2,cap2,rfl,hcap2⟩:=bM ho2))
  all_goals
    have ho3:w2.ownsRow lo 3 1 (.slice a2 ((S.k a).length+1) cap2) (S.k a++[(b:Int)]).length (bD (S.k a++[(b:Int)])):=by rw [bT,υ];exact ho2
    have hF:=H.out.DD a ha (.slice a2 ((S.k a).length+1) cap2) (S.k a++[(b:Int)]) hS2 (λg hg=>by rw [I6.out];simpa using hg) ho3 (λg hg=>by
      rcases hv2 with h|h
      · rw [h] at hg;exact Α (by rw [I6.out];exact hg)
      · rw [h] at hg;simp at hg;exact Β ω) (by rw [υ];exact hlen)
    have e0:=hF.head.cell 0 ω;have e1:=hF.row.cell (b*2+1) ω;have e2:=hF.row.free (b*2+1);have HF:=χ hF;have HV2:=χ hv2;clear hF hv2 ho2 ho3 r1 r2 r3 q1 q2;go_wp2;go_ret;refine ⟨_,rfl,HF.out.bL b hb a,?_,λg hg=>?_⟩
    · refine ((hS2.mono (λg hg=>?_)).setCell (Α σ) _).setCell (Α σ) _
      simp only [ρ];refine Β ((S.iG n g).2 ⟨a,ha,?_⟩);rw [I6.out];simpa using hg
    · rcases S.Ak a (.slice a2 ((S.k a).length+1) cap2) (S.k a++[(b:Int)]) n g hg with h|h
      · exact Α h
      · rcases HV2.out with h2|h2
        · exact Α ((S.iG n g).2 ⟨a,ha,by rw [I6.out,←h2];exact h⟩)
        · rw [h2] at h;simp at h;exact Β ω
end Go.Proofs.YtnpdakpagnpanaaGreat
namespace Go.Proofs.YtnpdakpagnpanaaGreat
def dL (lt:Int->Int->Bool) (a b:Nat):Nat:=if lt b a then b else a
def fD (lt:Int->Int->Bool) (a b:Nat):Nat:=if lt b a then a else b
structure CF where
 k:Nat->List Int
 u:Nat->Int
def CS.f (S:CS):CF:=⟨S.k,S.u⟩
def mG (n:Nat) (F:CF) (x:Int):Bool:=decide (0<=x/\x<n) && F.u x.toNat == -1
def bC (n:Nat) (F:CF) (x:Int):Int:=if 0<=x/\x<n then (F.k x.toNat).length else 0
theorem EN (n:Nat) (S:CS) (x:Int):iK n S x=mG n S.f x:=rfl
theorem Eb (n:Nat) (S:CS) (x:Int):gH n S x=bC n S.f x:=rfl
def bW (F:CF) (a b:Nat):CF:=⟨λy=>if y=a then F.k a++[(b:Int)] else F.k y,λy=>if y=b then (a:Int) else F.u y⟩
theorem Ez (S:CS) (v:Go.Value) (a b:Nat):(gJ S v a b).f=bW S.f a b:=rfl
structure CC where
 F:CF
 A:List Int
 B:List Int
 N:List Int
 O:List Int
 q:Nat
def takeA (n k:Nat) (C:CC):CC:=match C.A with|x::t=>(if bC n C.F x=k then { C with A:=t,N:=C.N++[x] } else C)|[]=>C
def takeB (n k:Nat) (C:CC):CC:=match C.B with|x::t=>(if bC n C.F x=k then { C with B:=t,N:=C.N++[x] } else C)|[]=>C
def bH (C:CC):CC:=match C.N with|[x]=>{ C with N:=[],O:=C.O++[x] }|[x,y,z]=>{ C with N:=[y,z],O:=C.O++[x] }|_=>C
def fF (lt:Int->Int->Bool) (C:CC):CC:=match C.N with
 | [x,y]=>{ C with F:=bW C.F (dL lt x.toNat y.toNat) (fD lt x.toNat y.toNat),N:=[(dL lt x.toNat y.toNat:Int)],q:=C.q+1 }
 | _=>C
def sK (lt:Int->Int->Bool) (n k:Nat) (C:CC):CC:=fF lt (bH (takeB n k (takeA n k C)))
def bN (lt:Int->Int->Bool) (n:Nat):Nat->CC->CC
 | 0,C=>C
 | k+1,C=>sK lt n k (bN lt n k C)
structure wE (dom:Int->Prop) (lt:Int->Int->Bool) (n k:Nat) (C:CC):Prop where
 few:C.N.length<=1
 join:∀x y,(bH (takeB n k (takeA n k C))).N=[x,y]->∃a b:Nat,x=a/\y=b/\dom a/\dom b/\a<n/\b<n/\a≠b/\mG n (bH (takeB n k (takeA n k C))).F a=true/\mG n (bH (takeB n k (takeA n k C))).F b=true/\
  bC n (bH (takeB n k (takeA n k C))).F a=bC n (bH (takeB n k (takeA n k C))).F b/\((bH (takeB n k (takeA n k C))).F.k a).length+1<=n/\((bH (takeB n k (takeA n k C))).F.k b).length+1<=n
 small:C.A.length+C.B.length+C.O.length<=100000
 asked:C.q<=1000000
 ends:C.A≠[]\/C.B≠[]\/C.N≠[]->k<=n
def tA (n k:Nat) (A:List Int) (F:CF):Bool:=match A with|x::_=>bC n F x == (k:Int)|[]=>false
def tot (C:CC):Nat:=C.A.length+C.B.length+C.N.length+C.O.length
theorem lh (n k:Nat) (C:CC):tot (takeA n k C)=tot C/\(takeA n k C).N.length<=C.N.length+1:=by
 unfold takeA tot
 split
 ·rename_i x t h
  split
  ·simp only [h,υ,Ω,List.length_nil];omega
  ·simp
 ·simp
theorem lF (n k:Nat) (C:CC):tot (takeB n k C)=tot C/\(takeB n k C).N.length<=C.N.length+1:=by
 unfold takeB tot
 split
 ·rename_i x t h
  split
  ·simp only [h,υ,Ω,List.length_nil];omega
  ·simp
 ·simp
theorem xB (C:CC) (h3:C.N.length<=3):tot (bH C)=tot C/\(bH C).N.length<=2:=by
 obtain ⟨F,A,B,N,O,q⟩:=C;simp only at h3
 match N,h3 with
 | [],_=>simp [bH,tot]
 | [x],_=>simp [bH,tot];try omega
 | [x,y],_=>simp [bH,tot]
 | [x,y,z],_=>simp [bH,tot];try omega
 | _::_::_::_::_,h3=>simp at h3;try omega
theorem y8 (n k:Nat) (C:CC):(bH (takeB n k (takeA n k C))).q=C.q:=by
 have h1:∀C,(bH C).q=C.q:=λC=>by unfold bH;split<;>rfl
 have h2:∀C,(takeB n k C).q=C.q:=λC=>by
  unfold takeB;split
  ·split<;>rfl
  ·rfl
 have h3:∀C,(takeA n k C).q=C.q:=λC=>by
  unfold takeA;split
  ·split<;>rfl
  ·rfl
 rw [h1,h2,h3]
end Go.Proofs.YtnpdakpagnpanaaGreat
namespace Go.Proofs.YtnpdakpagnpanaaGreat
open Go Go.RowKit
structure jC where
 ty:TypeId
 p:Nat
 rd:List Nat
 wr:List Nat
 lt:Int->Int->Bool
 dom:Int->Prop
 at_:World->Nat->Prop
 sub:∀x,x∈wr->x∈rd
 low:∀ {w:World} {q:Nat},at_ w q->∀x,x∈rd->x<w.heap.size
 upd:∀ {w w':World} {S:List Nat} {q:Nat},at_ w q->aa S w w'->(∀x,x∈S->x∉rd)->at_ w' q
 asym:∀a b,lt a b=true->lt b a=false
 ahead:∀ {w:World} {q:Nat} (x y:Int),at_ w q->dom x->dom y->q<=1000000->AX ty p "Ahead" w (λv=>#[v,.int .i64 x,.int .i64 y]) λw e w'=>e=.returned (.bool (lt x y))/\at_ w' (q+1)/\aa wr w w'
structure Apart (O:jC) (bt ba n:Nat) (S:CS):Prop where
 bt:bt∉O.rd
 ba:ba∉O.rd
 blk:∀g,g∈S.blk n->g∉O.rd
theorem Apart.rd {O:jC} {bt ba n:Nat} {S:CS} (h:Apart O bt ba n S):∀g,g∈ba::S.blk n->g∉O.rd:=λg hg=>by
 rcases ρ.1 hg with rfl|hg
 ·exact h.ba
 ·exact h.blk g hg
theorem Apart.wr {O:jC} {bt ba n:Nat} {S:CS} (h:Apart O bt ba n S):bt∉O.wr/\ba∉O.wr/\∀g,g∈S.blk n->g∉O.wr:=
 ⟨λhm=>h.bt (O.sub _ hm),λhm=>h.ba (O.sub _ hm),λg hg hm=>h.blk g hg (O.sub _ hm)⟩
theorem zz (O:jC) (bt ba lo n:Nat) (S:CS) (asked a b:Nat) (w:World) (h:aJ w bt ba lo n S) (hO:O.at_ w asked) (IL:O.dom a) (II:O.dom b) (hk:asked<=1000000)
  (ha:a<n) (hb:b<n) (hra:iK n S a=true) (hrb:iK n S b=true) (hne:a≠b) (hd:gH n S a=gH n S b) (hl1:(S.k a).length+1<=n) (hl2:(S.k b).length+1<=n)
  (hA:Apart O bt ba n S) :
  Calls Tryz.prog 195 #[.pointer (some ⟨bt,0,none⟩),.iface O.ty (.pointer (some ⟨O.p,0,none⟩)),.int .i64 (a:Int),.int .i64 (b:Int)] w λe w'=>
   ∃v,e=.returned (.int .i64 (dL O.lt a b:Int))/\aJ w' bt ba lo n (gJ S v (dL O.lt a b) (fD O.lt a b))/\O.at_ w' (asked+1)/\aa (O.wr++ba::S.blk n) w w'/\(∀g,g∈(gJ S v (dL O.lt a b) (fD O.lt a b)).blk n->g∈S.blk n\/w.heap.size<=g):=by
 obtain ⟨f,fv,hen,hm,hc⟩:=(O.ahead (b:Int) (a:Int) hO II IL hk).now;unfold Enters at hen;have hF:=λW (hW:aa O.wr w W)=>h.upd hW hA.wr.1 hA.wr.2.1 hA.wr.2.2;have kL1:=λW (hW:aa O.wr w W)=>qP bt ba lo n S a b W (hF W hW) ha hb hra hrb hne hd hl1;have kL2:=λW (hW:aa O.wr w W)=>qP bt ba lo n S b a W (hF W hW) hb ha hrb hra (Ne.symm hne) hd.symm hl2;have HS:=χ hA.rd;clear hF h hO hA hd hra hrb IL II;unfold dL fD;generalize O.ty=ty at *;cases hab:O.lt b a with
 | true=>
  rw [hab] at hc;rw [Δ rfl,Δ rfl];clear hab kL1
  go_enter Tryz.func195,Tryz.ntmps195
  go_wp2_with (first
   | ((with_reducible refine (hc).mono ?_);rintro e w1 ⟨rfl,hL1,hu1⟩)
   | ((go_at_call 196;(with_reducible refine (kL2 _ hu1).mono ?_));rintro e w2 ⟨v2,rfl,hF2,hu2,hb2⟩))
  go_ret;refine ⟨_,rfl,hF2,O.upd hL1 hu2 HS.out,(hu1.mono (by simp +contextual)).trans (hu2.mono (λg hg=>τ.2 (Β hg))),λg hg=>?_⟩;rcases hb2 g hg with h|h
  ·exact Α h
  ·exact Β (Χ hu1.size h)
 | false=>
  rw [hab] at hc;rw [Γ σ,Γ σ];clear hab kL2
  go_enter Tryz.func195,Tryz.ntmps195
  go_wp2_with (first
   | ((with_reducible refine (hc).mono ?_);rintro e w1 ⟨rfl,hL1,hu1⟩)
   | ((go_at_call 196;(with_reducible refine (kL1 _ hu1).mono ?_));rintro e w2 ⟨v2,rfl,hF2,hu2,hb2⟩))
  go_ret;refine ⟨_,rfl,hF2,O.upd hL1 hu2 HS.out,(hu1.mono (by simp +contextual)).trans (hu2.mono (λg hg=>τ.2 (Β hg))),λg hg=>?_⟩;rcases hb2 g hg with h|h
  ·exact Α h
  ·exact Β (Χ hu1.size h)
theorem iT.shape {w:World} {F:List Nat} {v:Value} {xs:List Int} (h:iT w F v xs):∃a cap,v=.slice a xs.length cap/\cap<=9223372036854775807:=by
 obtain ⟨a,cap,rfl,_,h2,_⟩:=h;exact ⟨a,cap,rfl,h2⟩
structure KM (O:jC) (w0 w:World) (bt ba lo n:Nat) (F0:List Nat) (va vb vn vo:Value) (C:CC):Prop where
 jM:∃S:CS,S.f=C.F/\aJ w bt ba lo n S/\Apart O bt ba n S/\(∀g,g∈S.blk n->g∈F0\/w0.heap.size<g)/\(∀g,vn.ownBlock=some g->g∉S.blk n)/\(∀g,vo.ownBlock=some g->g∉S.blk n)
 FU:O.at_ w C.q
 a:iT w0 F0 va C.A
 b:iT w0 F0 vb C.B
 box:ak w w0.heap.size 77 1 (λ_=>vb)
 now:aH w (w0.heap.size+1) vn C.N
 out:aH w (w0.heap.size+1) vo C.O
 sep:∀g,vn.ownBlock=some g->vo.ownBlock≠some g
 upd:aa F0 w0 w
 old:∀g,g∈F0->g<w0.heap.size
 wH:(∀x,x∈O.wr->x∈F0)/\ba∈F0
 t0:bt<w0.heap.size
 k0:∀x,x∈O.rd->x<w0.heap.size
theorem iT.head {w:World} {F:List Nat} {a:Option Addr} {n c:Nat} {x:Int} {xs:List Int} (h:iT w F (.slice a n c) (x::xs)):∃g off,a=some ⟨g,off,none⟩/\g<w.heap.size/\g∉F/\w.cell? ⟨g,off,none⟩=some (.int .i64 x):=by
 obtain ⟨a',cap,he,_,_,h3⟩:=h;obtain ⟨g,off,rfl,hg,hF,hc⟩:=h3 0 x rfl;cases he;exact ⟨g,off,rfl,hg,hF,by rw [ϐ] at hc;exact hc⟩
theorem KM.deg {w0 w:World} {O:jC} {bt ba lo n:Nat} {F0:List Nat} {va vb vn vo:Value} {C:CC} (h:KM O w0 w bt ba lo n F0 va vb vn vo C) (x:Int) :
  Calls Tryz.prog 194 #[.pointer (some ⟨bt,0,none⟩),.int .i64 x] w λe w'=>e=.returned (.int .i64 (bC n C.F x))/\w'=w:=by
 obtain ⟨S,h1,h2,_⟩:=h.jM;have:=iE bt ba lo n S x w h2;rw [Eb,h1] at this;exact this
theorem KM.far {w0 w:World} {O:jC} {bt ba lo n:Nat} {F0:List Nat} {va vb vn vo:Value} {C:CC} (h:KM O w0 w bt ba lo n F0 va vb vn vo C) {g off:Nat} {u:Value} (hg:g<w0.heap.size) (hF:g∉F0) (hc:w0.cell? ⟨g,off,none⟩=some u) {G:List Nat} {W:World} (hu:aa G w W) (hG:∀x,x∈G->w0.heap.size<=x) :
  W.cell? ⟨g,off,none⟩=some u:=by
 rw [hu.cell (Ψ hg h.upd.size) (λhm=>by have:=hG _ hm;simp at this;omega),h.upd.cell hg hF];exact hc
theorem KM.zN {w0 w:World} {O:jC} {bt ba lo n:Nat} {F0:List Nat} {va vb vn vo:Value} {C:CC} (h:KM O w0 w bt ba lo n F0 va vb vn vo C) {W:World} {JV:Value} {N':List Int}
  (hu:aa vn.ownBlock.toList w W) (ho:aH W (w0.heap.size+1) JV N') (hb:∀g,JV.ownBlock=some g->vn.ownBlock=some g\/w.heap.size<=g):KM O w0 W bt ba lo n F0 va vb JV vo { C with N:=N' }:=by
 obtain ⟨S,h1,h2,h3,h4,h5,h6⟩:=h.jM;have hn:∀g,g∈vn.ownBlock.toList->w0.heap.size<g/\g∉S.blk n/\vo.ownBlock≠some g:=λg hg=>by
  have hg':vn.ownBlock=some g:=by simpa using hg
  exact ⟨by have:=(h.now.lt g hg').1;omega,h5 g hg',h.sep g hg'⟩
 have hbt:=h.t0;have zS:=h.old ba h.wH.2;have hk:=h.k0;have hsz:=h.upd.size
 refine ⟨⟨S,h1,h2.upd hu (λhm=>by have:=hn _ hm;omega) (λhm=>by have:=hn _ hm;omega) (λg hg hm=>(hn g hm).2.1 hg),h3,h4,λg hg hm=>?_,h6⟩,O.upd h.FU hu (λg hg hm=>by have:=hn g hg;have:=hk g hm;omega),h.a,h.b,h.box.upd hu (λhm=>by have:=hn _ hm;omega),ho,
  h.out.upd hu (λg hg hm=>(hn g hm).2.2 hg),λg hg he=>?_,h.upd.joined hu (λg hg=>Β (by have:=hn g hg;omega)),h.old,h.wH,h.t0,h.k0⟩
 ·rcases hb g hg with h'|h'
  ·exact h5 g h' hm
  ·have:=(h2.iy hm).2;omega
 ·rcases hb g hg with h'|h'
  ·exact h.sep g h' he
  ·have:=(h.out.lt g he).2;omega
theorem KM.Gu {w0 w:World} {O:jC} {bt ba lo n:Nat} {F0:List Nat} {va vb vn vo:Value} {C:CC} (h:KM O w0 w bt ba lo n F0 va vb vn vo C) {W:World} {Kk:Value} {O':List Int}
  (hu:aa vo.ownBlock.toList w W) (ho:aH W (w0.heap.size+1) Kk O') (hb:∀g,Kk.ownBlock=some g->vo.ownBlock=some g\/w.heap.size<=g):KM O w0 W bt ba lo n F0 va vb vn Kk { C with O:=O' }:=by
 obtain ⟨S,h1,h2,h3,h4,h5,h6⟩:=h.jM;have hn:∀g,g∈vo.ownBlock.toList->w0.heap.size<g/\g∉S.blk n/\vn.ownBlock≠some g:=λg hg=>by
  have hg':vo.ownBlock=some g:=by simpa using hg
  exact ⟨by have:=(h.out.lt g hg').1;omega,h6 g hg',λe=>h.sep g e hg'⟩
 have hbt:=h.t0;have zS:=h.old ba h.wH.2;have hk:=h.k0;have hsz:=h.upd.size
 refine ⟨⟨S,h1,h2.upd hu (λhm=>by have:=hn _ hm;omega) (λhm=>by have:=hn _ hm;omega) (λg hg hm=>(hn g hm).2.1 hg),h3,h4,h5,λg hg hm=>?_⟩,O.upd h.FU hu (λg hg hm=>by have:=hn g hg;have:=hk g hm;omega),h.a,h.b,h.box.upd hu (λhm=>by have:=hn _ hm;omega),
  h.now.upd hu (λg hg hm=>(hn g hm).2.2 hg),ho,λg hg he=>?_,h.upd.joined hu (λg hg=>Β (by have:=hn g hg;omega)),h.old,h.wH,h.t0,h.k0⟩
 ·rcases hb g hg with h'|h'
  ·exact h6 g h' hm
  ·have:=(h2.iy hm).2;omega
 ·rcases hb g he with h'|h'
  ·exact h.sep g hg h'
  ·have:=(h.now.lt g hg).2;omega
theorem KM.aTo {w0 w:World} {O:jC} {bt ba lo n:Nat} {F0:List Nat} {va vb vn vo Ip:Value} {C:CC} (h:KM O w0 w bt ba lo n F0 va vb vn vo C) {A':List Int} (ha:iT w0 F0 Ip A'):KM O w0 w bt ba lo n F0 Ip vb vn vo { C with A:=A' }:=
 ⟨h.jM,h.FU,ha,h.b,h.box,h.now,h.out,h.sep,h.upd,h.old,h.wH,h.t0,h.k0⟩
theorem KM.bTo {w0 w:World} {O:jC} {bt ba lo n:Nat} {F0:List Nat} {va vb vn vo D7:Value} {C:CC} (h:KM O w0 w bt ba lo n F0 va vb vn vo C) {B':List Int} (hb:iT w0 F0 D7 B') :
  KM O w0 (w.setCell ⟨w0.heap.size,0,none⟩ D7) bt ba lo n F0 va D7 vn vo { C with B:=B' }:=by
 obtain ⟨S,h1,h2,h3,h4,h5,h6⟩:=h.jM;have hu:aa [w0.heap.size] w (w.setCell ⟨w0.heap.size,0,none⟩ D7):=(aa.refl _ _).setCell (Α σ) _;have hbt:=h.t0;have zS:=h.old ba h.wH.2;have hk:=h.k0;refine ⟨⟨S,h1,h2.upd hu ζ ζ (λg hg hm=>?_),h3,h4,h5,h6⟩,O.upd h.FU hu (λg hg hm=>by have:=hk g hm;simp at hg;omega),h.a,hb,(h.box.set 0 D7).ext (λj hj=>ζ),h.now.upd hu (λg hg hm=>?_),h.out.upd hu (λg hg hm=>?_),h.sep,h.upd.joined hu (λg hg=>Β (by simp at hg;omega)),h.old,h.wH,h.t0,h.k0⟩
 ·simp at hm;subst hm;rcases h4 _ hg with h'|h'
  ·have:=h.old _ h';omega
  ·omega
 ·have:=(h.now.lt g hg).1;simp at hm;omega
 ·have:=(h.out.lt g hg).1;simp at hm;omega
theorem KM.EO {w0 w:World} {O:jC} {bt ba lo n:Nat} {F0:List Nat} {va vb vn vo:Value} {C:CC} (h:KM O w0 w bt ba lo n F0 va vb vn vo C) {S:CS} (hS:S.f=C.F) (h2:aJ w bt ba lo n S) (h3:Apart O bt ba n S)
  (h4:∀g,g∈S.blk n->g∈F0\/w0.heap.size<g) (h6:∀g,vo.ownBlock=some g->g∉S.blk n) {W:World} {v:Value} {a b:Nat} (hF:aJ W bt ba lo n (gJ S v a b)) (hL:O.at_ W (C.q+1)) (hu:aa (O.wr++ba::S.blk n) w W)
  (hg:∀g,g∈(gJ S v a b).blk n->g∈S.blk n\/w.heap.size<=g) :
  KM O w0 (W.alloc (.cells #[.int .i64 (a:Int)] 3)) bt ba lo n F0 va vb (.slice (some ⟨W.heap.size,0,none⟩) 1 1) vo { C with F:=bW C.F a b,N:=[(a:Int)],q:=C.q+1 }:=by
 have hbt:=h.t0;have zS:=h.old ba h.wH.2;have hk:=h.k0;have hbx:=h.box.lt;have hsz:=hu.size;have hm:∀g,g∈O.wr++ba::S.blk n->g∈F0\/w0.heap.size<g:=λg hg=>by
  rcases τ.1 hg with hg|hg
  ·exact Α (h.wH.1 _ hg)
  ·rcases ρ.1 hg with rfl|hg
   ·exact Α h.wH.2
   ·exact h4 g hg
 have hvo:∀g,vo.ownBlock=some g->g∉O.wr++ba::S.blk n:=λg hg hm=>by
  have:=(h.out.lt g hg).1;rcases τ.1 hm with hm|hm
  ·have:=hk _ (O.sub _ hm);omega
  ·rcases ρ.1 hm with rfl|hm
   ·omega
   ·exact h6 g hg hm
 have ha:aa [] W (W.alloc (.cells #[.int .i64 (a:Int)] 3)):=(aa.refl _ _).alloc _;have hb:w0.heap.size∉O.wr++ba::S.blk n:=λhm2=>by
  rcases hm _ hm2 with h'|h'
  ·have:=h.old _ h';omega
  ·omega
 refine ⟨⟨gJ S v a b,by rw [Ez,hS],hF.ah ha,⟨h3.bt,h3.ba,λg hg1 hm=>?_⟩,λg hgm=>?_,λg hg1 hgm=>?_,λg hg1 hgm=>?_⟩,O.upd hL ha σ,h.a,h.b,(h.box.upd hu hb).upd ha σ,aH.lit W _ a ω,
  (h.out.upd hu hvo).upd ha σ,λg hg1 hg2=>?_,(h.upd.joined hu (λg hg=>by rcases hm g hg with h'|h';exact Α h';exact Β ω)).then ha,h.old,h.wH,h.t0,h.k0⟩
 ·rcases hg _ hg1 with h'|h'
  ·exact h3.blk g h' hm
  ·have:=hk _ hm;omega
 ·rcases hg g hgm with h'|h'
  ·exact h4 g h'
  ·exact Β ω
 ·simp [Value.ownBlock] at hg1;have:=(hF.iy hgm).2;omega
 ·rcases hg g hgm with h'|h'
  ·exact h6 g hg1 h'
  ·have:=(h.out.lt g hg1).2;omega
 ·simp [Value.ownBlock] at hg1;have:=(h.out.lt g hg2).2;omega
set_option maxRecDepth 100000 in
theorem yg (Od:jC) (bt ba lo n:Nat) (S0:CS) (va vb:Value) (A B:List Int) (q0:Nat) (w:World) (h:aJ w bt ba lo n S0) (hO:Od.at_ w q0) (hap:Apart Od bt ba n S0) (hbt:bt<w.heap.size)
    (ha:iT w (Od.wr++ba::S0.blk n) va A) (hb:iT w (Od.wr++ba::S0.blk n) vb B) (hrA:yC n S0 A=true) (hrB:yC n S0 B=true) (hno:A.any (λx=>decide (x∈B))=false)
    (hok:∀k,wE Od.dom Od.lt n k (bN Od.lt n k ⟨S0.f,A,B,[],[],q0⟩)) :
    Calls Tryz.prog 185 #[.pointer (some ⟨bt,0,none⟩),.iface Od.ty (.pointer (some ⟨Od.p,0,none⟩)),va,vb] w λe w'=>
      ∃k vn Ip D7 vo,e=.returned (.tuple #[vo,.bool true])/\KM Od w w' bt ba lo n (Od.wr++ba::S0.blk n) Ip D7 vn vo (bN Od.lt n k ⟨S0.f,A,B,[],[],q0⟩)/\(bN Od.lt n k ⟨S0.f,A,B,[],[],q0⟩).A=[]/\(bN Od.lt n k ⟨S0.f,A,B,[],[],q0⟩).B=[]/\(bN Od.lt n k ⟨S0.f,A,B,[],[],q0⟩).N=[]:=by
  have hle:=h.le;have hu1:∀v,aa [] w (w.alloc (.cells #[v] 77)):=λv=>(aa.refl _ _).alloc _;have hbx:=aY w [vb] 77;have kA:=Bf bt ba lo n S0 va A (w.alloc (.cells #[vb] 77)) (h.ah (hu1 vb)) _ (ha.upd (hu1 vb) σ);have kB:=Bf bt ba lo n S0 vb B (w.alloc (.cells #[vb] 77)) (h.ah (hu1 vb)) _ (hb.upd (hu1 vb) σ);have kF:=nY (w.alloc (.cells #[vb] 77)) _ w.heap.size va vb A B (ha.upd (hu1 vb) σ) (hb.upd (hu1 vb) σ) (hbx.ext (λj hj=>by simp at hj;subst hj;rfl));rw [hrA] at kA;rw [hrB] at kB;rw [hno] at kF;have hold:∀g,g∈Od.wr++ba::S0.blk n->g<w.heap.size:=λg hg=>by
    rcases τ.1 hg with hg|hg
    · exact Od.low hO _ (Od.sub _ hg)
    · rcases ρ.1 hg with rfl|hg
      · exact h.row.lt
      · exact (h.iy hg).2
  have hM:KM Od w (w.alloc (.cells #[vb] 77)) bt ba lo n (Od.wr++ba::S0.blk n) va vb (.slice none 0 0) (.slice none 0 0) (bN Od.lt n 0 ⟨S0.f,A,B,[],[],q0⟩):=
    ⟨⟨S0,rfl,h.ah (hu1 vb),hap,(λg hg=>Α (by simp [hg])),(λg hg=>by cases hg),(λg hg=>by cases hg)⟩,Od.upd hO (hu1 vb) σ,ha,hb,hbx.ext (λj hj=>by simp at hj;subst hj;rfl),aH.nil _ _,aH.nil _ _,(λg hg=>by cases hg),(aa.refl _ _).alloc _,hold,⟨λx hx=>τ.2 (Α hx),σ⟩,hbt,λx hx=>Od.low hO x hx⟩
  have HOK:=χ hok;have Hm:=χ hM;have sa:=ha.shape;have sb:=hb.shape;obtain ⟨a1,c1,rfl,hc1⟩:=sa;obtain ⟨b1,d1,rfl,hd1⟩:=sb;clear hok hM ha hb hbx h hO hap hrA hrB hno hold;generalize hF0:Od.wr++ba::S0.blk n=F0 at *;clear hF0;generalize hC0:(⟨S0.f,A,B,[],[],q0⟩:CC)=C0 at *;clear hC0
  go_enter Tryz.func185,Tryz.ntmps185
  go_wp2_with (first
    | (go_at_call 190;(with_reducible refine (kA).mono ?_);rintro e w9 ⟨rfl,aB⟩;rw [aB];clear aB w9)
    | (go_at_call 190;(with_reducible refine (kB).mono ?_);rintro e w9 ⟨rfl,aB⟩;rw [aB];clear aB w9)
    | (go_at_call 191;(with_reducible refine (kF).mono ?_);rintro e w9 ⟨rfl,aB⟩;rw [aB];clear aB w9))
  clear kA kB kF
  go_loopw [2,10,11,12] (λs2 s10 s11 s12 wr=>∃ (k:Nat) (vb:Value),s12=.int .i64 (k:Int)/\k<=n+1/\KM Od w wr bt ba lo n F0 s2 vb s11 s10 (bN Od.lt n k C0)) (λ_ _ _ s12 _=>n+2-(intOf s12).toNat)
  case atStart=>exact ⟨0,_,rfl,ω,Hm.out⟩
  case round=>
    obtain ⟨k,vb,rfl,hk,hM⟩:=hrel;have hok:=HOK.out k;generalize hC:bN Od.lt n k C0=C at *;have HC:=χ hC;clear hC;obtain ⟨F,A,B,N,O,q⟩:=C;obtain ⟨a2,c2,rfl,hc2⟩:=hM.a.shape;obtain ⟨b2,d2,rfl,hd2⟩:=hM.b.shape;obtain ⟨n2,e2,rfl,hn2,he2,_⟩:=hM.now.shape;have hbx:=hM.box.cell 0 ω;have hsm:=hok.small;have hfw:=hok.few;simp only at hsm hfw
    by_cases hemp:A=[]/\B=[]/\N=[]
    · obtain ⟨rfl,rfl,rfl⟩:=hemp
      obtain ⟨o2,f2,rfl,_⟩:=hM.out.shape;have HM:=χ hM;clear hM hok;go_wp2;go_ret2;exact ⟨k,_,_,_,_,rfl,by rw [HC.out];exact HM.out,by rw [HC.out],by rw [HC.out],by rw [HC.out]⟩
    · have hpos:0<A.length+B.length+N.length:=by
        rcases A with _|⟨x,t⟩
        · rcases B with _|⟨x,t⟩
          · rcases N with _|⟨x,t⟩
            · exact absurd ⟨rfl,rfl,rfl⟩ hemp
            · simp
          · simp;omega
        · simp;omega
      have hkn:k<=n:=hok.ends (by
        rcases A with _|⟨x,t⟩
        · rcases B with _|⟨x,t⟩
          · rcases N with _|⟨x,t⟩
            · exact absurd ⟨rfl,rfl,rfl⟩ hemp
            · exact Β (Β σ)
          · exact Β (Α σ)
        · exact Α σ)
      have GL:=χ hok;have HM:=χ hM;clear hemp hok hM
      go_upto_region 7 with (fail)
      go_cut [50] (λs50 wx=>s50=.bool (tA n k A F)/\KM Od w wx bt ba lo n F0 (.slice a2 A.length c2) (.slice b2 B.length d2) (.slice n2 N.length e2) u10 ⟨F,A,B,N,O,q⟩)
      case first=>
        rcases A with _|⟨x,t⟩
        · go_wp2_with fail
          go_meet
          exact ⟨rfl,HM.out⟩
        · obtain ⟨ga,oa,rfl,hgl,tV,hc⟩:=HM.out.a.head
          have hc1:=HM.out.far hgl tV hc (aa.refl [] _) σ;have kD:=HM.out.deg x;have uS:tA n k (x::t) F=(bC n F x == (k:Int)):=rfl;have HT:=χ uS;simp only at kD;clear uS hc;generalize bC n F x=d at *
          go_wp2_with ((go_at_call 194;(with_reducible refine (kD).mono ?_);rintro e w9 ⟨rfl,aB⟩;rw [aB];clear aB w9))
          go_meet
          exact ⟨by rw [HT.out],HM.out⟩
      case rest=>
        obtain ⟨rfl,hM1⟩:=hcut;have mY:=χ hM1;clear hM1 HM hbx
        go_upto_if 50 with (fail)
        go_cut [2,11] (λs2 s11 wx=>∃vb,KM Od w wx bt ba lo n F0 s2 vb s11 u10 (takeA n k ⟨F,A,B,N,O,q⟩))
        case first=>
          cases uS:tA n k A F with
          | false=>
            go_wp2_with fail
            go_meet
            have e:takeA n k ⟨F,A,B,N,O,q⟩=⟨F,A,B,N,O,q⟩:=by
              rcases A with _|⟨x,t⟩
              · rfl
              · unfold takeA;simp only;rw [Γ (by simpa [tA] using uS)]
            rw [e];exact ⟨_,mY.out⟩
          | true=>
            rcases A with _|⟨x,t⟩
            · cases uS
            · have e:takeA n k ⟨F,x::t,B,N,O,q⟩=⟨F,t,B,N++[x],O,q⟩:=by
                unfold takeA;simp only;rw [Δ (by simpa [tA] using uS)]
              obtain ⟨ga,oa,rfl,hgl,tV,hc⟩:=mY.out.a.head;have hown:∀g,g∈(Value.slice n2 N.length e2).ownBlock.toList->w.heap.size<=g:=λg hg=>by have:=(mY.out.now.lt g (by simpa using hg)).1;omega
              have r1:∀W,aa (Value.slice n2 N.length e2).ownBlock.toList wc W->W.cell? ⟨ga,oa,none⟩=some (.int .i64 x):=λW hW=>mY.out.far hgl tV hc hW hown;have s0:aa (Value.slice n2 N.length e2).ownBlock.toList wc wc.drew:=(aa.refl _ _).drew;have hsl:=λW=>jU W (some ⟨ga,oa,none⟩) (t.length+1) c2 ω (by simp at hsm;omega);have vY:=(show iT w F0 (.slice (some ⟨ga,oa,none⟩) (t.length+1) c2) (x::t) from mY.out.a).tail;obtain ⟨a3,mP⟩:=iB (some ⟨ga,oa,none⟩) (t.length+1) c2;rw [mP] at hsl vY;simp only [Nat.add_sub_cancel] at hsl vY;have JR:=χ vY;have hno:=mY.out.now;have E:=χ e
              clear vY e uS mP hc
              go_wp2_with fail
              go_region_held3 (λW=>aa (Value.slice n2 N.length e2).ownBlock.toList wc W)
                (first|assumption|exact (aa.refl _ _).drew|(have hS:=(by assumption:aa _ _ _);exact hS.alloc _))
                (first
                  | (have hS:=s0.alloc (.cells #[.int .i64 x] 3)
                     refine iJ rfl _ _ 77 rfl Tryz.underlying77 (w.heap.size+1) (.slice n2 N.length e2) N rfl (hno.upd ((aa.refl [] _).drew.alloc (.cells #[.int .i64 x] 3)) σ) wc.heap.size x rfl (iV wc [.int .i64 x] 3 0 _ rfl) ω (by have:=mY.out.upd.size;have:=mY.out.box.lt;simp;omega) ?_;intro v2 w2 ho2 hu2 hv2
                     have hS2:aa (Value.slice n2 N.length e2).ownBlock.toList wc w2:=hS.trans hu2))
              go_wp2_with fail
              go_meet
              rw [E.out];exact ⟨_,(mY.out.zN hS2 ho2 (λg hg=>by rcases hv2 g hg with h|h;exact Α h;exact Β (by simp at h;omega))).aTo JR.out⟩
        case rest=>
          have hT1:=lh n k ⟨F,A,B,N,O,q⟩;generalize iU:takeA n k ⟨F,A,B,N,O,q⟩=C1 at *;have I4:=χ iU;clear iU mY;obtain ⟨F1,A1,B1,N1,O1,q1⟩:=C1;have hs1:A1.length+B1.length+N1.length+O1.length<=100001/\N1.length<=2:=by
            obtain ⟨h1,h2⟩:=hT1;unfold tot at h1;simp only at h1 h2;omega
          obtain ⟨hs1,hf1⟩:=hs1;obtain ⟨vb1,hcut⟩:=hcut;obtain ⟨a5,c5,rfl,Jv⟩:=hcut.a.shape;obtain ⟨b5,d5,rfl,hd5⟩:=hcut.b.shape;obtain ⟨n5,e5,rfl,hn5,he5,_⟩:=hcut.now.shape;simp only at hn5;have hbx:=hcut.box.cell 0 ω;have mY:=χ hcut;clear hcut hT1 hsm hfw hpos
          go_upto_region 9 with (fail)
          go_cut [70] (λs70 wx=>s70=.bool (tA n k B1 F1)/\KM Od w wx bt ba lo n F0 (.slice a5 A1.length c5) (.slice b5 B1.length d5) (.slice n5 N1.length e5) u10 ⟨F1,A1,B1,N1,O1,q1⟩)
          case first=>
            rcases B1 with _|⟨x,t⟩
            · go_wp2_with fail
              go_meet
              exact ⟨rfl,mY.out⟩
            · obtain ⟨ga,oa,rfl,hgl,tV,hc⟩:=mY.out.b.head
              have hc1:=mY.out.far hgl tV hc (aa.refl [] _) σ;have kD:=mY.out.deg x;have uS:tA n k (x::t) F1=(bC n F1 x == (k:Int)):=rfl;have HT:=χ uS;simp only at kD;clear uS hc;generalize bC n F1 x=d at *
              go_wp2_with ((go_at_call 194;(with_reducible refine (kD).mono ?_);rintro e w9 ⟨rfl,aB⟩;rw [aB];clear aB w9))
              go_meet
              exact ⟨by rw [HT.out],mY.out⟩
          case rest=>
            obtain ⟨rfl,hM2⟩:=hcut;have hbx:=hM2.box.cell 0 ω;have hbf:=hM2.box.free 0;have wZ:=χ hM2;clear hM2 mY
            go_upto_if 70 with (fail)
            go_cut [11] (λs11 wx=>∃vb,KM Od w wx bt ba lo n F0 (.slice a5 A1.length c5) vb s11 u10 (takeB n k ⟨F1,A1,B1,N1,O1,q1⟩))
            case first=>
              cases uS:tA n k B1 F1 with
              | false=>
                go_wp2_with fail
                go_meet
                have e:takeB n k ⟨F1,A1,B1,N1,O1,q1⟩=⟨F1,A1,B1,N1,O1,q1⟩:=by
                  rcases B1 with _|⟨x,t⟩
                  · rfl
                  · unfold takeB;simp only;rw [Γ (by simpa [tA] using uS)]
                rw [e];exact ⟨_,wZ.out⟩
              | true=>
                rcases B1 with _|⟨x,t⟩
                · cases uS
                · have e:takeB n k ⟨F1,A1,x::t,N1,O1,q1⟩=⟨F1,A1,t,N1++[x],O1,q1⟩:=by
                    unfold takeB;simp only;rw [Δ (by simpa [tA] using uS)]
                  obtain ⟨ga,oa,rfl,hgl,tV,hc⟩:=wZ.out.b.head;have hown:∀g,g∈(Value.slice n5 N1.length e5).ownBlock.toList->w.heap.size<g:=λg hg=>by have:=(wZ.out.now.lt g (by simpa using hg)).1;omega
                  have r1:∀W,aa (Value.slice n5 N1.length e5).ownBlock.toList wc W->W.cell? ⟨ga,oa,none⟩=some (.int .i64 x):=λW hW=>wZ.out.far hgl tV hc hW (λg hg=>by have:=hown g hg;omega);have r2:∀W,aa (Value.slice n5 N1.length e5).ownBlock.toList wc W->W.cell? ⟨w.heap.size,0,none⟩=some (.slice (some ⟨ga,oa,none⟩) (x::t).length d5):=λW hW=>by rw [hW.cell wZ.out.box.lt (λhm=>by have:=hown _ hm;simp at this)];exact hbx
                  have r3:∀W,aa (Value.slice n5 N1.length e5).ownBlock.toList wc W->W.frozen? ⟨w.heap.size,0,none⟩=false:=λW hW=>by rw [hW.frozen wZ.out.box.lt (λhm=>by have:=hown _ hm;simp at this)];exact hbf
                  have s0:aa (Value.slice n5 N1.length e5).ownBlock.toList wc wc:=aa.refl _ _;have p1:=r1 _ s0;have p3:=r1 _ (s0.alloc (.cells #[.int .i64 x] 3));have p4:=r2 _ (s0.alloc (.cells #[.int .i64 x] 3));have hsl:=λW=>jU W (some ⟨ga,oa,none⟩) (t.length+1) d5 ω (by simp at hs1;omega);have vY:=(show iT w F0 (.slice (some ⟨ga,oa,none⟩) (t.length+1) d5) (x::t) from wZ.out.b).tail;obtain ⟨a3,mP⟩:=iB (some ⟨ga,oa,none⟩) (t.length+1) d5;rw [mP] at hsl vY;simp only [Nat.add_sub_cancel] at hsl vY;have JR:=χ vY;have hno:=wZ.out.now;have E:=χ e;clear vY e uS mP hc
                  go_wp2_with fail
                  go_region_law
                    (first
                      | (refine iJ rfl _ _ 77 rfl Tryz.underlying77 (w.heap.size+1) (.slice n5 N1.length e5) N1 rfl (hno.upd ((aa.refl [] _).drew.alloc (.cells #[.int .i64 x] 3)) σ) wc.heap.size x rfl (iV wc [.int .i64 x] 3 0 _ rfl) ω (by have:=wZ.out.upd.size;have:=wZ.out.box.lt;simp;omega) ?_
                         intro v2 w2 ho2 hu2 hv2;have hS2:aa (Value.slice n5 N1.length e5).ownBlock.toList wc w2:=(s0.drew.alloc (.cells #[.int .i64 x] 3)).trans hu2;have g1:=r1 _ hS2;have g2:=r2 _ hS2
                         have g3:=r3 _ hS2))
                  all_goals
                    go_wp2_with fail
                    go_meet
                    rw [E.out];exact ⟨_,(wZ.out.zN hS2 ho2 (λg hg=>by rcases hv2 g hg with h|h;exact Α h;exact Β (by simp at h;omega))).bTo JR.out⟩
            case rest=>
              have hT1:=lF n k ⟨F1,A1,B1,N1,O1,q1⟩;generalize hC2:takeB n k ⟨F1,A1,B1,N1,O1,q1⟩=C2 at *;have IE:=χ hC2;clear hC2 wZ;obtain ⟨F2,A2,B2,N2,O2,q2⟩:=C2;have hs2:A2.length+B2.length+N2.length+O2.length<=100001/\N2.length<=3:=by
                obtain ⟨h1,h2⟩:=hT1;unfold tot at h1;simp only at h1 h2;omega
              obtain ⟨hs2,hf2⟩:=hs2;obtain ⟨vb2,hcut⟩:=hcut;obtain ⟨n6,e6,rfl,hn6,he6,_⟩:=hcut.now.shape;obtain ⟨o6,p6,rfl,ho6,hp6,_⟩:=hcut.out.shape;simp only at hn6;have Ie:=χ hcut;clear hcut hT1 hs1 hf1
              go_upto_region 11 with (fail)
              go_cut [82] (λs82 wx=>s82=.bool (N2.length % 2 == 1)/\KM Od w wx bt ba lo n F0 (.slice a5 A1.length c5) vb2 (.slice n6 N2.length e6) (.slice o6 O2.length p6) ⟨F2,A2,B2,N2,O2,q2⟩)
              case first=>
                have key:∀m:Nat,N2.length=m->N2.length % 2=m % 2:=λm h=>by rw [h]
                match N2,hf2 with
                | [],_=>go_wp2_with fail;go_meet;exact ⟨σ,Ie.out⟩
                | [x],_=>go_wp2_with fail;go_meet;exact ⟨σ,Ie.out⟩
                | [x,y],_=>go_wp2_with fail;go_meet;exact ⟨σ,Ie.out⟩
                | [x,y,z],_=>go_wp2_with fail;go_meet;exact ⟨σ,Ie.out⟩
                | _::_::_::_::_,hf2=>simp at hf2;try omega
              case rest=>
                obtain ⟨rfl,FX⟩:=hcut;have ED:=χ FX;clear FX Ie
                go_upto_if 82 with (fail)
                go_cut [10,11] (λs10 s11 wx=>∃va vb,va=.slice a5 A1.length c5/\KM Od w wx bt ba lo n F0 va vb s11 s10 (bH ⟨F2,A2,B2,N2,O2,q2⟩))
                case first=>
                  cases BD:(N2.length % 2 == 1) with
                  | false=>
                    go_wp2_with fail
                    go_meet
                    have e:bH ⟨F2,A2,B2,N2,O2,q2⟩=⟨F2,A2,B2,N2,O2,q2⟩:=by
                      match N2,hf2,BD with
                      | [],_,_=>rfl
                      | [x],_,BD=>simp at BD
                      | [x,y],_,_=>rfl
                      | [x,y,z],_,BD=>simp at BD
                      | _::_::_::_::_,hf2,_=>simp at hf2;try omega
                    rw [e];exact ⟨_,_,rfl,ED.out⟩
                  | true=>
                    rcases N2 with _|⟨x,r⟩
                    · simp at BD
                    · have e:bH ⟨F2,A2,B2,x::r,O2,q2⟩=⟨F2,A2,B2,r,O2++[x],q2⟩:=by
                        match r,hf2,BD with
                        | [],_,_=>rfl
                        | [y],_,BD=>simp at BD
                        | [y,z],_,_=>rfl
                        | _::_::_::_,hf2,_=>simp at hf2;try omega
                      obtain ⟨n7,e7,he7,hn7,_,hcells⟩:=ED.out.now.shape;obtain ⟨gn,on,rfl,hc0⟩:=hcells 0 x rfl;cases he7;rw [ϐ] at hc0;have hsl:=λW=>jU W (some ⟨gn,on,none⟩) (r.length+1) e6 ω (by simp at hs2;omega);have hno:=λW (h:aH W (w.heap.size+1) (.slice (some ⟨gn,on,none⟩) (r.length+1) e6) (x::r))=>h.tail;obtain ⟨a3,mP⟩:=iB (some ⟨gn,on,none⟩) (r.length+1) e6;rw [mP] at hsl hno;simp only [Nat.add_sub_cancel] at hsl hno;have HNO:=χ hno;have zM:=ED.out.out;have E:=χ e;clear hno e BD mP hcells
                      go_wp2_with (at_builtin;refine kU rfl _ _ 77 rfl Tryz.underlying77 (w.heap.size+1) (.slice o6 O2.length p6) O2 rfl (zM.upd ((aa.refl [] _).alloc (.cells #[.int .i64 x] 3)) σ) wc.heap.size x rfl (iV wc [.int .i64 x] 3 0 _ rfl) ω (by have:=ED.out.upd.size;have:=ED.out.box.lt;simp;omega) ?_;intro v2 w2 ho2 hu2 hv2)
                      go_meet
                      have hS2:aa (Value.slice o6 O2.length p6).ownBlock.toList wc w2:=((aa.refl _ _).alloc (.cells #[.int .i64 x] 3)).trans hu2;have hm1:=ED.out.Gu hS2 ho2 (λg hg=>by rcases hv2 g hg with h|h;exact Α h;exact Β (by simp at h;omega));have hm2:=hm1.zN (aa.refl _ _) (HNO.out _ hm1.now).1 (λg hg=>by rw [(HNO.out _ hm1.now).2] at hg;exact Α hg);rw [E.out];exact ⟨_,_,rfl,hm2⟩
                case rest=>
                  have hT1:=xB ⟨F2,A2,B2,N2,O2,q2⟩ hf2;have wu:=GL.out.join;rw [I4.out,IE.out] at wu;generalize hC3:bH ⟨F2,A2,B2,N2,O2,q2⟩=C3 at *;have JY:=χ hC3;clear hC3 ED;obtain ⟨F3,A3,B3,N3,O3,q3⟩:=C3;simp only at wu;obtain ⟨hT1,hf3⟩:=hT1;simp only at hf3;obtain ⟨va3,vb3,rfl,hcut⟩:=hcut;obtain ⟨n8,e8,rfl,hn8,he8,_⟩:=hcut.now.shape;obtain ⟨o8,p8,rfl,ho8,hp8,_⟩:=hcut.out.shape;simp only at hn8;have wh:=χ hcut;have HJ:=χ wu;clear hcut hT1 hs2 hf2 wu
                  go_upto_region 14 with (fail)
                  go_cut [93] (λs93 wx=>s93=.bool (N3.length == 2)/\KM Od w wx bt ba lo n F0 (.slice a5 A1.length c5) vb3 (.slice n8 N3.length e8) (.slice o8 O3.length p8) ⟨F3,A3,B3,N3,O3,q3⟩)
                  case first=>
                    match N3,hf3 with
                    | [],_=>go_wp2_with fail;go_meet;exact ⟨σ,wh.out⟩
                    | [x],_=>go_wp2_with fail;go_meet;exact ⟨σ,wh.out⟩
                    | [x,y],_=>go_wp2_with fail;go_meet;exact ⟨σ,wh.out⟩
                    | _::_::_::_,hf3=>simp at hf3;try omega
                  case rest=>
                    obtain ⟨rfl,hM6⟩:=hcut;have qN:=χ hM6;clear hM6 wh;have hst:sK Od.lt n k ⟨F,A,B,N,O,q⟩=fF Od.lt ⟨F3,A3,B3,N3,O3,q3⟩:=by
                      unfold sK;rw [I4.out,IE.out,JY.out]
                    have hru:bN Od.lt n (k+1) C0=fF Od.lt ⟨F3,A3,B3,N3,O3,q3⟩:=by rw [bN,HC.out,hst]
                    have hq3:q3<=1000000:=by
                      have h:=y8 n k ⟨F,A,B,N,O,q⟩;rw [I4.out,IE.out,JY.out] at h;simp only at h;rw [h];exact GL.out.asked
                    have Er:=χ hru;clear hst hru I4 IE JY
                    match N3,hf3,HJ,qN,Er with
                    | [],_,_,qN,Er=>
                      go_wp2_with fail
                      go_roundw
                      case rel=>exact ⟨k+1,_,by go_num,ω,by rw [Er.out];exact qN.out⟩
                      case measure=>simp [intOf];omega
                    | [x],_,_,qN,Er=>
                      go_wp2_with fail
                      go_roundw
                      case rel=>exact ⟨k+1,_,by go_num,ω,by rw [Er.out];exact qN.out⟩
                      case measure=>simp [intOf];omega
                    | [x,y],_,HJ,qN,Er=>
                      obtain ⟨a,b,rfl,rfl,IL,II,hja,hjb,KF,GY,GJ,hjd,He,Iq⟩:=HJ.out x y rfl;obtain ⟨S,Ju,FT,Gz,IQ,hS5,hS6⟩:=qN.out.jM;obtain ⟨n9,e9,he9,hn9,_,hcells⟩:=qN.out.now.shape;obtain ⟨gn,on,rfl,hc0⟩:=hcells 0 (a:Int) rfl;obtain ⟨gn2,on2,heq,hc1⟩:=hcells 1 (b:Int) rfl;cases heq;cases he9;rw [ϐ] at hc0;simp only at Ju;rw [←Ju] at GY GJ hjd He Iq;have hgn:∀g,g∈Od.wr++ba::S.blk n->g≠gn:=λg hg e=>by
                        subst e;have hl:=(qN.out.now.lt g rfl).1;rcases τ.1 hg with hg|hg
                        · have:=qN.out.old _ (qN.out.wH.1 _ hg);omega
                        · rcases ρ.1 hg with rfl|hg
                          · have:=qN.out.old _ qN.out.wH.2;omega
                          · exact hS5 g rfl hg
                      have hgl:=(qN.out.now.lt gn rfl).2;have r1:∀W,aa (Od.wr++ba::S.blk n) wc W->W.cell? ⟨gn,on,none⟩=some (.int .i64 (a:Int)):=λW hW=>by rw [hW.cell hgl (λhm=>hgn _ hm rfl)];exact hc0
                      have r2:∀W,aa (Od.wr++ba::S.blk n) wc W->W.cell? ⟨gn,on+1,none⟩=some (.int .i64 (b:Int)):=λW hW=>by rw [hW.cell hgl (λhm=>hgn _ hm rfl)];exact hc1
                      have kJ:=zz Od bt ba lo n S q3 a b wc.drew (FT.ah (aa.refl [] _).drew) (Od.upd qN.out.FU (aa.refl [] _).drew σ) IL II hq3 hja hjb GY GJ KF hjd He Iq Gz;clear hcells
                      go_wp2_with fail
                      go_region_held3 (λW=>aa (Od.wr++ba::S.blk n) wc W)
                        (first|assumption|exact (aa.refl _ _).drew|(have hS:=(by assumption:aa _ _ _);exact hS.alloc _))
                        (first
                          | ((go_at_call 195;(with_reducible refine (kJ).mono ?_));rintro e w2 ⟨v2,rfl,hF2,hL2,hu2,hg2⟩;have hS2:aa (Od.wr++ba::S.blk n) wc w2:=(aa.refl _ _).drew.trans hu2))
                      go_wp2_with fail
                      go_roundw
                      case rel=>
                        refine ⟨k+1,vb3,by go_num,ω,?_⟩;rw [Er.out];exact qN.out.EO Ju FT Gz IQ hS6 hF2 hL2 hS2 hg2
                      case measure=>simp [intOf];omega
                    | _::_::_::_,hf3,_,_,_=>simp at hf3;try omega
end Go.Proofs.YtnpdakpagnpanaaGreat
namespace Go.Proofs.YtnpdakpagnpanaaGreat
theorem j3:∀ (n:Nat) (l:List Int),l.Nodup->(∀x,x∈l->0<=x/\x<n)->l.length<=n
 | 0,l,_,h=>by
  cases l with
  | nil=>simp
  | cons x r=>have:=h x σ;omega
 | n+1,l,hn,h=>by
  have h1:=j3 n (l.filter (λx=>x != (n:Int))) (hn.filter _) (λx hx=>by
   simp only [List.mem_filter] at hx;have:=h x hx.1;have h2:x≠n:=by simpa using hx.2
   omega)
  have h2:l.length<=(l.filter (λx=>x != (n:Int))).length+1:=by
   clear h1 h
   induction l with
   | nil=>simp
   | cons y r ih=>
    rw [Ζ] at hn
    by_cases hy:y=n
    ·subst hy;have e:r.filter (λx=>x != (n:Int))=r:=by
      rw [List.filter_eq_self];intro a ha;simp;intro e;subst e;exact hn.1 ha
     rw [List.filter_cons_of_neg σ,e];simp
    ·have:=ih hn.2;rw [List.filter_cons_of_pos (by simpa using hy)];simp only [Ω];omega
  omega
structure nT (n:Nat) (F:CF):Prop where
 zW:∀x,x<n->∀y,y∈F.k x->0<=y/\y<n/\F.u y.toNat=x
 nd:∀x,x<n->(F.k x).Nodup
 up:∀y,y<n->F.u y=-1\/∃p:Nat,p<n/\F.u y=p/\(y:Int)∈F.k p
 Dj:∀x,x<n->∀i z,(F.k x)[i]?=some z->(F.k z.toNat).length=i
theorem zY (n:Nat):nT n CS.none.f:=⟨λx _ y hy=>(by cases hy),λx _=>List.nodup_nil,λy _=>Α rfl,λx _ i z h=>by simp [CS.none,CS.f] at h⟩
theorem nT.self {n:Nat} {F:CF} (h:nT n F) {x:Nat} (hx:x<n):(x:Int)∉F.k x:=λhm=>by
 obtain ⟨i,hi,he⟩:=List.getElem_of_mem hm;have:=h.Dj x hx i x (by rw [ε hi,he]);simp at this;omega
theorem nT.len {n:Nat} {F:CF} (h:nT n F) {x:Nat} (hx:x<n):(F.k x).length+1<=n:=by
 have:=j3 n ((x:Int)::F.k x) (Ζ.2 ⟨h.self hx,h.nd x hx⟩) (λy hy=>by
  rcases ρ.1 hy with rfl|hy
  ·omega
  ·have:=h.zW x hx y hy;omega)
 simpa using this
theorem nT.link {n:Nat} {F:CF} (h:nT n F) {a b:Nat} (ha:a<n) (hb:b<n) (hne:a≠b) (ra:F.u a=-1) (rb:F.u b=-1) (hd:(F.k a).length=(F.k b).length):nT n (bW F a b):=by
 have nb:∀x,x<n->(b:Int)∉F.k x:=λx hx hm=>by
  have:=(h.zW x hx b hm).2.2;simp at this;omega
 have na:∀x,x<n->(a:Int)∉F.k x:=λx hx hm=>by
  have:=(h.zW x hx a hm).2.2;simp at this;omega
 refine ⟨λx hx y hy=>?_,λx hx=>?_,λy hy=>?_,λx hx i z hz=>?_⟩
 ·unfold bW at hy ⊢;simp only at hy ⊢
  split at hy
  ·rename_i e
   subst e;rcases τ.1 hy with hy|hy
   ·obtain ⟨h1,h2,h3⟩:=h.zW x hx y hy;refine ⟨h1,h2,?_⟩;rw [Γ (λe=>by rw [e,rb] at h3;omega)];exact h3
   ·simp at hy;subst hy;exact ⟨ω,ω,σ⟩
  ·obtain ⟨h1,h2,h3⟩:=h.zW x hx y hy;refine ⟨h1,h2,?_⟩;rw [Γ (λe=>by rw [e,rb] at h3;omega)];exact h3
 ·unfold bW;simp only
  split
  ·rw [θ];exact ⟨h.nd a ha,σ,λy hy z hz e=>by simp at hz;subst hz;subst e;exact nb a ha hy⟩
  ·exact h.nd x hx
 ·unfold bW;simp only
  by_cases hyb:y=b
  ·subst hyb;exact Β ⟨a,ha,σ,σ⟩
  ·rw [Γ hyb];rcases h.up y hy with h1|⟨p,hp,h1,h2⟩
   ·exact Α h1
   ·refine Β ⟨p,hp,h1,?_⟩
    split
    ·rename_i e;subst e;exact τ.2 (Α h2)
    ·exact h2
 ·have kz:∀z,z∈F.k x->(bW F a b).k z.toNat=F.k z.toNat:=λz hz=>by
   unfold bW;simp only
   rw [Γ (λe=>by
    have:=h.zW x hx z hz
    exact na x hx (by rw [←e,show ((z.toNat:Nat):Int)=z by omega];exact hz))]
  have hz':=hz;unfold bW at hz';simp only at hz'
  split at hz'
  ·rename_i e
   subst e;rcases ϑ i (F.k x).length with hi|hi
   ·rw [Ρ hi] at hz';rw [kz z (Η hz')];exact h.Dj x hx i z hz'
   ·have hil:i=(F.k x).length:=by
     have:=(List.getElem?_eq_some_iff.1 hz').1;simp at this;omega
    subst hil;rw [ϊ (Θ _)] at hz';simp at hz';subst hz';unfold bW;simp only [π];rw [Γ (λe=>hne ω),hd]
  ·rw [kz z (Η hz')];exact h.Dj x hx i z hz'
def CC.L (C:CC):List Int:=C.A++(C.B++(C.N++C.O))
structure G (n ka kb kn ko:Nat) (C:CC):Prop where
 f:nT n C.F
 rt:∀x,x∈C.L->0<=x/\x<n/\C.F.u x.toNat=-1
 nd:C.L.Nodup
 a1:C.A.Pairwise (λx y=>bC n C.F x<bC n C.F y)
 a2:∀x,x∈C.A->(ka:Int)<=bC n C.F x
 b1:C.B.Pairwise (λx y=>bC n C.F x<bC n C.F y)
 b2:∀x,x∈C.B->(kb:Int)<=bC n C.F x
 n1:∀x,x∈C.N->bC n C.F x=kn
 o1:C.O.Pairwise (λx y=>bC n C.F x<bC n C.F y)
 o2:∀x,x∈C.O->bC n C.F x<ko
theorem iF (n k:Nat) (C:CC):(takeA n k C).L.Perm C.L:=by
 obtain ⟨F,A,B,N,O,q⟩:=C;unfold takeA
 split
 ·rename_i x t h
  simp only at h;subst h
  split
  ·unfold CC.L;simp only;rw [List.perm_iff_count];intro y;simp [List.count_append,List.count_cons];omega
  ·exact ό _
 ·exact ό _
theorem iC (n k:Nat) (C:CC):(takeB n k C).L.Perm C.L:=by
 obtain ⟨F,A,B,N,O,q⟩:=C;unfold takeB
 split
 ·rename_i x t h
  simp only at h;subst h
  split
  ·unfold CC.L;simp only;rw [List.perm_iff_count];intro y;simp [List.count_append,List.count_cons];omega
  ·exact ό _
 ·exact ό _
theorem iw (C:CC):(bH C).L.Perm C.L:=by
 obtain ⟨F,A,B,N,O,q⟩:=C;unfold bH
 split
 ·rename_i x h
  simp only at h;subst h;unfold CC.L;simp only;rw [List.perm_iff_count];intro y;simp [List.count_append,List.count_cons]
  try omega
 ·rename_i x y z h
  simp only at h;subst h;unfold CC.L;simp only;rw [List.perm_iff_count];intro y;simp [List.count_append,List.count_cons]
  try omega
 ·exact ό _
theorem wK (n k:Nat) (C:CC):(takeA n k C).F=C.F:=by unfold takeA;split;(split<;>rfl);rfl
theorem wC (n k:Nat) (C:CC):(takeB n k C).F=C.F:=by unfold takeB;split;(split<;>rfl);rfl
theorem wG (C:CC):(bH C).F=C.F:=by unfold bH;split<;>rfl
theorem qm {n k:Nat} {C:CC} (h:G n k k k k C):G n (k+1) k k k (takeA n k C):=by
 have hp:=iF n k C;have hF:=wK n k C;have rt:=λx (hx:x∈(takeA n k C).L)=>h.rt x (hp.mem_iff.1 hx);have nd:=hp.nodup_iff.2 h.nd;have key:((takeA n k C).A.Pairwise (λx y=>bC n C.F x<bC n C.F y))/\(∀x,x∈(takeA n k C).A->((k+1:Nat):Int)<=bC n C.F x)/\(takeA n k C).B=C.B/\(∀x,x∈(takeA n k C).N->bC n C.F x=k)/\(takeA n k C).O=C.O:=by
  obtain ⟨F,A,B,N,O,q⟩:=C;have a1:=h.a1;have a2:=h.a2;have n1:=h.n1;simp only at a1 a2 n1;unfold takeA;rcases A with _|⟨x,t⟩
  ·exact ⟨List.Pairwise.nil,λx hx=>by (cases hx),rfl,n1,rfl⟩
  ·simp only;rw [List.pairwise_cons] at a1;have hx:=a2 x σ
   split
   ·rename_i hd
    refine ⟨a1.2,λy hy=>?_,rfl,λy hy=>?_,rfl⟩
    ·have:=a1.1 y hy;omega
    ·simp only at hy;rcases τ.1 hy with hy|hy
     ·exact n1 y hy
     ·simp at hy;subst hy;exact hd
   ·rename_i hd
    refine ⟨List.pairwise_cons.2 a1,λy hy=>?_,rfl,n1,rfl⟩;rcases ρ.1 hy with rfl|hy
    ·omega
    ·have:=a1.1 y hy;omega
 obtain ⟨k1,k2,k3,k4,k5⟩:=key;rw [←hF] at k1 k2 k4;exact ⟨by rw [hF];exact h.f,λx hx=>by rw [hF];exact rt x hx,nd,k1,k2,by rw [k3,hF];exact h.b1,by rw [k3,hF];exact h.b2,k4,by rw [k5,hF];exact h.o1,by rw [k5,hF];exact h.o2⟩
theorem qC {n k:Nat} {C:CC} (h:G n (k+1) k k k C):G n (k+1) (k+1) k k (takeB n k C):=by
 have hp:=iC n k C;have hF:=wC n k C;have rt:=λx (hx:x∈(takeB n k C).L)=>h.rt x (hp.mem_iff.1 hx);have nd:=hp.nodup_iff.2 h.nd;have key:((takeB n k C).B.Pairwise (λx y=>bC n C.F x<bC n C.F y))/\(∀x,x∈(takeB n k C).B->((k+1:Nat):Int)<=bC n C.F x)/\(takeB n k C).A=C.A/\(∀x,x∈(takeB n k C).N->bC n C.F x=k)/\(takeB n k C).O=C.O:=by
  obtain ⟨F,A,B,N,O,q⟩:=C;have a1:=h.b1;have a2:=h.b2;have n1:=h.n1;simp only at a1 a2 n1;unfold takeB;rcases B with _|⟨x,t⟩
  ·exact ⟨List.Pairwise.nil,λx hx=>by (cases hx),rfl,n1,rfl⟩
  ·simp only;rw [List.pairwise_cons] at a1;have hx:=a2 x σ
   split
   ·rename_i hd
    refine ⟨a1.2,λy hy=>?_,rfl,λy hy=>?_,rfl⟩
    ·have:=a1.1 y hy;omega
    ·simp only at hy;rcases τ.1 hy with hy|hy
     ·exact n1 y hy
     ·simp at hy;subst hy;exact hd
   ·rename_i hd
    refine ⟨List.pairwise_cons.2 a1,λy hy=>?_,rfl,n1,rfl⟩;rcases ρ.1 hy with rfl|hy
    ·omega
    ·have:=a1.1 y hy;omega
 obtain ⟨k1,k2,k3,k4,k5⟩:=key;rw [←hF] at k1 k2 k4;exact ⟨by rw [hF];exact h.f,λx hx=>by rw [hF];exact rt x hx,nd,by rw [k3,hF];exact h.a1,by rw [k3,hF];exact h.a2,k1,k2,k4,by rw [k5,hF];exact h.o1,by rw [k5,hF];exact h.o2⟩
theorem pJ {n k:Nat} {C:CC} (h:G n (k+1) (k+1) k k C):G n (k+1) (k+1) k (k+1) (bH C):=by
 have hp:=iw C;have hF:=wG C;have rt:=λx (hx:x∈(bH C).L)=>h.rt x (hp.mem_iff.1 hx);have nd:=hp.nodup_iff.2 h.nd;have key:(bH C).A=C.A/\(bH C).B=C.B/\(∀x,x∈(bH C).N->x∈C.N)/\((bH C).O=C.O\/∃x,x∈C.N/\(bH C).O=C.O++[x]):=by
  unfold bH
  split
  ·rename_i x hx
   exact ⟨rfl,rfl,λy hy=>by (cases hy),Β ⟨x,by rw [hx];simp,rfl⟩⟩
  ·rename_i x y z hx
   exact ⟨rfl,rfl,λu hu=>by rw [hx];exact Λ _ hu,Β ⟨x,by rw [hx];simp,rfl⟩⟩
  ·exact ⟨rfl,rfl,λy hy=>hy,Α rfl⟩
 obtain ⟨k1,k2,k3,k4⟩:=key;refine ⟨by rw [hF];exact h.f,λx hx=>by rw [hF];exact rt x hx,nd,by rw [k1,hF];exact h.a1,by rw [k1,hF];exact h.a2,by rw [k2,hF];exact h.b1,by rw [k2,hF];exact h.b2,λx hx=>by rw [hF];exact h.n1 x (k3 x hx),?_,?_⟩
 ·rw [hF];rcases k4 with e|⟨x,hx,e⟩
  ·rw [e];exact h.o1
  ·rw [e,List.pairwise_append];exact ⟨h.o1,List.pairwise_singleton _ _,λy hy z hz=>by simp at hz;subst hz;rw [h.n1 z hx];exact h.o2 y hy⟩
 ·rw [hF];intro y hy;rcases k4 with e|⟨x,hx,e⟩
  ·rw [e] at hy;have:=h.o2 y hy;omega
  ·rw [e] at hy;rcases τ.1 hy with hy|hy
   ·have:=h.o2 y hy;omega
   ·simp at hy;subst hy;rw [h.n1 y hx];omega
theorem nG {C:CC} (h:C.N.length<=3):(bH C).N=[]\/∃x y,(bH C).N=[x,y]:=by
 obtain ⟨F,A,B,N,O,q⟩:=C;simp only at h
 match N,h with
 | [],_=>exact Α rfl
 | [x],_=>exact Α rfl
 | [x,y],_=>exact Β ⟨x,y,rfl⟩
 | [x,y,z],_=>exact Β ⟨y,z,rfl⟩
 | _::_::_::_::_,h=>simp at h;try omega
theorem cO (n:Nat) (F:CF) {x:Nat} (hx:x<n):bC n F x=(F.k x).length:=by unfold bC;rw [Δ ω];simp
theorem jV (n:Nat) (F:CF) {a b:Nat} (ha:a<n) (x:Int) (hx:0<=x/\x<n):bC n (bW F a b) x=if x=a then bC n F a+1 else bC n F x:=by
 obtain ⟨y,rfl⟩:=Int.eq_ofNat_of_zero_le hx.1;have hy:y<n:=ω;rw [cO _ _ hy,cO _ _ ha,cO _ _ hy];unfold bW;simp only
 by_cases e:y=a
 ·subst e;simp
 ·rw [Γ e,Γ ω]
theorem vR {n k:Nat} {C:CC} (h:G n (k+1) (k+1) k (k+1) C) {x y:Int} (hN:C.N=[x,y]):∃a b:Nat,x=a/\y=b/\a<n/\b<n/\a≠b/\C.F.u a=-1/\C.F.u b=-1/\(C.F.k a).length=k/\(C.F.k b).length=k:=by
 have hx:=h.rt x (by unfold CC.L;rw [hN];simp);have hy:=h.rt y (by unfold CC.L;rw [hN];simp);have dx:=h.n1 x (by rw [hN];simp);have dy:=h.n1 y (by rw [hN];simp);obtain ⟨a,rfl⟩:=Int.eq_ofNat_of_zero_le hx.1;obtain ⟨b,rfl⟩:=Int.eq_ofNat_of_zero_le hy.1;have ha:a<n:=ω;have hb:b<n:=ω;rw [cO _ _ ha] at dx;rw [cO _ _ hb] at dy;refine ⟨a,b,rfl,rfl,ha,hb,λe=>?_,by simpa using hx.2.2,by simpa using hy.2.2,ω,ω⟩;subst e;have:=h.nd;unfold CC.L at this;rw [hN] at this;rw [θ] at this;have:=this.2.1;rw [θ] at this;have:=this.2.1;simp at this
theorem yE (lt:Int->Int->Bool) (a b:Nat):(dL lt a b=a/\fD lt a b=b)\/(dL lt a b=b/\fD lt a b=a):=by
 unfold dL fD
 split
 ·exact Β ⟨rfl,rfl⟩
 ·exact Α ⟨rfl,rfl⟩
theorem FK {lt:Int->Int->Bool} {n k:Nat} {C:CC} (h:G n (k+1) (k+1) k (k+1) C) (hN:C.N=[]\/∃x y,C.N=[x,y]):G n (k+1) (k+1) (k+1) (k+1) (fF lt C)/\(fF lt C).N.length<=1/\(fF lt C).q+(fF lt C).L.length=C.q+C.L.length:=by
 rcases hN with hN|⟨x,y,hN⟩
 ·have e:fF lt C=C:=by unfold fF;rw [hN]
  rw [e];exact ⟨⟨h.f,h.rt,h.nd,h.a1,h.a2,h.b1,h.b2,λx hx=>(by rw [hN] at hx;cases hx),h.o1,h.o2⟩,by rw [hN];simp,rfl⟩
 ·obtain ⟨a,b,rfl,rfl,ha,hb,hne,ra,rb,da,db⟩:=vR h hN;have e:fF lt C={ C with F:=bW C.F (dL lt a b) (fD lt a b),N:=[(dL lt a b:Int)],q:=C.q+1 }:=by unfold fF;rw [hN];simp
  have hm:∀z,z∈C.A++(C.B++C.O)->z∈C.L/\z≠a/\z≠b:=λz hz=>by
   have hnd:=h.nd;unfold CC.L at hnd ⊢;rw [hN] at hnd ⊢;have hp:(C.A++(C.B++([(a:Int),(b:Int)]++C.O))).Perm ((a:Int)::(b:Int)::(C.A++(C.B++C.O))):=by
    rw [List.perm_iff_count];intro y;simp [List.count_append,List.count_cons];omega
   have qc:=hp.nodup_iff.1 hnd;rw [Ζ,Ζ] at qc;refine ⟨hp.mem_iff.2 (Λ _ (Λ _ hz)),λe=>?_,λe=>?_⟩
   ·subst e;exact qc.1 (Λ _ hz)
   ·subst e;exact qc.2.1 hz
  have KN:∀z,z∈C.A->z∈C.A++(C.B++C.O):=λz hz=>by simp [hz]
  have IU:∀z,z∈C.B->z∈C.A++(C.B++C.O):=λz hz=>by simp [hz]
  have J6:∀z,z∈C.O->z∈C.A++(C.B++C.O):=λz hz=>by simp [hz]
  obtain ⟨hi,lo,Jf,Kt,hhi,hlo,hne2,rhi,rlo,GQ,Jw,Eu⟩:∃hi lo,dL lt a b=hi/\fD lt a b=lo/\hi<n/\lo<n/\hi≠lo/\C.F.u hi=-1/\C.F.u lo=-1/\(C.F.k hi).length=k/\(C.F.k lo).length=k/\((hi=a/\lo=b)\/(hi=b/\lo=a)):=by
   rcases yE lt a b with ⟨h1,h2⟩|⟨h1,h2⟩
   ·exact ⟨a,b,h1,h2,ha,hb,hne,ra,rb,da,db,Α ⟨rfl,rfl⟩⟩
   ·exact ⟨b,a,h1,h2,hb,ha,Ne.symm hne,rb,ra,db,da,Β ⟨rfl,rfl⟩⟩
  have qA:∀z,z∈C.A++(C.B++C.O)->z≠(hi:Int)/\z≠(lo:Int):=λz hz=>by
   have:=hm z hz;rcases Eu with ⟨rfl,rfl⟩|⟨rfl,rfl⟩
   ·exact this.2
   ·exact ⟨this.2.2,this.2.1⟩
  have qb:∀z,z∈C.A++(C.B++C.O)->bC n (bW C.F hi lo) z=bC n C.F z:=λz hz=>by
   have hr:=h.rt z (hm z hz).1;rw [jV n C.F hhi z ⟨hr.1,hr.2.1⟩,Γ (qA z hz).1]
  rw [e,Jf,Kt];have hL:(CC.L { C with F:=bW C.F hi lo,N:=[(hi:Int)],q:=C.q+1 }).Perm ((hi:Int)::(C.A++(C.B++C.O))):=by
   unfold CC.L;simp only;rw [List.perm_iff_count];intro y;simp [List.count_append,List.count_cons];omega
  refine ⟨⟨h.f.link hhi hlo hne2 rhi rlo (by rw [GQ,Jw]),λz hz=>?_,hL.nodup_iff.2 (Ζ.2 ⟨λhm2=>(qA _ hm2).1 rfl,?_⟩),?_,?_,?_,?_,?_,?_,?_⟩,σ,?_⟩
  ·rcases ρ.1 (hL.mem_iff.1 hz) with rfl|hz
   ·refine ⟨ω,ω,?_⟩;unfold bW;simp only [π];rw [Γ hne2];exact rhi
   ·have hr:=h.rt z (hm z hz).1;refine ⟨hr.1,hr.2.1,?_⟩;unfold bW;simp only;rw [Γ (λe=>by have:=(qA z hz).2;omega)];exact hr.2.2
  ·have hnd:=h.nd;unfold CC.L at hnd;rw [hN] at hnd;have hp:(C.A++(C.B++([(a:Int),(b:Int)]++C.O))).Perm ((a:Int)::(b:Int)::(C.A++(C.B++C.O))):=by
    rw [List.perm_iff_count];intro y;simp [List.count_append,List.count_cons];omega
   have qc:=hp.nodup_iff.1 hnd;rw [Ζ,Ζ] at qc;exact qc.2.2
  ·exact h.a1.imp_of_mem (λ{x y} hx hy hxy=>by rw [qb x (KN x hx),qb y (KN y hy)];exact hxy)
  ·intro x hx
   show _<=bC n (bW C.F hi lo) x
   rw [qb x (KN x hx)];exact h.a2 x hx
  ·exact h.b1.imp_of_mem (λ{x y} hx hy hxy=>by rw [qb x (IU x hx),qb y (IU y hy)];exact hxy)
  ·intro x hx
   show _<=bC n (bW C.F hi lo) x
   rw [qb x (IU x hx)];exact h.b2 x hx
  ·intro x hx;simp at hx;subst hx
   show bC n (bW C.F hi lo) (hi:Int)=_
   rw [jV n C.F hhi hi ω,Δ rfl,cO n C.F hhi,GQ];omega
  ·exact h.o1.imp_of_mem (λ{x y} hx hy hxy=>by rw [qb x (J6 x hx),qb y (J6 y hy)];exact hxy)
  ·intro x hx
   show bC n (bW C.F hi lo) x<_
   rw [qb x (J6 x hx)];exact h.o2 x hx
  ·unfold CC.L;simp only [υ,Ω,List.length_nil,hN];omega
theorem rJ {lt:Int->Int->Bool} {n:Nat} {C0:CC} (h:G n 0 0 0 0 C0) (hN:C0.N=[]):∀k,G n k k k k (bN lt n k C0)/\(bN lt n k C0).N.length<=1/\(bN lt n k C0).q+(bN lt n k C0).L.length=C0.q+C0.L.length
 | 0=>⟨h,by rw [bN,hN];simp,rfl⟩
 | k+1=>by
  obtain ⟨g,h1,h2⟩:=rJ (lt:=lt) h hN k;have g1:=qm g;have g2:=qC g1;have g3:=pJ g2;have t1:=(lh n k (bN lt n k C0)).2;have t2:=(lF n k (takeA n k (bN lt n k C0))).2;have ev:=nG (C:=takeB n k (takeA n k (bN lt n k C0))) ω;obtain ⟨g4,h3,h4⟩:=FK (lt:=lt) g3 ev;refine ⟨g4,h3,?_⟩;rw [bN];unfold sK;rw [h4,y8,(iw _).length_eq,(iC _ _ _).length_eq,(iF _ _ _).length_eq];exact h2
def wt (n:Nat) (F:CF) (l:List Int):Nat:=(l.map (λx=>2 ^ (bC n F x).toNat)).sum
theorem qL {n:Nat} {F:CF} {l m:List Int} (h:l.Perm m):wt n F l=wt n F m:=by
 unfold wt;exact (h.map _).sum_nat
theorem Af {n:Nat} {F F':CF} {l:List Int} (h:∀x,x∈l->bC n F x=bC n F' x):wt n F l=wt n F' l:=by
 unfold wt
 congr 1
 exact List.map_congr_left (λx hx=>by rw [h x hx])
structure RI (lt:Int->Int->Bool) (n:Nat) (C0 C:CC):Prop where
 sub:∀x,x∈C.L->x∈C0.L
 out:∀x:Nat,(x:Int)∉C0.L->C.F.u x=C0.F.u x/\C.F.k x=C0.F.k x
 wt:wt n C.F C.L=wt n C0.F C0.L
 nl:∀y p:Nat,y<n->C.F.u y=p->C0.F.u y=p\/((y:Int)∈C0.L/\(p:Int)∈C0.L/\y≠p/\lt y p=false)
 ro:∀y:Nat,(y:Int)∈C0.L->(y:Int)∈C.L\/∃p:Nat,p<n/\C.F.u y=p
theorem RI.refl (lt:Int->Int->Bool) (n:Nat) (C:CC):RI lt n C C:=⟨λx h=>h,λx _=>⟨rfl,rfl⟩,rfl,λy p _ h=>Α h,λy h=>Α h⟩
theorem RI.trans {lt:Int->Int->Bool} {n:Nat} {A B C:CC} (h:RI lt n A B) (k:RI lt n B C):RI lt n A C:=
 ⟨λx hx=>h.sub x (k.sub x hx),λx hx=>by
  have h1:=h.out x hx;have h2:=k.out x (λhm=>hx (h.sub _ hm));exact ⟨h2.1.trans h1.1,h2.2.trans h1.2⟩,k.wt.trans h.wt,λy p hy hu=>by
  rcases k.nl y p hy hu with h1|⟨h1,h2,h3,h4⟩
  ·exact h.nl y p hy h1
  ·exact Β ⟨h.sub _ h1,h.sub _ h2,h3,h4⟩,λy hy=>by
  by_cases hB:(y:Int)∈B.L
  ·exact k.ro y hB
  ·rcases h.ro y hy with h1|⟨p,hp,h1⟩
   ·exact absurd h1 hB
   ·exact Β ⟨p,hp,by rw [(k.out y hB).1];exact h1⟩⟩
theorem RI.perm {lt:Int->Int->Bool} {n:Nat} {C D:CC} (hp:D.L.Perm C.L) (hF:D.F=C.F):RI lt n C D:=
 ⟨λx hx=>hp.mem_iff.1 hx,λx _=>by rw [hF];exact ⟨rfl,rfl⟩,by rw [hF];exact qL hp,λy p _ h=>by rw [hF] at h;exact Α h,λy h=>Α (hp.mem_iff.2 h)⟩
theorem BU {lt:Int->Int->Bool} {n k:Nat} {C:CC} (has:∀a b,lt a b=true->lt b a=false) (h:G n (k+1) (k+1) k (k+1) C) (hN:C.N=[]\/∃x y,C.N=[x,y]):RI lt n C (fF lt C):=by
 rcases hN with hN|⟨x,y,hN⟩
 ·have e:fF lt C=C:=by unfold fF;rw [hN]
  rw [e];exact RI.refl _ _ _
 ·obtain ⟨a,b,rfl,rfl,ha,hb,hne,ra,rb,da,db⟩:=vR h hN;have e:fF lt C={ C with F:=bW C.F (dL lt a b) (fD lt a b),N:=[(dL lt a b:Int)],q:=C.q+1 }:=by unfold fF;rw [hN];simp
  rw [e];obtain ⟨hi,lo,Jf,Kt,hhi,hlo,hne2,GQ,Jw,hah,Eu⟩:∃hi lo,dL lt a b=hi/\fD lt a b=lo/\hi<n/\lo<n/\hi≠lo/\(C.F.k hi).length=k/\(C.F.k lo).length=k/\lt lo hi=false/\((hi=a/\lo=b)\/(hi=b/\lo=a)):=by
   unfold dL fD
   by_cases hab:lt b a=true
   ·rw [Δ hab,Δ hab];exact ⟨b,a,rfl,rfl,hb,ha,Ne.symm hne,db,da,has _ _ hab,Β ⟨rfl,rfl⟩⟩
   ·rw [Γ hab,Γ hab];exact ⟨a,b,rfl,rfl,ha,hb,hne,da,db,by simpa using hab,Α ⟨rfl,rfl⟩⟩
  have yN:C.L.Perm ((hi:Int)::(lo:Int)::(C.A++(C.B++C.O))):=by
   unfold CC.L;rw [hN,List.perm_iff_count];intro y;rcases Eu with ⟨rfl,rfl⟩|⟨rfl,rfl⟩<;>simp [List.count_append,List.count_cons]<;>omega
  have hL:(CC.L { C with F:=bW C.F hi lo,N:=[(hi:Int)],q:=C.q+1 }).Perm ((hi:Int)::(C.A++(C.B++C.O))):=by
   unfold CC.L;simp only;rw [List.perm_iff_count];intro y;simp [List.count_append,List.count_cons];omega
  have qc:=yN.nodup_iff.1 h.nd;rw [Ζ,Ζ] at qc;rw [Jf,Kt];refine ⟨λx hx=>yN.mem_iff.2 ?_,λx hx=>?_,?_,λy p hy hu=>?_,λy hy=>?_⟩
  ·rcases ρ.1 (hL.mem_iff.1 hx) with rfl|hx
   ·simp
   ·exact Λ _ (Λ _ hx)
  ·unfold bW;simp only;rw [Γ (λe=>hx (by subst e;exact yN.mem_iff.2 σ)),Γ (λe=>hx (by subst e;exact yN.mem_iff.2 σ))];exact ⟨rfl,rfl⟩
  ·rw [qL hL,qL yN];have hd:∀z,z∈C.A++(C.B++C.O)->bC n (bW C.F hi lo) z=bC n C.F z:=λz hz=>by
    have hr:=h.rt z (yN.mem_iff.2 (Λ _ (Λ _ hz)));rw [jV n C.F hhi z ⟨hr.1,hr.2.1⟩,Γ (λe=>by subst e;exact qc.1 (Λ _ hz))]
   have e1:=Af hd;have e2:bC n (bW C.F hi lo) (hi:Int)=(k:Int)+1:=by rw [jV n C.F hhi hi ω,Δ rfl,cO n C.F hhi,GQ]
   have e3:bC n C.F (hi:Int)=(k:Int):=by rw [cO n C.F hhi,GQ]
   have e4:bC n C.F (lo:Int)=(k:Int):=by rw [cO n C.F hlo,Jw]
   have:∀ (F:CF) (x:Int) (l:List Int),wt n F (x::l)=2 ^ (bC n F x).toNat + wt n F l:=λF x l=>by unfold wt;simp
   rw [this,this,this,e1,e2,e3,e4];have e5:((k:Int)+1).toNat=k+1:=ω;rw [e5,π,Nat.pow_succ];omega
  ·unfold bW at hu;simp only at hu
   split at hu
   ·rename_i e
    subst e;obtain rfl:hi=p:=ω;exact Β ⟨yN.mem_iff.2 σ,yN.mem_iff.2 σ,Ne.symm hne2,hah⟩
   ·exact Α hu
  ·rcases ρ.1 (yN.mem_iff.1 hy) with e|hy
   ·exact Α (hL.mem_iff.2 (by rw [e];simp))
   ·rcases ρ.1 hy with e|hy
    ·refine Β ⟨hi,hhi,?_⟩;unfold bW;simp only;rw [Δ ω]
    ·exact Α (hL.mem_iff.2 (Λ _ hy))
theorem vC {lt:Int->Int->Bool} {n:Nat} {C0:CC} (has:∀a b,lt a b=true->lt b a=false) (h:G n 0 0 0 0 C0) (hN:C0.N=[]):∀k,RI lt n C0 (bN lt n k C0)
 | 0=>RI.refl _ _ _
 | k+1=>by
  obtain ⟨g,h1,h2⟩:=rJ (lt:=lt) h hN k;have g1:=qm g;have g2:=qC g1;have g3:=pJ g2;have t1:=(lh n k (bN lt n k C0)).2;have t2:=(lF n k (takeA n k (bN lt n k C0))).2;have ev:=nG (C:=takeB n k (takeA n k (bN lt n k C0))) ω;have r4:=BU has g3 ev;exact ((((vC has h hN k).trans (RI.perm (iF n k _) (wK n k _))).trans (RI.perm (iC n k _) (wC n k _))).trans (RI.perm (iw _) (wG _))).trans r4
theorem GZ {lt:Int->Int->Bool} {n:Nat} {C0:CC} {dom:Int->Prop} (has:∀a b,lt a b=true->lt b a=false) (hdm:∀x,x∈C0.L->dom x) (h:G n 0 0 0 0 C0) (hN:C0.N=[]) (hn:n<=65536) (hq:C0.q<=900000) (k:Nat):wE dom lt n k (bN lt n k C0):=by
 obtain ⟨g,h1,h2⟩:=rJ (lt:=lt) h hN k;have hL0:C0.L.length<=n:=j3 n _ h.nd (λx hx=>by have:=h.rt x hx;omega);have hL:(bN lt n k C0).L.length<=n:=j3 n _ g.nd (λx hx=>by have:=g.rt x hx;omega);have hLL:(bN lt n k C0).L.length=(bN lt n k C0).A.length+((bN lt n k C0).B.length+((bN lt n k C0).N.length+(bN lt n k C0).O.length)):=by unfold CC.L;simp
 have dn:∀x,x∈(bN lt n k C0).L->bC n (bN lt n k C0).F x<=n:=λx hx=>by
  have hr:=g.rt x hx;obtain ⟨y,rfl⟩:=Int.eq_ofNat_of_zero_le hr.1;have hy:y<n:=ω;rw [cO _ _ hy];have:=g.f.len hy;omega
 refine ⟨h1,λx y hxy=>?_,ω,ω,λhne=>?_⟩
 ·have g3:=pJ (qC (qm g));obtain ⟨a,b,e1,e2,ha,hb,hab,ra,rb,da,db⟩:=vR g3 hxy;have hsub:∀z,z∈(bH (takeB n k (takeA n k (bN lt n k C0)))).L->dom z:=λz hz=>hdm z ((vC has h hN k).sub z ((iF n k _).mem_iff.1 ((iC n k _).mem_iff.1 ((iw _).mem_iff.1 hz))));have da':dom (a:Int):=by rw [←e1];exact hsub x (by unfold CC.L;rw [hxy];simp)
  have db':dom (b:Int):=by rw [←e2];exact hsub y (by unfold CC.L;rw [hxy];simp)
  refine ⟨a,b,e1,e2,da',db',ha,hb,hab,?_,?_,?_,g3.f.len ha,g3.f.len hb⟩
  ·unfold mG;rw [Ν ω];simp [ra]
  ·unfold mG;rw [Ν ω];simp [rb]
  ·rw [cO _ _ ha,cO _ _ hb,da,db]
 ·rcases hne with hne|hne|hne
  ·obtain ⟨x,t,e⟩:=List.exists_cons_of_ne_nil hne;have h3:=g.a2 x (by rw [e];simp);have h4:=dn x (by unfold CC.L;rw [e];simp);omega
  ·obtain ⟨x,t,e⟩:=List.exists_cons_of_ne_nil hne;have h3:=g.b2 x (by rw [e];simp);have h4:=dn x (by unfold CC.L;rw [e];simp);omega
  ·obtain ⟨x,t,e⟩:=List.exists_cons_of_ne_nil hne;have h3:=g.n1 x (by rw [e];simp);have h4:=dn x (by unfold CC.L;rw [e];simp);omega
end Go.Proofs.YtnpdakpagnpanaaGreat
namespace Go.Proofs.YtnpdakpagnpanaaGreat
open Go Go.RowKit
def gL (n:Nat) (F:CF) (l:List Int):Prop:=(∀x,x∈l->0<=x/\x<n/\F.u x.toNat=-1)/\l.Pairwise (λx y=>bC n F x<bC n F y)
theorem oM (n:Nat) (F:CF) (x:Int):mG n F x=true↔0<=x/\x<n/\F.u x.toNat=-1:=by
 unfold mG;simp only [Τ,Ο,beq_iff_eq];exact ⟨λh=>⟨h.1.1,h.1.2,h.2⟩,λh=>⟨⟨h.1,h.2.1⟩,h.2.2⟩⟩
theorem fq {l:List Int} {i:Nat} (h:i<l.length):l.getD i 0=l[i]:=by simp [φ,h]
theorem rQ (n:Nat) (S:CS) (l:List Int):yC n S l=true↔gL n S.f l:=by
 unfold yC j5 rowOk;simp only [EN,Eb];rw [List.all_eq_true];simp only [List.mem_range,Τ,Bool.or_eq_true,beq_iff_eq,Ο];constructor
 ·intro h;refine ⟨λx hx=>?_,?_⟩
  ·obtain ⟨i,hi,rfl⟩:=List.getElem_of_mem hx;have:=(h i hi).1;rw [fq hi] at this;exact (oM n S.f _).1 this
  ·rw [List.pairwise_iff_getElem];have key:∀ (d i:Nat) (hi:i<l.length) (hj:i+d+1<l.length),bC n S.f l[i]<bC n S.f l[i+d+1]:=λd=>by
    induction d with
    | zero=>
     intro i hi hj;rcases (h (i+1) hj).2 with h2|h2
     ·omega
     ·rw [Nat.add_sub_cancel,fq hi,fq hj] at h2;exact Ϙ h2
    | succ d ih=>
     intro i hi hj;have h1:=ih i hi ω;rcases (h (i+d+1+1) ω).2 with h2|h2
     ·omega
     ·rw [Nat.add_sub_cancel,fq (show i+d+1<l.length by omega),fq (show i+d+1+1<l.length by omega)] at h2;exact Int.lt_trans h1 (Ϙ h2)
   intro i j hi hj hij;have:=key (j-i-1) i hi ω;simpa [show i+(j-i-1)+1=j by omega] using this
 ·rintro ⟨h1,h2⟩ i hi;refine ⟨?_,?_⟩
  ·rw [fq hi];exact (oM n S.f _).2 (h1 _ (ϓ hi))
  ·rcases Nat.eq_zero_or_pos i with h0|h0
   ·exact Α h0
   ·rw [fq hi,fq (show i-1<l.length by omega)];exact Β (Ν ((List.pairwise_iff_getElem.1 h2) (i-1) i ω hi ω))
theorem gL.nodup {n:Nat} {F:CF} {l:List Int} (h:gL n F l):l.Nodup:=h.2.imp (λ{a b} hab e=>by subst e;omega)
theorem any_false {A B:List Int}:A.any (λx=>decide (x∈B))=false↔∀x,x∈A->x∉B:=by
 rw [List.any_eq_false];simp
theorem wO {n:Nat} {F:CF} {A B:List Int} {q:Nat} (f:nT n F) (hA:gL n F A) (hB:gL n F B) (hd:∀x,x∈A->x∉B):G n 0 0 0 0 ⟨F,A,B,[],[],q⟩:=by
 have d0:∀x,0<=bC n F x:=λx=>by unfold bC;split<;>omega
 refine ⟨f,λx hx=>?_,?_,hA.2,λx _=>by simpa using d0 x,hB.2,λx _=>by simpa using d0 x,λx hx=>(by cases hx),List.Pairwise.nil,λx hx=>(by cases hx)⟩
 ·unfold CC.L at hx;simp only [Υ,τ] at hx;rcases hx with hx|hx
  ·exact hA.1 x hx
  ·exact hB.1 x hx
 ·unfold CC.L;simp only [Υ];rw [θ];exact ⟨hA.nodup,hB.nodup,λx hx y hy e=>by subst e;exact hd x hx hy⟩
def CC.done (C:CC):Prop:=C.A=[]/\C.B=[]/\C.N=[]
instance (C:CC):Decidable C.done:=by unfold CC.done;exact inferInstance
theorem step_done {lt:Int->Int->Bool} {n k:Nat} {C:CC} (h:C.done):sK lt n k C=C:=by
 obtain ⟨F,A,B,N,O,q⟩:=C;obtain ⟨h1,h2,h3⟩:=h;simp only at h1 h2 h3;subst h1 h2 h3
 rfl
theorem nD {lt:Int->Int->Bool} {n k:Nat} {C0:CC} (h:(bN lt n k C0).done):∀j,bN lt n (k+j) C0=bN lt n k C0
 | 0=>rfl
 | j+1=>by
  have ih:=nD h j;rw [Nat.add_succ,bN,ih,step_done h]
theorem ze {lt:Int->Int->Bool} {n k m:Nat} {C0:CC} (hk:(bN lt n k C0).done) (hm:(bN lt n m C0).done):bN lt n k C0=bN lt n m C0:=by
 rcases Nat.le_total k m with h|h
 ·have:=nD hk (m-k);rw [show k+(m-k)=m by omega] at this;exact this.symm
 ·have:=nD hm (k-m);rw [show m+(k-m)=k by omega] at this;exact this
def kZ (lt:Int->Int->Bool) (n:Nat) (C0:CC) (F:CF) (O:List Int) (q:Nat):Prop:=∃k,bN lt n k C0=⟨F,[],[],[],O,q⟩
theorem kZ.eq {lt:Int->Int->Bool} {n:Nat} {C0:CC} {F:CF} {O:List Int} {q:Nat} (h:kZ lt n C0 F O q) {m:Nat} (hm:(bN lt n m C0).done):bN lt n m C0=⟨F,[],[],[],O,q⟩:=by
 obtain ⟨k,hk⟩:=h;rw [←hk];exact ze hm (by rw [hk];exact ⟨rfl,rfl,rfl⟩)
structure FL (O:jC) (w:World) (bt ba lo n:Nat) (S:CS) (q:Nat):Prop where
 f:aJ w bt ba lo n S
 l:O.at_ w q
 a:Apart O bt ba n S
 t:bt<w.heap.size
 ok:nT n S.f
theorem yo (O:jC) (bt ba lo n:Nat) (S:CS) (va vb:Value) (A B:List Int) (q:Nat) (w:World) (h:FL O w bt ba lo n S q)
  (ha:iT w (O.wr++ba::S.blk n) va A) (hb:iT w (O.wr++ba::S.blk n) vb B) (hA:gL n S.f A) (hB:gL n S.f B) (hd:∀x,x∈A->x∉B) (hq:q<=900000) (hdA:∀x,x∈A->O.dom x) (hdB:∀x,x∈B->O.dom x) :
  Calls Tryz.prog 185 #[.pointer (some ⟨bt,0,none⟩),.iface O.ty (.pointer (some ⟨O.p,0,none⟩)),va,vb] w λe w'=>
   ∃S' vo X q',e=.returned (.tuple #[vo,.bool true])/\FL O w' bt ba lo n S' q'/\kZ O.lt n ⟨S.f,A,B,[],[],q⟩ S'.f X q'/\G n 0 0 0 0 ⟨S.f,A,B,[],[],q⟩/\aH w' w.heap.size vo X/\iT w' (O.wr++ba::S'.blk n) vo X/\aa (O.wr++ba::S.blk n) w w'/\(∀g,g∈S'.blk n->g∈S.blk n\/w.heap.size<=g)/\(∀g,vo.ownBlock=some g->g∉S'.blk n):=by
 have g0:=wO (q:=q) h.ok hA hB hd
 refine (yg O bt ba lo n S va vb A B q w h.f h.l h.a h.t ha hb ((rQ n S A).2 hA) ((rQ n S B).2 hB) (any_false.2 hd) (GZ O.asym (λx hx=>by
  have e:CC.L ⟨S.f,A,B,[],[],q⟩=A++B:=by unfold CC.L;simp
  rw [e] at hx;rcases τ.1 hx with hx|hx
  ·exact hdA x hx
  ·exact hdB x hx) g0 rfl h.f.le hq)).mono ?_
 rintro e w' ⟨k,vn,Ip,D7,vo,rfl,hM,e1,e2,e3⟩;have gk:=(rJ (lt:=O.lt) g0 rfl k).1;generalize hC:bN O.lt n k ⟨S.f,A,B,[],[],q⟩=C at *;obtain ⟨F,A1,B1,N1,O1,q1⟩:=C;simp only at e1 e2 e3;subst e1 e2 e3;obtain ⟨S',hS,hF,Gz,h4,h5,h6⟩:=hM.jM;simp only at hS;subst hS;have zS:=hM.old _ hM.wH.2;have hlt2:=hF.BR;have hblk:∀g,g∈S'.blk n->g∈S.blk n\/w.heap.size<=g:=λg hg=>by
  rcases h4 g hg with h'|h'
  ·rcases τ.1 h' with h'|h'
   ·exact absurd (O.sub _ h') (Gz.blk g hg)
   ·rcases ρ.1 h' with rfl|h'
    ·have:=(hF.iy hg).1;omega
    ·exact Α h'
  ·exact Β ω
 refine ⟨S',vo,O1,q1,rfl,⟨hF,hM.FU,Gz,Ψ h.t hM.upd.size,gk.f⟩,⟨k,hC⟩,g0,hM.out.mono ω,?_,hM.upd,hblk,h6⟩;obtain ⟨a,cap,rfl,h1,h2,h3⟩:=hM.out.shape;refine ⟨a,cap,rfl,h1,h2,λj u hj=>?_⟩;obtain ⟨g,off,rfl,hc⟩:=h3 j u hj;have hg:=hM.out.lt g rfl;refine ⟨g,off,rfl,hg.2,λhm=>?_,hc⟩;rcases τ.1 hm with hm|hm
 ·have:=hM.k0 _ (O.sub _ hm);omega
 ·rcases ρ.1 hm with rfl|hm
  ·omega
  ·exact h6 g rfl hm
structure qh (lt:Int->Int->Bool) (n:Nat) (F:CF) (A B:List Int) (q:Nat) (F':CF) (O:List Int) (q':Nat):Prop where
 row:gL n F' O
 ok:nT n F'
 cnt:q'+O.length=q+(A.length+B.length)
 sub:∀x,x∈O->x∈A\/x∈B
 out:∀x:Nat,(x:Int)∉A->(x:Int)∉B->F'.u x=F.u x/\F'.k x=F.k x
 wt:wt n F' O=wt n F A+wt n F B
 nl:∀y p:Nat,y<n->F'.u y=p->F.u y=p\/(((y:Int)∈A\/(y:Int)∈B)/\((p:Int)∈A\/(p:Int)∈B)/\y≠p/\lt y p=false)
 ro:∀y:Nat,((y:Int)∈A\/(y:Int)∈B)->(y:Int)∈O\/∃p:Nat,p<n/\F'.u y=p
theorem carried {lt:Int->Int->Bool} (has:∀a b,lt a b=true->lt b a=false) {n:Nat} {F:CF} {A B:List Int} {q:Nat} {F':CF} {O:List Int} {q':Nat} (g:G n 0 0 0 0 ⟨F,A,B,[],[],q⟩) (h:kZ lt n ⟨F,A,B,[],[],q⟩ F' O q'):qh lt n F A B q F' O q':=by
 obtain ⟨k,hk⟩:=h;have g1:=rJ (lt:=lt) g rfl k;have r:=vC has g rfl k;rw [hk] at g1 r;obtain ⟨g1,_,g2⟩:=g1;have eL:CC.L ⟨F',[],[],[],O,q'⟩=O:=by unfold CC.L;simp
 have Ki:CC.L ⟨F,A,B,[],[],q⟩=A++B:=by unfold CC.L;simp
 have s:=r.sub;have o:=r.out;have w:=r.wt;rw [eL] at s w g2;rw [Ki] at s o w g2;refine ⟨⟨λx hx=>g1.rt x (by rw [eL];exact hx),g1.o1⟩,g1.f,by simpa using g2,λx hx=>by simpa using s x hx,λx h1 h2=>o x (by simp;exact ⟨h1,h2⟩),?_,λy p hy hu=>by have:=r.nl y p hy hu;rw [Ki] at this;simpa using this,λy hy=>by have:=r.ro y (by rw [Ki];simpa using hy);rw [eL] at this;exact this⟩;rw [w];unfold wt;simp
end Go.Proofs.YtnpdakpagnpanaaGreat
namespace Go.Proofs.YtnpdakpagnpanaaGreat
structure FH (n:Nat) (F:CF) (cz:Nat->Int) (L:Nat->Nat->Prop):Prop where
 f:nT n F
 home:∀y p:Nat,y<n->F.u y=p->cz y=cz p/\0<cz y
 ord:∀y p:Nat,y<n->F.u y=p->L p y
 alone:∀y:Nat,y<n->¬0<cz y->F.u y=-1/\F.k y=[]
theorem nT.above {n:Nat} {F:CF} (h:nT n F) {y p:Nat} (hy:y<n) (hu:F.u y=p):p<n/\(y:Int)∈F.k p:=by
 rcases h.up y hy with h1|⟨q,hq,h1,h2⟩
 ·omega
 ·obtain rfl:q=p:=ω;exact ⟨hq,h2⟩
theorem nT.below {n:Nat} {F:CF} (h:nT n F) {p:Nat} (hp:p<n) {z:Int} (hz:z∈F.k p):∃y:Nat,z=y/\y<n/\F.u y=p/\(F.k y).length<(F.k p).length:=by
 obtain ⟨r1,r2,r3⟩:=h.zW p hp z hz;obtain ⟨i,hi,he⟩:=List.getElem_of_mem hz;have hc:=h.Dj p hp i z (by rw [ε hi,he]);obtain ⟨y,rfl⟩:=Int.eq_ofNat_of_zero_le r1;rw [π] at r3 hc;exact ⟨y,rfl,ω,r3,ω⟩
theorem nT.JI {n:Nat} {F:CF} (h:nT n F) {y p:Nat} (hy:y<n) (hu:F.u y=p):(F.k y).length<(F.k p).length:=by
 obtain ⟨h1,h2⟩:=h.above hy hu;obtain ⟨z,e,_,_,hd⟩:=h.below h1 h2;obtain rfl:y=z:=ω;exact hd
theorem gL.ext {n:Nat} {F F':CF} {l:List Int} (h:gL n F l) (e:∀x,x∈l->F'.u x.toNat=F.u x.toNat/\F'.k x.toNat=F.k x.toNat):gL n F' l:=by
 refine ⟨λx hx=>?_,h.2.imp_of_mem (λ{a b} ha hb hab=>?_)⟩
 ·have:=h.1 x hx;exact ⟨this.1,this.2.1,by rw [(e x hx).1];exact this.2.2⟩
 ·unfold bC at hab ⊢;rw [(e a ha).2,(e b hb).2];exact hab
theorem Du {n:Nat} {F F':CF} {x:Int} (e:F'.k x.toNat=F.k x.toNat):bC n F' x=bC n F x:=by unfold bC;rw [e]
theorem Az {n:Nat} {F:CF} {cz:Nat->Int} {L:Nat->Nat->Prop} {lt:Int->Int->Bool} {h:Int} {A0 B0:List Int} {q:Nat} {F':CF} {O:List Int} {q':Nat} (H:FH n F cz L)
  (hL:∀y p:Nat,y<n->p<n->cz y=h->cz p=h->y≠p->lt y p=false->L p y) (h1:1<=h)
  (m:∀y:Nat,y<n/\F.u y=-1/\cz y=h↔(y:Int)∈A0\/(y:Int)∈B0) (C:qh lt n F A0 B0 q F' O q') :
  FH n F' cz L/\(∀y:Nat,(y:Int)∈O↔y<n/\F'.u y=-1/\cz y=h)/\(∀y:Nat,y<n->cz y≠h->F'.u y=F.u y/\F'.k y=F.k y):=by
 have far:∀y:Nat,y<n->cz y≠h->F'.u y=F.u y/\F'.k y=F.k y:=λy hy hh=>C.out y (λhm=>hh ((m y).2 (Α hm)).2.2) (λhm=>hh ((m y).2 (Β hm)).2.2);have key:∀y p:Nat,y<n->F'.u y=p->F.u y=p\/(y<n/\p<n/\cz y=h/\cz p=h/\y≠p/\lt y p=false):=λy p hy hu=>by
  rcases C.nl y p hy hu with e|⟨k1,k2,k3,k4⟩
  ·exact Α e
  ·have a1:=(m y).2 k1;have a2:=(m p).2 k2;exact Β ⟨hy,a2.1,a1.2.2,a2.2.2,k3,k4⟩
 refine ⟨⟨C.ok,λy p hy hu=>?_,λy p hy hu=>?_,λy hy hh=>?_⟩,λy=>⟨λhm=>?_,λhm=>?_⟩,far⟩
 ·rcases key y p hy hu with e|⟨_,_,k1,k2,_,_⟩
  ·exact H.home y p hy e
  ·rw [k1,k2];exact ⟨rfl,ω⟩
 ·rcases key y p hy hu with e|⟨k0,kp,k1,k2,k3,k4⟩
  ·exact H.ord y p hy e
  ·exact hL y p k0 kp k1 k2 k3 k4
 ·have:=far y hy ω;rw [this.1,this.2];exact H.alone y hy hh
 ·have r:=C.row.1 _ hm;have a:=(m y).2 (C.sub _ hm);exact ⟨a.1,by simpa using r.2.2,a.2.2⟩
 ·obtain ⟨hy,hu,hh⟩:=hm
  by_cases IK:(y:Int)∈A0\/(y:Int)∈B0
  ·rcases C.ro y IK with h2|⟨p,hp,h2⟩
   ·exact h2
   ·omega
  ·have h2:=C.out y (λh=>IK (Α h)) (λh=>IK (Β h));exact absurd ((m y).1 ⟨hy,by rw [←h2.1];exact hu,hh⟩) IK
structure BG where
 F:CF
 R:Nat->List Int
structure RH (n:Nat) (G:BG) (cz:Nat->Int):Prop where
 row:∀h,gL n G.F (G.R h)
 mem:∀h y:Nat,(y:Int)∈G.R h↔1<=h/\y<n/\G.F.u y=-1/\cz y=h
def BG.none:BG:=⟨CS.none.f,λ_=>[]⟩
def gq (R:Nat->List Int) (h:Nat) (l:List Int):Nat->List Int:=λk=>if k=h then l else R k
def fA (lt:Int->Int->Bool) (n:Nat) (F:CF) (A B:List Int):CC:=bN lt n (n+1) ⟨F,A,B,[],[],0⟩
theorem rF {lt:Int->Int->Bool} {n:Nat} {F:CF} {A B:List Int} (g:G n 0 0 0 0 ⟨F,A,B,[],[],0⟩) (has:∀a b,lt a b=true->lt b a=false) (hn:n<=65536):(fA lt n F A B).done:=by
 have r:=GZ (dom:=λ_=>True) has (λx hx=>trivial) g rfl hn (Nat.zero_le _) (n+1);unfold fA CC.done;refine ⟨?_,?_,?_⟩
 all_goals
  apply ϔ;intro hne;have:=r.ends (by first|exact Α hne|exact Β (Α hne)|exact Β (Β hne));omega
theorem Ff {lt:Int->Int->Bool} {n:Nat} {F:CF} {A B:List Int} {F':CF} {O:List Int} {q:Nat} (g:G n 0 0 0 0 ⟨F,A,B,[],[],0⟩) (has:∀a b,lt a b=true->lt b a=false) (hn:n<=65536) (h:kZ lt n ⟨F,A,B,[],[],0⟩ F' O q) :
  (fA lt n F A B).F=F'/\(fA lt n F A B).O=O/\(fA lt n F A B).q=q:=by
 have:=h.eq (m:=n+1) (rF g has hn);unfold fA;rw [this];exact ⟨rfl,rfl,rfl⟩
theorem FN {lt:Int->Int->Bool} {n:Nat} {F:CF} {A B:List Int} (g:G n 0 0 0 0 ⟨F,A,B,[],[],0⟩) (has:∀a b,lt a b=true->lt b a=false) (hn:n<=65536):qh lt n F A B 0 (fA lt n F A B).F (fA lt n F A B).O (fA lt n F A B).q:=by
 refine carried has g ⟨n+1,?_⟩;obtain ⟨h1,h2,h3⟩:=rF g has hn;unfold fA at *;generalize bN lt n (n+1) ⟨F,A,B,[],[],0⟩=C at *;obtain ⟨F1,A1,B1,N1,O1,q1⟩:=C;simp only at h1 h2 h3;subst h1 h2 h3
 rfl
def q8 (lt:Int->Int->Bool) (n h:Nat) (l:List Int) (G:BG):BG:=⟨(fA lt n G.F (G.R h) l).F,gq G.R h (fA lt n G.F (G.R h) l).O⟩
theorem yf {n:Nat} {G:BG} {cz:Nat->Int} {L:Nat->Nat->Prop} {lt:Int->Int->Bool} {h:Nat} {l:List Int} (H:FH n G.F cz L) (hn:n<=65536) (has:∀a b,lt a b=true->lt b a=false)
  (hL:∀y p:Nat,y<n->p<n->cz y=h->cz p=h->y≠p->lt y p=false->L p y) (h1:1<=h)
  (hrow:∀k,gL n G.F (G.R k)) (hmem:∀k y:Nat,k≠h->((y:Int)∈G.R k↔1<=k/\y<n/\G.F.u y=-1/\cz y=k))
  (m:∀y:Nat,y<n/\G.F.u y=-1/\cz y=h↔(y:Int)∈G.R h\/(y:Int)∈l) (hl:gL n G.F l) (hd:∀x,x∈G.R h->x∉l) :
  FH n (q8 lt n h l G).F cz L/\RH n (q8 lt n h l G) cz/\(∀k,wt n (q8 lt n h l G).F ((q8 lt n h l G).R k)=if k=h then wt n G.F (G.R h)+wt n G.F l else wt n G.F (G.R k))/\
   (fA lt n G.F (G.R h) l).q+((q8 lt n h l G).R h).length=(G.R h).length+l.length:=by
 have g:=wO (q:=0) H.f (hrow h) hl hd;have C:=FN g has hn;obtain ⟨h2,h3,h4⟩:=Az H hL ω m C;have far:∀k:Nat,k≠h->∀x,x∈G.R k->(fA lt n G.F (G.R h) l).F.u x.toNat=G.F.u x.toNat/\(fA lt n G.F (G.R h) l).F.k x.toNat=G.F.k x.toNat:=λk hk x hx=>by
  have hr:=(hrow k).1 x hx;have:=(hmem k x.toNat hk).1 (by rw [show ((x.toNat:Nat):Int)=x by omega];exact hx);exact h4 x.toNat this.2.1 ω
 unfold q8;refine ⟨h2,⟨λk=>?_,λk y=>?_⟩,λk=>?_,?_⟩
 ·simp only [gq]
  split
  ·exact C.row
  ·rename_i hk
   exact (hrow k).ext (far k hk)
 ·simp only [gq]
  split
  ·rename_i hk
   subst hk;rw [h3 y];exact ⟨λa=>⟨h1,a⟩,λa=>a.2⟩
  ·rename_i hk
   rw [hmem k y hk];constructor
   ·rintro ⟨a1,a2,a3,a4⟩;exact ⟨a1,a2,by rw [(h4 y a2 ω).1];exact a3,a4⟩
   ·rintro ⟨a1,a2,a3,a4⟩;exact ⟨a1,a2,by rw [←(h4 y a2 ω).1];exact a3,a4⟩
 ·simp only [gq]
  split
  ·exact C.wt
  ·rename_i hk
   exact Af (λx hx=>Du (far k hk x hx).2)
 ·simp only [gq,if_true];have:=C.cnt;omega
structure yL (A:NS) (G:BG):Prop where
 fh:FH A.cs.length G.F (λy=>(A.c y).i) (dm A)
 rh:RH A.cs.length G (λy=>(A.c y).i)
 w:∀h:Nat,1<=h->wt A.cs.length G.F (G.R h)=bO A h
theorem ja (A:NS) (a b:Int) (h:bB A a b=true):bB A b a=false:=by
 unfold bB at *;simp only [Τ,Ο] at h;have:=jb h.2;simp [this]
theorem rA {A:NS} {y p:Nat} (hy:dh A (y:Int)=true) (hp:dh A (p:Int)=true) (hne:y≠p) (h:bB A y p=false):dm A p y:=by
 rw [eZ,hy,hp] at h;simp only [Bool.and_self,Bool.true_and,decide_eq_false_iff_not] at h;exact (eU hne).resolve_left h
def zT (A':NS) (h x:Nat) (G:BG):BG:=q8 (bB A') A'.cs.length h [(x:Int)] G
def BS (A':NS) (h x:Nat) (G:BG):Nat:=(fA (bB A') A'.cs.length G.F (G.R h) [(x:Int)]).q
theorem zI (n:Nat) (F:CF):gL n F []:=⟨λx hx=>(by cases hx),List.Pairwise.nil⟩
theorem EF (n:Nat):yL (NS.new n) BG.none:=by
 have hc:=λy=>NS.iW n y;have hn:(NS.new n).cs.length=n:=by simp [NS.new]
 refine ⟨⟨by rw [hn];exact zY n,λy p hy hu=>?_,λy p hy hu=>?_,λy hy hh=>⟨rfl,rfl⟩⟩,⟨λh=>zI _ _,λh y=>⟨λhm=>(by cases hm),λhm=>?_⟩⟩,λh hh=>?_⟩
 ·have:(-1:Int)=p:=hu;omega
 ·have:(-1:Int)=p:=hu;omega
 ·have h2:=hm.2.2.2;rw [hc] at h2;simp [Cl.z] at h2;omega
 ·have:¬0<bO (NS.new n) (h:Int):=λhp=>by
   obtain ⟨y,_,h2,h3⟩:=bX.1 hp;rw [hc] at h2;simp [Cl.z] at h2;omega
  show (0:Nat)=_
  omega
theorem En (A:NS) (y:Nat):(ag A).c y=A.c y:=by unfold ag;split<;>rfl
theorem wW (A:NS):(ag A).cs=A.cs:=by unfold ag;split<;>rfl
section
variable {A:NS} {G:BG}
theorem Cu (B:yL A G):yL (ag A) G:=by
 have hc:=En A;have hs:(ag A).cs.length=A.cs.length:=by rw [wW]
 refine ⟨⟨by rw [hs];exact B.fh.f,λy p hy hu=>by rw [hc,hc];exact B.fh.home y p (by rw [←hs];exact hy) hu,λy p hy hu=>(dM (hc p) (hc y)).2 (B.fh.ord y p (by rw [←hs];exact hy) hu),λy hy hh=>B.fh.alone y (by rw [←hs];exact hy) (by rw [←hc];exact hh)⟩,
  ⟨λh=>by rw [hs];exact B.rh.row h,λh y=>by rw [hs,hc];exact B.rh.mem h y⟩,λh hh=>by rw [hs,yh];exact B.w h hh⟩
theorem FM {h x:Nat} (k s:Int) (B:yL A G) (ok:A.Ok) (hB:iq A h x=true) :
  yL (af A h x k s) (zT (af A h x k s) h x G)/\BS (af A h x k s) h x G+((zT (af A h x k s) h x G).R h).length=(G.R h).length+1/\
   gL A.cs.length G.F [(x:Int)]/\(∀z,z∈G.R h->z∉[(x:Int)])/\(∀z,z∈G.R h\/z∈[(x:Int)]->dh (af A h x k s) z=true)/\(af A h x k s).cs.length=A.cs.length:=by
 obtain ⟨b1,b2,b3⟩:=(bG _ _ _).1 hB;have b4:=(aA _ _).1 b1;have hx:x<A.cs.length:=by have:=(bS _ _).1 b2;omega
 have KQ:1<=h:=ω;have h0:¬0<(A.c x).i:=λhp=>by rw [(aK _ _).2 ⟨hx,hp⟩] at b3;cases b3
 have eA:af A h x k s=fu A x ⟨h,k,s⟩:=by unfold af;rw [Δ hB,π]
 have hcs:(af A h x k s).cs.length=A.cs.length:=by rw [eA];exact bU _ _ _
 have hc:∀y,(af A h x k s).c y=if y=x then ⟨h,k,s⟩ else A.c y:=λy=>by
  rw [eA,fE]
  by_cases e:y=x
  ·rw [Δ ⟨e,hx⟩,Δ e]
  ·rw [Γ (λh=>e h.1),Γ e]
 have al:=B.fh.alone x hx h0
 have hne:∀y p:Nat,y<A.cs.length->G.F.u y=p->y≠x/\p≠x:=λy p hy hu=>⟨λe=>by subst e;rw [al.1] at hu;omega,λe=>by
  subst e;have:=(B.fh.f.above hy hu).2
  rw [al.2] at this;cases this⟩
 have hF:FH A.cs.length G.F (λy=>((af A h x k s).c y).i) (dm (af A h x k s)):=by
  refine ⟨B.fh.f,λy p hy hu=>?_,λy p hy hu=>?_,λy hy hh=>?_⟩
  ·obtain ⟨e1,e2⟩:=hne y p hy hu;rw [hc,hc,Γ e1,Γ e2];exact B.fh.home y p hy hu
  ·obtain ⟨e1,e2⟩:=hne y p hy hu;exact (dM (by rw [hc,Γ e2]) (by rw [hc,Γ e1])).2 (B.fh.ord y p hy hu)
  ·by_cases e:y=x
   ·rw [hc,Δ e] at hh;simp only at hh;omega
   ·rw [hc,Γ e] at hh;exact B.fh.alone y hy hh
 have hin:∀y:Nat,y<A.cs.length->((af A h x k s).c y).i=(h:Int)->dh (af A h x k s) (y:Int)=true:=λy hy e=>(aK _ _).2 ⟨ω,ω⟩;have hl:gL A.cs.length G.F [(x:Int)]:=⟨λz hz=>by simp at hz;subst hz;exact ⟨ω,ω,by simpa using al.1⟩,List.pairwise_singleton _ _⟩;have hd:∀z,z∈G.R h->z∉[(x:Int)]:=λz hz hm=>by
  simp at hm;subst hm;have:=((B.rh.mem h x).1 hz).2.2.2;omega
 have hm:∀y:Nat,y<A.cs.length/\G.F.u y=-1/\((af A h x k s).c y).i=(h:Int)↔(y:Int)∈G.R h\/(y:Int)∈[(x:Int)]:=λy=>by
  rw [B.rh.mem h y];simp only [Ϗ]
  by_cases e:y=x
  ·subst e;rw [hc,Δ rfl];exact ⟨λ_=>Β rfl,λ_=>⟨hx,al.1,rfl⟩⟩
  ·rw [hc,Γ e];constructor
   ·rintro ⟨a1,a2,a3⟩;exact Α ⟨KQ,a1,a2,a3⟩
   ·rintro (⟨_,a1,a2,a3⟩|a4)
    ·exact ⟨a1,a2,a3⟩
    ·omega
 obtain ⟨r1,r2,r3,r4⟩:=yf (G:=G) (lt:=bB (af A h x k s)) (h:=h) hF ok.c1 (ja _) (λy p hy hp h1 h2 hne ha=>rA (hin y hy h1) (hin p hp h2) hne ha) KQ B.rh.row (λq y hq=>by
  rw [B.rh.mem q y]
  by_cases e:y=x
  ·subst e;rw [hc,Δ rfl];constructor
   ·rintro ⟨a1,_,_,a3⟩;omega
   ·rintro ⟨a1,_,_,a3⟩;simp only at a3;omega
  ·rw [hc,Γ e]) hm hl hd
 unfold zT BS;rw [hcs];refine ⟨⟨by rw [hcs];exact r1,by rw [hcs];exact r2,λq hq=>?_⟩,by simpa using r4,hl,hd,λz hz=>?_,rfl⟩
 ·rw [hcs,r3 q];have hlen:=pE A x ⟨h,k,s⟩ (q:Int) hx;rw [←eA] at hlen;rw [Γ ω] at hlen;have wx:wt A.cs.length G.F [(x:Int)]=1:=by
   unfold wt;simp only [List.map_cons,List.map_nil,List.sum_cons,List.sum_nil];rw [cO _ _ hx,al.2];rfl
  have wq:=B.w q hq
  by_cases e:q=h
  ·subst e;rw [Δ ⟨rfl,ω⟩] at hlen;rw [Δ rfl,wx];omega
  ·rw [Γ (λh=>e (by have:=h.1;simp only at this;omega))] at hlen;rw [Γ e];omega
 ·have key:∃y:Nat,z=y/\y<A.cs.length/\((af A h x k s).c y).i=(h:Int):=by
   rcases hz with hz|hz
   ·have hr:=(B.rh.row h).1 z hz;obtain ⟨y,rfl⟩:=Int.eq_ofNat_of_zero_le hr.1;have:=(hm y).2 (Α hz);exact ⟨y,rfl,this.1,this.2.2⟩
   ·simp at hz;subst hz;have:=(hm x).2 (Β σ);exact ⟨x,rfl,this.1,this.2.2⟩
  obtain ⟨y,rfl,h1,h2⟩:=key;exact hin y h1 h2
theorem Bw (B:yL A G):∀ (m y:Nat),A.cs.length<=m+(G.F.k y).length->y<A.cs.length->0<(A.c y).i->∃T,T<A.cs.length/\G.F.u T=-1/\(A.c T).i=(A.c y).i/\(T=y\/dm A T y)
 | m,y,hm,hy,hh=>by
  rcases B.fh.f.up y hy with h1|⟨p,hp,h1,h2⟩
  ·exact ⟨y,hy,h1,rfl,Α rfl⟩
  ·have hd:=B.fh.f.JI hy h1;have hl:=B.fh.f.len hp;have ho:(A.c y).i=(A.c p).i/\0<(A.c y).i:=B.fh.home y p hy h1
   match m,hm with
   | 0,hm=>omega
   | m+1,hm=>
    obtain ⟨T,t1,t2,t3,t4⟩:=Bw B m p ω hp ω;refine ⟨T,t1,t2,by rw [t3,ho.1],Β ?_⟩;have hl:=B.fh.ord y p hy h1;rcases t4 with e|e
    ·rw [e];exact hl
    ·exact bK e hl
def fB (lt:Int->Int->Bool):Int->List Int->Int
 | b,[]=>b
 | b,x::t=>fB lt (if lt x b then x else b) t
theorem nA (lt:Int->Int->Bool):∀ (l:List Int) (b:Int),fB lt b l∈b::l
 | [],b=>by simp [fB]
 | x::t,b=>by
  have key:∀c,fB lt c t∈c::t:=λc=>nA lt t c;unfold fB;cases e:lt x b with
  | true=>
   rw [Δ rfl];exact Λ _ (key x)
  | false=>
   rw [Γ σ];rcases ρ.1 (key b) with h|h
   ·rw [h];simp
   ·exact Λ _ (Λ _ h)
theorem lK {lt:Int->Int->Bool} {P:Int->Prop} (tr:∀a b c,P a->P b->P c->lt a b=true->lt b c=true->lt a c=true) (tot:∀a b,P a->P b->a≠b->lt a b=false->lt b a=true) :
  ∀ (l:List Int) (b:Int),P b->(∀x,x∈l->P x)->∀x,x∈b::l->x=fB lt b l\/lt (fB lt b l) x=true
 | [],b,_,_,x,hx=>by simp at hx;subst hx;exact Α rfl
 | y::t,b,hb,hl,x,hx=>by
  have hy:=hl y σ;have ht:=λz hz=>hl z (Λ _ hz);unfold fB;have hP:P (if lt y b then y else b):=by split;exact hy;exact hb
  have ih:=lK tr tot t (if lt y b then y else b) hP ht;have Gy:P (fB lt (if lt y b then y else b) t):=by
   rcases ρ.1 (nA lt t (if lt y b then y else b)) with e|e
   ·rw [e];exact hP
   ·exact ht _ e
  have via:∀z,P z->lt (if lt y b then y else b) z=true->z=fB lt (if lt y b then y else b) t\/lt (fB lt (if lt y b then y else b) t) z=true:=λz hz h=>by
   rcases ih _ (List.mem_cons_self) with e|e
   ·rw [←e];exact Β h
   ·exact Β (tr _ _ _ Gy hP hz e h)
  by_cases e:lt y b=true
  ·rw [Δ e] at ih via ⊢;rcases ρ.1 hx with e1|hx
   ·subst e1;exact via x hb e
   ·exact ih x hx
  ·rw [Γ e] at ih via ⊢;have e:lt y b=false:=by simpa using e
   rcases ρ.1 hx with e1|hx
   ·subst e1;exact ih x σ
   ·rcases ρ.1 hx with e1|hx
    ·subst e1
     by_cases exb:x=b
     ·subst exb;exact ih x σ
     ·exact via x hy (tot x b hy hb exb e)
    ·exact ih x (Λ _ hx)
theorem y9 (B:yL A G) {h:Nat} {z:Int} (hz:z∈G.R h):∃y:Nat,z=y/\y<A.cs.length/\dh A z=true/\(A.c y).i=h/\G.F.u y=-1:=by
 have hr:=(B.rh.row h).1 z hz;obtain ⟨y,rfl⟩:=Int.eq_ofNat_of_zero_le hr.1;have:=(B.rh.mem h y).1 hz;have h4:(A.c y).i=h:=this.2.2.2;exact ⟨y,rfl,this.2.1,(aK _ _).2 ⟨this.2.1,ω⟩,h4,this.2.2.1⟩
theorem Fs (B:yL A G) {h:Nat} (h1:1<=h) {x:Int} {t:List Int} (hR:G.R h=x::t):∃m:Nat,fB (bB A) x t=m/\bQ A (h:Int)=some m/\m<A.cs.length/\G.F.u m=-1/\(A.c m).i=h:=by
 have hin:∀z,z∈x::t->∃y:Nat,z=y/\y<A.cs.length/\dh A z=true/\(A.c y).i=h/\G.F.u y=-1:=λz hz=>y9 B (by rw [hR];exact hz);obtain ⟨m,e,m1,m2,m3,m4⟩:=hin _ (nA (bB A) t x);refine ⟨m,e,(eO ω).2 ⟨m1,m3,λy hy hh=>?_⟩,m1,m4,m3⟩
 have F:=lK (lt:=bB A) (P:=λz=>∃y:Nat,z=y/\dh A z=true) (λa b c ha hb hc h1 h2=>by
  obtain ⟨a,rfl,_⟩:=ha;obtain ⟨b,rfl,_⟩:=hb;obtain ⟨c,rfl,_⟩:=hc;rw [eZ] at h1 h2 ⊢;simp only [Τ,Ο] at h1 h2 ⊢;exact ⟨⟨h1.1.1,h2.1.2⟩,bK h1.2 h2.2⟩) (λa b ha hb hne h1=>by
  obtain ⟨a,rfl,ia⟩:=ha;obtain ⟨b,rfl,ib⟩:=hb;have:=rA ia ib (λe=>hne (by rw [e])) h1;rw [eZ,ia,ib]
  simpa using this) t x (by obtain ⟨y,e,_,i,_⟩:=hin x σ;exact ⟨y,e,i⟩) (λz hz=>by obtain ⟨y,e,_,i,_⟩:=hin z (Λ _ hz);exact ⟨y,e,i⟩)
 obtain ⟨T,t1,t2,t3,t4⟩:=Bw B A.cs.length y ω hy ω;have hT:(T:Int)∈x::t:=by rw [←hR];exact (B.rh.mem h T).2 ⟨h1,t1,t2,by rw [t3];exact hh⟩
 have hmT:T=m\/dm A m T:=by
  rcases F _ hT with e2|e2
  ·rw [e] at e2;exact Α ω
  ·rw [e,eZ] at e2;simp only [Τ,Ο] at e2;exact Β e2.2
 rcases t4 with e1|e1
 ·subst e1;exact hmT
 ·rcases hmT with e2|e2
  ·subst e2;exact Β e1
  ·exact Β (bK e2 e1)
theorem DF (B:yL A G) {h:Nat} (h1:1<=h) (hR:G.R h=[]):bQ A (h:Int)=none:=by
 have:=B.w h h1;rw [hR] at this;exact (eB ω).2 this.symm
end
end Go.Proofs.YtnpdakpagnpanaaGreat
namespace Go.Proofs.YtnpdakpagnpanaaGreat
open Go Go.RowKit
theorem Cf {w:World} {base size n g cap:Nat} {e:TypeId} {xs:List Value} (h:w.ownsRow base e size (.slice (some ⟨g,0,none⟩) n cap) n xs) (j:Nat) (u:Value) :
  (w.setCell ⟨g,j,none⟩ u).ownsRow base e size (.slice (some ⟨g,0,none⟩) n cap) n (xs.set j u):=by
 rcases h.2 with ⟨h1,_⟩|⟨g',cap',cur,h1,hb,hg,hn,hc,hs,ht⟩
 ·cases h1
 ·cases h1;refine ⟨by rw [Ι];exact h.1,Β ⟨g,cap,cur.setIfInBounds j u,rfl,hb,?_,hn,hc,by simp;exact hs,?_⟩⟩
  ·simp [World.setCell,Array.getElem?_modify,hg]
  ·rw [Array.toList_setIfInBounds]
   by_cases hj:j<n*size
   ·rw [List.take_set,ht]
   ·have hl:=h.1;rw [List.take_set_of_le ω,ht,List.set_eq_of_length_le ω]
theorem pV (p c:Nat):∀W:World,W.cell? ⟨p,0,none⟩=some (.pointer (some ⟨c,0,none⟩))->(method 409 126 (.pointer (some ⟨p,0,none⟩)) "Ahead").run Tryz.prog W=.ok (164,.pointer (some ⟨c,0,none⟩)) W:=(by intro W h;unfold method;have hm:∃m,(Array.find? (λx=>x.name == "Ahead") Tryz.t126.methods)=some m/\m.path.toList=[⟨185,0,true⟩]/\m.func=some (164,true)/\m.path.isEmpty=false:=⟨(Array.find? (λx=>x.name == "Ahead") Tryz.t126.methods).get!,by kernel_rfl,by kernel_rfl,by kernel_rfl,by kernel_rfl⟩;obtain ⟨m,h1,h2,h3,h4⟩:=hm;go_simp;simp only [follow,Place.get];go_simp;(try unfold receiverAt);(try simp only [Place.get]);(try go_simp))
def KS (A:NS) (p c:Nat) (F:List Nat) (st:Nat):jC where
 ty:=126
 p:=p
 rd:=p::c::F
 wr:=[c]
 lt:=bB A
 dom:=λx=>dh A x=true
 at_:=λw q=>p<w.heap.size/\p∉c::F/\w.cell? ⟨p,0,none⟩=some (.pointer (some ⟨c,0,none⟩))/\ai w c F A (bR st q)
 sub:=λx hx=>by simp at hx;subst hx;simp
 low:=λ{w q} h x hx=>by
  obtain ⟨h1,h2,h3,h4⟩:=h;rcases ρ.1 hx with rfl|hx
  ·exact h1
  ·rcases ρ.1 hx with rfl|hx
   ·exact h4.lt _ h4.mem
   ·exact h4.lt _ hx
 upd:=λ{w w' S q} h hu hS=>by
  obtain ⟨h1,h2,h3,h4⟩:=h;exact ⟨Ψ h1 hu.size,h2,hu.kept h3 (λhm=>hS _ hm σ),h4.upd hu (λx hx hm=>hS x hx (by simp [hm]))⟩
 asym:=ja A
 ahead:=λ{w q} x y h hx hy hq=>by
  obtain ⟨h1,h2,h3,h4⟩:=h;obtain ⟨a,rfl⟩:=iD hx;obtain ⟨b,rfl⟩:=iD hy;refine cB 164 (λ_ _=>by kernel_rfl) h3 (pV p c) (λW hW=>?_);refine (dE (h4.ah hW) a b hx hy).mono ?_;rintro e w' ⟨rfl,hC,hu⟩;refine ⟨by rw [eZ,hx,hy];simp,⟨Ψ h1 (Χ hW.size hu.size),h2,hu.kept (hW.was h3) (λhm=>h2 (by simp at hm;simp [hm])),by rw [←kI];exact hC⟩,hu⟩
structure BB where
 n0:Nat
 c:Nat
 bt:Nat
 ba:Nat
structure dS (w:World) (B:BB) (F:List Nat) (gr cr lo:Nat) (A:NS) (st:Nat) (S:CS) (vs:List Value) (R:Nat->List Int):Prop where
 head:ak w B.n0 185 3 (λj=>[Value.pointer (some ⟨B.c,0,none⟩),.pointer (some ⟨B.bt,0,none⟩),.slice (some ⟨gr,0,none⟩) vs.length cr].getD j undef)
 cells:ai w B.c F A st
 gF:aJ w B.bt B.ba lo A.cs.length S
 rows:w.ownsRow 0 77 1 (.slice (some ⟨gr,0,none⟩) vs.length cr) vs.length vs
 len:vs.length=A.hs.length
 each:∀h,h<vs.length->aH w 0 (vs.getD h undef) (R h)
 d1:B.n0∉F/\B.bt∉F/\B.ba∉F/\gr∉F
 d2:B.n0≠B.bt/\B.n0≠B.ba/\B.n0≠gr/\B.bt≠gr/\B.ba≠gr
 d3:∀g,g∈S.blk A.cs.length->g≠B.n0/\g≠gr/\g∉F
 d4:∀h g,h<vs.length->(vs.getD h undef).ownBlock=some g->g≠B.n0/\g≠B.bt/\g≠B.ba/\g≠gr/\g∉F/\g∉S.blk A.cs.length
 d5:∀h k g,h<vs.length->k<vs.length->h≠k->(vs.getD h undef).ownBlock=some g->(vs.getD k undef).ownBlock≠some g
def EA (vs:List Value):List Nat:=vs.filterMap Value.ownBlock
theorem gz {vs:List Value} {g:Nat}:g∈EA vs↔∃h,h<vs.length/\(vs.getD h undef).ownBlock=some g:=by
 unfold EA;rw [List.mem_filterMap];constructor
 ·rintro ⟨v,hv,e⟩;obtain ⟨i,hi,rfl⟩:=List.getElem_of_mem hv;exact ⟨i,hi,by simpa [φ,hi] using e⟩
 ·rintro ⟨i,hi,e⟩;exact ⟨vs[i],ϓ hi,by simpa [φ,hi] using e⟩
def BB.blk (B:BB) (F:List Nat) (gr n:Nat) (S:CS) (vs:List Value):List Nat:=B.n0::B.bt::B.ba::gr::(F++(S.blk n++EA vs))
theorem oV (vs:List Value) (h k:Nat) (v:Value):(vs.set h v).getD k undef=if k=h/\h<vs.length then v else vs.getD k undef:=by
 simp only [φ,ύ]
 by_cases e:h=k
 ·subst e
  by_cases hl:h<vs.length
  ·simp [hl]
  ·simp [hl]
 ·rw [Γ e,Γ (λh'=>e h'.1.symm)]
section
variable {w:World} {B:BB} {F:List Nat} {gr cr lo:Nat} {A:NS} {st:Nat} {S:CS} {vs:List Value} {R:Nat->List Int}
theorem dS.vZ (h:dS w B F gr cr lo A st S vs R):gr<w.heap.size:=(h.rows.lt gr rfl).2
theorem dS.mZ (h:dS w B F gr cr lo A st S vs R) {q g:Nat} (hq:q<vs.length) (e:(vs.getD q undef).ownBlock=some g):g<w.heap.size:=((h.each q hq).lt g e).2
theorem dS.lt (h:dS w B F gr cr lo A st S vs R):∀x,x∈B.blk F gr A.cs.length S vs->x<w.heap.size:=by
 intro x hx;have h1:=h.head.lt;have h2:=h.gF.head.lt;have h3:=h.gF.row.lt;have h4:=h.vZ;simp only [BB.blk,ρ,τ] at hx;rcases hx with rfl|rfl|rfl|rfl|hx|hx|hx
 ·exact h1
 ·exact h2
 ·exact h3
 ·exact h4
 ·exact h.cells.lt x hx
 ·exact (h.gF.iy hx).2
 ·obtain ⟨q,hq,e⟩:=gz.1 hx;exact h.mZ hq e
theorem dS.h0 (h:dS w B F gr cr lo A st S vs R):w.cell? ⟨B.n0,0,none⟩=some (.pointer (some ⟨B.c,0,none⟩)):=h.head.cellAt 0 ω rfl
theorem dS.h1 (h:dS w B F gr cr lo A st S vs R):w.cell? ⟨B.n0,1,none⟩=some (.pointer (some ⟨B.bt,0,none⟩)):=h.head.cellAt 1 ω rfl
theorem dS.h2 (h:dS w B F gr cr lo A st S vs R):w.cell? ⟨B.n0,2,none⟩=some (.slice (some ⟨gr,0,none⟩) vs.length cr):=h.head.cellAt 2 ω rfl
theorem dS.IB (h:dS w B F gr cr lo A st S vs R) {q:Nat} (hq:q<vs.length):w.cell? ⟨gr,q,none⟩=some (vs.getD q undef):=by
 rw [h.rows.cellAt q ω];simp [φ,hq]
theorem dS.Kb (h:dS w B F gr cr lo A st S vs R) (q:Nat):w.frozen? ⟨gr,q,none⟩=false:=h.rows.frozenAt q
theorem dS.JW (h:dS w B F gr cr lo A st S vs R):vs.length<=65537:=by rw [h.len];exact h.cells.ok.h1
theorem dS.cn (h:dS w B F gr cr lo A st S vs R):B.n0≠B.c/\gr≠B.c/\B.bt≠B.c/\B.ba≠B.c:=by
 have hm:=h.cells.mem;exact ⟨λe=>h.d1.1 (e▸hm),λe=>h.d1.2.2.2 (e▸hm),λe=>h.d1.2.1 (e▸hm),λe=>h.d1.2.2.1 (e▸hm)⟩
theorem dS.upd {w':World} {G:List Nat} (h:dS w B F gr cr lo A st S vs R) (hu:aa G w w') (hG:∀x,x∈G->x∉B.blk F gr A.cs.length S vs):dS w' B F gr cr lo A st S vs R:=by
 have k:∀x,x∈B.blk F gr A.cs.length S vs->x∉G:=λx hx hg=>hG x hg hx;refine ⟨h.head.upd hu (k _ (by simp [BB.blk])),h.cells.upd hu (λx hx hm=>hG x hx (by simp [BB.blk,hm])),h.gF.upd hu (k _ (by simp [BB.blk])) (k _ (by simp [BB.blk])) (λg hg=>k _ (by simp [BB.blk,hg])),ay h.rows hu (λg hg=>by simp [Value.ownBlock] at hg;subst hg;exact k _ (by simp [BB.blk])),h.len,λq hq=>(h.each q hq).upd hu (λg hg=>k _ ?_),h.d1,h.d2,h.d3,h.d4,h.d5⟩;simp only [BB.blk,ρ,τ];exact Β (Β (Β (Β (Β (Β (gz.2 ⟨q,hq,hg⟩))))))
theorem dS.ah {w':World} (h:dS w B F gr cr lo A st S vs R) (hu:aa [] w w'):dS w' B F gr cr lo A st S vs R:=h.upd hu σ
theorem dS.fw {w':World} {F':List Nat} {A':NS} {st':Nat} (h:dS w B F gr cr lo A st S vs R) (hu:aa F w w') (hC:ai w' B.c F' A' st') (hF:∀x,x∈F'->x∈F\/w.heap.size<=x) (e1:A'.cs.length=A.cs.length) (e2:A'.hs.length=A.hs.length):dS w' B F' gr cr lo A' st' S vs R:=by
 have f:=h.d1;have g:=h.lt;have hf:∀x,x<w.heap.size->x∉F->x∉F':=λx hx hn hm=>by rcases hF x hm with h'|h';exact hn h';omega
 have l0:=g B.n0 (by simp [BB.blk]);have l1:=g B.bt (by simp [BB.blk]);have l2:=g B.ba (by simp [BB.blk]);have l4:=g gr (by simp [BB.blk])
 refine ⟨h.head.upd hu f.1,hC,by rw [e1];exact h.gF.upd hu f.2.1 f.2.2.1 (λx hx=>(h.d3 x hx).2.2),ay h.rows hu (λg hg=>by simp [Value.ownBlock] at hg;subst hg;exact f.2.2.2),by rw [e2];exact h.len,
  λq hq=>(h.each q hq).upd hu (λg hg=>(h.d4 q g hq hg).2.2.2.2.1),⟨hf _ l0 f.1,hf _ l1 f.2.1,hf _ l2 f.2.2.1,hf _ l4 f.2.2.2⟩,h.d2,λx hx=>?_,λq x hq hx=>?_,h.d5⟩
 ·rw [e1] at hx;have:=h.d3 x hx;exact ⟨this.1,this.2.1,hf x (h.gF.iy hx).2 this.2.2⟩
 ·have:=h.d4 q x hq hx;rw [e1];exact ⟨this.1,this.2.1,this.2.2.1,this.2.2.2.1,hf x (h.mZ hq hx) this.2.2.2.2.1,this.2.2.2.2.2⟩
theorem dS.d9 {w':World} {S':CS} {st':Nat} (h:dS w B F gr cr lo A st S vs R) (hu:aa (B.c::B.ba::S.blk A.cs.length) w w') (hC:ai w' B.c F A st') (hS:aJ w' B.bt B.ba lo A.cs.length S') (hb:∀g,g∈S'.blk A.cs.length->g∈S.blk A.cs.length\/w.heap.size<=g):dS w' B F gr cr lo A st' S' vs R:=by
 have hcn:=h.cn;have g:=h.lt;have l0:=g B.n0 (by simp [BB.blk]);have l4:=g gr (by simp [BB.blk]);have k:∀x,x≠B.c->x≠B.ba->x∉S.blk A.cs.length->x∉B.c::B.ba::S.blk A.cs.length:=λx h1 h2 h3 hm=>by
  simp only [ρ] at hm;rcases hm with hm|hm|hm
  ·exact h1 hm
  ·exact h2 hm
  ·exact h3 hm
 have hrow:∀q x,q<vs.length->(vs.getD q undef).ownBlock=some x->x∉B.c::B.ba::S.blk A.cs.length:=λq x hq hx=>by
  have:=h.d4 q x hq hx;exact k x (λe=>this.2.2.2.2.1 (e▸h.cells.mem)) this.2.2.1 this.2.2.2.2.2
 refine ⟨h.head.upd hu (k _ hcn.1 h.d2.2.1 (λhm=>(h.d3 _ hm).1 rfl)),hC,hS,ay h.rows hu (λx hx=>by simp [Value.ownBlock] at hx;subst hx;exact k _ hcn.2.1 (Ne.symm h.d2.2.2.2.2) (λhm=>(h.d3 _ hm).2.1 rfl)),h.len,λq hq=>(h.each q hq).upd hu (λx hx=>hrow q x hq hx),h.d1,h.d2,λx hx=>?_,λq x hq hx=>?_,h.d5⟩
 ·rcases hb x hx with h'|h'
  ·exact h.d3 x h'
  ·exact ⟨ω,ω,λhm=>by have:=h.cells.lt x hm;omega⟩
 ·have:=h.d4 q x hq hx;refine ⟨this.1,this.2.1,this.2.2.1,this.2.2.2.1,this.2.2.2.2.1,λhm=>?_⟩;rcases hb x hm with h'|h'
  ·exact this.2.2.2.2.2 h'
  ·have:=h.mZ hq hx;omega
theorem dS.Gm {w1:World} {K:List Nat} (h:dS w B F gr cr lo A st S vs R) (q:Nat) (hq:q<vs.length) (hu1:aa K w w1) (hK:∀g,g∈K->(vs.getD q undef).ownBlock=some g) (v:Value) (X:List Int) (hv:aH w1 0 v X)
  (hg:∀g,v.ownBlock=some g->(g≠B.n0/\g≠B.bt/\g≠B.ba/\g≠gr/\g∉F/\g∉S.blk A.cs.length)/\∀k,k<vs.length->k≠q->(vs.getD k undef).ownBlock≠some g) :
  dS (w1.setCell ⟨gr,q,none⟩ v) B F gr cr lo A st S (vs.set q v) (gq R q X):=by
 have hu:aa [gr] w1 (w1.setCell ⟨gr,q,none⟩ v):=β;have kk:∀g,g∈K->g≠B.n0/\g≠B.bt/\g≠B.ba/\g≠gr/\g∉F/\g∉S.blk A.cs.length:=λg hg=>h.d4 q g hq (hK g hg);have e:∀k,k<vs.length->(vs.set q v).getD k undef=if k=q then v else vs.getD k undef:=λk hk=>by
  rw [oV]
  by_cases e:k=q
  ·rw [Δ ⟨e,hq⟩,Δ e]
  ·rw [Γ (λh=>e h.1),Γ e]
 refine ⟨by rw [Ι];exact (h.head.upd hu1 (λhm=>(kk _ hm).1 rfl)).upd hu (by simp;exact h.d2.2.2.1),(h.cells.upd hu1 (λx hx=>(kk x hx).2.2.2.2.1)).upd hu (λx hx hm=>by simp at hx;subst hx;exact h.d1.2.2.2 hm),
  (h.gF.upd hu1 (λhm=>(kk _ hm).2.1 rfl) (λhm=>(kk _ hm).2.2.1 rfl) (λg hg hm=>(kk g hm).2.2.2.2.2 hg)).upd hu (by simp;exact h.d2.2.2.2.1) (by simp;exact h.d2.2.2.2.2) (λx hx hm=>by simp at hm;exact (h.d3 x hx).2.1 hm),
  by rw [Ι];exact Cf (ay h.rows hu1 (λg hg hm=>by simp [Value.ownBlock] at hg;subst hg;exact (kk _ hm).2.2.2.1 rfl)) q v,by rw [Ι];exact h.len,λk hk=>?_,h.d1,h.d2,h.d3,λk g hk e2=>?_,λk j g hk hj hne e2=>?_⟩
 ·rw [Ι] at hk;rw [e k hk];unfold gq
  by_cases ek:k=q
  ·rw [Δ ek,Δ ek];exact hv.upd hu (λg hg2 hm=>by simp at hm;exact (hg g hg2).1.2.2.2.1 hm)
  ·rw [Γ ek,Γ ek];exact ((h.each k hk).upd hu1 (λg hg2 hm=>h.d5 k q g hk hq ek hg2 (hK g hm))).upd hu (λg hg2 hm=>by simp at hm;exact (h.d4 k g hk hg2).2.2.2.1 hm)
 ·rw [Ι] at hk;rw [e k hk] at e2
  split at e2
  ·exact (hg g e2).1
  ·exact h.d4 k g hk e2
 ·rw [Ι] at hk hj;rw [e k hk] at e2;rw [e j hj]
  split at e2
  ·rename_i ek
   rw [Γ (λej=>hne ω)];exact (hg g e2).2 j hj (λej=>hne ω)
  ·rename_i ek
   split
   ·rename_i ej
    intro e3;exact (hg g e3).2 k hk ek e2
   ·exact h.d5 k j g hk hj hne e2
theorem dS.nV (h:dS w B F gr cr lo A st S vs R) (q:Nat) (hq:q<vs.length) (v:Value) (X:List Int) (hv:aH w 0 v X)
  (hg:∀g,v.ownBlock=some g->(g≠B.n0/\g≠B.bt/\g≠B.ba/\g≠gr/\g∉F/\g∉S.blk A.cs.length)/\∀k,k<vs.length->k≠q->(vs.getD k undef).ownBlock≠some g) :
  dS (w.setCell ⟨gr,q,none⟩ v) B F gr cr lo A st S (vs.set q v) (gq R q X):=h.Gm (K:=[]) q hq (aa.refl _ _) σ v X hv hg
end
theorem aH.sl {w:World} {base:Nat} {F:List Nat} {v:Value} {xs:List Int} (h:aH w base v xs) (hF:∀g,v.ownBlock=some g->g∉F):iT w F v xs:=by
 obtain ⟨a,cap,rfl,h1,h2,h3⟩:=h.shape;refine ⟨a,cap,rfl,h1,h2,λj u hj=>?_⟩;obtain ⟨g,off,rfl,hc⟩:=h3 j u hj;exact ⟨g,off,rfl,(h.lt g rfl).2,hF g rfl,hc⟩
section
variable {w:World} {B:BB} {F:List Nat} {gr cr lo:Nat} {A:NS} {st:Nat} {S:CS} {vs:List Value} {R:Nat->List Int}
theorem dS.shape (h:dS w B F gr cr lo A st S vs R) {q:Nat} (hq:q<vs.length):∃a cap,vs.getD q undef=.slice a (R q).length cap/\(R q).length<=cap/\cap<=9223372036854775807:=by
 obtain ⟨a,cap,e,h1,h2,_⟩:=(h.each q hq).shape;exact ⟨a,cap,e,h1,h2⟩
theorem dS.hq (h:dS w B F gr cr lo A st S vs R) {q:Int} (hh:aR A q=true):∃k:Nat,q=k/\1<=k/\k<vs.length:=by
 have:=(aA _ _).1 hh;have e:=h.len;exact ⟨q.toNat,ω,ω,ω⟩
theorem zt (M:dS w B F gr cr lo A st S vs R) (q:Nat) (hh:aR A q=true) {a:Option Addr} {n cap:Nat} (hv:vs.getD q undef=.slice a n cap) :
  Calls Tryz.prog 178 #[.pointer (some ⟨B.n0,0,none⟩),.int .i64 (q:Int)] w λe w'=>e=.returned (.slice a n cap)/\w'=w:=by
 have k:=dF M.cells (q:Int);rw [hh] at k;have h0:=M.h0;have h2:=M.h2;obtain ⟨q',e,_,hq⟩:=M.hq hh;obtain rfl:q=q':=ω;have d:=M.IB hq;rw [hv] at d;have Dm:(0:Int)<=(q:Int):=ω;have zx:(q:Int)<(vs.length:Int):=ω;clear M hh hv e
 go_enter Tryz.func178,Tryz.ntmps178
 go_wp2_with ((go_at_call 123;(with_reducible refine (k).mono ?_);rintro e w9 ⟨rfl,aB⟩;rw [aB];clear aB w9))
 go_ret;exact ⟨rfl,rfl⟩
theorem Ca (M:dS w B F gr cr lo A st S vs R) (q:Int) (hh:aR A q=false) :
  Calls Tryz.prog 178 #[.pointer (some ⟨B.n0,0,none⟩),.int .i64 q] w λe w'=>e=.returned (.slice none 0 0)/\w'=w:=by
 have k:=dF M.cells q;rw [hh] at k;have h0:=M.h0;clear M hh
 go_enter Tryz.func178,Tryz.ntmps178
 go_wp2_with ((go_at_call 123;(with_reducible refine (k).mono ?_);rintro e w9 ⟨rfl,aB⟩;rw [aB];clear aB w9))
 go_ret;exact ⟨rfl,rfl⟩
theorem dS.ord (M:dS w B F gr cr lo A st S vs R):(KS A B.n0 B.c F st).at_ w 0:=by
 have h:=M.cells.ni;refine ⟨M.head.lt,?_,M.h0,by rw [eu h];exact M.cells⟩;simp only [ρ,not_or];exact ⟨M.cn.1,M.d1.1⟩
theorem dS.apart (M:dS w B F gr cr lo A st S vs R):Apart (KS A B.n0 B.c F st) B.bt B.ba A.cs.length S:=by
 have hc:=M.cn;refine ⟨?_,?_,λg hg=>?_⟩
 ·show B.bt∉B.n0::B.c::F
  simp only [ρ,not_or];exact ⟨Ne.symm M.d2.1,hc.2.2.1,M.d1.2.1⟩
 ·show B.ba∉B.n0::B.c::F
  simp only [ρ,not_or];exact ⟨Ne.symm M.d2.2.1,hc.2.2.2,M.d1.2.2.1⟩
 ·show g∉B.n0::B.c::F
  have:=M.d3 g hg;simp only [ρ,not_or];exact ⟨this.1,λe=>this.2.2 (e▸M.cells.mem),this.2.2⟩
theorem u7 (M:dS w B F gr cr lo A st S vs R) (ok:nT A.cs.length S.f) {va vl:Value} {X L:List Int} (hva:iT w (B.c::B.ba::S.blk A.cs.length) va X) (hvl:iT w (B.c::B.ba::S.blk A.cs.length) vl L)
  (hA:gL A.cs.length S.f X) (hB:gL A.cs.length S.f L) (hd:∀x,x∈X->x∉L) (hin:∀z,z∈X\/z∈L->dh A z=true) :
  Calls Tryz.prog 185 #[.pointer (some ⟨B.bt,0,none⟩),.iface 126 (.pointer (some ⟨B.n0,0,none⟩)),va,vl] w λe w'=>
   ∃S' vo,e=.returned (.tuple #[vo,.bool true])/\S'.f=(fA (bB A) A.cs.length S.f X L).F/\dS w' B F gr cr lo A (bR st (fA (bB A) A.cs.length S.f X L).q) S' vs R/\aH w' w.heap.size vo (fA (bB A) A.cs.length S.f X L).O/\
    aa (B.c::B.ba::S.blk A.cs.length) w w'/\(∀g,g∈S'.blk A.cs.length->g∈S.blk A.cs.length\/w.heap.size<=g)/\(∀g,vo.ownBlock=some g->g∉S'.blk A.cs.length)/\∃a n cap,vo=.slice a n cap:=by
 refine (yo (KS A B.n0 B.c F st) B.bt B.ba lo A.cs.length S va vl X L 0 w ⟨M.gF,M.ord,M.apart,M.gF.head.lt,ok⟩ hva hvl hA hB hd (Nat.zero_le _) (λx hx=>hin x (Α hx)) (λx hx=>hin x (Β hx))).mono ?_;rintro e w' ⟨S',vo,O,q',rfl,hFL,hTo,hG,hO,hS,hu,hb,hx⟩;obtain ⟨e1,e2,e3⟩:=Ff hG (ja A) M.gF.le hTo;have e1:(fA (bB A) A.cs.length S.f X L).F=S'.f:=e1;have e2:(fA (bB A) A.cs.length S.f X L).O=O:=e2;have e3:(fA (bB A) A.cs.length S.f X L).q=q':=e3;rw [e1,e2,e3];obtain ⟨a,cap,e4,_⟩:=hO.shape;exact ⟨S',vo,rfl,rfl,M.d9 hu hFL.l.2.2.2 hFL.f hb,hO,hu,hb,hx,a,_,cap,e4⟩
theorem Aw (M:dS w B F gr cr lo A st S vs R) (ok:nT A.cs.length S.f) (q:Nat) (hq:q<vs.length) {vl:Value} {L:List Int} (hvl:iT w (B.c::B.ba::S.blk A.cs.length) vl L)
  (hA:gL A.cs.length S.f (R q)) (hB:gL A.cs.length S.f L) (hd:∀x,x∈R q->x∉L) (hin:∀z,z∈R q\/z∈L->dh A z=true) :
  Calls Tryz.prog 177 #[.pointer (some ⟨B.n0,0,none⟩),.int .i64 (q:Int),vl] w λe w'=>
   ∃S' vo,e=.returned (.tuple #[])/\S'.f=(fA (bB A) A.cs.length S.f (R q) L).F/\dS w' B F gr cr lo A (bR st (fA (bB A) A.cs.length S.f (R q) L).q) S' (vs.set q vo) (gq R q (fA (bB A) A.cs.length S.f (R q) L).O)/\
    aa (B.c::B.ba::gr::S.blk A.cs.length) w w'/\(∀g,g∈S'.blk A.cs.length->g∈S.blk A.cs.length\/w.heap.size<=g)/\(∀g,vo.ownBlock=some g->w.heap.size<=g):=by
 have hrow:iT w (B.c::B.ba::S.blk A.cs.length) (vs.getD q undef) (R q):=(M.each q hq).sl (λg hg hm=>by
  have:=M.d4 q g hq hg;simp only [ρ] at hm;rcases hm with e|e|e
  ·exact this.2.2.2.2.1 (e▸M.cells.mem)
  ·exact this.2.2.1 e
  ·exact this.2.2.2.2.2 e)
 have kc:=λW (hW:aa [] w W)=>u7 (M.ah hW) ok (hrow.upd hW σ) (hvl.upd hW σ) hA hB hd hin;obtain ⟨a,cap,hv,_⟩:=M.shape hq;obtain ⟨a2,cap2,hv2,_⟩:=hvl;subst hv2;rw [hv] at kc;have h1:=M.h1;have h2:=M.h2;have d:=M.IB hq;rw [hv] at d;have df:=M.Kb q;have hcn:=M.cn;have nn:∀x,x≠B.c->x≠B.ba->x∉S.blk A.cs.length->x∉B.c::B.ba::S.blk A.cs.length:=λx h1 h2 h3 hm=>by
  simp only [ρ] at hm;rcases hm with hm|hm|hm
  ·exact h1 hm
  ·exact h2 hm
  ·exact h3 hm
 have n0:B.n0∉B.c::B.ba::S.blk A.cs.length:=nn _ hcn.1 M.d2.2.1 (λhm=>(M.d3 _ hm).1 rfl);have ng:gr∉B.c::B.ba::S.blk A.cs.length:=nn _ hcn.2.1 (Ne.symm M.d2.2.2.2.2) (λhm=>(M.d3 _ hm).2.1 rfl);have r1:∀W,aa (B.c::B.ba::S.blk A.cs.length) w W->W.cell? ⟨B.n0,1,none⟩=some (.pointer (some ⟨B.bt,0,none⟩)):=λW hW=>hW.kept h1 n0;have r2:∀W,aa (B.c::B.ba::S.blk A.cs.length) w W->W.cell? ⟨B.n0,2,none⟩=some (.slice (some ⟨gr,0,none⟩) vs.length cr):=λW hW=>hW.kept h2 n0
 have r3:∀W,aa (B.c::B.ba::S.blk A.cs.length) w W->W.cell? ⟨gr,q,none⟩=some (.slice a (R q).length cap)/\W.frozen? ⟨gr,q,none⟩=false:=λW hW=>⟨hW.kept d ng,hW.aF d ng df⟩
 have Dm:(0:Int)<=(q:Int):=ω;have zx:(q:Int)<(vs.length:Int):=ω;have hgl:=M.vZ;have HM:=χ M;have hvl2:=M.JW;clear M hrow hA hB hd hin hv hcn nn;generalize hC:fA (bB A) A.cs.length S.f (R q) L=C at *;generalize hrl:(R q).length=rl at *;generalize hll:L.length=ll at *;clear hC hrl hll
 go_enter Tryz.func177,Tryz.ntmps177
 go_wp2
 go_region_law
  (first
   | (go_simp;go_at_call 185;(with_reducible refine (kc _ β).mono ?_);rintro e w5 ⟨S5,vo,rfl,hS5,Gv,D8,Am,hb5,hx5,a5,n5,c5,rfl⟩;(have dV:aa (B.c::B.ba::S.blk A.cs.length) w w5:=aa.trans β Am);(have q1:=r1 _ dV);(have q2:=r2 _ dV);obtain ⟨q3,q4⟩:=r3 _ dV))
 all_goals
  go_wp2;go_end0;refine ⟨S5,_,rfl,hS5,Gv.nV q hq _ C.O (D8.mono (Nat.zero_le _)) (λg hg=>?_),(dV.mono (λy hy=>?_)).setCell (Α σ) _,λg hg=>?_,λg hg=>?_⟩
  ·have hgs:=(D8.lt g hg).1;have ll:=HM.out.lt;have hw:w.heap.size<=g:=hgs;refine ⟨⟨?_,?_,?_,?_,λhm=>?_,hx5 g hg⟩,λk hk hne e=>?_⟩
   ·have:=ll B.n0 (by simp [BB.blk]);omega
   ·have:=ll B.bt (by simp [BB.blk]);omega
   ·have:=ll B.ba (by simp [BB.blk]);omega
   ·omega
   ·have:=HM.out.cells.lt g hm;omega
   ·have:=HM.out.mZ hk e;omega
  ·simp only [ρ] at hy ⊢;rcases hy with hy|hy|hy
   ·exact Α hy
   ·exact Β (Α hy)
   ·exact Β (Β (Β hy))
  ·exact hb5 g hg
  ·exact (D8.lt g hg).1
end
def JS (w:World) (p:Nat) (FF:List Nat) (A:NS) (st:Nat) (G:BG):Prop:=∃B F gr cr lo S vs,p=B.n0/\FF=B.blk F gr A.cs.length S vs/\dS w B F gr cr lo A st S vs G.R/\S.f=G.F
section
variable {w:World} {B:BB} {F:List Nat} {gr cr lo:Nat} {A:NS} {st:Nat} {S:CS} {vs:List Value} {G:BG} {R:Nat->List Int}
theorem dS.setSt {w':World} {st':Nat} (h:dS w B F gr cr lo A st S vs R) (hu:aa [B.c] w w') (hC:ai w' B.c F A st'):dS w' B F gr cr lo A st' S vs R:=
 h.fw (hu.mono (λx hx=>by simp at hx;subst hx;exact h.cells.mem)) hC (λx hx=>Α hx) rfl rfl
def zf (A:NS) (G:BG) (h:Int):Nat:=if aR A h then (G.R h.toNat).length-1 else 0
theorem zV (M:dS w B F gr cr lo A st S vs G.R) (I:yL A G) (h:Int) :
  Calls Tryz.prog 171 #[.pointer (some ⟨B.n0,0,none⟩),.int .i64 h] w λe w'=>e=.returned (.tuple #[.int .i64 (nI (bQ A h)),.bool (bQ A h).isSome])/\dS w' B F gr cr lo A (bR st (zf A G h)) S vs G.R/\aa [B.c] w w':=by
 have hst:=M.cells.ni;cases hh:aR A h with
 | false=>
  have e:bQ A h=none:=by
   by_cases h1:0<h
   ·exact (eB h1).2 (xP M.cells.ok hh)
   ·exact kX h1
  have e2:zf A G h=0:=by unfold zf;rw [hh];rfl
  rw [e,e2,eu hst];have kr:=Ca M h hh;have HM:=χ M;clear M I hh e e2
  go_enter Tryz.func171,Tryz.ntmps171
  go_wp2_with ((go_at_call 178;(with_reducible refine (kr).mono ?_);rintro e w9 ⟨rfl,aB⟩;rw [aB];clear aB w9))
  go_ret2;exact ⟨rfl,HM.out,aa.refl _ _⟩
 | true=>
  obtain ⟨q,rfl,hq1,hq⟩:=M.hq hh;have e2:zf A G (q:Int)=(G.R q).length-1:=by unfold zf;rw [hh];simp
  obtain ⟨a,cap,hv,hl1,hl2⟩:=M.shape hq;have kr:=zt M q hh hv;have hsl:iT w [B.c] (vs.getD q undef) (G.R q):=(M.each q hq).sl (λg hg hm=>by simp at hm;subst hm;exact (M.d4 q _ hq hg).2.2.2.2.1 M.cells.mem);rw [hv] at hsl;rw [e2];cases hR:G.R q with
  | nil=>
   rw [DF I hq1 hR];rw [hR] at kr hsl;simp only [List.length_nil] at kr ⊢;rw [eu hst];have HM:=χ M;clear M I hh hR e2 hv hsl
   go_enter Tryz.func171,Tryz.ntmps171
   go_wp2_with ((go_at_call 178;(with_reducible refine (kr).mono ?_);rintro e w9 ⟨rfl,aB⟩;rw [aB];clear aB w9))
   go_ret2;exact ⟨rfl,HM.out,aa.refl _ _⟩
  | cons x t=>
   obtain ⟨m,hb,hm,_⟩:=Fs I hq1 hR;rw [hm];rw [hR] at kr hsl hl1;simp only [Ω] at kr hsl hl1 ⊢;have hin:∀z,z∈x::t->∃y:Nat,z=y/\dh A z=true:=λz hz=>by
    obtain ⟨y,e,_,i,_⟩:=y9 I (h:=q) (z:=z) (by rw [hR];exact hz);exact ⟨y,e,i⟩
   obtain ⟨g,off,rfl,hgl,tV,hc0⟩:=hsl.head;have vY:=(show iT w [B.c] (.slice (some ⟨g,off,none⟩) (t.length+1) cap) (x::t) from hsl).tail;have hsr:=λW=>jU W (some ⟨g,off,none⟩) (t.length+1) cap ω ω;obtain ⟨a3,mP⟩:=iB (some ⟨g,off,none⟩) (t.length+1) cap;rw [mP] at hsr vY;simp only [Nat.add_sub_cancel] at hsr vY ⊢;have h0:=M.h0;have hn0:B.n0∉[B.c]:=by simp;exact M.cn.1
   have HM:=χ M;have HT:=χ vY;have HI:=χ (ψ hin hb);have hC:=M.cells;have hz:bR st 0=st:=eu hst;clear M I hh hR e2 hv hsl vY hin hb hm mP;generalize htl:t.length=tl at *;have HTL:=χ htl;have hne0:((tl:Int)+1 == 0)=false:=beq_eq_false_iff_ne.2 ω;clear htl
   go_enter Tryz.func171,Tryz.ntmps171
   go_wp2_with ((go_at_call 178;(with_reducible refine (kr).mono ?_);rintro e w9 ⟨rfl,aB⟩;rw [aB];clear aB w9))
   go_loopw [7,22] (λs7 Jg wr=>∃ (j:Nat) (b:Int),j<=tl/\Jg=.int .i64 (j:Int)/\s7=.int .i64 b/\fB (bB A) b (t.drop j)=fB (bB A) x t/\(∃y:Nat,b=y/\dh A b=true)/\ai wr B.c F A (bR st j)/\aa [B.c] w wr) (λ_ Jg _=>tl-(intOf Jg).toNat)
   case atStart=>exact ⟨0,x,ω,rfl,rfl,σ,HI.out.1 x σ,by rw [hz];exact hC,aa.refl _ _⟩
   case round=>
    obtain ⟨j,b,hj,rfl,rfl,hbb,hib,hCj,hu⟩:=hrel;rename World=>wr
    by_cases hjt:j<tl
    ·obtain ⟨y,tY⟩:∃y,t[j]?=some y:=⟨t[j]'(by rw [HTL.out];exact hjt),σ⟩;have hd:t.drop j=y::t.drop (j+1):=by
      obtain ⟨hl,e⟩:=List.getElem?_eq_some_iff.1 tY;rw [List.drop_eq_getElem_cons hl,e]
     obtain ⟨a4,c4,e4,_,_,h4⟩:=HT.out;have ea:a3=a4:=by injection e4
     subst ea;obtain ⟨g4,o4,rfl,_,hg4,hc4⟩:=h4 j y tY;have Jv:=hu.kept hc4 hg4;obtain ⟨yn,rfl,IG⟩:=HI.out.1 y (Λ _ (Η tY));obtain ⟨bn,rfl,hbn⟩:=hib;have ka:=dE hCj yn bn IG hbn;have h05:=hu.kept h0 hn0;have hjI:(j:Int)<(tl:Int):=ω;have hw1:IntKind.i64.wrap ((j:Int)+1)=(j:Int)+1:=Μ _ ω;have eah:bB A (yn:Int) (bn:Int)=decide (dm A yn bn):=by rw [eZ,IG,hbn];simp
     have hnx:∀b':Int,b'=(if bB A (yn:Int) (bn:Int) then (yn:Int) else (bn:Int))->fB (bB A) b' (t.drop (j+1))=fB (bB A) x t:=λb' e=>by rw [←hbb,hd,e];rfl
     have HN:=χ (ψ hnx (ψ IG hbn));have hse:bR (bR st j) 1=bR st (j+1):=kI st j 1;rw [←eah] at ka;clear hCj hbb hd h4 tY hc4 IG hbn eah hnx e4;cases hab:bB A (yn:Int) (bn:Int) with
     | true=>
      rw [hab] at ka;have Kl:=χ hab;clear hab
      go_wp2_with ((go_at_call 164;(with_reducible refine (ka).mono ?_));rintro e w2 ⟨rfl,hC2,hu2⟩)
      go_roundw
      case rel=>exact ⟨j+1,yn,ω,by go_num,rfl,HN.out.1 _ (by rw [Kl.out];rfl),⟨yn,rfl,HN.out.2.1⟩,by rw [←hse];exact hC2,hu.trans hu2⟩
      case measure=>simp [intOf];omega
     | false=>
      rw [hab] at ka;have Kl:=χ hab;clear hab
      go_wp2_with ((go_at_call 164;(with_reducible refine (ka).mono ?_));rintro e w2 ⟨rfl,hC2,hu2⟩)
      go_roundw
      case rel=>exact ⟨j+1,bn,ω,by go_num,rfl,HN.out.1 _ (by rw [Kl.out];rfl),⟨bn,rfl,HN.out.2.2⟩,by rw [←hse];exact hC2,hu.trans hu2⟩
      case measure=>simp [intOf];omega
    ·obtain rfl:j=tl:=ω;have hbf:b=(m:Int):=by
      rw [List.drop_of_length_le (by rw [HTL.out];omega)] at hbb;have e:fB (bB A) b []=b:=rfl;rw [e,HI.out.2] at hbb;exact hbb
     have HB:=χ hbf;have HC:=χ hCj;clear hbb hib hbf hCj;go_wp2;go_ret2;exact ⟨by rw [HB.out];rfl,HM.out.setSt hu HC.out,hu⟩
end
def yP (w:World) (p:Nat) (FF:List Nat) (A:NS) (st:Nat) (G:BG):Prop:=JS w p FF A st G/\yL A G
section
variable {w:World} {p:Nat} {FF:List Nat} {A:NS} {st:Nat} {G:BG}
theorem wF {B:BB} {F:List Nat} {gr n:Nat} {S:CS} {vs:List Value}:∀y,y∈F->y∈B.blk F gr n S vs:=λy hy=>by simp [BB.blk,hy]
theorem Cc {w:World} {B:BB} {F F':List Nat} {gr n:Nat} {S S':CS} {vs:List Value} {q:Nat} {vo:Value} (hF:∀y,y∈F'->y∈F) (hb:∀g,g∈S'.blk n->g∈S.blk n\/w.heap.size<=g) (hv:∀g,vo.ownBlock=some g->w.heap.size<=g) :
  ∀y,y∈B.blk F' gr n S' (vs.set q vo)->y∈B.blk F gr n S vs\/w.heap.size<=y:=λy hy=>by
 simp only [BB.blk,ρ,τ] at hy ⊢;rcases hy with e|e|e|e|e|e|e
 ·exact Α (Α e)
 ·exact Α (Β (Α e))
 ·exact Α (Β (Β (Α e)))
 ·exact Α (Β (Β (Β (Α e))))
 ·exact Α (Β (Β (Β (Β (Α (hF y e))))))
 ·rcases hb y e with h'|h'
  ·exact Α (Β (Β (Β (Β (Β (Α h'))))))
  ·exact Β h'
 ·obtain ⟨k,hk,hk2⟩:=gz.1 e;rw [Ι] at hk;rw [oV] at hk2
  by_cases ek:k=q/\q<vs.length
  ·rw [Δ ek] at hk2;exact Β (hv y hk2)
  ·rw [Γ ek] at hk2;exact Α (Β (Β (Β (Β (Β (Β (gz.2 ⟨k,hk,hk2⟩)))))))
theorem Ij {w:World} {B:BB} {F:List Nat} {gr cr lo:Nat} {S:CS} {vs:List Value} {R:Nat->List Int} (M:dS w B F gr cr lo A st S vs R):∀y,y∈B.c::B.ba::gr::S.blk A.cs.length->y∈B.blk F gr A.cs.length S vs:=λy hy=>by
 simp only [BB.blk,ρ,τ] at hy ⊢;rcases hy with e|e|e|e
 ·exact Β (Β (Β (Β (Α (by rw [e];exact M.cells.mem)))))
 ·exact Β (Β (Α e))
 ·exact Β (Β (Β (Α e)))
 ·exact Β (Β (Β (Β (Β (Α e)))))
theorem sU (h:yP w p FF A st G) (q x:Nat) (k s:Int) (hk:-9223372036854775808<=k/\k<=9223372036854775807/\0<=s/\s<=18446744073709551615) (hB:iq A q x=true) :
  Calls Tryz.prog 168 #[.pointer (some ⟨p,0,none⟩),.int .i64 (q:Int),.int .i64 (x:Int),.agg #[.int .i64 k,.int .u64 s]] w λe w'=>e=.returned (.bool true)/\
   Goes FF w w' (λES=>yP w' p ES (af A q x k s) (bR st (BS (af A q x k s) q x G)) (zT (af A q x k s) q x G)):=by
 obtain ⟨⟨B,F,gr,cr,lo,S,vs,rfl,rfl,M,eF⟩,I⟩:=h;have ok:=M.cells.ok;obtain ⟨I2,_,t2,t3,t4,hcs⟩:=FM (h:=q) (x:=x) k s I ok hB;have gW:(af A q x k s).hs.length=A.hs.length:=by unfold af;split;rfl;rfl
 have Ke:=((bG _ _ _).1 hB).1;obtain ⟨q',e,hq1,hqv⟩:=M.hq Ke;obtain rfl:q=q':=ω;have u1:aa [] w (w.alloc (.cells #[.int .i64 k,.int .u64 s] 97)):=(aa.refl _ _).alloc _;have kp:=λW (hW:aa [] (w.alloc (.cells #[.int .i64 k,.int .u64 s] 97)) W)=>fZ (M.cells.ah (u1.trans hW)) q x k s hk hB;have h0:=M.h0;have BP:B.n0∉F:=M.d1.1;have hsz:w.heap.size∉F:=λhm=>by have:=M.cells.lt _ hm;omega
 have r0:∀W,aa F (w.alloc (.cells #[.int .i64 k,.int .u64 s] 97)) W->W.cell? ⟨B.n0,0,none⟩=some (.pointer (some ⟨B.c,0,none⟩)):=λW hW=>hW.kept (u1.was h0) BP;have r1:∀W,aa F (w.alloc (.cells #[.int .i64 k,.int .u64 s] 97)) W->W.cell? ⟨w.heap.size,0,none⟩=some (.int .i64 k):=λW h=>h.kept σ hsz;have r2:∀W,aa F (w.alloc (.cells #[.int .i64 k,.int .u64 s] 97)) W->W.cell? ⟨w.heap.size,1,none⟩=some (.int .u64 s):=λW h=>h.kept σ hsz;have hrow:=I.rh.row q
 have ka:=λ(W:World) (hM:dS W B F gr cr lo (af A q x k s) st S vs G.R) (vl:Value) (hvl:iT W (B.c::B.ba::S.blk (af A q x k s).cs.length) vl [(x:Int)])=>Aw hM (by rw [hcs,eF];exact I.fh.f) q hqv hvl (by rw [hcs,eF];exact hrow) (by rw [hcs,eF];exact t2) t3 t4;have HM:=χ M;have HI:=χ (ψ I2 (ψ eF (ψ hcs gW)));clear M I ok I2 t2 t3 t4 hcs gW eF hrow h0 hB;generalize hA':af A q x k s=A' at *
 go_enter Tryz.func168,Tryz.ntmps168
 go_wp2
 go_region_held3 (aa F (w.alloc (.cells #[.int .i64 k,.int .u64 s] 97))) (exact ν)
  (first
   | ((go_at_call 138;(with_reducible refine (kp _ β).mono ?_));rintro e w1 ⟨rfl,iU,hu1⟩;(have hu2:aa F (w.alloc (.cells #[.int .i64 k,.int .u64 s] 97)) w1:=ν)))
 have uF:aa F w w1:=(u1.mono σ).trans hu2;have hM1:=HM.out.fw uF iU (λy hy=>Α hy) HI.out.2.2.1 HI.out.2.2.2;have hsz1:=uF.size;have hlt1:∀y,y∈B.c::B.ba::S.blk A'.cs.length->y<w1.heap.size:=λy hy=>by
  simp only [ρ] at hy;rcases hy with e|e|e
  ·subst e;exact hM1.cells.lt _ hM1.cells.mem
  ·subst e;exact hM1.gF.row.lt
  ·exact (hM1.gF.iy e).2
 have KE:=λ(W:World) (hW:aa [] w1 W) (vl:Value)=>ka W (hM1.ah hW) vl;have HL:=χ hlt1;clear kp r0 r1 r2 hM1 hlt1 ka
 go_wp2_with (first
  | ((go_at_call 177;(with_reducible refine (KE _ β _ ((aH.lit w1 0 (x:Int) (Nat.zero_le _)).sl (λg hg hm=>by have:=HL.out g hm;simp [Value.ownBlock] at hg;omega))).mono ?_));rintro e w2 ⟨S2,vo,rfl,hS2,hM2,hu3,hb2,hx2⟩)
  | fail)
 go_ret;have eF:=HI.out.2.1;have hcs:=HI.out.2.2.1;have uw:aa (B.blk F gr A.cs.length S vs) w w2:=by
  refine ((uF.mono wF).alloc _).trans (hu3.mono (λy hy=>?_));rw [hcs] at hy;exact Ij HM.out y hy
 refine ⟨rfl,B.blk F gr A'.cs.length S2 (vs.set q vo),⟨⟨B,F,gr,cr,lo,S2,_,rfl,rfl,by unfold BS zT q8;rw [←eF];exact hM2,by rw [hS2,eF];rfl⟩,HI.out.1⟩,uw,λy hy=>?_⟩;rw [hcs] at hy hb2;exact Cc (w:=w) (λ_ h=>h) (λg hg=>(hb2 g hg).imp id (λh=>by simp at h;omega)) (λg hg=>by have:=hx2 g hg;simp at this;omega) y hy
end
theorem Da:(Tryz.prog.info? 77).map (λi=>(i.zero,i.size,i.bytes))=some (some (.slice none 0 0),1,24):=by kernel_rfl
theorem Es {A:NS} {G:BG} (I:yL A G) (ok:A.Ok):G.R A.hs.length=[]:=by
 cases e:G.R A.hs.length with
 | nil=>rfl
 | cons x t=>
  have hx:x∈G.R A.hs.length:=by rw [e];simp
  obtain ⟨y,_,hy,_,hh,_⟩:=y9 I hx;have:=ok.nat y hy;omega
theorem oH (vs:List Value) (v:Value) (k:Nat):(vs++[v]).getD k undef=if k<vs.length then vs.getD k undef else if k=vs.length then v else undef:=by
 simp only [φ]
 by_cases e:k<vs.length
 ·rw [Ρ e,Δ e]
 ·rw [ϊ ω,Γ e]
  by_cases e2:k=vs.length
  ·subst e2;simp
  ·rw [Γ e2,List.getElem?_eq_none ζ];rfl
section
variable {w:World} {p:Nat} {FF:List Nat} {A:NS} {st:Nat} {G:BG}
theorem xn (h:yP w p FF A st G) :
  Calls Tryz.prog 169 #[.pointer (some ⟨p,0,none⟩)] w λe w'=>e=.returned (.int .i64 (aT A))/\Goes FF w w' (λES=>yP w' p ES (ag A) st G):=by
 obtain ⟨⟨B,F,gr,cr,lo,S,vs,rfl,rfl,M,eF⟩,I⟩:=h;have k:=cZ M.cells;have h0:=M.h0;have I2:=Cu I
 by_cases hl:65536<A.hs.length
 ·have e1:aT A=0:=by unfold aT;rw [Δ hl]
  have e2:ag A=A:=by unfold ag;rw [Δ hl]
  rw [e1,e2] at k;rw [e1,e2];have HM:=χ M;have HI:=χ (ψ I eF);clear M I eF e1 e2 I2
  go_enter Tryz.func169,Tryz.ntmps169
  go_wp2_with ((go_at_call 140;(with_reducible refine (k).mono ?_));rintro e w1 ⟨rfl,F1,hC,hu,hF⟩)
  go_ret;refine ⟨rfl,B.blk F1 gr A.cs.length S vs,⟨⟨B,F1,gr,cr,lo,S,vs,rfl,rfl,HM.out.fw hu hC hF rfl rfl,HI.out.2⟩,HI.out.1⟩,hu.mono wF,λy hy=>?_⟩;simp only [BB.blk,ρ,τ] at hy ⊢;rcases hy with e|e|e|e|e|e|e
  ·exact Α (Α e)
  ·exact Α (Β (Α e))
  ·exact Α (Β (Β (Α e)))
  ·exact Α (Β (Β (Β (Α e))))
  ·rcases hF y e with h'|h'
   ·exact Α (Β (Β (Β (Β (Α h')))))
   ·exact Β h'
  ·exact Α (Β (Β (Β (Β (Β (Α e))))))
  ·exact Α (Β (Β (Β (Β (Β (Β e))))))
 ·have e1:aT A=A.hs.length:=by unfold aT;rw [Γ hl]
  rw [e1] at k;rw [e1];have hcs:(ag A).cs.length=A.cs.length:=by rw [wW]
  have gW:(ag A).hs.length=A.hs.length+1:=by unfold ag;rw [Γ hl];simp
  have hh0:=M.cells.ok.h0;have hvl:vs.length<=65536:=by rw [M.len];omega
  have hlen:=M.len;have hpos:(0:Int)<(A.hs.length:Int):=ω;have HM:=χ M;have HI:=χ (ψ I2 (ψ eF (ψ (Es I M.cells.ok) hlen)));clear M I e1 I2 eF hlen
  go_enter Tryz.func169,Tryz.ntmps169
  go_wp2_with (first
   | ((go_at_call 140;(with_reducible refine (k).mono ?_));rintro e w1 ⟨rfl,F1,hC,hu,hF⟩;(have d3:=hu.kept HM.out.h2 HM.out.d1.1);(have f3:=hu.aF HM.out.h2 HM.out.d1.1 (HM.out.head.free 2));(have ho1:=ay HM.out.rows hu (λg hg=>by simp [Value.ownBlock] at hg;subst hg;exact HM.out.d1.2.2.2));(have g0:B.n0≠gr:=HM.out.d2.2.2.1);(have gl:=Ψ HM.out.vZ hu.size))
   | ((at_builtin;refine aL rfl _ _ 183 rfl 0 77 (.slice none 0 0) 1 24 Tryz.underlying183 Da rfl δ _ _ _ rfl (ho1) [.slice none 0 0] rfl (by simp [Value.oneCell']) (by first|rfl|(rw [Κ];rfl)) μ ω ω ?_;intro v2 w2 ho2 hu2 iI);(have hu2:aa [gr] w1 w2:=hu2);obtain ⟨qM,Hq,ev,_⟩:=dI ho2 ω;subst ev;(have d4:=hu2.kept d3 ζ);(have f4:=hu2.aF d3 ζ f3)))
  go_ret;have hM:=HM.out;have hlt:=hM.lt;have f:=hM.d1;have q:=hM.d2;have hws:=hu.size;have hw3:aa [B.n0] w2 (w2.setCell ⟨B.n0,2,none⟩ (.slice (some ⟨qM,0,none⟩) (vs.length+1) Hq)):=β;have hg1:qM=gr\/w1.heap.size<qM:=by
   rcases iI with h|h
   ·exact Α (Option.some.inj h)
   ·exact Β (h qM rfl)
  have iU:=hC.lt;have l0:=hlt B.n0 (by simp [BB.blk]);have l1:=hlt B.bt (by simp [BB.blk]);have l2:=hlt B.ba (by simp [BB.blk]);have l4:=hM.vZ;have hnF:∀y,y<w.heap.size->y∉F->y∉F1:=λy hy hn hm=>by rcases hF y hm with h'|h';exact hn h';omega
  have tV:qM∉F1:=by
   rcases hg1 with e|e
   ·rw [e];exact hnF gr l4 f.2.2.2
   ·exact λhm=>by have:=iU qM hm;omega
  have hgn:∀y,y<w.heap.size->y≠gr->y≠qM:=λy hy hn e=>by
   rcases hg1 with e2|e2
   ·exact hn (e.trans e2)
   ·omega
  have hcs:=hcs;have hv:(vs++[Value.slice none 0 0]).length=vs.length+1:=σ;have hin:=HI.out.2.2.1;have hhd:=((hM.head.upd hu f.1).upd hu2 ζ).set 2 (.slice (some ⟨qM,0,none⟩) (vs.length+1) Hq);have BO:∀j,j<vs.length+1->∀g,((vs++[Value.slice none 0 0]).getD j undef).ownBlock=some g->j<vs.length/\(vs.getD j undef).ownBlock=some g:=λj hj g hg=>by
   rw [oH] at hg
   by_cases e:j<vs.length
   ·rw [Δ e] at hg;exact ⟨e,hg⟩
   ·rw [Γ e,Δ ω] at hg;cases hg
  have Ia:dS (w2.setCell ⟨B.n0,2,none⟩ (.slice (some ⟨qM,0,none⟩) (vs.length+1) Hq)) B F1 qM Hq lo (ag A) st S (vs++[.slice none 0 0]) G.R:=by
   refine ⟨?_,?_,?_,?_,by rw [hv,gW,HI.out.2.2.2],λj hj=>?_,⟨hnF _ l0 f.1,hnF _ l1 f.2.1,hnF _ l2 f.2.2.1,tV⟩,⟨q.1,q.2.1,hgn _ l0 q.2.2.1,hgn _ l1 q.2.2.2.1,hgn _ l2 q.2.2.2.2⟩,λg hg=>?_,λj g hj hg=>?_,λj k g hj hk hne hg=>?_⟩
   ·rw [hv];refine hhd.ext (λj hj=>?_);rcases (ω:j=0\/j=1\/j=2) with rfl|rfl|rfl<;>rfl
   ·exact (hC.upd hu2 (λy hy=>by simp at hy;rw [hy];exact hnF gr l4 f.2.2.2)).upd hw3 (λy hy=>by simp at hy;rw [hy];exact hnF _ l0 f.1)
   ·rw [hcs];exact ((hM.gF.upd hu f.2.1 f.2.2.1 (λg hg=>(hM.d3 g hg).2.2)).upd hu2 (by simp;exact q.2.2.2.1) (by simp;exact q.2.2.2.2) (λg hg hm=>by simp at hm;exact (hM.d3 g hg).2.1 hm)).upd hw3 (by simp;exact Ne.symm q.1) (by simp;exact Ne.symm q.2.1) (λg hg hm=>by simp at hm;exact (hM.d3 g hg).1 hm)
   ·rw [hv];refine ay (gQ ho2 (Nat.zero_le _)) hw3 (λg hg hm=>?_);simp [Value.ownBlock] at hg hm;exact hgn _ l0 q.2.2.1 ω
   ·rw [hv] at hj;rw [oH]
    by_cases e:j<vs.length
    ·rw [Δ e];exact (((hM.each j e).upd hu (λg hg=>(hM.d4 j g e hg).2.2.2.2.1)).upd hu2 (λg hg hm=>by simp at hm;exact (hM.d4 j g e hg).2.2.2.1 hm)).upd hw3 (λg hg hm=>by simp at hm;exact (hM.d4 j g e hg).1 hm)
    ·obtain rfl:j=vs.length:=ω;rw [Γ e,Δ rfl,HI.out.2.2.2,hin];exact aH.nil _ _
   ·rw [hcs] at hg;have:=hM.d3 g hg;have hgl:=(hM.gF.iy hg).2;exact ⟨this.1,hgn g hgl this.2.1,hnF g hgl this.2.2⟩
   ·rw [hv] at hj;obtain ⟨e,hg⟩:=BO j hj g hg;have:=hM.d4 j g e hg;have hgl:=hM.mZ e hg;rw [hcs];exact ⟨this.1,this.2.1,this.2.2.1,hgn g hgl this.2.2.2.1,hnF g hgl this.2.2.2.2.1,this.2.2.2.2.2⟩
   ·rw [hv] at hj hk;obtain ⟨e,hg⟩:=BO j hj g hg;intro h2;obtain ⟨e2,h2⟩:=BO k hk g h2;exact hM.d5 j k g e e2 hne hg h2
  refine ⟨rfl,B.blk F1 qM (ag A).cs.length S (vs++[.slice none 0 0]),⟨⟨B,F1,qM,Hq,lo,S,_,rfl,rfl,Ia,HI.out.2.1⟩,HI.out.1⟩,((hu.mono wF).trans (hu2.mono (λy hy=>by simp at hy;subst hy;simp [BB.blk]))).trans (hw3.mono (λy hy=>by simp at hy;subst hy;simp [BB.blk])),λy hy=>?_⟩;rw [hcs] at hy;simp only [BB.blk,ρ,τ] at hy ⊢;rcases hy with e|e|e|e|e|e|e
  ·exact Α (Α e)
  ·exact Α (Β (Α e))
  ·exact Α (Β (Β (Α e)))
  ·rcases hg1 with e2|e2
   ·exact Α (Β (Β (Β (Α (e.trans e2)))))
   ·exact Β ω
  ·rcases hF y e with h'|h'
   ·exact Α (Β (Β (Β (Β (Α h')))))
   ·exact Β h'
  ·exact Α (Β (Β (Β (Β (Β (Α e))))))
  ·obtain ⟨j,hj,hg⟩:=gz.1 e;rw [hv] at hj;obtain ⟨e3,hg⟩:=BO j hj y hg;exact Α (Β (Β (Β (Β (Β (Β (gz.2 ⟨j,e3,hg⟩)))))))
end
theorem z8 (n:Nat) (w:World) (h:n<=65536) :
  Calls Tryz.prog 60 #[.int .i64 (n:Int)] w λe w'=>∃p FF,e=.returned (.tuple #[.pointer (some ⟨p,0,none⟩),.int .i64 0])/\yP w' p FF (NS.new n) 0 BG.none/\aa [] w w'/\∀x,x∈FF->w.heap.size<=x:=by
 have k:=gu n w h;have kc:=λW=>qo n W h
 go_enter Tryz.func60,Tryz.ntmps60
 go_wp2_with (first
  | ((go_at_call 84;(with_reducible refine (k).mono ?_));rintro e w1 ⟨c,F,rfl,hC,hu1,hF⟩)
  | ((go_at_call 86;(with_reducible refine (kc _).mono ?_));rintro e w2 ⟨bt,ba,rfl,FT,hu2,hbt,zS⟩))
 go_ret2;have hn:(NS.new n).cs.length=n:=by simp [NS.new]
 obtain ⟨w3,hw3⟩:∃w3,w3=w2.alloc (.cells #[.slice none 0 0] 77):=⟨_,rfl⟩;have hs3:w3.heap.size=w2.heap.size+1:=by rw [hw3];simp
 have u3:aa [] w2 w3:=by rw [hw3];exact (aa.refl _ _).alloc _
 have o3:w3.ownsRow 0 77 1 (.slice (some ⟨w2.heap.size,0,none⟩) 1 1) 1 [.slice none 0 0]:=by rw [hw3];exact kG w2 [.slice none 0 0] 77 0 1 1 rfl (Nat.zero_le _) μ
 rw [←hw3];have hR:=aY w3 [Value.pointer (some ⟨c,0,none⟩),.pointer (some ⟨bt,0,none⟩),.slice (some ⟨w2.heap.size,0,none⟩) 1 1] 185;rw [hs3] at hR;have u4:aa [] w3 (w3.alloc (.cells #[.pointer (some ⟨c,0,none⟩),.pointer (some ⟨bt,0,none⟩),.slice (some ⟨w2.heap.size,0,none⟩) 1 1] 185)):=(aa.refl _ _).alloc _;have z1:=hu1.size;have z2:=hu2.size;have Ey:=hC.lt;have hb1:=FT.head.lt;have hb2:=FT.row.lt;have hFn:∀y,w1.heap.size<=y->y∉F:=λy hy hm=>by have:=Ey y hm;omega
 have hno:∀m g,g∉CS.none.blk m:=λm g hg=>by
  obtain ⟨y,_,e⟩:=(CS.iG _ m g).1 hg;cases e
 have hv0:∀h,h < [Value.slice none 0 0].length->[Value.slice none 0 0].getD h undef=Value.slice none 0 0:=λh hh=>by
  have:h=0:=by simp at hh;omega
  subst this;rfl
 have Ia:dS (w3.alloc (.cells #[.pointer (some ⟨c,0,none⟩),.pointer (some ⟨bt,0,none⟩),.slice (some ⟨w2.heap.size,0,none⟩) 1 1] 185)) ⟨w2.heap.size+1,c,bt,ba⟩ F w2.heap.size 1 w2.heap.size (NS.new n) 0 CS.none [.slice none 0 0] BG.none.R:=by
  refine ⟨hR,hC.ah (hu2.trans (u3.trans u4)),by rw [hn];exact FT.ah (u3.trans u4),ay o3 u4 σ,rfl,λh hh=>by rw [hv0 h hh];exact aH.nil _ _,⟨hFn _ (by simp only;omega),hFn _ (by simp only;omega),hFn _ (by simp only;omega),hFn _ ω⟩,⟨?_,?_,?_,?_,?_⟩,λg hg=>absurd hg (hno _ g),λh g hh hg=>(by rw [hv0 h hh] at hg;cases hg),λh k g hh hk _ hg=>(by rw [hv0 h hh] at hg;cases hg)⟩
  all_goals simp only;omega
 refine ⟨w2.heap.size+1,_,by simp [hs3],⟨⟨⟨w2.heap.size+1,c,bt,ba⟩,F,w2.heap.size,1,w2.heap.size,CS.none,[.slice none 0 0],rfl,rfl,Ia,rfl⟩,EF n⟩,hu1.trans (hu2.trans (u3.trans u4)),λy hy=>?_⟩;simp only [BB.blk,ρ,τ] at hy;rcases hy with e|e|e|e|e|e|e
 ·omega
 ·omega
 ·omega
 ·omega
 ·exact hF y e
 ·exact absurd e (hno _ y)
 ·obtain ⟨j,hj,hg⟩:=gz.1 e;rw [hv0 j hj] at hg;cases hg
theorem sZ (p c:Nat):∀W:World,W.cell? ⟨p,0,none⟩=some (.pointer (some ⟨c,0,none⟩))->(method 409 126 (.pointer (some ⟨p,0,none⟩)) "Has").run Tryz.prog W=.ok (123,.pointer (some ⟨c,0,none⟩)) W:=(by intro W h;unfold method;have hm:∃m,(Array.find? (λx=>x.name == "Has") Tryz.t126.methods)=some m/\m.path.toList=[⟨185,0,true⟩]/\m.func=some (123,true)/\m.path.isEmpty=false:=⟨(Array.find? (λx=>x.name == "Has") Tryz.t126.methods).get!,by kernel_rfl,by kernel_rfl,by kernel_rfl,by kernel_rfl⟩;obtain ⟨m,h1,h2,h3,h4⟩:=hm;go_simp;simp only [follow,Place.get];go_simp;(try unfold receiverAt);(try simp only [Place.get]);(try go_simp))
theorem og (p c:Nat):∀W:World,W.cell? ⟨p,0,none⟩=some (.pointer (some ⟨c,0,none⟩))->(method 409 126 (.pointer (some ⟨p,0,none⟩)) "Entry").run Tryz.prog W=.ok (121,.pointer (some ⟨c,0,none⟩)) W:=(by intro W h;unfold method;have hm:∃m,(Array.find? (λx=>x.name == "Entry") Tryz.t126.methods)=some m/\m.path.toList=[⟨185,0,true⟩]/\m.func=some (121,true)/\m.path.isEmpty=false:=⟨(Array.find? (λx=>x.name == "Entry") Tryz.t126.methods).get!,by kernel_rfl,by kernel_rfl,by kernel_rfl,by kernel_rfl⟩;obtain ⟨m,h1,h2,h3,h4⟩:=hm;go_simp;simp only [follow,Place.get];go_simp;(try unfold receiverAt);(try simp only [Place.get]);(try go_simp))
theorem Ad (p:Nat):∀W:World,(method 409 126 (.pointer (some ⟨p,0,none⟩)) "Make").run Tryz.prog W=.ok (169,.pointer (some ⟨p,0,none⟩)) W:=λ_=>by kernel_rfl
theorem uU (p:Nat):∀W:World,(method 409 126 (.pointer (some ⟨p,0,none⟩)) "Insert").run Tryz.prog W=.ok (168,.pointer (some ⟨p,0,none⟩)) W:=λ_=>by kernel_rfl
theorem CZ (p:Nat):∀W:World,(method 409 126 (.pointer (some ⟨p,0,none⟩)) "Min").run Tryz.prog W=.ok (171,.pointer (some ⟨p,0,none⟩)) W:=λ_=>by kernel_rfl
theorem pQ {w w':World} {p:Nat} {F S:List Nat} {A:NS} {st:Nat} {G:BG} (h:yP w p F A st G) (hu:aa S w w') (hS:∀x,x∈S->x∉F):yP w' p F A st G:=by
 obtain ⟨⟨B,F1,gr,cr,lo,S1,vs,rfl,rfl,M,eF⟩,I⟩:=h;exact ⟨⟨B,F1,gr,cr,lo,S1,vs,rfl,rfl,M.upd hu hS,eF⟩,I⟩
theorem Ht {w:World} {p:Nat} {F:List Nat} {A:NS} {st:Nat} {G:BG} (h:yP w p F A st G):∀x,x∈F->x<w.heap.size:=by
 obtain ⟨⟨B,F1,gr,cr,lo,S1,vs,rfl,rfl,M,eF⟩,I⟩:=h;exact M.lt
theorem Ib {w:World} {p:Nat} {F:List Nat} {A:NS} {st:Nat} {G:BG} (h:yP w p F A st G):A.Ok:=by
 obtain ⟨⟨B,F1,gr,cr,lo,S1,vs,rfl,rfl,M,eF⟩,I⟩:=h;exact M.cells.ok
theorem Ba {w:World} {p:Nat} {F:List Nat} {A:NS} {st:Nat} {G:BG} (h:yP w p F A st G):∃c F1,w.cell? ⟨p,0,none⟩=some (.pointer (some ⟨c,0,none⟩))/\ai w c F1 A st:=by
 obtain ⟨⟨B,F1,gr,cr,lo,S1,vs,rfl,rfl,M,eF⟩,I⟩:=h;exact ⟨B.c,F1,M.h0,M.cells⟩
def BnQ (w:World) (p:Nat) (F:List Nat) (A:NS):Prop:=∃st G,yP w p F A st G
noncomputable def mD:bV where
 ty:=126
 at_:=BnQ
 upd:=λh hu hS=>by
  obtain ⟨st,G,hL⟩:=h;exact ⟨st,G,pQ hL hu hS⟩
 lt:=λh=>by
  obtain ⟨st,G,hL⟩:=h;exact Ht hL
 ok:=λh=>by
  obtain ⟨st,G,hL⟩:=h;exact Ib hL
 make:=λ{w p F A} h=>by
  obtain ⟨st,G,hL⟩:=h;refine aQ 169 (λ_ _=>by kernel_rfl) (Ad _) (λW hW=>?_);refine (xn (pQ hL hW σ)).mono ?_;rintro e w' ⟨rfl,F',hA,hu,hf⟩;exact ⟨rfl,F',⟨_,_,hA⟩,hu,hf⟩
 insert:=λ{w p F A} g y k s hk hB h=>by
  obtain ⟨st,G,hL⟩:=h;refine aQ 168 (λ_ _=>by kernel_rfl) (uU _) (λW hW=>?_);refine (sU (pQ hL hW σ) g y k s hk hB).mono ?_;rintro e w' ⟨rfl,F',hA,hu,hf⟩;exact ⟨rfl,F',⟨_,_,hA⟩,hu,hf⟩
 min:=λ{w p F A} y hB h=>by
  obtain ⟨st,G,hL⟩:=h;refine aQ 171 (λ_ _=>by kernel_rfl) (CZ _) (λW hW=>?_);have jg:=pQ hL hW σ;obtain ⟨⟨B,F1,gr,cr,lo,S1,vs,rfl,rfl,M,eF⟩,I⟩:=jg;refine (zV M I (y:Int)).mono ?_;rintro e w' ⟨rfl,hM2,hu⟩;exact ⟨rfl,Goes.stay ⟨_,_,⟨B,F1,gr,cr,lo,S1,vs,rfl,rfl,hM2,eF⟩,I⟩ (hu.mono (λy hy=>by simp at hy;subst hy;exact wF _ M.cells.mem))⟩
 has:=λx h=>by
  obtain ⟨st,G,hL⟩:=h;obtain ⟨c,F1,h0,hC⟩:=Ba hL;exact cB 123 (λ_ _=>by kernel_rfl) h0 (sZ _ _) (λW hW=>dF (hC.ah hW) x)
 entry:=λ{w p F A} x h=>by
  obtain ⟨st,G,hL⟩:=h;obtain ⟨c,F1,h0,hC⟩:=Ba hL;refine cB 121 (λ_ _=>by kernel_rfl) h0 (og _ _) (λW hW=>?_);cases hin:dh A x with
  | false=>simpa using eQ (hC.ah hW) x hin
  | true=>
   obtain ⟨y,rfl⟩:=iD hin;simpa using dQ (hC.ah hW) y hin
theorem uD (p:Nat) (w:World):Calls Tryz.prog 59 #[.pointer (some ⟨p,0,none⟩),.int .i64 0] w λe w'=>e=.returned (.tuple #[.iface 126 (.pointer (some ⟨p,0,none⟩)),.int .i64 0])/\w'=w:=by
 go_enter Tryz.func59,Tryz.ntmps59
 go_wp2;go_ret2;exact ⟨rfl,rfl⟩
theorem sH (n:Nat) (hn:n<=65536):fP mD 3 0 n:=by
 intro w;have kn:=λW=>z8 n W hn;have km:=uD;have hty:mD.ty=126:=rfl;have hat:∀w' p FF,yP w' p FF (NS.new n) 0 BG.none->mD.at_ w' p FF (NS.new n)/\lX w' p n:=λw' p FF h=>⟨⟨_,_,h⟩,Ba h⟩
 generalize mD=K at *;rw [hty]
 go_enter Tryz.func35,Tryz.ntmps35
 go_wp2_with (first
  | ((go_at_call 60;(with_reducible refine (kn _).mono ?_));rintro e w1 ⟨pn,FF,rfl,hS,hu1,hf⟩)
  | ((go_at_call 59;(with_reducible refine (km _ _).mono ?_));rintro e w2 ⟨rfl,rfl⟩)
  | fail)
 go_ret2;exact ⟨pn,FF,rfl,(hat _ _ _ hS).1,(hat _ _ _ hS).2,aa.trans β hu1,λx hx=>by have:=hf x hx;simp at this;omega⟩
end Go.Proofs.YtnpdakpagnpanaaGreat
