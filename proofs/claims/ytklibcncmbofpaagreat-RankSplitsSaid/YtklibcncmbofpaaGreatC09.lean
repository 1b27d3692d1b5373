/-
  Lemmas for RankSplits: Words, Carry, Carry2, Carry3, Carry4, Carry5, Carry6, Off, Carry8, CarryLink, KarDef, KOrd, Kar7, Kar9, Kar10, KarPl, KarPl2, KarLaw, FrOk, BnP, BnQ, BnR, BnS, OwnS, Bn, Bn2, Del. Conditions: those of each lemma.
-/
import Derived.Deep.RegionHeldLaw
import Derived.Deep.RegionLaw
import Derived.ArgAppend
import Derived.Outline
import Derived.Lib.SliceRun
import Derived.Test.YtklibcncmbofpaaGreatC01
set_option linter.all false
set_option maxHeartbeats 8000000
set_option maxRecDepth 10000
namespace Go.Proofs.YtklibcncmbofpaaGreat
open Go Go.RowKit
def ov (o:Option Int):Int:=o.getD 0
def ob (o:Option Int):Bool:=o.isSome
structure CS where
 v:Nat->Value
 k:Nat->List Int
 u:Nat->Int
def CS.none:CS:=⟨fun _=>.slice Option.none 0 0,fun _=>[],fun _=>-1⟩
def fG (S:CS) (j:Nat):Value:=if j % 2=0 then S.v (j / 2) else .int .i64 (S.u (j / 2))
theorem vO (S:CS) (x:Nat):fG S (x*2)=S.v x:=by unfold fG;rw [Δ ω,show x*2 / 2=x by omega]
theorem AU (S:CS) (x:Nat):fG S (x*2+1)=.int .i64 (S.u x):=by unfold fG;rw [Γ ω,show (x*2+1) / 2=x by omega]
def CS.blk (S:CS) (n:Nat):List Nat:=(List.range n).filterMap (fun x=>(S.v x).ownBlock)
theorem CS.lJ (S:CS) (n g:Nat):g∈S.blk n↔∃x,x<n/\(S.v x).ownBlock=some g:=by unfold CS.blk;simp
structure aV (w:World) (bt ba lo n:Nat) (S:CS):Prop where
 head:aG w bt 250 1 (fun _=>.slice (some ⟨ba,0,none⟩) n n)
 row:aG w ba 252 (n*2) (fG S)
 own:∀x,x<n->w.ownsRow lo 3 1 (S.v x) (S.k x).length (aM (S.k x))
 sep:∀x y,x<n->y<n->x≠y->∀g,(S.v x).ownBlock=some g->(S.v y).ownBlock≠some g
 ne:bt≠ba
 Uv:bt<lo
 M9:ba<lo
 low:lo<=w.heap.size
 le:n<=65536
 len:∀x,x<n->(S.k x).length<=n
theorem aV.mi {w:World} {bt ba lo n:Nat} {S:CS} (h:aV w bt ba lo n S) {g:Nat} (hg:g∈S.blk n):lo<=g/\g<w.heap.size:=by
 obtain ⟨x,hx,he⟩:=(S.lJ n g).1 hg;exact (h.own x hx).lt g he
theorem aV.upd {w w':World} {F:List Nat} {bt ba lo n:Nat} {S:CS} (h:aV w bt ba lo n S) (hu:aa F w w') (h1:bt∉F) (h2:ba∉F) (h3:∀g,g∈S.blk n->g∉F):aV w' bt ba lo n S:=
 ⟨h.head.upd hu h1,h.row.upd hu h2,fun x hx=>ay (h.own x hx) hu (fun k hk=>h3 k ((S.lJ n k).2 ⟨x,hx,hk⟩)),h.sep,h.ne,h.Uv,h.M9,Χ h.low hu.size,h.le,h.len⟩
theorem aV.ae {w w':World} {bt ba lo n:Nat} {S:CS} (h:aV w bt ba lo n S) (hu:aa [] w w'):aV w' bt ba lo n S:=h.upd hu σ σ σ
theorem nodeInfo:(Tryz.prog.info? 252).map (fun i=>(i.zero,i.size,i.bytes))=some (some (.agg #[.slice none 0 0,.int .i64 0]),2,32):=by kernel_rfl
theorem De (n:Nat) (w:World) (h:n<=65536) :
  Calls Tryz.prog 109 #[.int .i64 (n:Int)] w fun e w'=>∃bt ba,e=.returned (.tuple #[.pointer (some ⟨bt,0,none⟩),.int .i64 0])/\aV w' bt ba w'.heap.size n CS.none/\aa [] w w'/\w.heap.size<=bt/\w.heap.size<=ba:=by
 go_enter Tryz.func109,Tryz.ntmps109
 go_wp2_with (at_make;refine wpList_make_row rfl _ 248 rfl 252 (.agg #[.slice none 0 0,.int .i64 0]) 2 32 Tryz.underlying248 nodeInfo n rfl ω μ ?_;intro w1 hr1 hu1)
 have hlt:=hr1.lt;have hz:∀j,j<n*2->(madeCells (Value.agg #[.slice none 0 0,.int .i64 0]).cells (n*2)).toList.getD j undef=if j % 2=0 then .slice none 0 0 else .int .i64 0:=fun j hj=>by
  rw [show (Value.agg #[.slice none 0 0,.int .i64 0]).cells=#[Value.slice none 0 0,Value.int .i64 0] from rfl];unfold madeCells;simp [φ,hj];rcases (ω:j % 2=0\/j % 2=1) with h2|h2<;>simp [h2]
 go_loopw [21] (fun i wr=>∃ (k:Nat) (f:Nat->Value),k<=n/\i=.int .i64 k/\aG wr w1.heap.size 250 1 (fun _=>.slice (some ⟨w.heap.size,0,none⟩) n n)/\aG wr w.heap.size 252 (n*2) f/\(∀j,j<n*2->f j=if j % 2=0 then .slice none 0 0 else .int .i64 (if j<k*2 then -1 else 0))/\aa [] w wr) (fun i _=>n-(intOf i).toNat)
 case atStart=>exact ⟨0,_,ω,rfl,dC _ _ _ |>.ext (fun j hj=>by simp at hj;subst hj;rfl),hr1.alloc _,fun j hj=>by rw [hz j hj,Γ (show ¬j<0*2 by omega)],hu1.alloc _⟩
 case round=>
  obtain ⟨k,f,hk,rfl,hH,hR,hf,hu⟩:=hrel;have HZ:=χ hz;clear hz
  by_cases hkn:k<n
  ·have c0:=hH.cell 0 ω;have d1:=hR.cell (k*2+1) ω;have e1:=hR.free (k*2+1);have HF:=χ hf;clear hf;go_wp2
   go_roundw
   case rel=>
    refine ⟨k+1,_,ω,by go_num,hH.far _ _ ζ,hR.set _ _,fun j hj=>?_,hu.setCell (Β σ) _⟩
    by_cases hj1:j=k*2+1
    ·subst hj1;rw [Δ rfl,Γ ω,Δ ω]
    ·rw [Γ hj1,HF.out j hj]
     by_cases h2:j % 2=0
     ·rw [Δ h2,Δ h2]
     ·rw [Γ h2,Γ h2]
      by_cases h3:j<k*2
      ·rw [Δ h3,Δ ω]
      ·rw [Γ h3,Γ ω]
   case measure=>simp [intOf];omega
  ·obtain rfl:k=n:=ω;go_wp2;go_ret2;exact ⟨_,_,rfl,⟨hH,hR.ext (fun j hj=>by rw [hf j hj,Δ (show j<k*2 by omega)];rfl),fun x hx=>World.ownsRow_nil _ _ _ _,fun x y _ _ _ g hg=>by simp [CS.none,Value.ownBlock] at hg,by omega,hH.lt,hR.lt,Θ _,h,fun x hx=>Nat.zero_le _⟩,hu,hu1.size,Θ _⟩
theorem qL (bt ba lo n:Nat) (S:CS) (x:Int) (w:World) (h:aV w bt ba lo n S) (b:Bool) (hb:b=decide (0<=x/\x<n)) :
  Calls Tryz.prog 195 #[.pointer (some ⟨bt,0,none⟩),.int .i64 x] w fun e w'=>e=.returned (.bool b)/\w'=w:=by
 have hle:=h.le;have c0:=h.head.cell 0 ω;clear h;subst hb
 by_cases h0:0<=x
 ·by_cases h1:x<n
  ·go_enter Tryz.func195,Tryz.ntmps195
   go_wp2;go_ret;exact ⟨bA (by simp [h0,h1]),rfl⟩
  ·go_enter Tryz.func195,Tryz.ntmps195
   go_wp2;go_ret;exact ⟨bA (by simp [h0,h1]),rfl⟩
 ·go_enter Tryz.func195,Tryz.ntmps195
  go_wp2;go_ret;exact ⟨bA ζ,rfl⟩
def mV (n:Nat) (S:CS) (x:Int):Bool:=decide (0<=x/\x<n) && S.u x.toNat == -1
def mK (n:Nat) (S:CS) (x:Int):Int:=if 0<=x/\x<n then (S.k x.toNat).length else 0
theorem uf (bt ba lo n:Nat) (S:CS) (x:Int) (w:World) (h:aV w bt ba lo n S) :
  Calls Tryz.prog 198 #[.pointer (some ⟨bt,0,none⟩),.int .i64 x] w fun e w'=>e=.returned (.bool (mV n S x))/\w'=w:=by
 by_cases hx:0<=x/\x<n
 ·obtain ⟨k,rfl⟩:∃k:Nat,x=k:=⟨x.toNat,ω⟩;have hk:k<n:=ω;have hle:=h.le;have c0:=h.head.cell 0 ω;have d1:=h.row.cellAt (k*2+1) ω (AU S k);have k1:=qL bt ba lo n S k w h true (by simp [hk]);have e:mV n S k=(S.u k == -1):=by unfold mV;rw [Ν hx];simp
  rw [e];clear h e hx;generalize S.u k=u at *
  go_enter Tryz.func198,Tryz.ntmps198
  go_wp2_with (go_at_call 195;refine (k1).mono ?_;rintro e w' ⟨rfl,rfl⟩)
  go_ret;exact ⟨rfl,rfl⟩
 ·have k1:=qL bt ba lo n S x w h false (by simpa using hx);have e:mV n S x=false:=by unfold mV;rw [Ξ hx];rfl
  rw [e];clear h e hx
  go_enter Tryz.func198,Tryz.ntmps198
  go_wp2_with (go_at_call 195;refine (k1).mono ?_;rintro e w' ⟨rfl,rfl⟩)
  go_ret;exact ⟨rfl,rfl⟩
theorem oU (bt ba lo n:Nat) (S:CS) (x:Int) (w:World) (h:aV w bt ba lo n S) :
  Calls Tryz.prog 204 #[.pointer (some ⟨bt,0,none⟩),.int .i64 x] w fun e w'=>e=.returned (.int .i64 (mK n S x))/\w'=w:=by
 by_cases hx:0<=x/\x<n
 ·obtain ⟨k,rfl⟩:∃k:Nat,x=k:=⟨x.toNat,ω⟩;have hk:k<n:=ω;have hle:=h.le;have c0:=h.head.cell 0 ω;obtain ⟨a,cap,hv,_⟩:=aU (h.own k hk);have d0:=h.row.cellAt (k*2) ω ((vO S k).trans hv);have k1:=qL bt ba lo n S k w h true (by simp [hk]);have e:mK n S k=((S.k k).length:Int):=by unfold mK;rw [Δ hx];simp
  rw [e];clear h e hx hv;generalize (S.k k).length=u at *
  go_enter Tryz.func204,Tryz.ntmps204
  go_wp2_with (go_at_call 195;refine (k1).mono ?_;rintro e w' ⟨rfl,rfl⟩)
  go_ret;exact ⟨rfl,rfl⟩
 ·have k1:=qL bt ba lo n S x w h false (by simpa using hx);have e:mK n S x=0:=by unfold mK;rw [Γ hx]
  rw [e];clear h e hx
  go_enter Tryz.func204,Tryz.ntmps204
  go_wp2_with (go_at_call 195;refine (k1).mono ?_;rintro e w' ⟨rfl,rfl⟩)
  go_ret;exact ⟨rfl,rfl⟩
theorem KS (w:World) (lo:Nat) (v:Value) (z:List Int) (h:jL w lo v z.length (aM z)) (hz:z.length<=65536) :
  Calls Tryz.prog 199 #[v] w fun e w'=>∃v',e=.returned v'/\jL w' w.heap.size v' z.length (aM z)/\aa [] w w':=by
 have h0:=h;obtain ⟨a,cap,rfl,hcp,hlc,hp⟩:=h.open;have hl:=dO z;generalize hzz:aM z=zs at *;have h1:∀u∈zs,u.oneCell'=true:=by rw [←hzz];exact Ap z
 generalize z.length=len at *;clear hzz;cases a with
 | none=>
  have hn:len=0:=by
   rcases Nat.eq_zero_or_pos len with h|h
   ·exact h
   ·obtain ⟨g,hg,_⟩:=hp h;cases hg
  subst hn;have hzs:zs=[]:=ϟ hl;subst hzs;have hs:=fun (W:World)=>Lib.run_eql_slice_nil (P:=Tryz.prog) W 26 3 none 0 cap 0 0 Tryz.underlying26;clear hp h h0
  go_enter Tryz.func199,Tryz.ntmps199
  go_wp2;go_ret;exact ⟨_,rfl,Α ⟨rfl,rfl,rfl⟩,aa.refl _ _⟩
 | some a=>
  have hs:=fun (W:World)=>Lib.run_eql_slice_nil (P:=Tryz.prog) W 26 3 (some a) len cap 0 0 Tryz.underlying26;have hL:=h.upd ((aa.refl [] w).alloc (.cells #[] 3)) σ;have hO:=mU w [] 3 w.heap.size 1 0 rfl (Θ _) μ;clear hp h h0
  go_enter Tryz.func199,Tryz.ntmps199
  go_wp2_with (at_builtin;refine uY rfl _ _ 26 rfl w.heap.size 3 (.int .i64 0) 1 8 Tryz.underlying26 dX rfl δ _ _ _ rfl hO lo len zs _ rfl hL ω h1 μ ω σ ?_;intro v2 w2 ho2 hu2)
  go_ret;have hu3:aa [w.heap.size] (w.alloc (.cells #[] 3)) w2:=hu2;refine ⟨_,rfl,?_,((aa.refl _ _).alloc _).joined hu3 (fun x hx=>Β (by simp at hx;omega))⟩;have:=jL.JZ ho2;simpa using this
def rowOk (n:Nat) (S:CS) (l:List Int) (i:Nat):Bool:=mV n S (l.getD i 0) && (i == 0 || decide (mK n S (l.getD (i-1) 0)<mK n S (l.getD i 0)))
def ug (n:Nat) (S:CS) (l:List Int) (j:Nat):Bool:=(List.range j).all (rowOk n S l)
theorem IE (n:Nat) (S:CS) (l:List Int) (j:Nat):ug n S l (j+1)=(ug n S l j && rowOk n S l j):=by
 unfold ug;rw [List.range_succ,List.all_append];simp
theorem PT (n:Nat) (S:CS) (l:List Int) (j:Nat) (h:ug n S l j=true) (hj:rowOk n S l j=false) (m:Nat) (hm:j<m):ug n S l m=false:=by
 unfold ug;rw [List.all_eq_false];exact ⟨j,by simp [hm],by simp [hj]⟩
def Mc (n:Nat) (S:CS) (l:List Int):Bool:=ug n S l l.length
def CS.zT (S:CS) (x:Nat) (v:Value) (l:List Int):CS:=⟨fun y=>if y=x then v else S.v y,fun y=>if y=x then l else S.k y,S.u⟩
def CS.qB (S:CS) (x:Nat) (p:Int):CS:=⟨S.v,S.k,fun y=>if y=x then p else S.u y⟩
theorem CS.Ny (S:CS) (x:Nat) (v:Value) (l:List Int) (n g:Nat) (h:g∈(S.zT x v l).blk n):g∈S.blk n\/v.ownBlock=some g:=by
 obtain ⟨y,hy,he⟩:=(CS.lJ _ n g).1 h;unfold CS.zT at he;simp only at he
 split at he
 ·exact Β he
 ·exact Α ((CS.lJ _ n g).2 ⟨y,hy,he⟩)
theorem aV.bJ {w:World} {bt ba lo n:Nat} {S:CS} (h:aV w bt ba lo n S) (x:Nat) (hx:x<n) (p:Int):aV (w.setCell ⟨ba,x*2+1,none⟩ (.int .i64 p)) bt ba lo n (S.qB x p):=by
 have hu:aa [ba] w (w.setCell ⟨ba,x*2+1,none⟩ (.int .i64 p)):=(aa.refl _ _).setCell (Α σ) _;refine ⟨h.head.upd hu (by simp;exact h.ne),(h.row.set _ _).ext (fun j hj=>?_),fun y hy=>ay (h.own y hy) hu (fun k hk hm=>?_),h.sep,h.ne,h.Uv,h.M9,Χ h.low hu.size,h.le,h.len⟩
 ·unfold fG CS.qB;simp only
  by_cases hj1:j=x*2+1
  ·subst hj1;rw [Δ rfl,Γ ω,show (x*2+1) / 2=x by omega,Δ rfl]
  ·rw [Γ hj1]
   by_cases h2:j % 2=0
   ·rw [Δ h2,Δ h2]
   ·rw [Γ h2,Γ h2,Γ ω]
 ·have:=((h.own y hy).lt k hk).1;have:=h.M9;simp at hm;omega
theorem aV.SG {w w1:World} {bt ba lo n:Nat} {S:CS} (h:aV w bt ba lo n S) (x:Nat) (hx:x<n) (v:Value) (l:List Int) {F:List Nat} (hu:aa F w w1) (hF:∀g,g∈F->(S.v x).ownBlock=some g)
  (ho:w1.ownsRow lo 3 1 v l.length (aM l)) (hb:∀g,v.ownBlock=some g->(S.v x).ownBlock=some g\/w.heap.size<=g) (hl:l.length<=n):aV (w1.setCell ⟨ba,x*2,none⟩ v) bt ba lo n (S.zT x v l):=by
 have TZ:∀g,g∈F->lo<=g/\g<w.heap.size:=fun g hg=>(h.own x hx).lt g (hF g hg);have hl1:=h.Uv;have hl2:=h.M9;have hu2:aa [ba] w1 (w1.setCell ⟨ba,x*2,none⟩ v):=(aa.refl _ _).setCell (Α σ) _;have hr:=h.row.upd hu (fun hm=>by have:=TZ _ hm;omega);refine ⟨(h.head.upd hu (fun hm=>by have:=TZ _ hm;omega)).upd hu2 (by simp;exact h.ne),(hr.set _ _).ext (fun j hj=>?_),fun y hy=>?_,?_,h.ne,h.Uv,h.M9,Χ (Χ h.low hu.size) hu2.size,h.le,?_⟩
 ·unfold fG CS.zT;simp only
  by_cases hj1:j=x*2
  ·subst hj1;rw [Δ rfl,Δ ω,show (x*2) / 2=x by omega,Δ rfl]
  ·rw [Γ hj1]
   by_cases h2:j % 2=0
   ·rw [Δ h2,Δ h2,Γ ω]
   ·rw [Γ h2,Γ h2]
 ·unfold CS.zT;simp only
  by_cases hyx:y=x
  ·rw [Δ hyx,Δ hyx];exact ay ho hu2 (fun k hk hm=>by have:=(ho.lt k hk).1;simp at hm;omega)
  ·rw [Γ hyx,Γ hyx];have h1:=h.own y hy;have h2:=ay h1 hu (fun k hk hm=>h.sep y x hy hx hyx k hk (hF k hm));exact ay h2 hu2 (fun k hk hm=>by have:=(h1.lt k hk).1;simp at hm;omega)
 ·intro y z hy hz Wu g hg;unfold CS.zT at hg ⊢;simp only at hg ⊢
  by_cases hyx:y=x
  ·rw [Δ hyx] at hg;rw [Γ (fun e=>Wu (by rw [hyx,e]))];rcases hb g hg with h1|h1
   ·exact h.sep x z hx hz ω g h1
   ·intro h2;have:=((h.own z hz).lt g h2).2;omega
  ·rw [Γ hyx] at hg
   by_cases hzx:z=x
   ·rw [Δ hzx];intro h2;rcases hb g h2 with h1|h1
    ·exact h.sep y x hy hx hyx g hg h1
    ·have:=((h.own y hy).lt g hg).2;omega
   ·rw [Γ hzx];exact h.sep y z hy hz Wu g hg
 ·intro y hy;unfold CS.zT;simp only
  by_cases hyx:y=x
  ·rw [Δ hyx];exact hl
  ·rw [Γ hyx];exact h.len y hy
structure iK (w:World) (bt ba n:Nat) (f:Nat->Value):Prop where
 head:aG w bt 250 1 (fun _=>.slice (some ⟨ba,0,none⟩) n n)
 row:aG w ba 252 (n*2) f
 ne:bt≠ba
 le:n<=65536
theorem aV.nodes {w:World} {bt ba lo n:Nat} {S:CS} (h:aV w bt ba lo n S):iK w bt ba n (fG S):=⟨h.head,h.row,h.ne,h.le⟩
theorem iK.upd {w w':World} {F:List Nat} {bt ba n:Nat} {f:Nat->Value} (h:iK w bt ba n f) (hu:aa F w w') (h1:bt∉F) (h2:ba∉F):iK w' bt ba n f:=⟨h.head.upd hu h1,h.row.upd hu h2,h.ne,h.le⟩
theorem iK.set {w:World} {bt ba n:Nat} {f:Nat->Value} (h:iK w bt ba n f) (j:Nat) (v:Value):iK (w.setCell ⟨ba,j,none⟩ v) bt ba n (fun i=>if i=j then v else f i):=
 ⟨h.head.far _ _ h.ne,h.row.set j v,h.ne,h.le⟩
theorem iK.ext {w:World} {bt ba n:Nat} {f g:Nat->Value} (h:iK w bt ba n f) (hg:∀j,j<n*2->f j=g j):iK w bt ba n g:=⟨h.head,h.row.ext hg,h.ne,h.le⟩
def FD (f:Nat->Value) (p:Int) (ks:List Int) (i:Nat):Value:=if i % 2=1/\((i / 2:Nat):Int)∈ks then .int .i64 p else f i
def yJ (f:Nat->Value) (x:Nat) (v:Value) (i:Nat):Value:=if i=x then v else f i
theorem Lx (f:Nat->Value) (p:Int) (ks:List Int) (q y:Nat) (hk:ks[q]?=some (y:Int)) (i:Nat):(if i=y*2+1 then .int .i64 p else FD f p (ks.take q) i)=FD f p (ks.take (q+1)) i:=by
 unfold FD;rw [ϐ,hk]
 by_cases h1:i=y*2+1
 ·subst h1;rw [Δ rfl,Δ ⟨ω,by simp;exact Β ω⟩]
 ·rw [Γ h1]
  by_cases h2:i % 2=1/\((i / 2:Nat):Int)∈ks.take q
  ·rw [Δ h2,Δ ⟨h2.1,by simp only [τ];exact Α h2.2⟩]
  ·rw [Γ h2,Γ (fun h=>by
    obtain ⟨h3,h4⟩:=h;rcases τ.1 h4 with h4|h4
    ·exact h2 ⟨h3,h4⟩
    ·simp at h4;omega)]
def fP (S:CS) (x:Nat):CS:=⟨fun y=>if y=x then .slice none 0 0 else S.v y,fun y=>if y=x then [] else S.k y,fun y=>if (y:Int)∈S.k x then -1 else S.u y⟩
theorem oC (S:CS) (x n g:Nat) (h:g∈(fP S x).blk n):g∈S.blk n:=by
 obtain ⟨y,hy,he⟩:=(CS.lJ _ n g).1 h;unfold fP at he;simp only at he
 split at he
 ·cases he
 ·exact (CS.lJ _ n g).2 ⟨y,hy,he⟩
theorem Fv (S:CS) (x:Nat) (j:Nat):FD (yJ (fG S) (x*2) (.slice none 0 0)) (-1) (S.k x) j=fG (fP S x) j:=by
 unfold FD yJ fG fP;simp only
 by_cases h:j % 2=0
 ·rw [Γ ω,Δ h]
  by_cases h2:j=x*2
  ·rw [Δ h2,Δ h,Δ ω]
  ·rw [Γ h2,Δ h,Γ ω]
 ·rw [Γ h]
  by_cases h2:((j / 2:Nat):Int)∈S.k x
  ·rw [Δ ⟨ω,h2⟩,Γ h,Δ h2]
  ·rw [Γ (fun h=>h2 h.2),Γ ω,Γ h,Γ h2]
theorem aV.split {w w1:World} {bt ba lo n:Nat} {S:CS} (h:aV w bt ba lo n S) (x:Nat) (hx:x<n) (hN:iK w1 bt ba n (fG (fP S x))) (hu:aa [ba] w w1):aV w1 bt ba lo n (fP S x):=by
 have h2:=h.M9;refine ⟨hN.head,hN.row,fun y hy=>?_,fun y z hy hz Wu g hg=>?_,h.ne,h.Uv,h.M9,Χ h.low hu.size,h.le,fun y hy=>?_⟩
 ·unfold fP;simp only
  by_cases hyx:y=x
  ·rw [Δ hyx,Δ hyx];exact World.ownsRow_nil _ _ _ _
  ·rw [Γ hyx,Γ hyx];exact ay (h.own y hy) hu (fun k hk hm=>by have:=((h.own y hy).lt k hk).1;simp at hm;omega)
 ·unfold fP at hg ⊢;simp only at hg ⊢
  by_cases hyx:y=x
  ·rw [Δ hyx] at hg;cases hg
  ·rw [Γ hyx] at hg
   by_cases hzx:z=x
   ·rw [Δ hzx];intro h;cases h
   ·rw [Γ hzx];exact h.sep y z hy hz Wu g hg
 ·unfold fP;simp only
  split
  ·exact Nat.zero_le _
  ·exact h.len y hy
theorem Md (bt ba lo n:Nat) (S:CS) (x:Nat) (w:World) (h:aV w bt ba lo n S) (hx:x<n) (hr:mV n S x=true) (hks:∀k,k∈S.k x->0<=k/\k<n) :
  Calls Tryz.prog 193 #[.pointer (some ⟨bt,0,none⟩),.int .i64 (x:Int)] w fun e w'=>∃v,e=.returned v/\jL w' w.heap.size v (S.k x).length (aM (S.k x))/\aV w' bt ba lo n (fP S x)/\aa [ba] w w':=by
 have hle:=h.le;have hne:=h.ne;have hl2:=h.M9;have hlow:=h.low;have hln:=h.len x hx;have k1:=uf bt ba lo n S x w h;rw [hr] at k1;have c0:=h.head.cell 0 ω;have hL:=jL.JZ (h.own x hx);obtain ⟨a,cap,hv,hcp,hlc,hp⟩:=hL.open;have d0:=h.row.cellAt (x*2) ω ((vO S x).trans hv);have e0:=h.row.free (x*2);have hu0:aa [ba] w (w.setCell ⟨ba,x*2,none⟩ (.slice none 0 0)):=(aa.refl _ _).setCell (Α σ) _;have HN:iK (w.setCell ⟨ba,x*2,none⟩ (.slice none 0 0)) bt ba n (FD (yJ (fG S) (x*2) (.slice none 0 0)) (-1) ((S.k x).take 0)):=by
  refine (h.nodes.set (x*2) (.slice none 0 0)).ext (fun j hj=>?_)
  show yJ (fG S) (x*2) (.slice none 0 0) j=_
  unfold FD;rw [Γ σ]
 have HC:=fun W (hW:aa [ba] w W)=>KS W lo (.slice a (S.k x).length cap) (S.k x) (by rw [hv] at hL;exact hL.upd hW (fun k hk=>by simp at hk;omega)) ω;have HE:=χ (Fv S x);have H:=χ h;have HP:=χ hp;have HK:=χ hks;generalize yJ (fG S) (x * 2) (.slice none 0 0)=g at *;clear h hr hks hp hL hv;generalize S.k x=ks at *;generalize hlen:ks.length=len at *;have HLEN:=χ hlen;clear hlen
 go_enter Tryz.func193,Tryz.ntmps193
 go_wp2_with ((go_at_call 198;(with_reducible refine (k1).mono ?_);rintro e w9 ⟨rfl,aS⟩;rw [aS];clear aS w9))
 go_loopw [29] (fun i wr=>∃q:Nat,q<=len/\i=.int .i64 (q:Int)/\iK wr bt ba n (FD g (-1) (ks.take q))/\aa [ba] w wr) (fun i _=>len-(intOf i).toNat)
 case atStart=>exact ⟨0,ω,rfl,HN,hu0⟩
 case round=>
  obtain ⟨q,hq,rfl,hN,hu⟩:=hrel
  by_cases hlt:q<len
  ·obtain ⟨gb,rfl,hg1,hg2,Pt⟩:=HP.out ω;obtain ⟨y,tT⟩:∃y,ks[q]?=some y:=⟨ks[q]'(by rw [HLEN.out];exact hlt),σ⟩;obtain ⟨hy0,hyn⟩:=HK.out y (Η tT);obtain ⟨Y,rfl⟩:=Int.eq_ofNat_of_zero_le hy0;have hYn:Y<n:=ω;have hc:=Pt q (.int .i64 (Y:Int)) (by unfold aM;rw [ϔ,tT];rfl);have hc2:wr.cell? ⟨gb,q,none⟩=some (.int .i64 (Y:Int)):=by rw [hu.cell hg2 ζ];exact hc
   have c1:=hN.head.cell 0 ω;have d1:=hN.row.cell (Y*2+1) ω;have e1:=hN.row.free (Y*2+1);have hs:=Lx g (-1) ks q Y tT;have HS:=χ hs;have HNN:=χ hN;clear hs tT Pt hc hN HN;go_wp2
   go_roundw
   case rel=>exact ⟨q+1,ω,by go_num,(HNN.out.set _ _).ext (fun j hj=>HS.out j),hu.setCell (Α σ) _⟩
   case measure=>simp [intOf];omega
  ·obtain rfl:q=len:=ω;rw [List.take_of_length_le (by rw [HLEN.out];omega)] at hN;have kC:=HC wr hu;have hN2:=hN.ext (fun j hj=>HE.out j);have hsz:=hu.size;clear HC hN HN
   go_wp2_with (go_at_call 199;(with_reducible refine (kC).mono ?_);rintro e w2 ⟨v2,rfl,h2,h3⟩)
   go_ret;exact ⟨_,rfl,h2.mono hsz,H.out.split x hx (hN2.upd h3 σ σ) (hu.then h3),hu.then h3⟩
def idxOf (l:List Int) (x:Int):Int:=match l.findIdx? (fun y=>y == x) with|some i=>(i:Int)|none=>-1
theorem OO (l:List Int) (x:Int) (k:Nat) (hn:x∉l.take k) (hk:l[k]?=some x):idxOf l x=k:=by
 have:l.findIdx? (fun y=>y == x)=some k:=by
  rw [List.findIdx?_eq_some_iff_getElem];obtain ⟨h1,h2⟩:=List.getElem?_eq_some_iff.1 hk;refine ⟨h1,by simp [h2],fun j hj=>?_⟩;simp only [beq_iff_eq];intro e;exact hn (by rw [←e];exact List.mem_take_iff_getElem.2 ⟨j,ω,rfl⟩)
 unfold idxOf;rw [this]
theorem EX (l:List Int) (x:Int) (hn:x∉l):idxOf l x=-1:=by
 have:l.findIdx? (fun y=>y == x)=none:=by
  rw [List.findIdx?_eq_none_iff];intro y hy;simp only [beq_eq_false_iff_ne];intro e;subst e;exact hn hy
 unfold idxOf;rw [this]
theorem SL (l:List Int) (x:Int) (h:x∈l):∃i:Nat,i<l.length/\idxOf l x=i/\l[i]?=some x:=by
 cases hf:l.findIdx? (fun y=>y == x) with
 | none=>
  rw [List.findIdx?_eq_none_iff] at hf;have:=hf x h;simp at this
 | some i=>
  have h2:=hf;rw [List.findIdx?_eq_some_iff_getElem] at h2;obtain ⟨h3,h4,_⟩:=h2;refine ⟨i,h3,by unfold idxOf;rw [hf],?_⟩;rw [ε h3];simp at h4;rw [h4]
def aZ (w:World) (base:Nat) (v:Value) (xs:List Int):Prop:=
 (v=.slice none 0 0/\xs=[])\/
 ∃g off cap cur,v=.slice (some ⟨g,off,none⟩) xs.length cap/\base<=g/\w.heap[g]?=some (.cells cur 3 (0,0))/\xs.length<=cap/\cap<=9223372036854775807/\off+cap<=cur.size/\∀j u,xs[j]?=some u->cur[off+j]?=some (.int .i64 u)
theorem aZ.nil (w:World) (base:Nat):aZ w base (.slice none 0 0) []:=Α ⟨rfl,rfl⟩
theorem aZ.fQ {w:World} {base:Nat} {v:Value} {xs:List Int} (h:w.ownsRow base 3 1 v xs.length (aM xs)):aZ w base v xs:=by
 rcases h.2 with ⟨rfl,h0⟩|⟨g,cap,cur,rfl,hb,hg,hn,hc,hs,ht⟩
 ·exact Α ⟨rfl,ϟ h0⟩
 ·refine Β ⟨g,0,cap,cur,rfl,hb,hg,hn,by unfold maxLen at hc;exact hc,ω,fun j u hj=>?_⟩;have hjl:j<xs.length:=(List.getElem?_eq_some_iff.1 hj).1;have:(aM xs)[j]?=some (.int .i64 u):=by unfold aM;rw [ϔ,hj];rfl
  rw [←ht,List.getElem?_take,Δ ω] at this;rw [ϖ];simpa using this
theorem I5 {w:World} {g:Nat} {o:Obj} (h:w.heap[g]?=some o):g<w.heap.size:=by
 rcases Ϙ g w.heap.size with h'|h'
 ·exact h'
 ·rw [Array.getElem?_eq_none h'] at h;cases h
theorem aZ.lt {w:World} {base:Nat} {v:Value} {xs:List Int} (h:aZ w base v xs) (g:Nat) (hg:v.ownBlock=some g):base<=g/\g<w.heap.size:=by
 rcases h with ⟨rfl,_⟩|⟨g',off,cap,cur,rfl,hb,hh,_⟩
 ·cases hg
 ·simp only [Value.ownBlock,ϙ] at hg;subst hg;exact ⟨hb,I5 hh⟩
theorem aZ.mono {w:World} {base base':Nat} {v:Value} {xs:List Int} (h:aZ w base v xs) (hb:base'<=base):aZ w base' v xs:=by
 rcases h with h|⟨g',off,cap,cur,rfl,hb',hh⟩
 ·exact Α h
 ·exact Β ⟨g',off,cap,cur,rfl,Χ hb hb',hh⟩
theorem aZ.upd {w w':World} {F:List Nat} {base:Nat} {v:Value} {xs:List Int} (h:aZ w base v xs) (hu:aa F w w') (hF:∀g,v.ownBlock=some g->g∉F):aZ w' base v xs:=by
 rcases h with h|⟨g,off,cap,cur,rfl,hb,hh,h1,h2⟩
 ·exact Α h
 ·exact Β ⟨g,off,cap,cur,rfl,hb,by rw [hu.block g (I5 hh) (hF g rfl)];exact hh,h1,h2⟩
theorem aZ.shape {w:World} {base:Nat} {v:Value} {xs:List Int} (h:aZ w base v xs) :
  ∃a cap,v=.slice a xs.length cap/\xs.length<=cap/\cap<=9223372036854775807/\∀j u,xs[j]?=some u->∃g off,a=some ⟨g,off,none⟩/\w.cell? ⟨g,off+j,none⟩=some (.int .i64 u):=by
 rcases h with ⟨rfl,rfl⟩|⟨g,off,cap,cur,rfl,hb,hh,h1,h2,h3,h4⟩
 ·exact ⟨none,0,rfl,Θ _,ω,fun j u hj=>by simp at hj⟩
 ·refine ⟨_,cap,rfl,h1,h2,fun j u hj=>⟨g,off,rfl,?_⟩⟩;unfold World.cell?;simp only [hh];simpa using h4 j u hj
theorem aZ.lit (w:World) (base:Nat) (x:Int) (hb:base<=w.heap.size):aZ (w.alloc (.cells #[.int .i64 x] 3)) base (.slice (some ⟨w.heap.size,0,none⟩) 1 1) [x]:=
 aZ.fQ (mU w [.int .i64 x] 3 base 1 1 rfl hb μ)
def tailV (v:Value):Value:=match v with | .slice a n c=>.slice (if c=1 then a else a.map (·.add 1)) (n-1) (c-1)|v=>v
theorem tV (w:World) (a:Option Addr) (n c:Nat) (h1:1<=n) (h2:n<=9223372036854775807) :
  (Instr.slice 26 (.slice a n c) (some (.int .i64 1)) none none).run Tryz.prog w=.ok (tailV (.slice a n c)) w:=by
 have hs:(sizeOf 3).run Tryz.prog w=.ok 1 w:=by kernel_rfl
 unfold Instr.slice Instr.sliceBounds;simp [run_underlying Tryz.underlying26,go_sem,hs,tailV];intro h;omega
theorem aZ.tail {w:World} {base:Nat} {v:Value} {x:Int} {xs:List Int} (h:aZ w base v (x::xs)):aZ w base (tailV v) xs/\(tailV v).ownBlock=v.ownBlock:=by
 rcases h with ⟨rfl,h0⟩|⟨g,off,cap,cur,rfl,hb,hh,h1,h2,h3,h4⟩
 ·cases h0
 ·simp only [Ω] at h1 ⊢;unfold tailV;simp only [Nat.add_sub_cancel]
  by_cases hc:cap=1
  ·subst hc;have:xs=[]:=ϟ ω;subst this;rw [Δ rfl];exact ⟨Β ⟨g,off,0,cur,rfl,hb,hh,Θ _,ω,ω,fun j u hj=>by simp at hj⟩,rfl⟩
  ·rw [Γ hc];have e:(some (⟨g,off,none⟩:Addr)).map (·.add 1)=some ⟨g,off+1,none⟩:=by simp [Addr.add_lit]
   rw [e];refine ⟨Β ⟨g,off+1,cap-1,cur,rfl,hb,hh,ω,ω,ω,fun j u hj=>?_⟩,rfl⟩;have:=h4 (j+1) u (by simpa using hj);rw [show off+1+j=off+(j+1) by omega];exact this
theorem oJ (a:Option Addr) (n c:Nat):∃a',tailV (.slice a n c)=.slice a' (n-1) (c-1):=⟨_,rfl⟩
theorem yN {w:World} {base:Nat} {v:Value} {xs:List Int} (hown:aZ w base v xs) (t ty:TypeId) (ht:Tryz.prog.underlying t=some (.slice 3)) (g1:Nat) (u:Int) (hnew:w.cell? ⟨g1,0,none⟩=some (.int .i64 u)) (hn:xs.length+1<=1000000) (hbase:base<=w.heap.size) :
  ∃v' w',(Builtin.append_ #[t,t] ty #[v,.slice (some ⟨g1,0,none⟩) 1 1]).run Tryz.prog w=.ok v' w'/\aZ w' base v' (xs++[u])/\aa v.ownBlock.toList w w'/\(∀k,v'.ownBlock=some k->v.ownBlock=some k\/w.heap.size<=k):=by
 obtain ⟨i,hi,hz0,hz1,hz2⟩:=info_parts dX;have hnews:∀j x,[Value.int .i64 u][j]?=some x->w.cell? ((⟨g1,0,none⟩:Addr).add j)=some x:=fun j x hj=>by
  match j,hj with
  | 0,hj=>simp at hj;subst hj;rw [vI];exact hnew
 have h1:∀x∈[Value.int .i64 u],x.oneCell'=true:=by simp [Value.oneCell']
 rcases hown with ⟨rfl,rfl⟩|⟨g,off,cap,cur,rfl,hb,hh,hc1,hc2,hc3,hc4⟩
 ·obtain ⟨v',w',hr,h2,h3,_⟩:=run_append_own (P:=Tryz.prog) w w.heap.size t ty 3 i (.int .i64 0) 1 8 ht hi hz0 hz1 hz2 rfl δ (.slice none 0 0) 0 [] (World.ownsRow_nil w _ _ _) ⟨g1,0,none⟩ 1 1 [.int .i64 u] rfl hnews h1 μ ω (Θ _);exact ⟨v',w',hr,(aZ.fQ (xs:=[u]) h2).mono hbase,(aa.refl _ _).grown h3 (fun k hk=>by cases hk),fun k hk=>Β (h2.lt k hk).1⟩
 ·by_cases hfit:xs.length+1<=cap
  ·have hf:=run_firstCells_some (P:=Tryz.prog) w i.size 1 ⟨g1,0,none⟩ 1 1 [.int .i64 u] (by rw [hz1];rfl) hnews;have hst:=run_storeCells_at Tryz.prog g (off+xs.length*i.size) 3 [.int .i64 u] 0 cur w hh (by rw [hz1];simp;omega) h1;simp only [ϗ] at hst;have hrun:(Builtin.append_ #[t,t] ty #[.slice (some ⟨g,off,none⟩) xs.length cap,.slice (some ⟨g1,0,none⟩) 1 1]).run Tryz.prog w=.ok (.slice (some ⟨g,off,none⟩) (xs.length+1) cap) (w.setRow g (cur.toList.take (off+xs.length*i.size)++[Value.int .i64 u]++cur.toList.drop (off+xs.length*i.size+1)).toArray):=by
    simp [Builtin.append_,run_underlying ht,sizeOf,typeInfo,hi,Builtin.lenOf,hfit,hf,Addr.add_lit];have:=hst;simp at this;simp [this]
   rw [hz1,Nat.mul_one] at hrun;refine ⟨_,_,hrun,Β ⟨g,off,cap,_,by rw [υ];rfl,hb,setRow_heap w g cur _ _ _ hh,by rw [υ];exact hfit,hc2,?_,fun j x hj=>?_⟩,?_,fun k hk=>Α hk⟩
   ·simp;omega
   ·have hlen:off+xs.length<=cur.size:=ω;rcases Ϙ j xs.length with h|h
    ·rw [Ρ h] at hj;have:=hc4 j x hj;rw [List.getElem?_toArray,ϋ,Ρ ζ,List.getElem?_take,Δ ω];simpa using this
    ·have hj2:j=xs.length:=by
      have:=(List.getElem?_eq_some_iff.1 hj).1;rw [υ] at this;simp at this;omega
     subst hj2;rw [ϊ (Θ _)] at hj;simp at hj;subst hj;rw [List.getElem?_toArray,ϋ,ϊ ζ];simp [Nat.min_eq_left hlen]
   ·exact ⟨rfl,rfl,rfl,σ,fun k hk hm=>setRow_other w g k _ (fun e=>hm (by simp [Value.ownBlock,e]))⟩
  ·obtain ⟨v',w',hr,h2,h3⟩:=run_append_arg_grows (P:=Tryz.prog) w t ty 3 i (.int .i64 0) 1 8 ht hi hz0 hz1 hz2 rfl δ ⟨g,off,none⟩ xs.length cap (aM xs) (by rw [dO,Nat.mul_one]) (fun j x hj=>by
    unfold aM at hj;rw [ϔ] at hj;cases hq:xs[j]? with
    | none=>rw [hq] at hj;cases hj
    | some y=>
     rw [hq] at hj;simp at hj;subst hj;rw [Addr.add_lit];unfold World.cell?;simp only [hh]
     simpa using hc4 j y hq) ⟨g1,0,none⟩ 1 1 [.int .i64 u] rfl hnews ω μ ω
   have h4:w'.ownsRow w.heap.size 3 1 v' (xs++[u]).length (aM (xs++[u])):=by rw [υ,bz];exact h2
   exact ⟨v',w',hr,(aZ.fQ h4).mono hbase,(aa.refl _ _).grown h3 (fun k hk=>by cases hk),fun k hk=>Β (h2.lt k hk).1⟩
theorem sj {o:Oper} {a:Act} {w:World} {K:Act->World->Prop} {Q:Exit->Act->World->Prop} (s x:Operand) (t:TypeId)
  (ho:o.op=.call { callee:=.builtin .append,args:=#[s,x],argTypes:=#[t,t] }) (ht:Tryz.prog.underlying t=some (.slice 3))
  (base:Nat) (v:Value) (xs:List Int) (hs:a.eval s=v) (hown:aZ w base v xs)
  (g1:Nat) (u:Int) (hx:a.eval x=.slice (some ⟨g1,0,none⟩) 1 1) (hnew:w.cell? ⟨g1,0,none⟩=some (.int .i64 u)) (hn:xs.length+1<=1000000) (hbase:base<=w.heap.size)
  (h:∀v' w',aZ w' base v' (xs++[u])->aa v.ownBlock.toList w w'->(∀k,v'.ownBlock=some k->v.ownBlock=some k\/w.heap.size<=k)->K (a.put o.dst v') w'):Oper.wp Tryz.prog o a w K Q:=by
 obtain ⟨v',w',hr,h2,h3,h4⟩:=yN hown t o.type ht g1 u hnew hn hbase;unfold Oper.wp execOp;simp only [ho,resolve,invoke,builtin,Sem.run_bind,Sem.run_pure,Result.andThen_ok,List.map_toArray,List.map_cons,List.map_nil,hs,hx,hr];exact h _ _ h2 h3 h4
theorem pG {ops:Array Oper} {o:Oper} {a:Act} {w:World} {K:Act->World->Prop} {Q:Exit->Act->World->Prop} {E:Prop} (hgd:o.guard=none) (s x:Operand) (t:TypeId)
  (ho:o.op=.call { callee:=.builtin .append,args:=#[s,x],argTypes:=#[t,t] }) (ht:Tryz.prog.underlying t=some (.slice 3))
  (base:Nat) (v:Value) (xs:List Int) (hs:a.eval s=v) (hown:aZ w base v xs)
  (g1:Nat) (u:Int) (hx:a.eval x=.slice (some ⟨g1,0,none⟩) 1 1) (hnew:w.cell? ⟨g1,0,none⟩=some (.int .i64 u)) (hn:xs.length+1<=1000000) (hbase:base<=w.heap.size)
  (h:∀v' w',aZ w' base v' (xs++[u])->aa v.ownBlock.toList w w'->(∀k,v'.ownBlock=some k->v.ownBlock=some k\/w.heap.size<=k)->K (a.put o.dst v') w') :
  if Region.wanted o (yielded ops a.tmps)=true then Oper.wp Tryz.prog o a w K Q else E:=by
 have hw:Region.wanted o (yielded ops a.tmps)=true:=by simp [Region.wanted,hgd]
 rw [Δ hw];exact sj s x t ho ht base v xs hs hown g1 u hx hnew hn hbase h
theorem uI {ops:Array Oper} {rest:List Oper} {o:Oper} {a:Act} {w:World} {Q:Exit->Act->World->Prop} (hgd:o.guard=none) (s x:Operand) (t:TypeId)
  (ho:o.op=.call { callee:=.builtin .append,args:=#[s,x],argTypes:=#[t,t] }) (ht:Tryz.prog.underlying t=some (.slice 3))
  (base:Nat) (v:Value) (xs:List Int) (hs:a.eval s=v) (hown:aZ w base v xs)
  (g1:Nat) (u:Int) (hx:a.eval x=.slice (some ⟨g1,0,none⟩) 1 1) (hnew:w.cell? ⟨g1,0,none⟩=some (.int .i64 u)) (hn:xs.length+1<=1000000) (hbase:base<=w.heap.size)
  (h:∀v' w',aZ w' base v' (xs++[u])->aa v.ownBlock.toList w w'->(∀k,v'.ownBlock=some k->v.ownBlock=some k\/w.heap.size<=k)->wpList Tryz.prog ops Q rest (a.put o.dst v') w'):wpList Tryz.prog ops Q (o::rest) a w:=
 wpList_plain hgd fun _ hK=>sj s x t ho ht base v xs hs hown g1 u hx hnew hn hbase fun v' w' h2 h3 h4=>hK _ _ (h v' w' h2 h3 h4)
theorem fO.tail {w:World} {F:List Nat} {v:Value} {x:Int} {xs:List Int} (h:fO w F v (x::xs)):fO w F (tailV v) xs:=by
 obtain ⟨a,cap,rfl,h1,h2,h3⟩:=h;obtain ⟨g,off,rfl,hg,hF,_⟩:=h3 0 x rfl;simp only [Ω] at h1 ⊢;unfold tailV;simp only [Nat.add_sub_cancel];refine ⟨_,_,rfl,ω,ω,fun j u hj=>?_⟩;have hjl:j<xs.length:=(List.getElem?_eq_some_iff.1 hj).1;rw [Γ ω];obtain ⟨g2,Yw,he,hg2,hF2,hc⟩:=h3 (j+1) u (by simpa using hj);simp only [ϙ,Addr.mk.injEq,and_true] at he;obtain ⟨rfl,rfl⟩:=he;exact ⟨g,off+1,by simp [Addr.add_lit],hg,hF,by rw [show off+1+j=off+(j+1) by omega];exact hc⟩
theorem fO.WB {w:World} {F:List Nat} {lo:Nat} {v:Value} {xs:List Int} (h:jL w lo v xs.length (aM xs)) (hF:∀g,g∈F->g<lo):fO w F v xs:=by
 obtain ⟨a,cap,rfl,h1,h2,h3⟩:=h.open;refine ⟨a,cap,rfl,h2,h1,fun j u hj=>?_⟩;have hjl:j<xs.length:=(List.getElem?_eq_some_iff.1 hj).1;obtain ⟨g,rfl,hlo,hg,hc⟩:=h3 ω;exact ⟨g,0,rfl,hg,fun hm=>by have:=hF g hm;omega,by rw [ϖ];exact hc j _ (by unfold aM;rw [ϔ,hj];rfl)⟩
theorem fO.upd {w w':World} {F G:List Nat} {v:Value} {xs:List Int} (h:fO w F v xs) (hu:aa G w w') (hG:∀g,g∈G->g∈F):fO w' F v xs:=by
 obtain ⟨a,cap,rfl,h1,h2,h3⟩:=h;refine ⟨a,cap,rfl,h1,h2,fun j u hj=>?_⟩;obtain ⟨g,off,rfl,hg,hF,hc⟩:=h3 j u hj;exact ⟨g,off,rfl,Ψ hg hu.size,hF,by rw [hu.cell hg (fun hm=>hF (hG _ hm))];exact hc⟩
theorem NM (bt ba lo n:Nat) (S:CS) (v:Value) (l:List Int) (w:World) (h:aV w bt ba lo n S) (F:List Nat) (hv:fO w F v l) :
  Calls Tryz.prog 200 #[.pointer (some ⟨bt,0,none⟩),v] w fun e w'=>e=.returned (.bool (Mc n S l))/\w'=w:=by
 obtain ⟨a,cap,rfl,hlc,hcp,hp⟩:=hv;have HP:=χ hp;clear hp;unfold Mc;generalize hlen:l.length=len at *;have HLEN:=χ hlen;clear hlen;have kR:=fun x=>uf bt ba lo n S x w h;have kD:=fun x=>oU bt ba lo n S x w h;clear h
 go_enter Tryz.func200,Tryz.ntmps200
 go_wp2
 go_loop [9] (fun i=>∃k:Nat,k<=len/\i=.int .i64 (k:Int)/\ug n S l k=true) (fun i=>len-(intOf i).toNat)
 case atStart=>exact ⟨0,ω,rfl,rfl⟩
 case round=>
  obtain ⟨k,hk,rfl,ht⟩:=hrel
  by_cases hlt:k<len
  ·obtain ⟨g,off,rfl,_,_,c1⟩:=HP.out k (l.getD k 0) (by simp [φ,HLEN.out,hlt]);have c2:0<k->w.cell? ⟨g,off+(k-1),none⟩=some (.int .i64 (l.getD (k-1) 0)):=fun hk0=>by
    have hk1:k-1<l.length:=by rw [HLEN.out];omega
    obtain ⟨g2,Yw,he,_,_,c⟩:=HP.out (k-1) (l.getD (k-1) 0) (by simp [φ,hk1]);simp only [ϙ,Addr.mk.injEq,and_true] at he;obtain ⟨rfl,rfl⟩:=he;exact c
   have hsu:=IE n S l k;have hno:=PT n S l k ht;rw [ht,Bool.true_and] at hsu;unfold rowOk at hsu hno;have HS:=χ hsu;have HN:=χ hno;have k1:=kR (l.getD k 0);have k2:=kD (l.getD k 0);have k3:=kD (l.getD (k-1) 0);clear hsu hno ht kR kD;generalize l.getD k 0=x at *;generalize l.getD (k-1) 0=y at *;generalize mV n S x=b at *;generalize mK n S x=d at *;generalize mK n S y=d2 at *;cases b with
   | false=>
    go_wp2_with (go_at_call 198;refine (k1).mono ?_;rintro e w' ⟨rfl,rfl⟩)
    go_ret;exact ⟨bA (HN.out rfl _ hlt).symm,rfl⟩
   | true=>
    by_cases hk0:k=0
    ·subst hk0;clear c2;rw [ϗ] at c1
     go_wp2_with (go_at_call 198;refine (k1).mono ?_;rintro e w' ⟨rfl,rfl⟩)
     go_round
     case rel=>exact ⟨1,ω,rfl,HS.out⟩
     case measure=>simp [intOf];omega
    ·have c3:=c2 ω;have hk1:1<=k:=ω;clear c2;obtain ⟨k',rfl⟩:∃k',k=k'+1:=⟨k-1,ω⟩;simp only [Nat.add_sub_cancel] at c3
     by_cases hd:d2<d
     ·have hd':¬ (d<=d2):=ω
      go_wp2_with (first|(go_at_call 198;(with_reducible refine (k1).mono ?_);rintro e w' ⟨rfl,rfl⟩)|(go_at_call 204;(with_reducible refine (k3).mono ?_);rintro e w' ⟨rfl,rfl⟩)|(go_at_call 204;(with_reducible refine (k2).mono ?_);rintro e w' ⟨rfl,rfl⟩))
      go_round
      case rel=>exact ⟨k'+1+1,ω,by go_num,by rw [HS.out];simp [hd]⟩
      case measure=>simp [intOf];omega
     ·have hd':d<=d2:=ω
      go_wp2_with (first|(go_at_call 198;(with_reducible refine (k1).mono ?_);rintro e w' ⟨rfl,rfl⟩)|(go_at_call 204;(with_reducible refine (k3).mono ?_);rintro e w' ⟨rfl,rfl⟩)|(go_at_call 204;(with_reducible refine (k2).mono ?_);rintro e w' ⟨rfl,rfl⟩))
      go_ret;exact ⟨bA (HN.out ζ _ hlt).symm,rfl⟩
  ·obtain rfl:k=len:=ω;go_wp2;go_ret;exact ⟨by first|rfl|exact bA ht.symm,rfl⟩
theorem NZ (w:World) (F:List Nat) (v:Value) (l:List Int) (x:Int) (h:fO w F v l) :
  Calls Tryz.prog 189 #[v,.int .i64 x] w fun e w'=>e=.returned (.int .i64 (idxOf l x))/\w'=w:=by
 obtain ⟨a,cap,rfl,hlc,hcp,hp⟩:=h;have HP:=χ hp;clear hp;generalize hlen:l.length=len at *;have HLEN:=χ hlen;clear hlen
 go_enter Tryz.func189,Tryz.ntmps189
 go_wp2
 go_loop [8] (fun i=>∃q:Nat,q<=len/\i=.int .i64 (q:Int)/\x∉l.take q) (fun i=>len-(intOf i).toNat)
 case atStart=>exact ⟨0,ω,rfl,σ⟩
 case round=>
  obtain ⟨q,hq,rfl,hn⟩:=hrel
  by_cases hlt:q<len
  ·obtain ⟨y,tT⟩:∃y,l[q]?=some y:=⟨l[q]'(by rw [HLEN.out];exact hlt),σ⟩;obtain ⟨gb,off,rfl,_,_,hc⟩:=HP.out q y tT
   by_cases hxy:x=y
   ·subst hxy;have hi:=OO l x q hn tT;have HI:=χ hi;clear hn tT hi;go_wp2;go_ret;exact ⟨j4 HI.out.symm,rfl⟩
   ·have b1:(x == y)=false:=by simpa using hxy
    have hn2:x∉l.take (q+1):=by rw [ϐ,tT];simp;exact ⟨hn,hxy⟩
    have HN2:=χ hn2;clear hn tT hn2 hxy;go_wp2
    go_round
    case rel=>exact ⟨q+1,ω,by go_num,HN2.out⟩
    case measure=>simp [intOf];omega
  ·obtain rfl:q=len:=ω;rw [List.take_of_length_le (by rw [HLEN.out];omega)] at hn;have HI:=χ (EX l x hn);clear hn;go_wp2;go_ret;exact ⟨j4 HI.out.symm,rfl⟩
theorem Ew (w:World) (F:List Nat) (v:Value) (l:List Int) (x:Int) (h:fO w F v l) :
  Calls Tryz.prog 203 #[v,.int .i64 x] w fun e w'=>e=.returned (.bool (decide (x∈l)))/\w'=w:=by
 have k1:=NZ w F v l x h;obtain ⟨a,cap,rfl,_⟩:=h
 by_cases hx:x∈l
 ·obtain ⟨i,hi,he,_⟩:=SL l x hx;rw [he] at k1
  go_enter Tryz.func203,Tryz.ntmps203
  go_wp2_with ((go_at_call 189;(with_reducible refine (k1).mono ?_);rintro e w9 ⟨rfl,aS⟩;rw [aS];clear aS w9))
  go_ret;exact ⟨bA (by simp [hx]),rfl⟩
 ·rw [EX l x hx] at k1
  go_enter Tryz.func203,Tryz.ntmps203
  go_wp2_with ((go_at_call 189;(with_reducible refine (k1).mono ?_);rintro e w9 ⟨rfl,aS⟩;rw [aS];clear aS w9))
  go_ret;exact ⟨bA (by simp [hx]),rfl⟩
theorem QC (w:World) (F:List Nat) (B7:Nat) (v:Value) (l:List Int) (x:Int) (h:fO w F v l) (hr:aG w B7 26 1 (fun _=>v)) :
  Calls Tryz.prog 202 #[.int .i64 x,.pointer (some ⟨B7,0,none⟩)] w fun e w'=>e=.returned (.bool (decide (x∈l)))/\w'=w:=by
 have k1:=Ew w F v l x h;have c0:=hr.cell 0 ω;obtain ⟨a,cap,rfl,_⟩:=h
 go_enter Tryz.func202,Tryz.ntmps202
 go_wp2_with ((go_at_call 203;(with_reducible refine (k1).mono ?_);rintro e w9 ⟨rfl,aS⟩;rw [aS];clear aS w9))
 go_ret;exact ⟨rfl,rfl⟩
theorem Hy (w:World) (F:List Nat) (B7:Nat) (va v:Value) (A l:List Int) (ha:fO w F va A) (h:fO w F v l) (hr:aG w B7 26 1 (fun _=>v)) :
  Calls Tryz.prog 197 #[va,.func (Fn.func 202) #[] #[.pointer (some ⟨B7,0,none⟩)]] w fun e w'=>(∃i:Int,e=.returned (.int .i64 i)/\decide (0<=i)=A.any (fun x=>decide (x∈l)))/\w'=w:=by
 have kC:=fun x=>QC w F B7 v l x h hr;clear h hr;obtain ⟨a,cap,rfl,hlc,hcp,hp⟩:=ha;have HP:=χ hp;clear hp;generalize hlen:A.length=len at *;have HLEN:=χ hlen;clear hlen
 go_enter Tryz.func197,Tryz.ntmps197
 go_wp2
 go_loop [8] (fun i=>∃q:Nat,q<=len/\i=.int .i64 (q:Int)/\(A.take q).any (fun x=>decide (x∈l))=false) (fun i=>len-(intOf i).toNat)
 case atStart=>exact ⟨0,ω,rfl,σ⟩
 case round=>
  obtain ⟨q,hq,rfl,hn⟩:=hrel
  by_cases hlt:q<len
  ·obtain ⟨y,tT⟩:∃y,A[q]?=some y:=⟨A[q]'(by rw [HLEN.out];exact hlt),σ⟩;obtain ⟨gb,off,rfl,_,_,hc⟩:=HP.out q y tT;have k1:=kC y
   by_cases hy:y∈l
   ·rw [Ν hy] at k1;have hfin:A.any (fun x=>decide (x∈l))=true:=List.any_eq_true.2 ⟨y,Η tT,by simpa using hy⟩;have HF:=χ hfin;clear hn tT hy kC hfin
    go_wp2_with ((go_at_call 202;(with_reducible refine (k1).mono ?_);rintro e w9 ⟨rfl,aS⟩;rw [aS];clear aS w9))
    go_ret;exact ⟨⟨_,rfl,by rw [HF.out];simp⟩,rfl⟩
   ·rw [Ξ hy] at k1;have hn2:(A.take (q+1)).any (fun x=>decide (x∈l))=false:=by rw [ϐ,tT,List.any_append,hn];simpa using hy
    have HN2:=χ hn2;clear hn tT hn2 hy kC
    go_wp2_with ((go_at_call 202;(with_reducible refine (k1).mono ?_);rintro e w9 ⟨rfl,aS⟩;rw [aS];clear aS w9))
    go_round
    case rel=>exact ⟨q+1,ω,by go_num,HN2.out⟩
    case measure=>simp [intOf];omega
  ·obtain rfl:q=len:=ω;rw [List.take_of_length_le (by rw [HLEN.out];omega)] at hn;have HN:=χ hn;clear hn kC;go_wp2;go_ret;exact ⟨⟨_,rfl,by rw [HN.out];rfl⟩,rfl⟩
theorem zY (w:World) (F:List Nat) (B7:Nat) (va v:Value) (A l:List Int) (ha:fO w F va A) (h:fO w F v l) (hr:aG w B7 26 1 (fun _=>v)) :
  Calls Tryz.prog 201 #[va,.func (Fn.func 202) #[] #[.pointer (some ⟨B7,0,none⟩)]] w fun e w'=>e=.returned (.bool (A.any (fun x=>decide (x∈l))))/\w'=w:=by
 have k1:=Hy w F B7 va v A l ha h hr;generalize A.any (fun x=>decide (x∈l))=b at *;obtain ⟨a,cap,rfl,_⟩:=ha;clear h hr
 go_enter Tryz.func201,Tryz.ntmps201
 go_wp2_with (go_at_call 197;(with_reducible refine (k1).mono ?_);rintro e w9 ⟨⟨i,rfl,hi⟩,aS⟩;rw [aS];clear aS w9;have HI:=χ hi;clear hi)
 go_ret;exact ⟨bA (by first|exact HI.out|(rw [←HI.out];simp)),rfl⟩
def mO (S:CS) (v:Value) (a b:Nat):CS:=(S.zT a v (S.k a++[(b:Int)])).qB b a
theorem EB (bt ba lo n:Nat) (S:CS) (a b:Nat) (w:World) (h:aV w bt ba lo n S) (ha:a<n) (hb:b<n) (hra:mV n S a=true) (hrb:mV n S b=true) (hne:a≠b) (hd:mK n S a=mK n S b) (hlen:(S.k a).length+1<=n) :
    Calls Tryz.prog 206 #[.pointer (some ⟨bt,0,none⟩),.int .i64 (a:Int),.int .i64 (b:Int)] w fun e w'=>∃v,e=.returned (.bool true)/\aV w' bt ba lo n (mO S v a b)/\aa (ba::S.blk n) w w'/\(∀g,g∈(mO S v a b).blk n->g∈S.blk n\/w.heap.size<=g):=by
  have hle:=h.le;have hl1:=h.Uv;have hl2:=h.M9;have hlow:=h.low;have hnb:=h.ne;have k1:=uf bt ba lo n S a w h;have k2:=uf bt ba lo n S b w h;have k3:=oU bt ba lo n S a w h;have k4:=oU bt ba lo n S b w h;rw [hra] at k1;rw [hrb] at k2;rw [hd] at k3;have b1:((a:Int) == (b:Int))=false:=ζ;have ho:=h.own a ha;obtain ⟨sa,cap,hv,hcap⟩:=aU ho;have TZ:∀g,g∈(S.v a).ownBlock.toList->lo<=g/\g<w.heap.size:=fun g hg=>ho.lt g (by simpa using hg);have r1:∀W,aa (S.v a).ownBlock.toList w W->W.cell? ⟨bt,0,none⟩=some (.slice (some ⟨ba,0,none⟩) n n):=fun W hW=>by
    rw [hW.cell h.head.lt (fun hm=>by have:=TZ _ hm;simp at this;omega)];exact h.head.cell 0 ω
  have r2:∀W,aa (S.v a).ownBlock.toList w W->W.cell? ⟨ba,a*2,none⟩=some (S.v a):=fun W hW=>by
    rw [hW.cell h.row.lt (fun hm=>by have:=TZ _ hm;simp at this;omega)];exact h.row.cellAt (a*2) ω (vO S a)
  have r3:∀W,aa (S.v a).ownBlock.toList w W->W.cell? ⟨ba,b*2+1,none⟩=some (.int .i64 (S.u b)):=fun W hW=>by
    rw [hW.cell h.row.lt (fun hm=>by have:=TZ _ hm;simp at this;omega)];exact h.row.cellAt (b*2+1) ω (AU S b)
  have q1:∀W,aa (S.v a).ownBlock.toList w W->W.frozen? ⟨ba,a*2,none⟩=false:=fun W hW=>by
    rw [hW.frozen h.row.lt (fun hm=>by have:=TZ _ hm;simp at this;omega)];exact h.row.free _
  have q2:∀W,aa (S.v a).ownBlock.toList w W->W.frozen? ⟨ba,b*2+1,none⟩=false:=fun W hW=>by
    rw [hW.frozen h.row.lt (fun hm=>by have:=TZ _ hm;simp at this;omega)];exact h.row.free _
  have s0:aa (S.v a).ownBlock.toList w w:=aa.refl _ _;have H:=χ h;have HV:=χ hv;have hk:=dO (S.k a);have HLEN:=χ hlen;generalize hva:S.v a=va at *;have HVA:=χ hva;subst hv;clear h hra hrb hd hva hne
  go_enter Tryz.func206,Tryz.ntmps206
  go_wp2_with (first
    | (go_at_call 198;(with_reducible refine (k1).mono ?_);rintro e w9 ⟨rfl,aS⟩;rw [aS];clear aS w9)
    | (go_at_call 198;(with_reducible refine (k2).mono ?_);rintro e w9 ⟨rfl,aS⟩;rw [aS];clear aS w9)
    | (go_at_call 204;(with_reducible refine (k3).mono ?_);rintro e w9 ⟨rfl,aS⟩;rw [aS];clear aS w9)
    | (go_at_call 204;(with_reducible refine (k4).mono ?_);rintro e w9 ⟨rfl,aS⟩;rw [aS];clear aS w9))
  have s1:aa (Value.slice sa (S.k a).length cap).ownBlock.toList w (w.drew.alloc (.cells #[.int .i64 (b:Int)] 3)):=s0.drew.alloc _;have g1:=r1 _ s0;have g2:=r2 _ s0;have a1:=r1 _ (s0.alloc (.cells #[.int .i64 (b:Int)] 3));have a2:=r2 _ (s0.alloc (.cells #[.int .i64 (b:Int)] 3))
  go_region_law
    (first
      | (refine iV rfl _ _ 26 rfl lo 3 (.int .i64 0) 1 8 Tryz.underlying26 dX rfl δ (.slice sa (S.k a).length cap) (S.k a).length (aM (S.k a)) rfl (ho.drew.alloc _) w.heap.size [.int .i64 (b:Int)] rfl rfl (fun j u hj=>kQ w [.int .i64 (b:Int)] 3 j u hj) (by simp [Value.oneCell']) μ ω ζ ?_
         intro v2 w2 ho2 hu2 hv2;have hS2:aa (Value.slice sa (S.k a).length cap).ownBlock.toList w w2:=s1.trans hu2;have g3:=r1 _ hS2;have g4:=r2 _ hS2;have g5:=q1 _ hS2
         obtain ⟨a2,cap2,rfl,hcap2⟩:=aU ho2))
  all_goals
    have ho3:w2.ownsRow lo 3 1 (.slice a2 ((S.k a).length+1) cap2) (S.k a++[(b:Int)]).length (aM (S.k a++[(b:Int)])):=by rw [bz,υ];exact ho2
    have hF:=H.out.SG a ha (.slice a2 ((S.k a).length+1) cap2) (S.k a++[(b:Int)]) hS2 (fun g hg=>by rw [HVA.out];simpa using hg) ho3 (fun g hg=>by
      rcases hv2 with h|h
      · rw [h] at hg;exact Α (by rw [HVA.out];exact hg)
      · rw [h] at hg;simp at hg;exact Β ω) (by rw [υ];exact hlen)
    have e0:=hF.head.cell 0 ω;have e1:=hF.row.cell (b*2+1) ω;have e2:=hF.row.free (b*2+1);have HF:=χ hF;have Zw:=χ hv2;clear hF hv2 ho2 ho3 r1 r2 r3 q1 q2;go_wp2;go_ret;refine ⟨_,rfl,HF.out.bJ b hb a,?_,fun g hg=>?_⟩
    · refine ((hS2.mono (fun g hg=>?_)).setCell (Α σ) _).setCell (Α σ) _
      simp only [ρ];refine Β ((S.lJ n g).2 ⟨a,ha,?_⟩);rw [HVA.out];simpa using hg
    · rcases S.Ny a (.slice a2 ((S.k a).length+1) cap2) (S.k a++[(b:Int)]) n g hg with h|h
      · exact Α h
      · rcases Zw.out with h2|h2
        · exact Α ((S.lJ n g).2 ⟨a,ha,by rw [HVA.out,←h2];exact h⟩)
        · rw [h2] at h;simp at h;exact Β ω
end Go.Proofs.YtklibcncmbofpaaGreat
namespace Go.Proofs.YtklibcncmbofpaaGreat
def iO (lt:Int->Int->Bool) (a b:Nat):Nat:=if lt b a then b else a
def lh (lt:Int->Int->Bool) (a b:Nat):Nat:=if lt b a then a else b
structure CF where
 k:Nat->List Int
 u:Nat->Int
def CS.f (S:CS):CF:=⟨S.k,S.u⟩
def zw (n:Nat) (F:CF) (x:Int):Bool:=decide (0<=x/\x<n) && F.u x.toNat == -1
def bU (n:Nat) (F:CF) (x:Int):Int:=if 0<=x/\x<n then (F.k x.toNat).length else 0
theorem Vm (n:Nat) (S:CS) (x:Int):mV n S x=zw n S.f x:=rfl
theorem Ut (n:Nat) (S:CS) (x:Int):mK n S x=bU n S.f x:=rfl
def gq (F:CF) (a b:Nat):CF:=⟨fun y=>if y=a then F.k a++[(b:Int)] else F.k y,fun y=>if y=b then (a:Int) else F.u y⟩
theorem WE (S:CS) (v:Go.Value) (a b:Nat):(mO S v a b).f=gq S.f a b:=rfl
structure CC where
 F:CF
 A:List Int
 B:List Int
 N:List Int
 O:List Int
 q:Nat
def takeA (n k:Nat) (C:CC):CC:=match C.A with|x::t=>(if bU n C.F x=k then { C with A:=t,N:=C.N++[x] } else C)|[]=>C
def takeB (n k:Nat) (C:CC):CC:=match C.B with|x::t=>(if bU n C.F x=k then { C with B:=t,N:=C.N++[x] } else C)|[]=>C
def dQ (C:CC):CC:=match C.N with|[x]=>{ C with N:=[],O:=C.O++[x] }|[x,y,z]=>{ C with N:=[y,z],O:=C.O++[x] }|_=>C
def lD (lt:Int->Int->Bool) (C:CC):CC:=match C.N with
 | [x,y]=>{ C with F:=gq C.F (iO lt x.toNat y.toNat) (lh lt x.toNat y.toNat),N:=[(iO lt x.toNat y.toNat:Int)],q:=C.q+1 }
 | _=>C
def Fq (lt:Int->Int->Bool) (n k:Nat) (C:CC):CC:=lD lt (dQ (takeB n k (takeA n k C)))
def fD (lt:Int->Int->Bool) (n:Nat):Nat->CC->CC
 | 0,C=>C
 | k+1,C=>Fq lt n k (fD lt n k C)
structure IV (dom:Int->Prop) (lt:Int->Int->Bool) (n k:Nat) (C:CC):Prop where
 few:C.N.length<=1
 join:∀x y,(dQ (takeB n k (takeA n k C))).N=[x,y]->∃a b:Nat,x=a/\y=b/\dom a/\dom b/\a<n/\b<n/\a≠b/\zw n (dQ (takeB n k (takeA n k C))).F a=true/\zw n (dQ (takeB n k (takeA n k C))).F b=true/\
  bU n (dQ (takeB n k (takeA n k C))).F a=bU n (dQ (takeB n k (takeA n k C))).F b/\((dQ (takeB n k (takeA n k C))).F.k a).length+1<=n/\((dQ (takeB n k (takeA n k C))).F.k b).length+1<=n
 small:C.A.length+C.B.length+C.O.length<=100000
 asked:C.q<=1000000
 ends:C.A≠[]\/C.B≠[]\/C.N≠[]->k<=n
def tA (n k:Nat) (A:List Int) (F:CF):Bool:=match A with|x::_=>bU n F x == (k:Int)|[]=>false
def tot (C:CC):Nat:=C.A.length+C.B.length+C.N.length+C.O.length
theorem vM (n k:Nat) (C:CC):tot (takeA n k C)=tot C/\(takeA n k C).N.length<=C.N.length+1:=by
 unfold takeA tot
 split
 ·rename_i x t h
  split
  ·simp only [h,υ,Ω,List.length_nil];omega
  ·simp
 ·simp
theorem vY (n k:Nat) (C:CC):tot (takeB n k C)=tot C/\(takeB n k C).N.length<=C.N.length+1:=by
 unfold takeB tot
 split
 ·rename_i x t h
  split
  ·simp only [h,υ,Ω,List.length_nil];omega
  ·simp
 ·simp
theorem KC (C:CC) (h3:C.N.length<=3):tot (dQ C)=tot C/\(dQ C).N.length<=2:=by
 obtain ⟨F,A,B,N,O,q⟩:=C;simp only at h3
 match N,h3 with
 | [],_=>simp [dQ,tot]
 | [x],_=>simp [dQ,tot];try omega
 | [x,y],_=>simp [dQ,tot]
 | [x,y,z],_=>simp [dQ,tot];try omega
 | _::_::_::_::_,h3=>simp at h3;try omega
theorem Pf (n k:Nat) (C:CC):(dQ (takeB n k (takeA n k C))).q=C.q:=by
 have h1:∀C,(dQ C).q=C.q:=fun C=>by unfold dQ;split<;>rfl
 have h2:∀C,(takeB n k C).q=C.q:=fun C=>by
  unfold takeB;split
  ·split<;>rfl
  ·rfl
 have h3:∀C,(takeA n k C).q=C.q:=fun C=>by
  unfold takeA;split
  ·split<;>rfl
  ·rfl
 rw [h1,h2,h3]
end Go.Proofs.YtklibcncmbofpaaGreat
namespace Go.Proofs.YtklibcncmbofpaaGreat
open Go Go.RowKit
structure rT where
 ty:TypeId
 p:Nat
 rd:List Nat
 wr:List Nat
 lt:Int->Int->Bool
 dom:Int->Prop
 at_:World->Nat->Prop
 sub:∀x,x∈wr->x∈rd
 low:∀ {w:World} {q:Nat},at_ w q->∀x,x∈rd->x<w.heap.size
 upd:∀ {w w':World} {S:List Nat} {q:Nat},at_ w q->aa S w w'->(∀x,x∈S->x∉rd)->at_ w' q
 asym:∀a b,lt a b=true->lt b a=false
 ahead:∀ {w:World} {q:Nat} (x y:Int),at_ w q->dom x->dom y->q<=1000000->MU ty p "Ahead" w (fun v=>#[v,.int .i64 x,.int .i64 y]) fun w e w'=>e=.returned (.bool (lt x y))/\at_ w' (q+1)/\aa wr w w'
structure Apart (O:rT) (bt ba n:Nat) (S:CS):Prop where
 bt:bt∉O.rd
 ba:ba∉O.rd
 blk:∀g,g∈S.blk n->g∉O.rd
theorem Apart.rd {O:rT} {bt ba n:Nat} {S:CS} (h:Apart O bt ba n S):∀g,g∈ba::S.blk n->g∉O.rd:=fun g hg=>by
 rcases ρ.1 hg with rfl|hg
 ·exact h.ba
 ·exact h.blk g hg
theorem Apart.wr {O:rT} {bt ba n:Nat} {S:CS} (h:Apart O bt ba n S):bt∉O.wr/\ba∉O.wr/\∀g,g∈S.blk n->g∉O.wr:=
 ⟨fun hm=>h.bt (O.sub _ hm),fun hm=>h.ba (O.sub _ hm),fun g hg hm=>h.blk g hg (O.sub _ hm)⟩
theorem Qf (O:rT) (bt ba lo n:Nat) (S:CS) (asked a b:Nat) (w:World) (h:aV w bt ba lo n S) (hO:O.at_ w asked) (Z8:O.dom a) (WR:O.dom b) (hk:asked<=1000000)
  (ha:a<n) (hb:b<n) (hra:mV n S a=true) (hrb:mV n S b=true) (hne:a≠b) (hd:mK n S a=mK n S b) (hl1:(S.k a).length+1<=n) (hl2:(S.k b).length+1<=n)
  (hA:Apart O bt ba n S) :
  Calls Tryz.prog 205 #[.pointer (some ⟨bt,0,none⟩),.iface O.ty (.pointer (some ⟨O.p,0,none⟩)),.int .i64 (a:Int),.int .i64 (b:Int)] w fun e w'=>
   ∃v,e=.returned (.int .i64 (iO O.lt a b:Int))/\aV w' bt ba lo n (mO S v (iO O.lt a b) (lh O.lt a b))/\O.at_ w' (asked+1)/\aa (O.wr++ba::S.blk n) w w'/\(∀g,g∈(mO S v (iO O.lt a b) (lh O.lt a b)).blk n->g∈S.blk n\/w.heap.size<=g):=by
 obtain ⟨f,fv,hen,hm,hc⟩:=(O.ahead (b:Int) (a:Int) hO WR Z8 hk).now;unfold Enters at hen;have hF:=fun W (hW:aa O.wr w W)=>h.upd hW hA.wr.1 hA.wr.2.1 hA.wr.2.2;have kL1:=fun W (hW:aa O.wr w W)=>EB bt ba lo n S a b W (hF W hW) ha hb hra hrb hne hd hl1;have kL2:=fun W (hW:aa O.wr w W)=>EB bt ba lo n S b a W (hF W hW) hb ha hrb hra (Ne.symm hne) hd.symm hl2;have HS:=χ hA.rd;clear hF h hO hA hd hra hrb Z8 WR;unfold iO lh;generalize O.ty=ty at *;cases hab:O.lt b a with
 | true=>
  rw [hab] at hc;rw [Δ rfl,Δ rfl];clear hab kL1
  go_enter Tryz.func205,Tryz.ntmps205
  go_wp2_with (first
   | ((with_reducible refine (hc).mono ?_);rintro e w1 ⟨rfl,hL1,hu1⟩)
   | ((go_at_call 206;(with_reducible refine (kL2 _ hu1).mono ?_));rintro e w2 ⟨v2,rfl,hF2,hu2,hb2⟩))
  go_ret;refine ⟨_,rfl,hF2,O.upd hL1 hu2 HS.out,(hu1.mono (by simp +contextual)).trans (hu2.mono (fun g hg=>τ.2 (Β hg))),fun g hg=>?_⟩;rcases hb2 g hg with h|h
  ·exact Α h
  ·exact Β (Χ hu1.size h)
 | false=>
  rw [hab] at hc;rw [Γ σ,Γ σ];clear hab kL2
  go_enter Tryz.func205,Tryz.ntmps205
  go_wp2_with (first
   | ((with_reducible refine (hc).mono ?_);rintro e w1 ⟨rfl,hL1,hu1⟩)
   | ((go_at_call 206;(with_reducible refine (kL1 _ hu1).mono ?_));rintro e w2 ⟨v2,rfl,hF2,hu2,hb2⟩))
  go_ret;refine ⟨_,rfl,hF2,O.upd hL1 hu2 HS.out,(hu1.mono (by simp +contextual)).trans (hu2.mono (fun g hg=>τ.2 (Β hg))),fun g hg=>?_⟩;rcases hb2 g hg with h|h
  ·exact Α h
  ·exact Β (Χ hu1.size h)
theorem fO.shape {w:World} {F:List Nat} {v:Value} {xs:List Int} (h:fO w F v xs):∃a cap,v=.slice a xs.length cap/\cap<=9223372036854775807:=by
 obtain ⟨a,cap,rfl,_,h2,_⟩:=h;exact ⟨a,cap,rfl,h2⟩
structure KM (O:rT) (w0 w:World) (bt ba lo n:Nat) (F0:List Nat) (va vb vn vo:Value) (C:CC):Prop where
 sP:∃S:CS,S.f=C.F/\aV w bt ba lo n S/\Apart O bt ba n S/\(∀g,g∈S.blk n->g∈F0\/w0.heap.size<g)/\(∀g,vn.ownBlock=some g->g∉S.blk n)/\(∀g,vo.ownBlock=some g->g∉S.blk n)
 WS:O.at_ w C.q
 a:fO w0 F0 va C.A
 b:fO w0 F0 vb C.B
 box:aG w w0.heap.size 26 1 (fun _=>vb)
 now:aZ w (w0.heap.size+1) vn C.N
 out:aZ w (w0.heap.size+1) vo C.O
 sep:∀g,vn.ownBlock=some g->vo.ownBlock≠some g
 upd:aa F0 w0 w
 old:∀g,g∈F0->g<w0.heap.size
 IP:(∀x,x∈O.wr->x∈F0)/\ba∈F0
 t0:bt<w0.heap.size
 k0:∀x,x∈O.rd->x<w0.heap.size
theorem fO.head {w:World} {F:List Nat} {a:Option Addr} {n c:Nat} {x:Int} {xs:List Int} (h:fO w F (.slice a n c) (x::xs)):∃g off,a=some ⟨g,off,none⟩/\g<w.heap.size/\g∉F/\w.cell? ⟨g,off,none⟩=some (.int .i64 x):=by
 obtain ⟨a',cap,he,_,_,h3⟩:=h;obtain ⟨g,off,rfl,hg,hF,hc⟩:=h3 0 x rfl;cases he;exact ⟨g,off,rfl,hg,hF,by rw [ϗ] at hc;exact hc⟩
theorem KM.deg {w0 w:World} {O:rT} {bt ba lo n:Nat} {F0:List Nat} {va vb vn vo:Value} {C:CC} (h:KM O w0 w bt ba lo n F0 va vb vn vo C) (x:Int) :
  Calls Tryz.prog 204 #[.pointer (some ⟨bt,0,none⟩),.int .i64 x] w fun e w'=>e=.returned (.int .i64 (bU n C.F x))/\w'=w:=by
 obtain ⟨S,h1,h2,_⟩:=h.sP;have:=oU bt ba lo n S x w h2;rw [Ut,h1] at this;exact this
theorem KM.far {w0 w:World} {O:rT} {bt ba lo n:Nat} {F0:List Nat} {va vb vn vo:Value} {C:CC} (h:KM O w0 w bt ba lo n F0 va vb vn vo C) {g off:Nat} {u:Value} (hg:g<w0.heap.size) (hF:g∉F0) (hc:w0.cell? ⟨g,off,none⟩=some u) {G:List Nat} {W:World} (hu:aa G w W) (hG:∀x,x∈G->w0.heap.size<=x) :
  W.cell? ⟨g,off,none⟩=some u:=by
 rw [hu.cell (Ψ hg h.upd.size) (fun hm=>by have:=hG _ hm;simp at this;omega),h.upd.cell hg hF];exact hc
theorem KM.Pw {w0 w:World} {O:rT} {bt ba lo n:Nat} {F0:List Nat} {va vb vn vo:Value} {C:CC} (h:KM O w0 w bt ba lo n F0 va vb vn vo C) {W:World} {vn':Value} {N':List Int}
  (hu:aa vn.ownBlock.toList w W) (ho:aZ W (w0.heap.size+1) vn' N') (hb:∀g,vn'.ownBlock=some g->vn.ownBlock=some g\/w.heap.size<=g):KM O w0 W bt ba lo n F0 va vb vn' vo { C with N:=N' }:=by
 obtain ⟨S,h1,h2,h3,h4,h5,h6⟩:=h.sP;have hn:∀g,g∈vn.ownBlock.toList->w0.heap.size<g/\g∉S.blk n/\vo.ownBlock≠some g:=fun g hg=>by
  have hg':vn.ownBlock=some g:=by simpa using hg
  exact ⟨by have:=(h.now.lt g hg').1;omega,h5 g hg',h.sep g hg'⟩
 have hbt:=h.t0;have xA:=h.old ba h.IP.2;have hk:=h.k0;have hsz:=h.upd.size
 refine ⟨⟨S,h1,h2.upd hu (fun hm=>by have:=hn _ hm;omega) (fun hm=>by have:=hn _ hm;omega) (fun g hg hm=>(hn g hm).2.1 hg),h3,h4,fun g hg hm=>?_,h6⟩,O.upd h.WS hu (fun g hg hm=>by have:=hn g hg;have:=hk g hm;omega),h.a,h.b,h.box.upd hu (fun hm=>by have:=hn _ hm;omega),ho,
  h.out.upd hu (fun g hg hm=>(hn g hm).2.2 hg),fun g hg he=>?_,h.upd.joined hu (fun g hg=>Β (by have:=hn g hg;omega)),h.old,h.IP,h.t0,h.k0⟩
 ·rcases hb g hg with h'|h'
  ·exact h5 g h' hm
  ·have:=(h2.mi hm).2;omega
 ·rcases hb g hg with h'|h'
  ·exact h.sep g h' he
  ·have:=(h.out.lt g he).2;omega
theorem KM.YW {w0 w:World} {O:rT} {bt ba lo n:Nat} {F0:List Nat} {va vb vn vo:Value} {C:CC} (h:KM O w0 w bt ba lo n F0 va vb vn vo C) {W:World} {vo':Value} {O':List Int}
  (hu:aa vo.ownBlock.toList w W) (ho:aZ W (w0.heap.size+1) vo' O') (hb:∀g,vo'.ownBlock=some g->vo.ownBlock=some g\/w.heap.size<=g):KM O w0 W bt ba lo n F0 va vb vn vo' { C with O:=O' }:=by
 obtain ⟨S,h1,h2,h3,h4,h5,h6⟩:=h.sP;have hn:∀g,g∈vo.ownBlock.toList->w0.heap.size<g/\g∉S.blk n/\vn.ownBlock≠some g:=fun g hg=>by
  have hg':vo.ownBlock=some g:=by simpa using hg
  exact ⟨by have:=(h.out.lt g hg').1;omega,h6 g hg',fun e=>h.sep g e hg'⟩
 have hbt:=h.t0;have xA:=h.old ba h.IP.2;have hk:=h.k0;have hsz:=h.upd.size
 refine ⟨⟨S,h1,h2.upd hu (fun hm=>by have:=hn _ hm;omega) (fun hm=>by have:=hn _ hm;omega) (fun g hg hm=>(hn g hm).2.1 hg),h3,h4,h5,fun g hg hm=>?_⟩,O.upd h.WS hu (fun g hg hm=>by have:=hn g hg;have:=hk g hm;omega),h.a,h.b,h.box.upd hu (fun hm=>by have:=hn _ hm;omega),
  h.now.upd hu (fun g hg hm=>(hn g hm).2.2 hg),ho,fun g hg he=>?_,h.upd.joined hu (fun g hg=>Β (by have:=hn g hg;omega)),h.old,h.IP,h.t0,h.k0⟩
 ·rcases hb g hg with h'|h'
  ·exact h6 g h' hm
  ·have:=(h2.mi hm).2;omega
 ·rcases hb g he with h'|h'
  ·exact h.sep g hg h'
  ·have:=(h.now.lt g hg).2;omega
theorem KM.aTo {w0 w:World} {O:rT} {bt ba lo n:Nat} {F0:List Nat} {va vb vn vo Yy:Value} {C:CC} (h:KM O w0 w bt ba lo n F0 va vb vn vo C) {A':List Int} (ha:fO w0 F0 Yy A'):KM O w0 w bt ba lo n F0 Yy vb vn vo { C with A:=A' }:=
 ⟨h.sP,h.WS,ha,h.b,h.box,h.now,h.out,h.sep,h.upd,h.old,h.IP,h.t0,h.k0⟩
theorem KM.bTo {w0 w:World} {O:rT} {bt ba lo n:Nat} {F0:List Nat} {va vb vn vo Ux:Value} {C:CC} (h:KM O w0 w bt ba lo n F0 va vb vn vo C) {B':List Int} (hb:fO w0 F0 Ux B') :
  KM O w0 (w.setCell ⟨w0.heap.size,0,none⟩ Ux) bt ba lo n F0 va Ux vn vo { C with B:=B' }:=by
 obtain ⟨S,h1,h2,h3,h4,h5,h6⟩:=h.sP;have hu:aa [w0.heap.size] w (w.setCell ⟨w0.heap.size,0,none⟩ Ux):=(aa.refl _ _).setCell (Α σ) _;have hbt:=h.t0;have xA:=h.old ba h.IP.2;have hk:=h.k0;refine ⟨⟨S,h1,h2.upd hu ζ ζ (fun g hg hm=>?_),h3,h4,h5,h6⟩,O.upd h.WS hu (fun g hg hm=>by have:=hk g hm;simp at hg;omega),h.a,hb,(h.box.set 0 Ux).ext (fun j hj=>ζ),h.now.upd hu (fun g hg hm=>?_),h.out.upd hu (fun g hg hm=>?_),h.sep,h.upd.joined hu (fun g hg=>Β (by simp at hg;omega)),h.old,h.IP,h.t0,h.k0⟩
 ·simp at hm;subst hm;rcases h4 _ hg with h'|h'
  ·have:=h.old _ h';omega
  ·omega
 ·have:=(h.now.lt g hg).1;simp at hm;omega
 ·have:=(h.out.lt g hg).1;simp at hm;omega
theorem KM.WA {w0 w:World} {O:rT} {bt ba lo n:Nat} {F0:List Nat} {va vb vn vo:Value} {C:CC} (h:KM O w0 w bt ba lo n F0 va vb vn vo C) {S:CS} (hS:S.f=C.F) (h2:aV w bt ba lo n S) (h3:Apart O bt ba n S)
  (h4:∀g,g∈S.blk n->g∈F0\/w0.heap.size<g) (h6:∀g,vo.ownBlock=some g->g∉S.blk n) {W:World} {v:Value} {a b:Nat} (hF:aV W bt ba lo n (mO S v a b)) (hL:O.at_ W (C.q+1)) (hu:aa (O.wr++ba::S.blk n) w W)
  (hg:∀g,g∈(mO S v a b).blk n->g∈S.blk n\/w.heap.size<=g) :
  KM O w0 (W.alloc (.cells #[.int .i64 (a:Int)] 3)) bt ba lo n F0 va vb (.slice (some ⟨W.heap.size,0,none⟩) 1 1) vo { C with F:=gq C.F a b,N:=[(a:Int)],q:=C.q+1 }:=by
 have hbt:=h.t0;have xA:=h.old ba h.IP.2;have hk:=h.k0;have hbx:=h.box.lt;have hsz:=hu.size;have hm:∀g,g∈O.wr++ba::S.blk n->g∈F0\/w0.heap.size<g:=fun g hg=>by
  rcases τ.1 hg with hg|hg
  ·exact Α (h.IP.1 _ hg)
  ·rcases ρ.1 hg with rfl|hg
   ·exact Α h.IP.2
   ·exact h4 g hg
 have hvo:∀g,vo.ownBlock=some g->g∉O.wr++ba::S.blk n:=fun g hg hm=>by
  have:=(h.out.lt g hg).1;rcases τ.1 hm with hm|hm
  ·have:=hk _ (O.sub _ hm);omega
  ·rcases ρ.1 hm with rfl|hm
   ·omega
   ·exact h6 g hg hm
 have ha:aa [] W (W.alloc (.cells #[.int .i64 (a:Int)] 3)):=(aa.refl _ _).alloc _;have hb:w0.heap.size∉O.wr++ba::S.blk n:=fun hm2=>by
  rcases hm _ hm2 with h'|h'
  ·have:=h.old _ h';omega
  ·omega
 refine ⟨⟨mO S v a b,by rw [WE,hS],hF.ae ha,⟨h3.bt,h3.ba,fun g hg1 hm=>?_⟩,fun g hgm=>?_,fun g hg1 hgm=>?_,fun g hg1 hgm=>?_⟩,O.upd hL ha σ,h.a,h.b,(h.box.upd hu hb).upd ha σ,aZ.lit W _ a ω,
  (h.out.upd hu hvo).upd ha σ,fun g hg1 hg2=>?_,(h.upd.joined hu (fun g hg=>by rcases hm g hg with h'|h';exact Α h';exact Β ω)).then ha,h.old,h.IP,h.t0,h.k0⟩
 ·rcases hg _ hg1 with h'|h'
  ·exact h3.blk g h' hm
  ·have:=hk _ hm;omega
 ·rcases hg g hgm with h'|h'
  ·exact h4 g h'
  ·exact Β ω
 ·simp [Value.ownBlock] at hg1;have:=(hF.mi hgm).2;omega
 ·rcases hg g hgm with h'|h'
  ·exact h6 g hg1 h'
  ·have:=(h.out.lt g hg1).2;omega
 ·simp [Value.ownBlock] at hg1;have:=(h.out.lt g hg2).2;omega
set_option maxRecDepth 100000 in
theorem Kr (Od:rT) (bt ba lo n:Nat) (S0:CS) (va vb:Value) (A B:List Int) (q0:Nat) (w:World) (h:aV w bt ba lo n S0) (hO:Od.at_ w q0) (hap:Apart Od bt ba n S0) (hbt:bt<w.heap.size)
    (ha:fO w (Od.wr++ba::S0.blk n) va A) (hb:fO w (Od.wr++ba::S0.blk n) vb B) (hrA:Mc n S0 A=true) (hrB:Mc n S0 B=true) (hno:A.any (fun x=>decide (x∈B))=false)
    (hok:∀k,IV Od.dom Od.lt n k (fD Od.lt n k ⟨S0.f,A,B,[],[],q0⟩)) :
    Calls Tryz.prog 194 #[.pointer (some ⟨bt,0,none⟩),.iface Od.ty (.pointer (some ⟨Od.p,0,none⟩)),va,vb] w fun e w'=>
      ∃k vn Yy Ux vo,e=.returned (.tuple #[vo,.bool true])/\KM Od w w' bt ba lo n (Od.wr++ba::S0.blk n) Yy Ux vn vo (fD Od.lt n k ⟨S0.f,A,B,[],[],q0⟩)/\(fD Od.lt n k ⟨S0.f,A,B,[],[],q0⟩).A=[]/\(fD Od.lt n k ⟨S0.f,A,B,[],[],q0⟩).B=[]/\(fD Od.lt n k ⟨S0.f,A,B,[],[],q0⟩).N=[]:=by
  have hle:=h.le;have hu1:∀v,aa [] w (w.alloc (.cells #[v] 26)):=fun v=>(aa.refl _ _).alloc _;have hbx:=dC w [vb] 26;have kA:=NM bt ba lo n S0 va A (w.alloc (.cells #[vb] 26)) (h.ae (hu1 vb)) _ (ha.upd (hu1 vb) σ);have kB:=NM bt ba lo n S0 vb B (w.alloc (.cells #[vb] 26)) (h.ae (hu1 vb)) _ (hb.upd (hu1 vb) σ);have kF:=zY (w.alloc (.cells #[vb] 26)) _ w.heap.size va vb A B (ha.upd (hu1 vb) σ) (hb.upd (hu1 vb) σ) (hbx.ext (fun j hj=>by simp at hj;subst hj;rfl));rw [hrA] at kA;rw [hrB] at kB;rw [hno] at kF;have hold:∀g,g∈Od.wr++ba::S0.blk n->g<w.heap.size:=fun g hg=>by
    rcases τ.1 hg with hg|hg
    · exact Od.low hO _ (Od.sub _ hg)
    · rcases ρ.1 hg with rfl|hg
      · exact h.row.lt
      · exact (h.mi hg).2
  have hM:KM Od w (w.alloc (.cells #[vb] 26)) bt ba lo n (Od.wr++ba::S0.blk n) va vb (.slice none 0 0) (.slice none 0 0) (fD Od.lt n 0 ⟨S0.f,A,B,[],[],q0⟩):=
    ⟨⟨S0,rfl,h.ae (hu1 vb),hap,(fun g hg=>Α (by simp [hg])),(fun g hg=>by cases hg),(fun g hg=>by cases hg)⟩,Od.upd hO (hu1 vb) σ,ha,hb,hbx.ext (fun j hj=>by simp at hj;subst hj;rfl),aZ.nil _ _,aZ.nil _ _,(fun g hg=>by cases hg),(aa.refl _ _).alloc _,hold,⟨fun x hx=>τ.2 (Α hx),σ⟩,hbt,fun x hx=>Od.low hO x hx⟩
  have HOK:=χ hok;have Vp:=χ hM;have sa:=ha.shape;have sb:=hb.shape;obtain ⟨a1,c1,rfl,hc1⟩:=sa;obtain ⟨b1,d1,rfl,hd1⟩:=sb;clear hok hM ha hb hbx h hO hap hrA hrB hno hold;generalize hF0:Od.wr++ba::S0.blk n=F0 at *;clear hF0;generalize hC0:(⟨S0.f,A,B,[],[],q0⟩:CC)=C0 at *;clear hC0
  go_enter Tryz.func194,Tryz.ntmps194
  go_wp2_with (first
    | (go_at_call 200;(with_reducible refine (kA).mono ?_);rintro e w9 ⟨rfl,aS⟩;rw [aS];clear aS w9)
    | (go_at_call 200;(with_reducible refine (kB).mono ?_);rintro e w9 ⟨rfl,aS⟩;rw [aS];clear aS w9)
    | (go_at_call 201;(with_reducible refine (kF).mono ?_);rintro e w9 ⟨rfl,aS⟩;rw [aS];clear aS w9))
  clear kA kB kF
  go_loopw [2,10,11,12] (fun s2 s10 s11 s12 wr=>∃ (k:Nat) (vb:Value),s12=.int .i64 (k:Int)/\k<=n+1/\KM Od w wr bt ba lo n F0 s2 vb s11 s10 (fD Od.lt n k C0)) (fun _ _ _ s12 _=>n+2-(intOf s12).toNat)
  case atStart=>exact ⟨0,_,rfl,ω,Vp.out⟩
  case round=>
    obtain ⟨k,vb,rfl,hk,hM⟩:=hrel;have hok:=HOK.out k;generalize hC:fD Od.lt n k C0=C at *;have HC:=χ hC;clear hC;obtain ⟨F,A,B,N,O,q⟩:=C;obtain ⟨a2,c2,rfl,hc2⟩:=hM.a.shape;obtain ⟨b2,d2,rfl,hd2⟩:=hM.b.shape;obtain ⟨n2,e2,rfl,hn2,he2,_⟩:=hM.now.shape;have hbx:=hM.box.cell 0 ω;have hsm:=hok.small;have hfw:=hok.few;simp only at hsm hfw
    by_cases hemp:A=[]/\B=[]/\N=[]
    · obtain ⟨rfl,rfl,rfl⟩:=hemp
      obtain ⟨o2,f2,rfl,_⟩:=hM.out.shape;have HM:=χ hM;clear hM hok;go_wp2;go_ret2;exact ⟨k,_,_,_,_,rfl,by rw [HC.out];exact HM.out,by rw [HC.out],by rw [HC.out],by rw [HC.out]⟩
    · have hpos:0<A.length+B.length+N.length:=by
        rcases A with _|⟨x,t⟩
        · rcases B with _|⟨x,t⟩
          · rcases N with _|⟨x,t⟩
            · exact absurd ⟨rfl,rfl,rfl⟩ hemp
            · simp
          · simp;omega
        · simp;omega
      have hkn:k<=n:=hok.ends (by
        rcases A with _|⟨x,t⟩
        · rcases B with _|⟨x,t⟩
          · rcases N with _|⟨x,t⟩
            · exact absurd ⟨rfl,rfl,rfl⟩ hemp
            · exact Β (Β σ)
          · exact Β (Α σ)
        · exact Α σ)
      have X3:=χ hok;have HM:=χ hM;clear hemp hok hM
      go_upto_region 7 with (fail)
      go_cut [50] (fun s50 wx=>s50=.bool (tA n k A F)/\KM Od w wx bt ba lo n F0 (.slice a2 A.length c2) (.slice b2 B.length d2) (.slice n2 N.length e2) u10 ⟨F,A,B,N,O,q⟩)
      case first=>
        rcases A with _|⟨x,t⟩
        · go_wp2_with fail
          go_meet
          exact ⟨rfl,HM.out⟩
        · obtain ⟨ga,oa,rfl,hgl,xB,hc⟩:=HM.out.a.head
          have hc1:=HM.out.far hgl xB hc (aa.refl [] _) σ;have kD:=HM.out.deg x;have Gq:tA n k (x::t) F=(bU n F x == (k:Int)):=rfl;have HT:=χ Gq;simp only at kD;clear Gq hc;generalize bU n F x=d at *
          go_wp2_with ((go_at_call 204;(with_reducible refine (kD).mono ?_);rintro e w9 ⟨rfl,aS⟩;rw [aS];clear aS w9))
          go_meet
          exact ⟨by rw [HT.out],HM.out⟩
      case rest=>
        obtain ⟨rfl,hM1⟩:=hcut;have pR:=χ hM1;clear hM1 HM hbx
        go_upto_if 50 with (fail)
        go_cut [2,11] (fun s2 s11 wx=>∃vb,KM Od w wx bt ba lo n F0 s2 vb s11 u10 (takeA n k ⟨F,A,B,N,O,q⟩))
        case first=>
          cases Gq:tA n k A F with
          | false=>
            go_wp2_with fail
            go_meet
            have e:takeA n k ⟨F,A,B,N,O,q⟩=⟨F,A,B,N,O,q⟩:=by
              rcases A with _|⟨x,t⟩
              · rfl
              · unfold takeA;simp only;rw [Γ (by simpa [tA] using Gq)]
            rw [e];exact ⟨_,pR.out⟩
          | true=>
            rcases A with _|⟨x,t⟩
            · cases Gq
            · have e:takeA n k ⟨F,x::t,B,N,O,q⟩=⟨F,t,B,N++[x],O,q⟩:=by
                unfold takeA;simp only;rw [Δ (by simpa [tA] using Gq)]
              obtain ⟨ga,oa,rfl,hgl,xB,hc⟩:=pR.out.a.head;have hown:∀g,g∈(Value.slice n2 N.length e2).ownBlock.toList->w.heap.size<=g:=fun g hg=>by have:=(pR.out.now.lt g (by simpa using hg)).1;omega
              have r1:∀W,aa (Value.slice n2 N.length e2).ownBlock.toList wc W->W.cell? ⟨ga,oa,none⟩=some (.int .i64 x):=fun W hW=>pR.out.far hgl xB hc hW hown;have s0:aa (Value.slice n2 N.length e2).ownBlock.toList wc wc.drew:=(aa.refl _ _).drew;have hsl:=fun W=>tV W (some ⟨ga,oa,none⟩) (t.length+1) c2 ω (by simp at hsm;omega);have Es:=(show fO w F0 (.slice (some ⟨ga,oa,none⟩) (t.length+1) c2) (x::t) from pR.out.a).tail;obtain ⟨a3,xX⟩:=oJ (some ⟨ga,oa,none⟩) (t.length+1) c2;rw [xX] at hsl Es;simp only [Nat.add_sub_cancel] at hsl Es;have HTA:=χ Es;have hno:=pR.out.now;have E:=χ e
              clear Es e Gq xX hc
              go_wp2_with fail
              go_region_held3 (fun W=>aa (Value.slice n2 N.length e2).ownBlock.toList wc W)
                (first|assumption|exact (aa.refl _ _).drew|(have hS:=(by assumption:aa _ _ _);exact hS.alloc _))
                (first
                  | (have hS:=s0.alloc (.cells #[.int .i64 x] 3)
                     refine pG rfl _ _ 26 rfl Tryz.underlying26 (w.heap.size+1) (.slice n2 N.length e2) N rfl (hno.upd ((aa.refl [] _).drew.alloc (.cells #[.int .i64 x] 3)) σ) wc.heap.size x rfl (kQ wc [.int .i64 x] 3 0 _ rfl) ω (by have:=pR.out.upd.size;have:=pR.out.box.lt;simp;omega) ?_;intro v2 w2 ho2 hu2 hv2
                     have hS2:aa (Value.slice n2 N.length e2).ownBlock.toList wc w2:=hS.trans hu2))
              go_wp2_with fail
              go_meet
              rw [E.out];exact ⟨_,(pR.out.Pw hS2 ho2 (fun g hg=>by rcases hv2 g hg with h|h;exact Α h;exact Β (by simp at h;omega))).aTo HTA.out⟩
        case rest=>
          have hT1:=vM n k ⟨F,A,B,N,O,q⟩;generalize jN:takeA n k ⟨F,A,B,N,O,q⟩=C1 at *;have HC1:=χ jN;clear jN pR;obtain ⟨F1,A1,B1,N1,O1,q1⟩:=C1;have hs1:A1.length+B1.length+N1.length+O1.length<=100001/\N1.length<=2:=by
            obtain ⟨h1,h2⟩:=hT1;unfold tot at h1;simp only at h1 h2;omega
          obtain ⟨hs1,hf1⟩:=hs1;obtain ⟨vb1,hcut⟩:=hcut;obtain ⟨a5,c5,rfl,Z4⟩:=hcut.a.shape;obtain ⟨b5,d5,rfl,hd5⟩:=hcut.b.shape;obtain ⟨n5,e5,rfl,LU,he5,_⟩:=hcut.now.shape;simp only at LU;have hbx:=hcut.box.cell 0 ω;have pR:=χ hcut;clear hcut hT1 hsm hfw hpos
          go_upto_region 9 with (fail)
          go_cut [70] (fun s70 wx=>s70=.bool (tA n k B1 F1)/\KM Od w wx bt ba lo n F0 (.slice a5 A1.length c5) (.slice b5 B1.length d5) (.slice n5 N1.length e5) u10 ⟨F1,A1,B1,N1,O1,q1⟩)
          case first=>
            rcases B1 with _|⟨x,t⟩
            · go_wp2_with fail
              go_meet
              exact ⟨rfl,pR.out⟩
            · obtain ⟨ga,oa,rfl,hgl,xB,hc⟩:=pR.out.b.head
              have hc1:=pR.out.far hgl xB hc (aa.refl [] _) σ;have kD:=pR.out.deg x;have Gq:tA n k (x::t) F1=(bU n F1 x == (k:Int)):=rfl;have HT:=χ Gq;simp only at kD;clear Gq hc;generalize bU n F1 x=d at *
              go_wp2_with ((go_at_call 204;(with_reducible refine (kD).mono ?_);rintro e w9 ⟨rfl,aS⟩;rw [aS];clear aS w9))
              go_meet
              exact ⟨by rw [HT.out],pR.out⟩
          case rest=>
            obtain ⟨rfl,hM2⟩:=hcut;have hbx:=hM2.box.cell 0 ω;have hbf:=hM2.box.free 0;have vv:=χ hM2;clear hM2 pR
            go_upto_if 70 with (fail)
            go_cut [11] (fun s11 wx=>∃vb,KM Od w wx bt ba lo n F0 (.slice a5 A1.length c5) vb s11 u10 (takeB n k ⟨F1,A1,B1,N1,O1,q1⟩))
            case first=>
              cases Gq:tA n k B1 F1 with
              | false=>
                go_wp2_with fail
                go_meet
                have e:takeB n k ⟨F1,A1,B1,N1,O1,q1⟩=⟨F1,A1,B1,N1,O1,q1⟩:=by
                  rcases B1 with _|⟨x,t⟩
                  · rfl
                  · unfold takeB;simp only;rw [Γ (by simpa [tA] using Gq)]
                rw [e];exact ⟨_,vv.out⟩
              | true=>
                rcases B1 with _|⟨x,t⟩
                · cases Gq
                · have e:takeB n k ⟨F1,A1,x::t,N1,O1,q1⟩=⟨F1,A1,t,N1++[x],O1,q1⟩:=by
                    unfold takeB;simp only;rw [Δ (by simpa [tA] using Gq)]
                  obtain ⟨ga,oa,rfl,hgl,xB,hc⟩:=vv.out.b.head;have hown:∀g,g∈(Value.slice n5 N1.length e5).ownBlock.toList->w.heap.size<g:=fun g hg=>by have:=(vv.out.now.lt g (by simpa using hg)).1;omega
                  have r1:∀W,aa (Value.slice n5 N1.length e5).ownBlock.toList wc W->W.cell? ⟨ga,oa,none⟩=some (.int .i64 x):=fun W hW=>vv.out.far hgl xB hc hW (fun g hg=>by have:=hown g hg;omega);have r2:∀W,aa (Value.slice n5 N1.length e5).ownBlock.toList wc W->W.cell? ⟨w.heap.size,0,none⟩=some (.slice (some ⟨ga,oa,none⟩) (x::t).length d5):=fun W hW=>by rw [hW.cell vv.out.box.lt (fun hm=>by have:=hown _ hm;simp at this)];exact hbx
                  have r3:∀W,aa (Value.slice n5 N1.length e5).ownBlock.toList wc W->W.frozen? ⟨w.heap.size,0,none⟩=false:=fun W hW=>by rw [hW.frozen vv.out.box.lt (fun hm=>by have:=hown _ hm;simp at this)];exact hbf
                  have s0:aa (Value.slice n5 N1.length e5).ownBlock.toList wc wc:=aa.refl _ _;have p1:=r1 _ s0;have p3:=r1 _ (s0.alloc (.cells #[.int .i64 x] 3));have p4:=r2 _ (s0.alloc (.cells #[.int .i64 x] 3));have hsl:=fun W=>tV W (some ⟨ga,oa,none⟩) (t.length+1) d5 ω (by simp at hs1;omega);have Es:=(show fO w F0 (.slice (some ⟨ga,oa,none⟩) (t.length+1) d5) (x::t) from vv.out.b).tail;obtain ⟨a3,xX⟩:=oJ (some ⟨ga,oa,none⟩) (t.length+1) d5;rw [xX] at hsl Es;simp only [Nat.add_sub_cancel] at hsl Es;have HTA:=χ Es;have hno:=vv.out.now;have E:=χ e;clear Es e Gq xX hc
                  go_wp2_with fail
                  go_region_law
                    (first
                      | (refine pG rfl _ _ 26 rfl Tryz.underlying26 (w.heap.size+1) (.slice n5 N1.length e5) N1 rfl (hno.upd ((aa.refl [] _).drew.alloc (.cells #[.int .i64 x] 3)) σ) wc.heap.size x rfl (kQ wc [.int .i64 x] 3 0 _ rfl) ω (by have:=vv.out.upd.size;have:=vv.out.box.lt;simp;omega) ?_
                         intro v2 w2 ho2 hu2 hv2;have hS2:aa (Value.slice n5 N1.length e5).ownBlock.toList wc w2:=(s0.drew.alloc (.cells #[.int .i64 x] 3)).trans hu2;have g1:=r1 _ hS2;have g2:=r2 _ hS2
                         have g3:=r3 _ hS2))
                  all_goals
                    go_wp2_with fail
                    go_meet
                    rw [E.out];exact ⟨_,(vv.out.Pw hS2 ho2 (fun g hg=>by rcases hv2 g hg with h|h;exact Α h;exact Β (by simp at h;omega))).bTo HTA.out⟩
            case rest=>
              have hT1:=vY n k ⟨F1,A1,B1,N1,O1,q1⟩;generalize hC2:takeB n k ⟨F1,A1,B1,N1,O1,q1⟩=C2 at *;have HC2:=χ hC2;clear hC2 vv;obtain ⟨F2,A2,B2,N2,O2,q2⟩:=C2;have hs2:A2.length+B2.length+N2.length+O2.length<=100001/\N2.length<=3:=by
                obtain ⟨h1,h2⟩:=hT1;unfold tot at h1;simp only at h1 h2;omega
              obtain ⟨hs2,hf2⟩:=hs2;obtain ⟨vb2,hcut⟩:=hcut;obtain ⟨n6,e6,rfl,hn6,he6,_⟩:=hcut.now.shape;obtain ⟨o6,p6,rfl,Xd,hp6,_⟩:=hcut.out.shape;simp only at hn6;have Uo:=χ hcut;clear hcut hT1 hs1 hf1
              go_upto_region 11 with (fail)
              go_cut [82] (fun s82 wx=>s82=.bool (N2.length % 2 == 1)/\KM Od w wx bt ba lo n F0 (.slice a5 A1.length c5) vb2 (.slice n6 N2.length e6) (.slice o6 O2.length p6) ⟨F2,A2,B2,N2,O2,q2⟩)
              case first=>
                have key:∀m:Nat,N2.length=m->N2.length % 2=m % 2:=fun m h=>by rw [h]
                match N2,hf2 with
                | [],_=>go_wp2_with fail;go_meet;exact ⟨σ,Uo.out⟩
                | [x],_=>go_wp2_with fail;go_meet;exact ⟨σ,Uo.out⟩
                | [x,y],_=>go_wp2_with fail;go_meet;exact ⟨σ,Uo.out⟩
                | [x,y,z],_=>go_wp2_with fail;go_meet;exact ⟨σ,Uo.out⟩
                | _::_::_::_::_,hf2=>simp at hf2;try omega
              case rest=>
                obtain ⟨rfl,zG⟩:=hcut;have R8:=χ zG;clear zG Uo
                go_upto_if 82 with (fail)
                go_cut [10,11] (fun s10 s11 wx=>∃va vb,va=.slice a5 A1.length c5/\KM Od w wx bt ba lo n F0 va vb s11 s10 (dQ ⟨F2,A2,B2,N2,O2,q2⟩))
                case first=>
                  cases QS:(N2.length % 2 == 1) with
                  | false=>
                    go_wp2_with fail
                    go_meet
                    have e:dQ ⟨F2,A2,B2,N2,O2,q2⟩=⟨F2,A2,B2,N2,O2,q2⟩:=by
                      match N2,hf2,QS with
                      | [],_,_=>rfl
                      | [x],_,QS=>simp at QS
                      | [x,y],_,_=>rfl
                      | [x,y,z],_,QS=>simp at QS
                      | _::_::_::_::_,hf2,_=>simp at hf2;try omega
                    rw [e];exact ⟨_,_,rfl,R8.out⟩
                  | true=>
                    rcases N2 with _|⟨x,r⟩
                    · simp at QS
                    · have e:dQ ⟨F2,A2,B2,x::r,O2,q2⟩=⟨F2,A2,B2,r,O2++[x],q2⟩:=by
                        match r,hf2,QS with
                        | [],_,_=>rfl
                        | [y],_,QS=>simp at QS
                        | [y,z],_,_=>rfl
                        | _::_::_::_,hf2,_=>simp at hf2;try omega
                      obtain ⟨n7,e7,he7,hn7,_,hcells⟩:=R8.out.now.shape;obtain ⟨gn,on,rfl,hc0⟩:=hcells 0 x rfl;cases he7;rw [ϗ] at hc0;have hsl:=fun W=>tV W (some ⟨gn,on,none⟩) (r.length+1) e6 ω (by simp at hs2;omega);have hno:=fun W (h:aZ W (w.heap.size+1) (.slice (some ⟨gn,on,none⟩) (r.length+1) e6) (x::r))=>h.tail;obtain ⟨a3,xX⟩:=oJ (some ⟨gn,on,none⟩) (r.length+1) e6;rw [xX] at hsl hno;simp only [Nat.add_sub_cancel] at hsl hno;have HNO:=χ hno;have uM:=R8.out.out;have E:=χ e;clear hno e QS xX hcells
                      go_wp2_with (at_builtin;refine uI rfl _ _ 26 rfl Tryz.underlying26 (w.heap.size+1) (.slice o6 O2.length p6) O2 rfl (uM.upd ((aa.refl [] _).alloc (.cells #[.int .i64 x] 3)) σ) wc.heap.size x rfl (kQ wc [.int .i64 x] 3 0 _ rfl) ω (by have:=R8.out.upd.size;have:=R8.out.box.lt;simp;omega) ?_;intro v2 w2 ho2 hu2 hv2)
                      go_meet
                      have hS2:aa (Value.slice o6 O2.length p6).ownBlock.toList wc w2:=((aa.refl _ _).alloc (.cells #[.int .i64 x] 3)).trans hu2;have hm1:=R8.out.YW hS2 ho2 (fun g hg=>by rcases hv2 g hg with h|h;exact Α h;exact Β (by simp at h;omega));have hm2:=hm1.Pw (aa.refl _ _) (HNO.out _ hm1.now).1 (fun g hg=>by rw [(HNO.out _ hm1.now).2] at hg;exact Α hg);rw [E.out];exact ⟨_,_,rfl,hm2⟩
                case rest=>
                  have hT1:=KC ⟨F2,A2,B2,N2,O2,q2⟩ hf2;have Jd:=X3.out.join;rw [HC1.out,HC2.out] at Jd;generalize Xb:dQ ⟨F2,A2,B2,N2,O2,q2⟩=C3 at *;have HC3:=χ Xb;clear Xb R8;obtain ⟨F3,A3,B3,N3,O3,q3⟩:=C3;simp only at Jd;obtain ⟨hT1,hf3⟩:=hT1;simp only at hf3;obtain ⟨va3,vb3,rfl,hcut⟩:=hcut;obtain ⟨n8,e8,rfl,hn8,he8,_⟩:=hcut.now.shape;obtain ⟨o8,p8,rfl,ho8,hp8,_⟩:=hcut.out.shape;simp only at hn8;have tQ:=χ hcut;have HJ:=χ Jd;clear hcut hT1 hs2 hf2 Jd
                  go_upto_region 14 with (fail)
                  go_cut [93] (fun s93 wx=>s93=.bool (N3.length == 2)/\KM Od w wx bt ba lo n F0 (.slice a5 A1.length c5) vb3 (.slice n8 N3.length e8) (.slice o8 O3.length p8) ⟨F3,A3,B3,N3,O3,q3⟩)
                  case first=>
                    match N3,hf3 with
                    | [],_=>go_wp2_with fail;go_meet;exact ⟨σ,tQ.out⟩
                    | [x],_=>go_wp2_with fail;go_meet;exact ⟨σ,tQ.out⟩
                    | [x,y],_=>go_wp2_with fail;go_meet;exact ⟨σ,tQ.out⟩
                    | _::_::_::_,hf3=>simp at hf3;try omega
                  case rest=>
                    obtain ⟨rfl,sF⟩:=hcut;have uZ:=χ sF;clear sF tQ;have hst:Fq Od.lt n k ⟨F,A,B,N,O,q⟩=lD Od.lt ⟨F3,A3,B3,N3,O3,q3⟩:=by
                      unfold Fq;rw [HC1.out,HC2.out,HC3.out]
                    have hru:fD Od.lt n (k+1) C0=lD Od.lt ⟨F3,A3,B3,N3,O3,q3⟩:=by rw [fD,HC.out,hst]
                    have hq3:q3<=1000000:=by
                      have h:=Pf n k ⟨F,A,B,N,O,q⟩;rw [HC1.out,HC2.out,HC3.out] at h;simp only at h;rw [h];exact X3.out.asked
                    have Vh:=χ hru;clear hst hru HC1 HC2 HC3
                    match N3,hf3,HJ,uZ,Vh with
                    | [],_,_,uZ,Vh=>
                      go_wp2_with fail
                      go_roundw
                      case rel=>exact ⟨k+1,_,by go_num,ω,by rw [Vh.out];exact uZ.out⟩
                      case measure=>simp [intOf];omega
                    | [x],_,_,uZ,Vh=>
                      go_wp2_with fail
                      go_roundw
                      case rel=>exact ⟨k+1,_,by go_num,ω,by rw [Vh.out];exact uZ.out⟩
                      case measure=>simp [intOf];omega
                    | [x,y],_,HJ,uZ,Vh=>
                      obtain ⟨a,b,rfl,rfl,Z8,WR,hja,hjb,hjne,Ya,XR,hjd,Ye,XB⟩:=HJ.out x y rfl;obtain ⟨S,hSf,WW,Zz,Xn,hS5,hS6⟩:=uZ.out.sP;obtain ⟨n9,e9,he9,hn9,_,hcells⟩:=uZ.out.now.shape;obtain ⟨gn,on,rfl,hc0⟩:=hcells 0 (a:Int) rfl;obtain ⟨gn2,on2,heq,hc1⟩:=hcells 1 (b:Int) rfl;cases heq;cases he9;rw [ϗ] at hc0;simp only at hSf;rw [←hSf] at Ya XR hjd Ye XB;have hgn:∀g,g∈Od.wr++ba::S.blk n->g≠gn:=fun g hg e=>by
                        subst e;have hl:=(uZ.out.now.lt g rfl).1;rcases τ.1 hg with hg|hg
                        · have:=uZ.out.old _ (uZ.out.IP.1 _ hg);omega
                        · rcases ρ.1 hg with rfl|hg
                          · have:=uZ.out.old _ uZ.out.IP.2;omega
                          · exact hS5 g rfl hg
                      have hgl:=(uZ.out.now.lt gn rfl).2;have r1:∀W,aa (Od.wr++ba::S.blk n) wc W->W.cell? ⟨gn,on,none⟩=some (.int .i64 (a:Int)):=fun W hW=>by rw [hW.cell hgl (fun hm=>hgn _ hm rfl)];exact hc0
                      have r2:∀W,aa (Od.wr++ba::S.blk n) wc W->W.cell? ⟨gn,on+1,none⟩=some (.int .i64 (b:Int)):=fun W hW=>by rw [hW.cell hgl (fun hm=>hgn _ hm rfl)];exact hc1
                      have kJ:=Qf Od bt ba lo n S q3 a b wc.drew (WW.ae (aa.refl [] _).drew) (Od.upd uZ.out.WS (aa.refl [] _).drew σ) Z8 WR hq3 hja hjb Ya XR hjne hjd Ye XB Zz;clear hcells
                      go_wp2_with fail
                      go_region_held3 (fun W=>aa (Od.wr++ba::S.blk n) wc W)
                        (first|assumption|exact (aa.refl _ _).drew|(have hS:=(by assumption:aa _ _ _);exact hS.alloc _))
                        (first
                          | ((go_at_call 205;(with_reducible refine (kJ).mono ?_));rintro e w2 ⟨v2,rfl,hF2,hL2,hu2,hg2⟩;have hS2:aa (Od.wr++ba::S.blk n) wc w2:=(aa.refl _ _).drew.trans hu2))
                      go_wp2_with fail
                      go_roundw
                      case rel=>
                        refine ⟨k+1,vb3,by go_num,ω,?_⟩;rw [Vh.out];exact uZ.out.WA hSf WW Zz Xn hS6 hF2 hL2 hS2 hg2
                      case measure=>simp [intOf];omega
                    | _::_::_::_,hf3,_,_,_=>simp at hf3;try omega
end Go.Proofs.YtklibcncmbofpaaGreat
namespace Go.Proofs.YtklibcncmbofpaaGreat
theorem qx:∀ (n:Nat) (l:List Int),l.Nodup->(∀x,x∈l->0<=x/\x<n)->l.length<=n
 | 0,l,_,h=>by
  cases l with
  | nil=>simp
  | cons x r=>have:=h x σ;omega
 | n+1,l,hn,h=>by
  have h1:=qx n (l.filter (fun x=>x != (n:Int))) (hn.filter _) (fun x hx=>by
   simp only [List.mem_filter] at hx;have:=h x hx.1;have h2:x≠n:=by simpa using hx.2
   omega)
  have h2:l.length<=(l.filter (fun x=>x != (n:Int))).length+1:=by
   clear h1 h
   induction l with
   | nil=>simp
   | cons y r ih=>
    rw [Ζ] at hn
    by_cases hy:y=n
    ·subst hy;have e:r.filter (fun x=>x != (n:Int))=r:=by
      rw [List.filter_eq_self];intro a ha;simp;intro e;subst e;exact hn.1 ha
     rw [List.filter_cons_of_neg σ,e];simp
    ·have:=ih hn.2;rw [List.filter_cons_of_pos (by simpa using hy)];simp only [Ω];omega
  omega
structure rY (n:Nat) (F:CF):Prop where
 wO:∀x,x<n->∀y,y∈F.k x->0<=y/\y<n/\F.u y.toNat=x
 nd:∀x,x<n->(F.k x).Nodup
 up:∀y,y<n->F.u y=-1\/∃p:Nat,p<n/\F.u y=p/\(y:Int)∈F.k p
 G9:∀x,x<n->∀i z,(F.k x)[i]?=some z->(F.k z.toNat).length=i
theorem Pm (n:Nat):rY n CS.none.f:=⟨fun x _ y hy=>(by cases hy),fun x _=>Ϩ,fun y _=>Α rfl,fun x _ i z h=>by simp [CS.none,CS.f] at h⟩
theorem rY.self {n:Nat} {F:CF} (h:rY n F) {x:Nat} (hx:x<n):(x:Int)∉F.k x:=fun hm=>by
 obtain ⟨i,hi,he⟩:=List.getElem_of_mem hm;have:=h.G9 x hx i x (by rw [ε hi,he]);simp at this;omega
theorem rY.len {n:Nat} {F:CF} (h:rY n F) {x:Nat} (hx:x<n):(F.k x).length+1<=n:=by
 have:=qx n ((x:Int)::F.k x) (List.nodup_cons.2 ⟨h.self hx,h.nd x hx⟩) (fun y hy=>by
  rcases ρ.1 hy with rfl|hy
  ·omega
  ·have:=h.wO x hx y hy;omega)
 simpa using this
theorem rY.link {n:Nat} {F:CF} (h:rY n F) {a b:Nat} (ha:a<n) (hb:b<n) (hne:a≠b) (ra:F.u a=-1) (rb:F.u b=-1) (hd:(F.k a).length=(F.k b).length):rY n (gq F a b):=by
 have nb:∀x,x<n->(b:Int)∉F.k x:=fun x hx hm=>by
  have:=(h.wO x hx b hm).2.2;simp at this;omega
 have na:∀x,x<n->(a:Int)∉F.k x:=fun x hx hm=>by
  have:=(h.wO x hx a hm).2.2;simp at this;omega
 refine ⟨fun x hx y hy=>?_,fun x hx=>?_,fun y hy=>?_,fun x hx i z hz=>?_⟩
 ·unfold gq at hy ⊢;simp only at hy ⊢
  split at hy
  ·rename_i e
   subst e;rcases τ.1 hy with hy|hy
   ·obtain ⟨h1,h2,h3⟩:=h.wO x hx y hy;refine ⟨h1,h2,?_⟩;rw [Γ (fun e=>by rw [e,rb] at h3;omega)];exact h3
   ·simp at hy;subst hy;exact ⟨ω,ω,σ⟩
  ·obtain ⟨h1,h2,h3⟩:=h.wO x hx y hy;refine ⟨h1,h2,?_⟩;rw [Γ (fun e=>by rw [e,rb] at h3;omega)];exact h3
 ·unfold gq;simp only
  split
  ·rw [θ];exact ⟨h.nd a ha,σ,fun y hy z hz e=>by simp at hz;subst hz;subst e;exact nb a ha hy⟩
  ·exact h.nd x hx
 ·unfold gq;simp only
  by_cases hyb:y=b
  ·subst hyb;exact Β ⟨a,ha,σ,σ⟩
  ·rw [Γ hyb];rcases h.up y hy with h1|⟨p,hp,h1,h2⟩
   ·exact Α h1
   ·refine Β ⟨p,hp,h1,?_⟩
    split
    ·rename_i e;subst e;exact τ.2 (Α h2)
    ·exact h2
 ·have kz:∀z,z∈F.k x->(gq F a b).k z.toNat=F.k z.toNat:=fun z hz=>by
   unfold gq;simp only
   rw [Γ (fun e=>by
    have:=h.wO x hx z hz
    exact na x hx (by rw [←e,show ((z.toNat:Nat):Int)=z by omega];exact hz))]
  have hz':=hz;unfold gq at hz';simp only at hz'
  split at hz'
  ·rename_i e
   subst e;rcases Ϙ i (F.k x).length with hi|hi
   ·rw [Ρ hi] at hz';rw [kz z (Η hz')];exact h.G9 x hx i z hz'
   ·have hil:i=(F.k x).length:=by
     have:=(List.getElem?_eq_some_iff.1 hz').1;simp at this;omega
    subst hil;rw [ϊ (Θ _)] at hz';simp at hz';subst hz';unfold gq;simp only [π];rw [Γ (fun e=>hne ω),hd]
  ·rw [kz z (Η hz')];exact h.G9 x hx i z hz'
def CC.L (C:CC):List Int:=C.A++(C.B++(C.N++C.O))
structure G (n ka kb kn ko:Nat) (C:CC):Prop where
 f:rY n C.F
 rt:∀x,x∈C.L->0<=x/\x<n/\C.F.u x.toNat=-1
 nd:C.L.Nodup
 a1:C.A.Pairwise (fun x y=>bU n C.F x<bU n C.F y)
 a2:∀x,x∈C.A->(ka:Int)<=bU n C.F x
 b1:C.B.Pairwise (fun x y=>bU n C.F x<bU n C.F y)
 b2:∀x,x∈C.B->(kb:Int)<=bU n C.F x
 n1:∀x,x∈C.N->bU n C.F x=kn
 o1:C.O.Pairwise (fun x y=>bU n C.F x<bU n C.F y)
 o2:∀x,x∈C.O->bU n C.F x<ko
theorem oD (n k:Nat) (C:CC):(takeA n k C).L.Perm C.L:=by
 obtain ⟨F,A,B,N,O,q⟩:=C;unfold takeA
 split
 ·rename_i x t h
  simp only at h;subst h
  split
  ·unfold CC.L;simp only;rw [List.perm_iff_count];intro y;simp [List.count_append,List.count_cons];omega
  ·exact ό _
 ·exact ό _
theorem o9 (n k:Nat) (C:CC):(takeB n k C).L.Perm C.L:=by
 obtain ⟨F,A,B,N,O,q⟩:=C;unfold takeB
 split
 ·rename_i x t h
  simp only at h;subst h
  split
  ·unfold CC.L;simp only;rw [List.perm_iff_count];intro y;simp [List.count_append,List.count_cons];omega
  ·exact ό _
 ·exact ό _
theorem oI (C:CC):(dQ C).L.Perm C.L:=by
 obtain ⟨F,A,B,N,O,q⟩:=C;unfold dQ
 split
 ·rename_i x h
  simp only at h;subst h;unfold CC.L;simp only;rw [List.perm_iff_count];intro y;simp [List.count_append,List.count_cons]
  try omega
 ·rename_i x y z h
  simp only at h;subst h;unfold CC.L;simp only;rw [List.perm_iff_count];intro y;simp [List.count_append,List.count_cons]
  try omega
 ·exact ό _
theorem JR (n k:Nat) (C:CC):(takeA n k C).F=C.F:=by unfold takeA;split;(split<;>rfl);rfl
theorem IX (n k:Nat) (C:CC):(takeB n k C).F=C.F:=by unfold takeB;split;(split<;>rfl);rfl
theorem Je (C:CC):(dQ C).F=C.F:=by unfold dQ;split<;>rfl
theorem Co {n k:Nat} {C:CC} (h:G n k k k k C):G n (k+1) k k k (takeA n k C):=by
 have hp:=oD n k C;have hF:=JR n k C;have rt:=fun x (hx:x∈(takeA n k C).L)=>h.rt x (hp.mem_iff.1 hx);have nd:=hp.nodup_iff.2 h.nd;have key:((takeA n k C).A.Pairwise (fun x y=>bU n C.F x<bU n C.F y))/\(∀x,x∈(takeA n k C).A->((k+1:Nat):Int)<=bU n C.F x)/\(takeA n k C).B=C.B/\(∀x,x∈(takeA n k C).N->bU n C.F x=k)/\(takeA n k C).O=C.O:=by
  obtain ⟨F,A,B,N,O,q⟩:=C;have a1:=h.a1;have a2:=h.a2;have n1:=h.n1;simp only at a1 a2 n1;unfold takeA;rcases A with _|⟨x,t⟩
  ·exact ⟨List.Pairwise.nil,fun x hx=>by (cases hx),rfl,n1,rfl⟩
  ·simp only;rw [ϛ] at a1;have hx:=a2 x σ
   split
   ·rename_i hd
    refine ⟨a1.2,fun y hy=>?_,rfl,fun y hy=>?_,rfl⟩
    ·have:=a1.1 y hy;omega
    ·simp only at hy;rcases τ.1 hy with hy|hy
     ·exact n1 y hy
     ·simp at hy;subst hy;exact hd
   ·rename_i hd
    refine ⟨List.pairwise_cons.2 a1,fun y hy=>?_,rfl,n1,rfl⟩;rcases ρ.1 hy with rfl|hy
    ·omega
    ·have:=a1.1 y hy;omega
 obtain ⟨k1,k2,k3,k4,k5⟩:=key;rw [←hF] at k1 k2 k4;exact ⟨by rw [hF];exact h.f,fun x hx=>by rw [hF];exact rt x hx,nd,k1,k2,by rw [k3,hF];exact h.b1,by rw [k3,hF];exact h.b2,k4,by rw [k5,hF];exact h.o1,by rw [k5,hF];exact h.o2⟩
theorem Da {n k:Nat} {C:CC} (h:G n (k+1) k k k C):G n (k+1) (k+1) k k (takeB n k C):=by
 have hp:=o9 n k C;have hF:=IX n k C;have rt:=fun x (hx:x∈(takeB n k C).L)=>h.rt x (hp.mem_iff.1 hx);have nd:=hp.nodup_iff.2 h.nd;have key:((takeB n k C).B.Pairwise (fun x y=>bU n C.F x<bU n C.F y))/\(∀x,x∈(takeB n k C).B->((k+1:Nat):Int)<=bU n C.F x)/\(takeB n k C).A=C.A/\(∀x,x∈(takeB n k C).N->bU n C.F x=k)/\(takeB n k C).O=C.O:=by
  obtain ⟨F,A,B,N,O,q⟩:=C;have a1:=h.b1;have a2:=h.b2;have n1:=h.n1;simp only at a1 a2 n1;unfold takeB;rcases B with _|⟨x,t⟩
  ·exact ⟨List.Pairwise.nil,fun x hx=>by (cases hx),rfl,n1,rfl⟩
  ·simp only;rw [ϛ] at a1;have hx:=a2 x σ
   split
   ·rename_i hd
    refine ⟨a1.2,fun y hy=>?_,rfl,fun y hy=>?_,rfl⟩
    ·have:=a1.1 y hy;omega
    ·simp only at hy;rcases τ.1 hy with hy|hy
     ·exact n1 y hy
     ·simp at hy;subst hy;exact hd
   ·rename_i hd
    refine ⟨List.pairwise_cons.2 a1,fun y hy=>?_,rfl,n1,rfl⟩;rcases ρ.1 hy with rfl|hy
    ·omega
    ·have:=a1.1 y hy;omega
 obtain ⟨k1,k2,k3,k4,k5⟩:=key;rw [←hF] at k1 k2 k4;exact ⟨by rw [hF];exact h.f,fun x hx=>by rw [hF];exact rt x hx,nd,by rw [k3,hF];exact h.a1,by rw [k3,hF];exact h.a2,k1,k2,k4,by rw [k5,hF];exact h.o1,by rw [k5,hF];exact h.o2⟩
theorem BV {n k:Nat} {C:CC} (h:G n (k+1) (k+1) k k C):G n (k+1) (k+1) k (k+1) (dQ C):=by
 have hp:=oI C;have hF:=Je C;have rt:=fun x (hx:x∈(dQ C).L)=>h.rt x (hp.mem_iff.1 hx);have nd:=hp.nodup_iff.2 h.nd;have key:(dQ C).A=C.A/\(dQ C).B=C.B/\(∀x,x∈(dQ C).N->x∈C.N)/\((dQ C).O=C.O\/∃x,x∈C.N/\(dQ C).O=C.O++[x]):=by
  unfold dQ
  split
  ·rename_i x hx
   exact ⟨rfl,rfl,fun y hy=>by (cases hy),Β ⟨x,by rw [hx];simp,rfl⟩⟩
  ·rename_i x y z hx
   exact ⟨rfl,rfl,fun u hu=>by rw [hx];exact Λ _ hu,Β ⟨x,by rw [hx];simp,rfl⟩⟩
  ·exact ⟨rfl,rfl,fun y hy=>hy,Α rfl⟩
 obtain ⟨k1,k2,k3,k4⟩:=key;refine ⟨by rw [hF];exact h.f,fun x hx=>by rw [hF];exact rt x hx,nd,by rw [k1,hF];exact h.a1,by rw [k1,hF];exact h.a2,by rw [k2,hF];exact h.b1,by rw [k2,hF];exact h.b2,fun x hx=>by rw [hF];exact h.n1 x (k3 x hx),?_,?_⟩
 ·rw [hF];rcases k4 with e|⟨x,hx,e⟩
  ·rw [e];exact h.o1
  ·rw [e,List.pairwise_append];exact ⟨h.o1,List.pairwise_singleton _ _,fun y hy z hz=>by simp at hz;subst hz;rw [h.n1 z hx];exact h.o2 y hy⟩
 ·rw [hF];intro y hy;rcases k4 with e|⟨x,hx,e⟩
  ·rw [e] at hy;have:=h.o2 y hy;omega
  ·rw [e] at hy;rcases τ.1 hy with hy|hy
   ·have:=h.o2 y hy;omega
   ·simp at hy;subst hy;rw [h.n1 y hx];omega
theorem y9 {C:CC} (h:C.N.length<=3):(dQ C).N=[]\/∃x y,(dQ C).N=[x,y]:=by
 obtain ⟨F,A,B,N,O,q⟩:=C;simp only at h
 match N,h with
 | [],_=>exact Α rfl
 | [x],_=>exact Α rfl
 | [x,y],_=>exact Β ⟨x,y,rfl⟩
 | [x,y,z],_=>exact Β ⟨y,z,rfl⟩
 | _::_::_::_::_,h=>simp at h;try omega
theorem gz (n:Nat) (F:CF) {x:Nat} (hx:x<n):bU n F x=(F.k x).length:=by unfold bU;rw [Δ ω];simp
theorem uH (n:Nat) (F:CF) {a b:Nat} (ha:a<n) (x:Int) (hx:0<=x/\x<n):bU n (gq F a b) x=if x=a then bU n F a+1 else bU n F x:=by
 obtain ⟨y,rfl⟩:=Int.eq_ofNat_of_zero_le hx.1;have hy:y<n:=ω;rw [gz _ _ hy,gz _ _ ha,gz _ _ hy];unfold gq;simp only
 by_cases e:y=a
 ·subst e;simp
 ·rw [Γ e,Γ ω]
theorem Ip {n k:Nat} {C:CC} (h:G n (k+1) (k+1) k (k+1) C) {x y:Int} (hN:C.N=[x,y]):∃a b:Nat,x=a/\y=b/\a<n/\b<n/\a≠b/\C.F.u a=-1/\C.F.u b=-1/\(C.F.k a).length=k/\(C.F.k b).length=k:=by
 have hx:=h.rt x (by unfold CC.L;rw [hN];simp);have hy:=h.rt y (by unfold CC.L;rw [hN];simp);have dx:=h.n1 x (by rw [hN];simp);have dy:=h.n1 y (by rw [hN];simp);obtain ⟨a,rfl⟩:=Int.eq_ofNat_of_zero_le hx.1;obtain ⟨b,rfl⟩:=Int.eq_ofNat_of_zero_le hy.1;have ha:a<n:=ω;have hb:b<n:=ω;rw [gz _ _ ha] at dx;rw [gz _ _ hb] at dy;refine ⟨a,b,rfl,rfl,ha,hb,fun e=>?_,by simpa using hx.2.2,by simpa using hy.2.2,ω,ω⟩;subst e;have:=h.nd;unfold CC.L at this;rw [hN] at this;rw [θ] at this;have:=this.2.1;rw [θ] at this;have:=this.2.1;simp at this
theorem Kw (lt:Int->Int->Bool) (a b:Nat):(iO lt a b=a/\lh lt a b=b)\/(iO lt a b=b/\lh lt a b=a):=by
 unfold iO lh
 split
 ·exact Β ⟨rfl,rfl⟩
 ·exact Α ⟨rfl,rfl⟩
theorem Vu {lt:Int->Int->Bool} {n k:Nat} {C:CC} (h:G n (k+1) (k+1) k (k+1) C) (hN:C.N=[]\/∃x y,C.N=[x,y]):G n (k+1) (k+1) (k+1) (k+1) (lD lt C)/\(lD lt C).N.length<=1/\(lD lt C).q+(lD lt C).L.length=C.q+C.L.length:=by
 rcases hN with hN|⟨x,y,hN⟩
 ·have e:lD lt C=C:=by unfold lD;rw [hN]
  rw [e];exact ⟨⟨h.f,h.rt,h.nd,h.a1,h.a2,h.b1,h.b2,fun x hx=>(by rw [hN] at hx;cases hx),h.o1,h.o2⟩,by rw [hN];simp,rfl⟩
 ·obtain ⟨a,b,rfl,rfl,ha,hb,hne,ra,rb,da,db⟩:=Ip h hN;have e:lD lt C={ C with F:=gq C.F (iO lt a b) (lh lt a b),N:=[(iO lt a b:Int)],q:=C.q+1 }:=by unfold lD;rw [hN];simp
  have hm:∀z,z∈C.A++(C.B++C.O)->z∈C.L/\z≠a/\z≠b:=fun z hz=>by
   have hnd:=h.nd;unfold CC.L at hnd ⊢;rw [hN] at hnd ⊢;have hp:(C.A++(C.B++([(a:Int),(b:Int)]++C.O))).Perm ((a:Int)::(b:Int)::(C.A++(C.B++C.O))):=by
    rw [List.perm_iff_count];intro y;simp [List.count_append,List.count_cons];omega
   have CZ:=hp.nodup_iff.1 hnd;rw [Ζ,Ζ] at CZ;refine ⟨hp.mem_iff.2 (Λ _ (Λ _ hz)),fun e=>?_,fun e=>?_⟩
   ·subst e;exact CZ.1 (Λ _ hz)
   ·subst e;exact CZ.2.1 hz
  have hmA:∀z,z∈C.A->z∈C.A++(C.B++C.O):=fun z hz=>by simp [hz]
  have Z5:∀z,z∈C.B->z∈C.A++(C.B++C.O):=fun z hz=>by simp [hz]
  have hmO:∀z,z∈C.O->z∈C.A++(C.B++C.O):=fun z hz=>by simp [hz]
  obtain ⟨hi,lo,ehi,elo,hhi,hlo,hne2,rhi,rlo,YX,dlo,Wt⟩:∃hi lo,iO lt a b=hi/\lh lt a b=lo/\hi<n/\lo<n/\hi≠lo/\C.F.u hi=-1/\C.F.u lo=-1/\(C.F.k hi).length=k/\(C.F.k lo).length=k/\((hi=a/\lo=b)\/(hi=b/\lo=a)):=by
   rcases Kw lt a b with ⟨h1,h2⟩|⟨h1,h2⟩
   ·exact ⟨a,b,h1,h2,ha,hb,hne,ra,rb,da,db,Α ⟨rfl,rfl⟩⟩
   ·exact ⟨b,a,h1,h2,hb,ha,Ne.symm hne,rb,ra,db,da,Β ⟨rfl,rfl⟩⟩
  have BL:∀z,z∈C.A++(C.B++C.O)->z≠(hi:Int)/\z≠(lo:Int):=fun z hz=>by
   have:=hm z hz;rcases Wt with ⟨rfl,rfl⟩|⟨rfl,rfl⟩
   ·exact this.2
   ·exact ⟨this.2.2,this.2.1⟩
  have Cg:∀z,z∈C.A++(C.B++C.O)->bU n (gq C.F hi lo) z=bU n C.F z:=fun z hz=>by
   have hr:=h.rt z (hm z hz).1;rw [uH n C.F hhi z ⟨hr.1,hr.2.1⟩,Γ (BL z hz).1]
  rw [e,ehi,elo];have hL:(CC.L { C with F:=gq C.F hi lo,N:=[(hi:Int)],q:=C.q+1 }).Perm ((hi:Int)::(C.A++(C.B++C.O))):=by
   unfold CC.L;simp only;rw [List.perm_iff_count];intro y;simp [List.count_append,List.count_cons];omega
  refine ⟨⟨h.f.link hhi hlo hne2 rhi rlo (by rw [YX,dlo]),fun z hz=>?_,hL.nodup_iff.2 (List.nodup_cons.2 ⟨fun hm2=>(BL _ hm2).1 rfl,?_⟩),?_,?_,?_,?_,?_,?_,?_⟩,σ,?_⟩
  ·rcases ρ.1 (hL.mem_iff.1 hz) with rfl|hz
   ·refine ⟨ω,ω,?_⟩;unfold gq;simp only [π];rw [Γ hne2];exact rhi
   ·have hr:=h.rt z (hm z hz).1;refine ⟨hr.1,hr.2.1,?_⟩;unfold gq;simp only;rw [Γ (fun e=>by have:=(BL z hz).2;omega)];exact hr.2.2
  ·have hnd:=h.nd;unfold CC.L at hnd;rw [hN] at hnd;have hp:(C.A++(C.B++([(a:Int),(b:Int)]++C.O))).Perm ((a:Int)::(b:Int)::(C.A++(C.B++C.O))):=by
    rw [List.perm_iff_count];intro y;simp [List.count_append,List.count_cons];omega
   have CZ:=hp.nodup_iff.1 hnd;rw [Ζ,Ζ] at CZ;exact CZ.2.2
  ·exact h.a1.imp_of_mem (fun {x y} hx hy hxy=>by rw [Cg x (hmA x hx),Cg y (hmA y hy)];exact hxy)
  ·intro x hx
   show _<=bU n (gq C.F hi lo) x
   rw [Cg x (hmA x hx)];exact h.a2 x hx
  ·exact h.b1.imp_of_mem (fun {x y} hx hy hxy=>by rw [Cg x (Z5 x hx),Cg y (Z5 y hy)];exact hxy)
  ·intro x hx
   show _<=bU n (gq C.F hi lo) x
   rw [Cg x (Z5 x hx)];exact h.b2 x hx
  ·intro x hx;simp at hx;subst hx
   show bU n (gq C.F hi lo) (hi:Int)=_
   rw [uH n C.F hhi hi ω,Δ rfl,gz n C.F hhi,YX];omega
  ·exact h.o1.imp_of_mem (fun {x y} hx hy hxy=>by rw [Cg x (hmO x hx),Cg y (hmO y hy)];exact hxy)
  ·intro x hx
   show bU n (gq C.F hi lo) x<_
   rw [Cg x (hmO x hx)];exact h.o2 x hx
  ·unfold CC.L;simp only [υ,Ω,List.length_nil,hN];omega
theorem E9 {lt:Int->Int->Bool} {n:Nat} {C0:CC} (h:G n 0 0 0 0 C0) (hN:C0.N=[]):∀k,G n k k k k (fD lt n k C0)/\(fD lt n k C0).N.length<=1/\(fD lt n k C0).q+(fD lt n k C0).L.length=C0.q+C0.L.length
 | 0=>⟨h,by rw [fD,hN];simp,rfl⟩
 | k+1=>by
  obtain ⟨g,h1,h2⟩:=E9 (lt:=lt) h hN k;have g1:=Co g;have g2:=Da g1;have g3:=BV g2;have t1:=(vM n k (fD lt n k C0)).2;have t2:=(vY n k (takeA n k (fD lt n k C0))).2;have ev:=y9 (C:=takeB n k (takeA n k (fD lt n k C0))) ω;obtain ⟨g4,h3,h4⟩:=Vu (lt:=lt) g3 ev;refine ⟨g4,h3,?_⟩;rw [fD];unfold Fq;rw [h4,Pf,(oI _).length_eq,(o9 _ _ _).length_eq,(oD _ _ _).length_eq];exact h2
def wt (n:Nat) (F:CF) (l:List Int):Nat:=(l.map (fun x=>2 ^ (bU n F x).toNat)).sum
theorem CU {n:Nat} {F:CF} {l m:List Int} (h:l.Perm m):wt n F l=wt n F m:=by
 unfold wt;exact (h.map _).sum_nat
theorem zt {n:Nat} {F F':CF} {l:List Int} (h:∀x,x∈l->bU n F x=bU n F' x):wt n F l=wt n F' l:=by
 unfold wt
 congr 1
 exact List.map_congr_left (fun x hx=>by rw [h x hx])
structure RI (lt:Int->Int->Bool) (n:Nat) (C0 C:CC):Prop where
 sub:∀x,x∈C.L->x∈C0.L
 out:∀x:Nat,(x:Int)∉C0.L->C.F.u x=C0.F.u x/\C.F.k x=C0.F.k x
 wt:wt n C.F C.L=wt n C0.F C0.L
 nl:∀y p:Nat,y<n->C.F.u y=p->C0.F.u y=p\/((y:Int)∈C0.L/\(p:Int)∈C0.L/\y≠p/\lt y p=false)
 ro:∀y:Nat,(y:Int)∈C0.L->(y:Int)∈C.L\/∃p:Nat,p<n/\C.F.u y=p
theorem RI.refl (lt:Int->Int->Bool) (n:Nat) (C:CC):RI lt n C C:=⟨fun x h=>h,fun x _=>⟨rfl,rfl⟩,rfl,fun y p _ h=>Α h,fun y h=>Α h⟩
theorem RI.trans {lt:Int->Int->Bool} {n:Nat} {A B C:CC} (h:RI lt n A B) (k:RI lt n B C):RI lt n A C:=
 ⟨fun x hx=>h.sub x (k.sub x hx),fun x hx=>by
  have h1:=h.out x hx;have h2:=k.out x (fun hm=>hx (h.sub _ hm));exact ⟨h2.1.trans h1.1,h2.2.trans h1.2⟩,k.wt.trans h.wt,fun y p hy hu=>by
  rcases k.nl y p hy hu with h1|⟨h1,h2,h3,h4⟩
  ·exact h.nl y p hy h1
  ·exact Β ⟨h.sub _ h1,h.sub _ h2,h3,h4⟩,fun y hy=>by
  by_cases hB:(y:Int)∈B.L
  ·exact k.ro y hB
  ·rcases h.ro y hy with h1|⟨p,hp,h1⟩
   ·exact absurd h1 hB
   ·exact Β ⟨p,hp,by rw [(k.out y hB).1];exact h1⟩⟩
theorem RI.perm {lt:Int->Int->Bool} {n:Nat} {C D:CC} (hp:D.L.Perm C.L) (hF:D.F=C.F):RI lt n C D:=
 ⟨fun x hx=>hp.mem_iff.1 hx,fun x _=>by rw [hF];exact ⟨rfl,rfl⟩,by rw [hF];exact CU hp,fun y p _ h=>by rw [hF] at h;exact Α h,fun y h=>Α (hp.mem_iff.2 h)⟩
theorem TH {lt:Int->Int->Bool} {n k:Nat} {C:CC} (has:∀a b,lt a b=true->lt b a=false) (h:G n (k+1) (k+1) k (k+1) C) (hN:C.N=[]\/∃x y,C.N=[x,y]):RI lt n C (lD lt C):=by
 rcases hN with hN|⟨x,y,hN⟩
 ·have e:lD lt C=C:=by unfold lD;rw [hN]
  rw [e];exact RI.refl _ _ _
 ·obtain ⟨a,b,rfl,rfl,ha,hb,hne,ra,rb,da,db⟩:=Ip h hN;have e:lD lt C={ C with F:=gq C.F (iO lt a b) (lh lt a b),N:=[(iO lt a b:Int)],q:=C.q+1 }:=by unfold lD;rw [hN];simp
  rw [e];obtain ⟨hi,lo,ehi,elo,hhi,hlo,hne2,YX,dlo,hah,Wt⟩:∃hi lo,iO lt a b=hi/\lh lt a b=lo/\hi<n/\lo<n/\hi≠lo/\(C.F.k hi).length=k/\(C.F.k lo).length=k/\lt lo hi=false/\((hi=a/\lo=b)\/(hi=b/\lo=a)):=by
   unfold iO lh
   by_cases hab:lt b a=true
   ·rw [Δ hab,Δ hab];exact ⟨b,a,rfl,rfl,hb,ha,Ne.symm hne,db,da,has _ _ hab,Β ⟨rfl,rfl⟩⟩
   ·rw [Γ hab,Γ hab];exact ⟨a,b,rfl,rfl,ha,hb,hne,da,db,by simpa using hab,Α ⟨rfl,rfl⟩⟩
  have MZ:C.L.Perm ((hi:Int)::(lo:Int)::(C.A++(C.B++C.O))):=by
   unfold CC.L;rw [hN,List.perm_iff_count];intro y;rcases Wt with ⟨rfl,rfl⟩|⟨rfl,rfl⟩<;>simp [List.count_append,List.count_cons]<;>omega
  have hL:(CC.L { C with F:=gq C.F hi lo,N:=[(hi:Int)],q:=C.q+1 }).Perm ((hi:Int)::(C.A++(C.B++C.O))):=by
   unfold CC.L;simp only;rw [List.perm_iff_count];intro y;simp [List.count_append,List.count_cons];omega
  have CZ:=MZ.nodup_iff.1 h.nd;rw [Ζ,Ζ] at CZ;rw [ehi,elo];refine ⟨fun x hx=>MZ.mem_iff.2 ?_,fun x hx=>?_,?_,fun y p hy hu=>?_,fun y hy=>?_⟩
  ·rcases ρ.1 (hL.mem_iff.1 hx) with rfl|hx
   ·simp
   ·exact Λ _ (Λ _ hx)
  ·unfold gq;simp only;rw [Γ (fun e=>hx (by subst e;exact MZ.mem_iff.2 σ)),Γ (fun e=>hx (by subst e;exact MZ.mem_iff.2 σ))];exact ⟨rfl,rfl⟩
  ·rw [CU hL,CU MZ];have hd:∀z,z∈C.A++(C.B++C.O)->bU n (gq C.F hi lo) z=bU n C.F z:=fun z hz=>by
    have hr:=h.rt z (MZ.mem_iff.2 (Λ _ (Λ _ hz)));rw [uH n C.F hhi z ⟨hr.1,hr.2.1⟩,Γ (fun e=>by subst e;exact CZ.1 (Λ _ hz))]
   have e1:=zt hd;have e2:bU n (gq C.F hi lo) (hi:Int)=(k:Int)+1:=by rw [uH n C.F hhi hi ω,Δ rfl,gz n C.F hhi,YX]
   have e3:bU n C.F (hi:Int)=(k:Int):=by rw [gz n C.F hhi,YX]
   have e4:bU n C.F (lo:Int)=(k:Int):=by rw [gz n C.F hlo,dlo]
   have:∀ (F:CF) (x:Int) (l:List Int),wt n F (x::l)=2 ^ (bU n F x).toNat + wt n F l:=fun F x l=>by unfold wt;simp
   rw [this,this,this,e1,e2,e3,e4];have e5:((k:Int)+1).toNat=k+1:=ω;rw [e5,π,Nat.pow_succ];omega
  ·unfold gq at hu;simp only at hu
   split at hu
   ·rename_i e
    subst e;obtain rfl:hi=p:=ω;exact Β ⟨MZ.mem_iff.2 σ,MZ.mem_iff.2 σ,Ne.symm hne2,hah⟩
   ·exact Α hu
  ·rcases ρ.1 (MZ.mem_iff.1 hy) with e|hy
   ·exact Α (hL.mem_iff.2 (by rw [e];simp))
   ·rcases ρ.1 hy with e|hy
    ·refine Β ⟨hi,hhi,?_⟩;unfold gq;simp only;rw [Δ ω]
    ·exact Α (hL.mem_iff.2 (Λ _ hy))
theorem Ib {lt:Int->Int->Bool} {n:Nat} {C0:CC} (has:∀a b,lt a b=true->lt b a=false) (h:G n 0 0 0 0 C0) (hN:C0.N=[]):∀k,RI lt n C0 (fD lt n k C0)
 | 0=>RI.refl _ _ _
 | k+1=>by
  obtain ⟨g,h1,h2⟩:=E9 (lt:=lt) h hN k;have g1:=Co g;have g2:=Da g1;have g3:=BV g2;have t1:=(vM n k (fD lt n k C0)).2;have t2:=(vY n k (takeA n k (fD lt n k C0))).2;have ev:=y9 (C:=takeB n k (takeA n k (fD lt n k C0))) ω;have r4:=TH has g3 ev;exact ((((Ib has h hN k).trans (RI.perm (oD n k _) (JR n k _))).trans (RI.perm (o9 n k _) (IX n k _))).trans (RI.perm (oI _) (Je _))).trans r4
theorem ZP {lt:Int->Int->Bool} {n:Nat} {C0:CC} {dom:Int->Prop} (has:∀a b,lt a b=true->lt b a=false) (VP:∀x,x∈C0.L->dom x) (h:G n 0 0 0 0 C0) (hN:C0.N=[]) (hn:n<=65536) (hq:C0.q<=900000) (k:Nat):IV dom lt n k (fD lt n k C0):=by
 obtain ⟨g,h1,h2⟩:=E9 (lt:=lt) h hN k;have hL0:C0.L.length<=n:=qx n _ h.nd (fun x hx=>by have:=h.rt x hx;omega);have hL:(fD lt n k C0).L.length<=n:=qx n _ g.nd (fun x hx=>by have:=g.rt x hx;omega);have hLL:(fD lt n k C0).L.length=(fD lt n k C0).A.length+((fD lt n k C0).B.length+((fD lt n k C0).N.length+(fD lt n k C0).O.length)):=by unfold CC.L;simp
 have dn:∀x,x∈(fD lt n k C0).L->bU n (fD lt n k C0).F x<=n:=fun x hx=>by
  have hr:=g.rt x hx;obtain ⟨y,rfl⟩:=Int.eq_ofNat_of_zero_le hr.1;have hy:y<n:=ω;rw [gz _ _ hy];have:=g.f.len hy;omega
 refine ⟨h1,fun x y hxy=>?_,ω,ω,fun hne=>?_⟩
 ·have g3:=BV (Da (Co g));obtain ⟨a,b,e1,e2,ha,hb,hab,ra,rb,da,db⟩:=Ip g3 hxy;have hsub:∀z,z∈(dQ (takeB n k (takeA n k (fD lt n k C0)))).L->dom z:=fun z hz=>VP z ((Ib has h hN k).sub z ((oD n k _).mem_iff.1 ((o9 n k _).mem_iff.1 ((oI _).mem_iff.1 hz))));have da':dom (a:Int):=by rw [←e1];exact hsub x (by unfold CC.L;rw [hxy];simp)
  have db':dom (b:Int):=by rw [←e2];exact hsub y (by unfold CC.L;rw [hxy];simp)
  refine ⟨a,b,e1,e2,da',db',ha,hb,hab,?_,?_,?_,g3.f.len ha,g3.f.len hb⟩
  ·unfold zw;rw [Ν ω];simp [ra]
  ·unfold zw;rw [Ν ω];simp [rb]
  ·rw [gz _ _ ha,gz _ _ hb,da,db]
 ·rcases hne with hne|hne|hne
  ·obtain ⟨x,t,e⟩:=List.exists_cons_of_ne_nil hne;have h3:=g.a2 x (by rw [e];simp);have h4:=dn x (by unfold CC.L;rw [e];simp);omega
  ·obtain ⟨x,t,e⟩:=List.exists_cons_of_ne_nil hne;have h3:=g.b2 x (by rw [e];simp);have h4:=dn x (by unfold CC.L;rw [e];simp);omega
  ·obtain ⟨x,t,e⟩:=List.exists_cons_of_ne_nil hne;have h3:=g.n1 x (by rw [e];simp);have h4:=dn x (by unfold CC.L;rw [e];simp);omega
end Go.Proofs.YtklibcncmbofpaaGreat
namespace Go.Proofs.YtklibcncmbofpaaGreat
open Go Go.RowKit
def jK (n:Nat) (F:CF) (l:List Int):Prop:=(∀x,x∈l->0<=x/\x<n/\F.u x.toNat=-1)/\l.Pairwise (fun x y=>bU n F x<bU n F y)
theorem Bl (n:Nat) (F:CF) (x:Int):zw n F x=true↔0<=x/\x<n/\F.u x.toNat=-1:=by
 unfold zw;simp only [Τ,Ο,beq_iff_eq];exact ⟨fun h=>⟨h.1.1,h.1.2,h.2⟩,fun h=>⟨⟨h.1,h.2.1⟩,h.2.2⟩⟩
theorem kV {l:List Int} {i:Nat} (h:i<l.length):l.getD i 0=l[i]:=by simp [φ,h]
theorem Fu (n:Nat) (S:CS) (l:List Int):Mc n S l=true↔jK n S.f l:=by
 unfold Mc ug rowOk;simp only [Vm,Ut];rw [List.all_eq_true];simp only [List.mem_range,Τ,Bool.or_eq_true,beq_iff_eq,Ο];constructor
 ·intro h;refine ⟨fun x hx=>?_,?_⟩
  ·obtain ⟨i,hi,rfl⟩:=List.getElem_of_mem hx;have:=(h i hi).1;rw [kV hi] at this;exact (Bl n S.f _).1 this
  ·rw [List.pairwise_iff_getElem];have key:∀ (d i:Nat) (hi:i<l.length) (hj:i+d+1<l.length),bU n S.f l[i]<bU n S.f l[i+d+1]:=fun d=>by
    induction d with
    | zero=>
     intro i hi hj;rcases (h (i+1) hj).2 with h2|h2
     ·omega
     ·rw [Nat.add_sub_cancel,kV hi,kV hj] at h2;exact Ϧ h2
    | succ d ih=>
     intro i hi hj;have h1:=ih i hi ω;rcases (h (i+d+1+1) ω).2 with h2|h2
     ·omega
     ·rw [Nat.add_sub_cancel,kV (show i+d+1<l.length by omega),kV (show i+d+1+1<l.length by omega)] at h2;exact Int.lt_trans h1 (Ϧ h2)
   intro i j hi hj hij;have:=key (j-i-1) i hi ω;simpa [show i+(j-i-1)+1=j by omega] using this
 ·rintro ⟨h1,h2⟩ i hi;refine ⟨?_,?_⟩
  ·rw [kV hi];exact (Bl n S.f _).2 (h1 _ (Ϝ hi))
  ·rcases Nat.eq_zero_or_pos i with h0|h0
   ·exact Α h0
   ·rw [kV hi,kV (show i-1<l.length by omega)];exact Β (Ν ((List.pairwise_iff_getElem.1 h2) (i-1) i ω hi ω))
theorem jK.nodup {n:Nat} {F:CF} {l:List Int} (h:jK n F l):l.Nodup:=h.2.imp (fun {a b} hab e=>by subst e;omega)
theorem any_false {A B:List Int}:A.any (fun x=>decide (x∈B))=false↔∀x,x∈A->x∉B:=by
 rw [List.any_eq_false];simp
theorem JW {n:Nat} {F:CF} {A B:List Int} {q:Nat} (f:rY n F) (hA:jK n F A) (hB:jK n F B) (hd:∀x,x∈A->x∉B):G n 0 0 0 0 ⟨F,A,B,[],[],q⟩:=by
 have d0:∀x,0<=bU n F x:=fun x=>by unfold bU;split<;>omega
 refine ⟨f,fun x hx=>?_,?_,hA.2,fun x _=>by simpa using d0 x,hB.2,fun x _=>by simpa using d0 x,fun x hx=>(by cases hx),List.Pairwise.nil,fun x hx=>(by cases hx)⟩
 ·unfold CC.L at hx;simp only [Υ,τ] at hx;rcases hx with hx|hx
  ·exact hA.1 x hx
  ·exact hB.1 x hx
 ·unfold CC.L;simp only [Υ];rw [θ];exact ⟨hA.nodup,hB.nodup,fun x hx y hy e=>by subst e;exact hd x hx hy⟩
def CC.done (C:CC):Prop:=C.A=[]/\C.B=[]/\C.N=[]
instance (C:CC):Decidable C.done:=by unfold CC.done;exact inferInstance
theorem step_done {lt:Int->Int->Bool} {n k:Nat} {C:CC} (h:C.done):Fq lt n k C=C:=by
 obtain ⟨F,A,B,N,O,q⟩:=C;obtain ⟨h1,h2,h3⟩:=h;simp only at h1 h2 h3;subst h1 h2 h3
 rfl
theorem yg {lt:Int->Int->Bool} {n k:Nat} {C0:CC} (h:(fD lt n k C0).done):∀j,fD lt n (k+j) C0=fD lt n k C0
 | 0=>rfl
 | j+1=>by
  have ih:=yg h j;rw [Nat.add_succ,fD,ih,step_done h]
theorem Qu {lt:Int->Int->Bool} {n k m:Nat} {C0:CC} (hk:(fD lt n k C0).done) (hm:(fD lt n m C0).done):fD lt n k C0=fD lt n m C0:=by
 rcases Nat.le_total k m with h|h
 ·have:=yg hk (m-k);rw [show k+(m-k)=m by omega] at this;exact this.symm
 ·have:=yg hm (k-m);rw [show m+(k-m)=k by omega] at this;exact this
def uL (lt:Int->Int->Bool) (n:Nat) (C0:CC) (F:CF) (O:List Int) (q:Nat):Prop:=∃k,fD lt n k C0=⟨F,[],[],[],O,q⟩
theorem uL.eq {lt:Int->Int->Bool} {n:Nat} {C0:CC} {F:CF} {O:List Int} {q:Nat} (h:uL lt n C0 F O q) {m:Nat} (hm:(fD lt n m C0).done):fD lt n m C0=⟨F,[],[],[],O,q⟩:=by
 obtain ⟨k,hk⟩:=h;rw [←hk];exact Qu hm (by rw [hk];exact ⟨rfl,rfl,rfl⟩)
structure FL (O:rT) (w:World) (bt ba lo n:Nat) (S:CS) (q:Nat):Prop where
 f:aV w bt ba lo n S
 l:O.at_ w q
 a:Apart O bt ba n S
 t:bt<w.heap.size
 ok:rY n S.f
theorem LF (O:rT) (bt ba lo n:Nat) (S:CS) (va vb:Value) (A B:List Int) (q:Nat) (w:World) (h:FL O w bt ba lo n S q)
  (ha:fO w (O.wr++ba::S.blk n) va A) (hb:fO w (O.wr++ba::S.blk n) vb B) (hA:jK n S.f A) (hB:jK n S.f B) (hd:∀x,x∈A->x∉B) (hq:q<=900000) (hdA:∀x,x∈A->O.dom x) (hdB:∀x,x∈B->O.dom x) :
  Calls Tryz.prog 194 #[.pointer (some ⟨bt,0,none⟩),.iface O.ty (.pointer (some ⟨O.p,0,none⟩)),va,vb] w fun e w'=>
   ∃S' vo X q',e=.returned (.tuple #[vo,.bool true])/\FL O w' bt ba lo n S' q'/\uL O.lt n ⟨S.f,A,B,[],[],q⟩ S'.f X q'/\G n 0 0 0 0 ⟨S.f,A,B,[],[],q⟩/\aZ w' w.heap.size vo X/\fO w' (O.wr++ba::S'.blk n) vo X/\aa (O.wr++ba::S.blk n) w w'/\(∀g,g∈S'.blk n->g∈S.blk n\/w.heap.size<=g)/\(∀g,vo.ownBlock=some g->g∉S'.blk n):=by
 have g0:=JW (q:=q) h.ok hA hB hd
 refine (Kr O bt ba lo n S va vb A B q w h.f h.l h.a h.t ha hb ((Fu n S A).2 hA) ((Fu n S B).2 hB) (any_false.2 hd) (ZP O.asym (fun x hx=>by
  have e:CC.L ⟨S.f,A,B,[],[],q⟩=A++B:=by unfold CC.L;simp
  rw [e] at hx;rcases τ.1 hx with hx|hx
  ·exact hdA x hx
  ·exact hdB x hx) g0 rfl h.f.le hq)).mono ?_
 rintro e w' ⟨k,vn,Yy,Ux,vo,rfl,hM,e1,e2,e3⟩;have gk:=(E9 (lt:=O.lt) g0 rfl k).1;generalize hC:fD O.lt n k ⟨S.f,A,B,[],[],q⟩=C at *;obtain ⟨F,A1,B1,N1,O1,q1⟩:=C;simp only at e1 e2 e3;subst e1 e2 e3;obtain ⟨S',hS,hF,Zz,h4,h5,h6⟩:=hM.sP;simp only at hS;subst hS;have xA:=hM.old _ hM.IP.2;have hlt2:=hF.M9;have hblk:∀g,g∈S'.blk n->g∈S.blk n\/w.heap.size<=g:=fun g hg=>by
  rcases h4 g hg with h'|h'
  ·rcases τ.1 h' with h'|h'
   ·exact absurd (O.sub _ h') (Zz.blk g hg)
   ·rcases ρ.1 h' with rfl|h'
    ·have:=(hF.mi hg).1;omega
    ·exact Α h'
  ·exact Β ω
 refine ⟨S',vo,O1,q1,rfl,⟨hF,hM.WS,Zz,Ψ h.t hM.upd.size,gk.f⟩,⟨k,hC⟩,g0,hM.out.mono ω,?_,hM.upd,hblk,h6⟩;obtain ⟨a,cap,rfl,h1,h2,h3⟩:=hM.out.shape;refine ⟨a,cap,rfl,h1,h2,fun j u hj=>?_⟩;obtain ⟨g,off,rfl,hc⟩:=h3 j u hj;have hg:=hM.out.lt g rfl;refine ⟨g,off,rfl,hg.2,fun hm=>?_,hc⟩;rcases τ.1 hm with hm|hm
 ·have:=hM.k0 _ (O.sub _ hm);omega
 ·rcases ρ.1 hm with rfl|hm
  ·omega
  ·exact h6 g rfl hm
structure BN (lt:Int->Int->Bool) (n:Nat) (F:CF) (A B:List Int) (q:Nat) (F':CF) (O:List Int) (q':Nat):Prop where
 row:jK n F' O
 ok:rY n F'
 cnt:q'+O.length=q+(A.length+B.length)
 sub:∀x,x∈O->x∈A\/x∈B
 out:∀x:Nat,(x:Int)∉A->(x:Int)∉B->F'.u x=F.u x/\F'.k x=F.k x
 wt:wt n F' O=wt n F A+wt n F B
 nl:∀y p:Nat,y<n->F'.u y=p->F.u y=p\/(((y:Int)∈A\/(y:Int)∈B)/\((p:Int)∈A\/(p:Int)∈B)/\y≠p/\lt y p=false)
 ro:∀y:Nat,((y:Int)∈A\/(y:Int)∈B)->(y:Int)∈O\/∃p:Nat,p<n/\F'.u y=p
theorem carried {lt:Int->Int->Bool} (has:∀a b,lt a b=true->lt b a=false) {n:Nat} {F:CF} {A B:List Int} {q:Nat} {F':CF} {O:List Int} {q':Nat} (g:G n 0 0 0 0 ⟨F,A,B,[],[],q⟩) (h:uL lt n ⟨F,A,B,[],[],q⟩ F' O q'):BN lt n F A B q F' O q':=by
 obtain ⟨k,hk⟩:=h;have g1:=E9 (lt:=lt) g rfl k;have r:=Ib has g rfl k;rw [hk] at g1 r;obtain ⟨g1,_,g2⟩:=g1;have eL:CC.L ⟨F',[],[],[],O,q'⟩=O:=by unfold CC.L;simp
 have eL0:CC.L ⟨F,A,B,[],[],q⟩=A++B:=by unfold CC.L;simp
 have s:=r.sub;have o:=r.out;have w:=r.wt;rw [eL] at s w g2;rw [eL0] at s o w g2;refine ⟨⟨fun x hx=>g1.rt x (by rw [eL];exact hx),g1.o1⟩,g1.f,by simpa using g2,fun x hx=>by simpa using s x hx,fun x h1 h2=>o x (by simp;exact ⟨h1,h2⟩),?_,fun y p hy hu=>by have:=r.nl y p hy hu;rw [eL0] at this;simpa using this,fun y hy=>by have:=r.ro y (by rw [eL0];simpa using hy);rw [eL] at this;exact this⟩;rw [w];unfold wt;simp
end Go.Proofs.YtklibcncmbofpaaGreat
namespace Go.Proofs.YtklibcncmbofpaaGreat
theorem rY.split {n:Nat} {S:CS} (h:rY n S.f) {x:Nat} (hx:x<n) (hr:S.u x=-1):rY n (fP S x).f:=by
 have nx:∀z,z<n->(x:Int)∉S.k z:=fun z hz hm=>by
  have:=(h.wO z hz _ hm).2.2;rw [π] at this;have e:S.f.u x=S.u x:=rfl;omega
 have uk:∀y z,y<n->z<n->(y:Int)∈S.k z->S.u y=z:=fun y z hy hz hm=>by
  have:=(h.wO z hz _ hm).2.2;rwa [π] at this
 refine ⟨fun z hz y hy=>?_,fun z hz=>?_,fun y hy=>?_,fun z hz i w hw=>?_⟩
 ·show 0<=y/\y<n/\(if ((y.toNat:Nat):Int)∈S.k x then (-1:Int) else S.u y.toNat)=z
  have hy':y∈(if z=x then ([]:List Int) else S.k z):=hy
  by_cases e:z=x
  ·rw [Δ e] at hy';cases hy'
  ·rw [Γ e] at hy';obtain ⟨h1,h2,h3⟩:=h.wO z hz y hy';refine ⟨h1,h2,?_⟩;rw [Γ (fun hm=>?_)]
   ·exact h3
   ·have:=uk y.toNat x ω hx hm;have e3:S.f.u y.toNat=S.u y.toNat:=rfl;omega
 ·show (if z=x then ([]:List Int) else S.k z).Nodup
  split
  ·exact Ϩ
  ·exact h.nd z hz
 ·show (if (y:Int)∈S.k x then (-1:Int) else S.u y)=-1\/∃p:Nat,p<n/\(if (y:Int)∈S.k x then (-1:Int) else S.u y)=p/\(y:Int)∈(if p=x then ([]:List Int) else S.k p)
  by_cases hm:(y:Int)∈S.k x
  ·rw [Δ hm];exact Α rfl
  ·rw [Γ hm];rcases h.up y hy with h1|⟨p,hp,h1,h2⟩
   ·exact Α h1
   ·refine Β ⟨p,hp,h1,?_⟩;rw [Γ (fun e=>by subst e;exact hm h2)];exact h2
 ·have hw':(if z=x then ([]:List Int) else S.k z)[i]?=some w:=hw
  show (if w.toNat=x then ([]:List Int) else S.k w.toNat).length=i
  by_cases e:z=x
  ·rw [Δ e] at hw';simp at hw'
  ·rw [Γ e] at hw';have hm:=Η hw';have hr:=h.wO z hz w hm;rw [Γ (fun e2=>nx z hz (by rw [←e2,show ((w.toNat:Nat):Int)=w by omega];exact hm))];exact h.G9 z hz i w hw'
structure FH (n:Nat) (F:CF) (bZ:Nat->Int) (L:Nat->Nat->Prop):Prop where
 f:rY n F
 home:∀y p:Nat,y<n->F.u y=p->bZ y=bZ p/\0<bZ y
 ord:∀y p:Nat,y<n->F.u y=p->L p y
 alone:∀y:Nat,y<n->¬0<bZ y->F.u y=-1/\F.k y=[]
theorem rY.above {n:Nat} {F:CF} (h:rY n F) {y p:Nat} (hy:y<n) (hu:F.u y=p):p<n/\(y:Int)∈F.k p:=by
 rcases h.up y hy with h1|⟨q,hq,h1,h2⟩
 ·omega
 ·obtain rfl:q=p:=ω;exact ⟨hq,h2⟩
theorem rY.below {n:Nat} {F:CF} (h:rY n F) {p:Nat} (hp:p<n) {z:Int} (hz:z∈F.k p):∃y:Nat,z=y/\y<n/\F.u y=p/\(F.k y).length<(F.k p).length:=by
 obtain ⟨r1,r2,r3⟩:=h.wO p hp z hz;obtain ⟨i,hi,he⟩:=List.getElem_of_mem hz;have hc:=h.G9 p hp i z (by rw [ε hi,he]);obtain ⟨y,rfl⟩:=Int.eq_ofNat_of_zero_le r1;rw [π] at r3 hc;exact ⟨y,rfl,ω,r3,ω⟩
theorem rY.udeg {n:Nat} {F:CF} (h:rY n F) {y p:Nat} (hy:y<n) (hu:F.u y=p):(F.k y).length<(F.k p).length:=by
 obtain ⟨h1,h2⟩:=h.above hy hu;obtain ⟨z,e,_,_,hd⟩:=h.below h1 h2;obtain rfl:y=z:=ω;exact hd
theorem jK.ext {n:Nat} {F F':CF} {l:List Int} (h:jK n F l) (e:∀x,x∈l->F'.u x.toNat=F.u x.toNat/\F'.k x.toNat=F.k x.toNat):jK n F' l:=by
 refine ⟨fun x hx=>?_,h.2.imp_of_mem (fun {a b} ha hb hab=>?_)⟩
 ·have:=h.1 x hx;exact ⟨this.1,this.2.1,by rw [(e x hx).1];exact this.2.2⟩
 ·unfold bU at hab ⊢;rw [(e a ha).2,(e b hb).2];exact hab
theorem R7 {n:Nat} {F F':CF} {x:Int} (e:F'.k x.toNat=F.k x.toNat):bU n F' x=bU n F x:=by unfold bU;rw [e]
theorem QE {n:Nat} {F:CF} {bZ:Nat->Int} {L:Nat->Nat->Prop} {lt:Int->Int->Bool} {h:Int} {A0 B0:List Int} {q:Nat} {F':CF} {O:List Int} {q':Nat} (H:FH n F bZ L)
  (hL:∀y p:Nat,y<n->p<n->bZ y=h->bZ p=h->y≠p->lt y p=false->L p y) (h1:1<=h)
  (m:∀y:Nat,y<n/\F.u y=-1/\bZ y=h↔(y:Int)∈A0\/(y:Int)∈B0) (C:BN lt n F A0 B0 q F' O q') :
  FH n F' bZ L/\(∀y:Nat,(y:Int)∈O↔y<n/\F'.u y=-1/\bZ y=h)/\(∀y:Nat,y<n->bZ y≠h->F'.u y=F.u y/\F'.k y=F.k y):=by
 have far:∀y:Nat,y<n->bZ y≠h->F'.u y=F.u y/\F'.k y=F.k y:=fun y hy hh=>C.out y (fun hm=>hh ((m y).2 (Α hm)).2.2) (fun hm=>hh ((m y).2 (Β hm)).2.2);have key:∀y p:Nat,y<n->F'.u y=p->F.u y=p\/(y<n/\p<n/\bZ y=h/\bZ p=h/\y≠p/\lt y p=false):=fun y p hy hu=>by
  rcases C.nl y p hy hu with e|⟨k1,k2,k3,k4⟩
  ·exact Α e
  ·have a1:=(m y).2 k1;have a2:=(m p).2 k2;exact Β ⟨hy,a2.1,a1.2.2,a2.2.2,k3,k4⟩
 refine ⟨⟨C.ok,fun y p hy hu=>?_,fun y p hy hu=>?_,fun y hy hh=>?_⟩,fun y=>⟨fun hm=>?_,fun hm=>?_⟩,far⟩
 ·rcases key y p hy hu with e|⟨_,_,k1,k2,_,_⟩
  ·exact H.home y p hy e
  ·rw [k1,k2];exact ⟨rfl,ω⟩
 ·rcases key y p hy hu with e|⟨k0,kp,k1,k2,k3,k4⟩
  ·exact H.ord y p hy e
  ·exact hL y p k0 kp k1 k2 k3 k4
 ·have:=far y hy ω;rw [this.1,this.2];exact H.alone y hy hh
 ·have r:=C.row.1 _ hm;have a:=(m y).2 (C.sub _ hm);exact ⟨a.1,by simpa using r.2.2,a.2.2⟩
 ·obtain ⟨hy,hu,hh⟩:=hm
  by_cases hAB:(y:Int)∈A0\/(y:Int)∈B0
  ·rcases C.ro y hAB with h2|⟨p,hp,h2⟩
   ·exact h2
   ·omega
  ·have h2:=C.out y (fun h=>hAB (Α h)) (fun h=>hAB (Β h));exact absurd ((m y).1 ⟨hy,by rw [←h2.1];exact hu,hh⟩) hAB
structure BG where
 F:CF
 R:Nat->List Int
structure RH (n:Nat) (G:BG) (bZ:Nat->Int):Prop where
 row:∀h,jK n G.F (G.R h)
 mem:∀h y:Nat,(y:Int)∈G.R h↔1<=h/\y<n/\G.F.u y=-1/\bZ y=h
def BG.none:BG:=⟨CS.none.f,fun _=>[]⟩
def dw (R:Nat->List Int) (h:Nat) (l:List Int):Nat->List Int:=fun k=>if k=h then l else R k
def jy (lt:Int->Int->Bool) (n:Nat) (F:CF) (A B:List Int):CC:=fD lt n (n+1) ⟨F,A,B,[],[],0⟩
theorem Dy {lt:Int->Int->Bool} {n:Nat} {F:CF} {A B:List Int} (g:G n 0 0 0 0 ⟨F,A,B,[],[],0⟩) (has:∀a b,lt a b=true->lt b a=false) (hn:n<=65536):(jy lt n F A B).done:=by
 have r:=ZP (dom:=fun _=>True) has (fun x hx=>trivial) g rfl hn (Nat.zero_le _) (n+1);unfold jy CC.done;refine ⟨?_,?_,?_⟩
 all_goals
  apply ϝ;intro hne;have:=r.ends (by first|exact Α hne|exact Β (Α hne)|exact Β (Β hne));omega
theorem VJ {lt:Int->Int->Bool} {n:Nat} {F:CF} {A B:List Int} {F':CF} {O:List Int} {q:Nat} (g:G n 0 0 0 0 ⟨F,A,B,[],[],0⟩) (has:∀a b,lt a b=true->lt b a=false) (hn:n<=65536) (h:uL lt n ⟨F,A,B,[],[],0⟩ F' O q) :
  (jy lt n F A B).F=F'/\(jy lt n F A B).O=O/\(jy lt n F A B).q=q:=by
 have:=h.eq (m:=n+1) (Dy g has hn);unfold jy;rw [this];exact ⟨rfl,rfl,rfl⟩
theorem UL {lt:Int->Int->Bool} {n:Nat} {F:CF} {A B:List Int} (g:G n 0 0 0 0 ⟨F,A,B,[],[],0⟩) (has:∀a b,lt a b=true->lt b a=false) (hn:n<=65536):BN lt n F A B 0 (jy lt n F A B).F (jy lt n F A B).O (jy lt n F A B).q:=by
 refine carried has g ⟨n+1,?_⟩;obtain ⟨h1,h2,h3⟩:=Dy g has hn;unfold jy at *;generalize fD lt n (n+1) ⟨F,A,B,[],[],0⟩=C at *;obtain ⟨F1,A1,B1,N1,O1,q1⟩:=C;simp only at h1 h2 h3;subst h1 h2 h3
 rfl
def wN (lt:Int->Int->Bool) (n h:Nat) (l:List Int) (G:BG):BG:=⟨(jy lt n G.F (G.R h) l).F,dw G.R h (jy lt n G.F (G.R h) l).O⟩
theorem Bi {n:Nat} {G:BG} {bZ:Nat->Int} {L:Nat->Nat->Prop} {lt:Int->Int->Bool} {h:Nat} {l:List Int} (H:FH n G.F bZ L) (hn:n<=65536) (has:∀a b,lt a b=true->lt b a=false)
  (hL:∀y p:Nat,y<n->p<n->bZ y=h->bZ p=h->y≠p->lt y p=false->L p y) (h1:1<=h)
  (hrow:∀k,jK n G.F (G.R k)) (hmem:∀k y:Nat,k≠h->((y:Int)∈G.R k↔1<=k/\y<n/\G.F.u y=-1/\bZ y=k))
  (m:∀y:Nat,y<n/\G.F.u y=-1/\bZ y=h↔(y:Int)∈G.R h\/(y:Int)∈l) (hl:jK n G.F l) (hd:∀x,x∈G.R h->x∉l) :
  FH n (wN lt n h l G).F bZ L/\RH n (wN lt n h l G) bZ/\(∀k,wt n (wN lt n h l G).F ((wN lt n h l G).R k)=if k=h then wt n G.F (G.R h)+wt n G.F l else wt n G.F (G.R k))/\
   (jy lt n G.F (G.R h) l).q+((wN lt n h l G).R h).length=(G.R h).length+l.length:=by
 have g:=JW (q:=0) H.f (hrow h) hl hd;have C:=UL g has hn;obtain ⟨h2,h3,h4⟩:=QE H hL ω m C;have far:∀k:Nat,k≠h->∀x,x∈G.R k->(jy lt n G.F (G.R h) l).F.u x.toNat=G.F.u x.toNat/\(jy lt n G.F (G.R h) l).F.k x.toNat=G.F.k x.toNat:=fun k hk x hx=>by
  have hr:=(hrow k).1 x hx;have:=(hmem k x.toNat hk).1 (by rw [show ((x.toNat:Nat):Int)=x by omega];exact hx);exact h4 x.toNat this.2.1 ω
 unfold wN;refine ⟨h2,⟨fun k=>?_,fun k y=>?_⟩,fun k=>?_,?_⟩
 ·simp only [dw]
  split
  ·exact C.row
  ·rename_i hk
   exact (hrow k).ext (far k hk)
 ·simp only [dw]
  split
  ·rename_i hk
   subst hk;rw [h3 y];exact ⟨fun a=>⟨h1,a⟩,fun a=>a.2⟩
  ·rename_i hk
   rw [hmem k y hk];constructor
   ·rintro ⟨a1,a2,a3,a4⟩;exact ⟨a1,a2,by rw [(h4 y a2 ω).1];exact a3,a4⟩
   ·rintro ⟨a1,a2,a3,a4⟩;exact ⟨a1,a2,by rw [←(h4 y a2 ω).1];exact a3,a4⟩
 ·simp only [dw]
  split
  ·exact C.wt
  ·rename_i hk
   exact zt (fun x hx=>R7 (far k hk x hx).2)
 ·simp only [dw,if_true];have:=C.cnt;omega
theorem JX:∀d:Nat,((List.range d).map (fun i=>2 ^ i)).sum+1=2 ^ d
 | 0=>rfl
 | d+1=>by
  have ih:=JX d;rw [List.range_succ,List.map_append,List.sum_append,Nat.pow_succ];simp only [List.map_cons,List.map_nil,List.sum_cons,List.sum_nil];omega
def dM (F:CF) (x:Nat):CF:=⟨fun y=>if y=x then [] else F.k y,fun y=>if (y:Int)∈F.k x then -1 else F.u y⟩
theorem xu (S:CS) (x:Nat):(fP S x).f=dM S.f x:=rfl
theorem RF {n:Nat} {F:CF} (ok:rY n F) {x:Nat} (hx:x<n) {F':CF} (e:∀z,z∈F.k x->bU n F' z=bU n F z):wt n F' (F.k x)+1=2 ^ (F.k x).length:=by
 rw [←JX]
 congr 1
 rw [zt e];unfold wt
 congr 1
 apply List.ext_getElem σ;intro i h1 h2;rw [List.getElem_map,List.getElem_map,List.getElem_range];have hi:i<(F.k x).length:=by simpa using h1
 have hm:(F.k x)[i]∈F.k x:=Ϝ hi;have hc:=ok.G9 x hx i _ (ε hi);have hr:=ok.wO x hx _ hm;unfold bU;rw [Δ ⟨hr.1,hr.2.1⟩,hc];simp
theorem Nh {n:Nat} {F:CF} (ok:rY n F) {x:Nat} (hx:x<n) {F':CF} (e:∀z,z∈F.k x->bU n F' z=bU n F z) (u:∀z,z∈F.k x->F'.u z.toNat=-1):jK n F' (F.k x):=by
 refine ⟨fun z hz=>⟨(ok.wO x hx z hz).1,(ok.wO x hx z hz).2.1,u z hz⟩,?_⟩;rw [List.pairwise_iff_getElem];intro i j hi hj hij;have d:∀i (hi:i<(F.k x).length),bU n F' (F.k x)[i]=i:=fun i hi=>by
  have hm:(F.k x)[i]∈F.k x:=Ϝ hi;have hc:=ok.G9 x hx i _ (ε hi);have hr:=ok.wO x hx _ hm;rw [e _ hm];unfold bU;rw [Δ ⟨hr.1,hr.2.1⟩,hc]
 rw [d i hi,d j hj];omega
theorem rY.NK {n:Nat} {F:CF} (h:rY n F) {x:Nat} (hx:x<n) (hr:F.u x=-1):rY n (dM F x):=by
 have:=rY.split (n:=n) (S:=⟨fun _=>.slice none 0 0,F.k,F.u⟩) h hx hr;exact this
structure FV (A:NS) (G:BG):Prop where
 fh:FH A.cs.length G.F (fun y=>(A.c y).i) (eU A)
 rh:RH A.cs.length G (fun y=>(A.c y).i)
 w:∀h:Nat,1<=h->wt A.cs.length G.F (G.R h)=dG A h
structure BnX (A:NS) (G:BG) (x:Nat):Prop where
 fh:FH A.cs.length G.F (fun y=>(A.c y).i) (fun p y=>y≠x->p≠x->eU A p y)
 two:∀p c:Nat,c<A.cs.length->G.F.u x=p->G.F.u c=x->eU A p c
 rh:RH A.cs.length G (fun y=>(A.c y).i)
 w:∀h:Nat,1<=h->wt A.cs.length G.F (G.R h)=dG A h
theorem FV.x {A:NS} {G:BG} (h:FV A G) {x:Nat} (hx:x<A.cs.length):BnX A G x:=
 ⟨⟨h.fh.f,h.fh.home,fun y p hy hu _ _=>h.fh.ord y p hy hu,h.fh.alone⟩,fun p c hc h1 h2=>dB (h.fh.ord x p hx h1) (h.fh.ord c x hc h2),h.rh,h.w⟩
section
variable {n:Nat} {F:CF}
theorem JM (h:rY n F) {x y:Nat} (hx:x<n) (hy:y<n):(y:Int)∈F.k x↔F.u y=x:=by
 constructor
 ·intro hm;obtain ⟨z,e,_,h2,_⟩:=h.below hx hm;obtain rfl:y=z:=ω;exact h2
 ·intro hu;exact (h.above hy hu).2
end
theorem mY (A:NS) (a b:Int) (h:bL A a b=true):bL A b a=false:=by
 unfold bL at *;simp only [Τ,Ο] at h;have:=qy h.2;simp [this]
theorem yR {A:NS} {y p:Nat} (hy:bV A (y:Int)=true) (hp:bV A (p:Int)=true) (hne:y≠p) (h:bL A y p=false):eU A p y:=by
 rw [jW,hy,hp] at h;simp only [Bool.and_self,Bool.true_and,decide_eq_false_iff_not] at h;exact (jQ hne).resolve_left h
def gK (G:BG) (h x:Nat):BG:=⟨dM G.F x,dw G.R h ((G.R h).filter (fun z=>z != (x:Int)))⟩
def pK (A:NS) (h x:Nat) (G:BG):BG:=wN (bL A) A.cs.length h (G.F.k x) (gK G h x)
def wE (A:NS) (h x:Nat) (G:BG):Nat:=(jy (bL A) A.cs.length (gK G h x).F ((gK G h x).R h) (G.F.k x)).q
theorem Ir {l:List Int} (hn:l.Nodup) {x:Int} (hx:x∈l):(l.filter (fun z=>z != x)).length+1=l.length:=by
 induction l with
 | nil=>cases hx
 | cons y r ih=>
  rw [Ζ] at hn;rcases ρ.1 hx with e|h
  ·subst e;have:r.filter (fun z=>z != x)=r:=by
    rw [List.filter_eq_self];intro a ha;simp;intro e;subst e;exact hn.1 ha
   rw [List.filter_cons_of_neg σ,this];simp
  ·have hne:y≠x:=fun e=>by subst e;exact hn.1 h
   rw [List.filter_cons_of_pos (by simpa using hne)];have:=ih hn.2 h;simp only [Ω];omega
theorem KJ {n:Nat} {F:CF} {l:List Int} (hn:l.Nodup) {x:Int} (hx:x∈l):wt n F (l.filter (fun z=>z != x))+2 ^ (bU n F x).toNat=wt n F l:=by
 have hc:∀ (y:Int) (l:List Int),wt n F (y::l)=2 ^ (bU n F y).toNat + wt n F l:=fun y l=>by unfold wt;simp
 induction l with
 | nil=>cases hx
 | cons y r ih=>
  rw [Ζ] at hn;rcases ρ.1 hx with e|h
  ·subst e;have:r.filter (fun z=>z != x)=r:=by
    rw [List.filter_eq_self];intro a ha;simp;intro e;subst e;exact hn.1 ha
   rw [List.filter_cons_of_neg σ,this,hc];omega
  ·have hne:y≠x:=fun e=>by subst e;exact hn.1 h
   rw [List.filter_cons_of_pos (by simpa using hne),hc,hc];have:=ih hn.2 h;omega
section
variable {A:NS} {G:BG} {h x:Nat}
theorem I8 (B:BnX A G x) (ok:A.Ok) (hx:x<A.cs.length) (hr:G.F.u x=-1) (hin:0<(A.c x).i) (hh:(A.c x).i=h) :
  FV (aN A x) (pK A h x G)/\wE A h x G+((pK A h x G).R h).length+1=(G.R h).length+(G.F.k x).length/\(x:Int)∈G.R h/\
   jK A.cs.length (dM G.F x) ((G.R h).filter (fun z=>z != (x:Int)))/\jK A.cs.length (dM G.F x) (G.F.k x)/\(∀z,z∈(G.R h).filter (fun z=>z != (x:Int))->z∉G.F.k x)/\rY A.cs.length (dM G.F x)/\
   (∀z,z∈G.R h\/z∈G.F.k x->bV A z=true):=by
 have zH:1<=h:=ω;have hn:=ok.c1;have WY:bV A (x:Int)=true:=(aj _ _).2 ⟨hx,hin⟩;have hc:=fun y=>pY WY y;have hcs:=dm A (x:Int);have dn:=B.fh.f.nd x hx;have ku:∀z,z∈G.F.k x->∃y:Nat,z=y/\y<A.cs.length/\G.F.u y=x:=fun z hz=>by
  obtain ⟨y,h1,h2,h3,_⟩:=B.fh.f.below hx hz;exact ⟨y,h1,h2,h3⟩
 have sx:(x:Int)∉G.F.k x:=B.fh.f.self hx;have dS:∀z:Int,z≠x->bU A.cs.length (dM G.F x) z=bU A.cs.length G.F z:=fun z hz=>by
  unfold bU dM;simp only
  by_cases h0:0<=z/\z<A.cs.length
  ·rw [Δ h0,Δ h0,Γ ω]
  ·rw [Γ h0,Γ h0]
 have uS:∀z:Int,0<=z->G.F.u z.toNat=-1->(dM G.F x).u z.toNat=-1:=fun z h0 hu=>by
  unfold dM;simp only
  split
  ·rfl
  ·exact hu
 have kU:∀z,z∈G.F.k x->(dM G.F x).u z.toNat=-1:=fun z hz=>by
  obtain ⟨y,rfl,_,_⟩:=ku z hz;unfold dM;simp only [π];rw [Δ hz]
 have mx:(x:Int)∈G.R h:=(B.rh.mem h x).2 ⟨zH,hx,hr,hh⟩;have hrow:∀k,jK A.cs.length (dM G.F x) ((gK G h x).R k):=fun k=>by
  have base:∀l:List Int,jK A.cs.length G.F l->(x:Int)∉l->jK A.cs.length (dM G.F x) l:=fun l hl hxl=>by
   refine ⟨fun z hz=>?_,hl.2.imp_of_mem (fun {a b} ha hb hab=>?_)⟩
   ·have:=hl.1 z hz;exact ⟨this.1,this.2.1,uS z this.1 this.2.2⟩
   ·rw [dS a (fun e=>hxl (e▸ha)),dS b (fun e=>hxl (e▸hb))];exact hab
  unfold gK dw;simp only
  split
  ·refine base _ ⟨fun z hz=>(B.rh.row h).1 z (List.mem_filter.1 hz).1,(B.rh.row h).2.filter _⟩ (fun hm=>by simp at hm)
  ·rename_i hk
   exact base _ (B.rh.row k) (fun hm=>hk (by have:=((B.rh.mem k x).1 hm).2.2.2;omega))
 have hl:jK A.cs.length (dM G.F x) (G.F.k x):=Nh B.fh.f hx (fun z hz=>dS z (fun e=>sx (e▸hz))) kU;have hd:∀z,z∈(gK G h x).R h->z∉G.F.k x:=fun z hz hk=>by
  unfold gK dw at hz;simp only [if_true] at hz;obtain ⟨y,rfl,hy,hu⟩:=ku z hk;have:=((B.rh.mem h y).1 (List.mem_filter.1 hz).1).2.2.1;omega
 have hF:FH A.cs.length (dM G.F x) (fun y=>((aN A x).c y).i) (eU (aN A x)):=by
  refine ⟨B.fh.f.NK hx hr,fun y p hy hu=>?_,fun y p hy hu=>?_,fun y hy h0=>?_⟩
  all_goals unfold dM at *;simp only at *
  ·split at hu
   ·omega
   ·rename_i hk
    have hyx:y≠x:=fun e=>by subst e;omega
    have hpx:p≠x:=fun e=>by subst e;exact hk (B.fh.f.above hy hu).2
    rw [hc,hc,Γ hyx,Γ hpx];exact B.fh.home y p hy hu
  ·split at hu
   ·omega
   ·rename_i hk
    have hyx:y≠x:=fun e=>by subst e;omega
    have hpx:p≠x:=fun e=>by subst e;exact hk (B.fh.f.above hy hu).2
    exact (gB (by rw [hc,Γ hpx]) (by rw [hc,Γ hyx])).2 (B.fh.ord y p hy hu hyx hpx)
  ·by_cases hyx:y=x
   ·subst hyx;exact ⟨by rw [Γ sx];exact hr,by rw [Δ rfl]⟩
   ·rw [hc,Γ hyx] at h0;have:=B.fh.alone y hy h0;rw [Γ hyx,this.2];exact ⟨by split;rfl;exact this.1,rfl⟩
 have hL:∀y p:Nat,y<A.cs.length->p<A.cs.length->((aN A x).c y).i=(h:Int)->((aN A x).c p).i=(h:Int)->y≠p->bL A y p=false->eU (aN A x) p y:=fun y p hy hp h1 h2 hne ha=>by
  have hyx:y≠x:=fun e=>by rw [hc,Δ e] at h1;simp [Cl.z] at h1;omega
  have hpx:p≠x:=fun e=>by rw [hc,Δ e] at h2;simp [Cl.z] at h2;omega
  rw [hc,Γ hyx] at h1;rw [hc,Γ hpx] at h2;exact (gB (by rw [hc,Γ hpx]) (by rw [hc,Γ hyx])).2 (yR ((aj _ _).2 ⟨hy,ω⟩) ((aj _ _).2 ⟨hp,ω⟩) hne ha)
 have hroot:∀y:Nat,y<A.cs.length->((dM G.F x).u y=-1↔G.F.u y=-1\/G.F.u y=x):=fun y hy=>by
  unfold dM;simp only;have hk:=JM B.fh.f hx hy
  by_cases e:G.F.u y=x
  ·rw [Δ (hk.2 e)];exact ⟨fun _=>Β e,fun _=>rfl⟩
  ·rw [Γ (fun hm=>e (hk.1 hm))];exact ⟨fun h=>Α h,fun h=>h.resolve_right e⟩
 have hmem:∀k y:Nat,k≠h->((y:Int)∈(gK G h x).R k↔1<=k/\y<A.cs.length/\(dM G.F x).u y=-1/\((aN A x).c y).i=(k:Int)):=fun k y hk=>by
  unfold gK dw;simp only [Γ hk];rw [B.rh.mem k y];constructor
  ·rintro ⟨a1,a2,a3,a4⟩;have hyx:y≠x:=fun e=>by subst e;omega
   exact ⟨a1,a2,(hroot y a2).2 (Α a3),by rw [hc,Γ hyx];exact a4⟩
  ·rintro ⟨a1,a2,a3,a4⟩;have hyx:y≠x:=fun e=>by rw [hc,Δ e] at a4;simp [Cl.z] at a4;omega
   rw [hc,Γ hyx] at a4;refine ⟨a1,a2,((hroot y a2).1 a3).resolve_right (fun e=>?_),a4⟩;have:=(B.fh.home y x a2 e).1;omega
 have hm:∀y:Nat,y<A.cs.length/\(dM G.F x).u y=-1/\((aN A x).c y).i=(h:Int)↔(y:Int)∈(gK G h x).R h\/(y:Int)∈G.F.k x:=fun y=>by
  unfold gK dw;simp only [if_true,List.mem_filter,bne_iff_ne,ne_eq];rw [B.rh.mem h y];constructor
  ·rintro ⟨a2,a3,a4⟩;have hyx:y≠x:=fun e=>by rw [hc,Δ e] at a4;simp [Cl.z] at a4;omega
   rw [hc,Γ hyx] at a4;rcases (hroot y a2).1 a3 with e|e
   ·exact Α ⟨⟨zH,a2,e,a4⟩,ω⟩
   ·exact Β ((JM B.fh.f hx a2).2 e)
  ·rintro (⟨⟨_,a2,a3,a4⟩,a5⟩|a1)
   ·exact ⟨a2,(hroot y a2).2 (Α a3),by rw [hc,Γ ω];exact a4⟩
   ·obtain ⟨z,e,a2,a3⟩:=ku _ a1;obtain rfl:y=z:=ω;have hyx:y≠x:=fun e=>by subst e;exact sx a1
    refine ⟨a2,(hroot y a2).2 (Β a3),?_⟩;rw [hc,Γ hyx];have:=(B.fh.home y x a2 a3).1;omega
 obtain ⟨r1,r2,r3,r4⟩:=Bi (G:=gK G h x) hF hn (mY A) hL zH hrow hmem hm hl hd;have nd:(G.R h).Nodup:=(B.rh.row h).nodup;have eR:(gK G h x).R h=(G.R h).filter (fun z=>z != (x:Int)):=by unfold gK dw;simp
 have fl:=Ir nd mx;refine ⟨⟨by rw [hcs];exact r1,by rw [hcs];exact r2,fun k hk=>?_⟩,?_,mx,by rw [←eR];exact hrow h,hl,by rw [←eR];exact hd,hF.f,fun z hz=>?_⟩
 ·rw [hcs];have e1:wt A.cs.length (pK A h x G).F ((pK A h x G).R k)=_:=r3 k;rw [e1];have hlen:=qU A x Cl.z (k:Int) hx;have e2:aN A x=iD A x Cl.z:=by unfold aN;rw [Δ WY,π]
  rw [e2]
  by_cases ek:k=h
  ·subst ek;rw [Δ rfl,eR];rw [Δ ω,Γ (by simp [Cl.z];omega)] at hlen;have w1:=KJ (F:=G.F) (n:=A.cs.length) nd mx;rw [gz _ _ hx,π] at w1;have w2:=RF (F':=dM G.F x) B.fh.f hx (fun z hz=>dS z (fun e=>sx (e▸hz)));have w3:wt A.cs.length (dM G.F x) ((G.R k).filter (fun z=>z != (x:Int)))=wt A.cs.length G.F ((G.R k).filter (fun z=>z != (x:Int))):=zt (fun z hz=>dS z (by simpa using (List.mem_filter.1 hz).2));have w4:=B.w k hk
   show wt A.cs.length (dM G.F x) _+wt A.cs.length (dM G.F x) _=_
   omega
  ·rw [Γ ek];rw [Γ ω,Γ (by simp [Cl.z];omega)] at hlen;have eK:(gK G h x).R k=G.R k:=by unfold gK dw;simp only [Γ ek]
   rw [eK];have w4:=B.w k hk
   have w3:wt A.cs.length (dM G.F x) (G.R k)=wt A.cs.length G.F (G.R k):=zt (fun z hz=>dS z (fun e=>by
    subst e;have:=((B.rh.mem k x).1 hz).2.2.2
    omega))
   show wt A.cs.length (dM G.F x) _=_
   omega
 ·rw [eR] at r4;have e3:wE A h x G=(jy (bL A) A.cs.length (gK G h x).F ((G.R h).filter (fun z=>z != (x:Int))) (G.F.k x)).q:=by unfold wE;rw [eR]
  rw [e3];have e4:(pK A h x G).R h=(wN (bL A) A.cs.length h (G.F.k x) (gK G h x)).R h:=rfl;rw [e4];omega
 ·rcases hz with hz|hz
  ·have hr:=(B.rh.row h).1 z hz;have:=(B.rh.mem h z.toNat).1 (by rw [show ((z.toNat:Nat):Int)=z by omega];exact hz);exact (xk _ _).2 ⟨hr.1,hr.2.1,by have:=this.2.2.2;omega⟩
  ·obtain ⟨y,rfl,hy,hu⟩:=ku z hz;exact (aj _ _).2 ⟨hy,(B.fh.home y x hy hu).2⟩
end
def QB (A':NS) (h x:Nat) (G:BG):BG:=wN (bL A') A'.cs.length h [(x:Int)] G
def SS (A':NS) (h x:Nat) (G:BG):Nat:=(jy (bL A') A'.cs.length G.F (G.R h) [(x:Int)]).q
theorem NI (n:Nat) (F:CF):jK n F []:=⟨fun x hx=>(by cases hx),List.Pairwise.nil⟩
theorem VU (n:Nat):FV (NS.new n) BG.none:=by
 have hc:=fun y=>NS.wL n y;have hn:(NS.new n).cs.length=n:=by simp [NS.new]
 refine ⟨⟨by rw [hn];exact Pm n,fun y p hy hu=>?_,fun y p hy hu=>?_,fun y hy hh=>⟨rfl,rfl⟩⟩,⟨fun h=>NI _ _,fun h y=>⟨fun hm=>(by cases hm),fun hm=>?_⟩⟩,fun h hh=>?_⟩
 ·have:(-1:Int)=p:=hu;omega
 ·have:(-1:Int)=p:=hu;omega
 ·have h2:=hm.2.2.2;rw [hc] at h2;simp [Cl.z] at h2;omega
 ·have:¬0<dG (NS.new n) (h:Int):=fun hp=>by
   obtain ⟨y,_,h2,h3⟩:=dL.1 hp;rw [hc] at h2;simp [Cl.z] at h2;omega
  show (0:Nat)=_
  omega
theorem Vk (A:NS) (y:Nat):(aC A).c y=A.c y:=by unfold aC;split<;>rfl
theorem IQ (A:NS):(aC A).cs=A.cs:=by unfold aC;split<;>rfl
section
variable {A:NS} {G:BG}
theorem Ti (B:FV A G):FV (aC A) G:=by
 have hc:=Vk A;have hs:(aC A).cs.length=A.cs.length:=by rw [IQ]
 refine ⟨⟨by rw [hs];exact B.fh.f,fun y p hy hu=>by rw [hc,hc];exact B.fh.home y p (by rw [←hs];exact hy) hu,fun y p hy hu=>(gB (hc p) (hc y)).2 (B.fh.ord y p (by rw [←hs];exact hy) hu),fun y hy hh=>B.fh.alone y (by rw [←hs];exact hy) (by rw [←hc];exact hh)⟩,
  ⟨fun h=>by rw [hs];exact B.rh.row h,fun h y=>by rw [hs,hc];exact B.rh.mem h y⟩,fun h hh=>by rw [hs,K4];exact B.w h hh⟩
theorem UH {h x:Nat} (k s:Int) (B:FV A G) (ok:A.Ok) (hB:iM A h x=true) :
  FV (az A h x k s) (QB (az A h x k s) h x G)/\SS (az A h x k s) h x G+((QB (az A h x k s) h x G).R h).length=(G.R h).length+1/\
   jK A.cs.length G.F [(x:Int)]/\(∀z,z∈G.R h->z∉[(x:Int)])/\(∀z,z∈G.R h\/z∈[(x:Int)]->bV (az A h x k s) z=true)/\(az A h x k s).cs.length=A.cs.length:=by
 obtain ⟨b1,b2,b3⟩:=(bX _ _ _).1 hB;have b4:=(aQ _ _).1 b1;have hx:x<A.cs.length:=by have:=(dE _ _).1 b2;omega
 have zH:1<=h:=ω;have h0:¬0<(A.c x).i:=fun hp=>by rw [(aj _ _).2 ⟨hx,hp⟩] at b3;cases b3
 have eA:az A h x k s=iD A x ⟨h,k,s⟩:=by unfold az;rw [Δ hB,π]
 have hcs:(az A h x k s).cs.length=A.cs.length:=by rw [eA];exact fq _ _ _
 have hc:∀y,(az A h x k s).c y=if y=x then ⟨h,k,s⟩ else A.c y:=fun y=>by
  rw [eA,iN]
  by_cases e:y=x
  ·rw [Δ ⟨e,hx⟩,Δ e]
  ·rw [Γ (fun h=>e h.1),Γ e]
 have al:=B.fh.alone x hx h0
 have hne:∀y p:Nat,y<A.cs.length->G.F.u y=p->y≠x/\p≠x:=fun y p hy hu=>⟨fun e=>by subst e;rw [al.1] at hu;omega,fun e=>by
  subst e;have:=(B.fh.f.above hy hu).2
  rw [al.2] at this;cases this⟩
 have hF:FH A.cs.length G.F (fun y=>((az A h x k s).c y).i) (eU (az A h x k s)):=by
  refine ⟨B.fh.f,fun y p hy hu=>?_,fun y p hy hu=>?_,fun y hy hh=>?_⟩
  ·obtain ⟨e1,e2⟩:=hne y p hy hu;rw [hc,hc,Γ e1,Γ e2];exact B.fh.home y p hy hu
  ·obtain ⟨e1,e2⟩:=hne y p hy hu;exact (gB (by rw [hc,Γ e2]) (by rw [hc,Γ e1])).2 (B.fh.ord y p hy hu)
  ·by_cases e:y=x
   ·rw [hc,Δ e] at hh;simp only at hh;omega
   ·rw [hc,Γ e] at hh;exact B.fh.alone y hy hh
 have hin:∀y:Nat,y<A.cs.length->((az A h x k s).c y).i=(h:Int)->bV (az A h x k s) (y:Int)=true:=fun y hy e=>(aj _ _).2 ⟨ω,ω⟩;have hl:jK A.cs.length G.F [(x:Int)]:=⟨fun z hz=>by simp at hz;subst hz;exact ⟨ω,ω,by simpa using al.1⟩,List.pairwise_singleton _ _⟩;have hd:∀z,z∈G.R h->z∉[(x:Int)]:=fun z hz hm=>by
  simp at hm;subst hm;have:=((B.rh.mem h x).1 hz).2.2.2;omega
 have hm:∀y:Nat,y<A.cs.length/\G.F.u y=-1/\((az A h x k s).c y).i=(h:Int)↔(y:Int)∈G.R h\/(y:Int)∈[(x:Int)]:=fun y=>by
  rw [B.rh.mem h y];simp only [ϕ]
  by_cases e:y=x
  ·subst e;rw [hc,Δ rfl];exact ⟨fun _=>Β rfl,fun _=>⟨hx,al.1,rfl⟩⟩
  ·rw [hc,Γ e];constructor
   ·rintro ⟨a1,a2,a3⟩;exact Α ⟨zH,a1,a2,a3⟩
   ·rintro (⟨_,a1,a2,a3⟩|a4)
    ·exact ⟨a1,a2,a3⟩
    ·omega
 obtain ⟨r1,r2,r3,r4⟩:=Bi (G:=G) (lt:=bL (az A h x k s)) (h:=h) hF ok.c1 (mY _) (fun y p hy hp h1 h2 hne ha=>yR (hin y hy h1) (hin p hp h2) hne ha) zH B.rh.row (fun q y hq=>by
  rw [B.rh.mem q y]
  by_cases e:y=x
  ·subst e;rw [hc,Δ rfl];constructor
   ·rintro ⟨a1,_,_,a3⟩;omega
   ·rintro ⟨a1,_,_,a3⟩;simp only at a3;omega
  ·rw [hc,Γ e]) hm hl hd
 unfold QB SS;rw [hcs];refine ⟨⟨by rw [hcs];exact r1,by rw [hcs];exact r2,fun q hq=>?_⟩,by simpa using r4,hl,hd,fun z hz=>?_,rfl⟩
 ·rw [hcs,r3 q];have hlen:=qU A x ⟨h,k,s⟩ (q:Int) hx;rw [←eA] at hlen;rw [Γ ω] at hlen;have wx:wt A.cs.length G.F [(x:Int)]=1:=by
   unfold wt;simp only [List.map_cons,List.map_nil,List.sum_cons,List.sum_nil];rw [gz _ _ hx,al.2];rfl
  have wq:=B.w q hq
  by_cases e:q=h
  ·subst e;rw [Δ ⟨rfl,ω⟩] at hlen;rw [Δ rfl,wx];omega
  ·rw [Γ (fun h=>e (by have:=h.1;simp only at this;omega))] at hlen;rw [Γ e];omega
 ·have key:∃y:Nat,z=y/\y<A.cs.length/\((az A h x k s).c y).i=(h:Int):=by
   rcases hz with hz|hz
   ·have hr:=(B.rh.row h).1 z hz;obtain ⟨y,rfl⟩:=Int.eq_ofNat_of_zero_le hr.1;have:=(hm y).2 (Α hz);exact ⟨y,rfl,this.1,this.2.2⟩
   ·simp at hz;subst hz;have:=(hm x).2 (Β σ);exact ⟨x,rfl,this.1,this.2.2⟩
  obtain ⟨y,rfl,h1,h2⟩:=key;exact hin y h1 h2
theorem Ni (B:FV A G):∀ (m y:Nat),A.cs.length<=m+(G.F.k y).length->y<A.cs.length->0<(A.c y).i->∃T,T<A.cs.length/\G.F.u T=-1/\(A.c T).i=(A.c y).i/\(T=y\/eU A T y)
 | m,y,hm,hy,hh=>by
  rcases B.fh.f.up y hy with h1|⟨p,hp,h1,h2⟩
  ·exact ⟨y,hy,h1,rfl,Α rfl⟩
  ·have hd:=B.fh.f.udeg hy h1;have hl:=B.fh.f.len hp;have ho:(A.c y).i=(A.c p).i/\0<(A.c y).i:=B.fh.home y p hy h1
   match m,hm with
   | 0,hm=>omega
   | m+1,hm=>
    obtain ⟨T,t1,t2,t3,t4⟩:=Ni B m p ω hp ω;refine ⟨T,t1,t2,by rw [t3,ho.1],Β ?_⟩;have hl:=B.fh.ord y p hy h1;rcases t4 with e|e
    ·rw [e];exact hl
    ·exact dB e hl
def kH (lt:Int->Int->Bool):Int->List Int->Int
 | b,[]=>b
 | b,x::t=>kH lt (if lt x b then x else b) t
theorem yP (lt:Int->Int->Bool):∀ (l:List Int) (b:Int),kH lt b l∈b::l
 | [],b=>by simp [kH]
 | x::t,b=>by
  have key:∀c,kH lt c t∈c::t:=fun c=>yP lt t c;unfold kH;cases e:lt x b with
  | true=>
   rw [Δ rfl];exact Λ _ (key x)
  | false=>
   rw [Γ σ];rcases ρ.1 (key b) with h|h
   ·rw [h];simp
   ·exact Λ _ (Λ _ h)
theorem wB {lt:Int->Int->Bool} {P:Int->Prop} (tr:∀a b c,P a->P b->P c->lt a b=true->lt b c=true->lt a c=true) (tot:∀a b,P a->P b->a≠b->lt a b=false->lt b a=true) :
  ∀ (l:List Int) (b:Int),P b->(∀x,x∈l->P x)->∀x,x∈b::l->x=kH lt b l\/lt (kH lt b l) x=true
 | [],b,_,_,x,hx=>by simp at hx;subst hx;exact Α rfl
 | y::t,b,hb,hl,x,hx=>by
  have hy:=hl y σ;have ht:=fun z hz=>hl z (Λ _ hz);unfold kH;have hP:P (if lt y b then y else b):=by split;exact hy;exact hb
  have ih:=wB tr tot t (if lt y b then y else b) hP ht;have Yz:P (kH lt (if lt y b then y else b) t):=by
   rcases ρ.1 (yP lt t (if lt y b then y else b)) with e|e
   ·rw [e];exact hP
   ·exact ht _ e
  have via:∀z,P z->lt (if lt y b then y else b) z=true->z=kH lt (if lt y b then y else b) t\/lt (kH lt (if lt y b then y else b) t) z=true:=fun z hz h=>by
   rcases ih _ (List.mem_cons_self) with e|e
   ·rw [←e];exact Β h
   ·exact Β (tr _ _ _ Yz hP hz e h)
  by_cases e:lt y b=true
  ·rw [Δ e] at ih via ⊢;rcases ρ.1 hx with e1|hx
   ·subst e1;exact via x hb e
   ·exact ih x hx
  ·rw [Γ e] at ih via ⊢;have e:lt y b=false:=by simpa using e
   rcases ρ.1 hx with e1|hx
   ·subst e1;exact ih x σ
   ·rcases ρ.1 hx with e1|hx
    ·subst e1
     by_cases exb:x=b
     ·subst exb;exact ih x σ
     ·exact via x hy (tot x b hy hb exb e)
    ·exact ih x (Λ _ hx)
theorem P9 (B:FV A G) {h:Nat} {z:Int} (hz:z∈G.R h):∃y:Nat,z=y/\y<A.cs.length/\bV A z=true/\(A.c y).i=h/\G.F.u y=-1:=by
 have hr:=(B.rh.row h).1 z hz;obtain ⟨y,rfl⟩:=Int.eq_ofNat_of_zero_le hr.1;have:=(B.rh.mem h y).1 hz;have h4:(A.c y).i=h:=this.2.2.2;exact ⟨y,rfl,this.2.1,(aj _ _).2 ⟨this.2.1,ω⟩,h4,this.2.2.1⟩
theorem Po (B:FV A G) {h:Nat} (h1:1<=h) {x:Int} {t:List Int} (hR:G.R h=x::t):∃m:Nat,kH (bL A) x t=m/\bB A (h:Int)=some m/\m<A.cs.length/\G.F.u m=-1/\(A.c m).i=h:=by
 have hin:∀z,z∈x::t->∃y:Nat,z=y/\y<A.cs.length/\bV A z=true/\(A.c y).i=h/\G.F.u y=-1:=fun z hz=>P9 B (by rw [hR];exact hz);obtain ⟨m,e,m1,m2,m3,m4⟩:=hin _ (yP (bL A) t x);refine ⟨m,e,(dD ω).2 ⟨m1,m3,fun y hy hh=>?_⟩,m1,m4,m3⟩
 have F:=wB (lt:=bL A) (P:=fun z=>∃y:Nat,z=y/\bV A z=true) (fun a b c ha hb hc h1 h2=>by
  obtain ⟨a,rfl,_⟩:=ha;obtain ⟨b,rfl,_⟩:=hb;obtain ⟨c,rfl,_⟩:=hc;rw [jW] at h1 h2 ⊢;simp only [Τ,Ο] at h1 h2 ⊢;exact ⟨⟨h1.1.1,h2.1.2⟩,dB h1.2 h2.2⟩) (fun a b ha hb hne h1=>by
  obtain ⟨a,rfl,ia⟩:=ha;obtain ⟨b,rfl,ib⟩:=hb;have:=yR ia ib (fun e=>hne (by rw [e])) h1;rw [jW,ia,ib]
  simpa using this) t x (by obtain ⟨y,e,_,i,_⟩:=hin x σ;exact ⟨y,e,i⟩) (fun z hz=>by obtain ⟨y,e,_,i,_⟩:=hin z (Λ _ hz);exact ⟨y,e,i⟩)
 obtain ⟨T,t1,t2,t3,t4⟩:=Ni B A.cs.length y ω hy ω;have hT:(T:Int)∈x::t:=by rw [←hR];exact (B.rh.mem h T).2 ⟨h1,t1,t2,by rw [t3];exact hh⟩
 have hmT:T=m\/eU A m T:=by
  rcases F _ hT with e2|e2
  ·rw [e] at e2;exact Α ω
  ·rw [e,jW] at e2;simp only [Τ,Ο] at e2;exact Β e2.2
 rcases t4 with e1|e1
 ·subst e1;exact hmT
 ·rcases hmT with e2|e2
  ·subst e2;exact Β e1
  ·exact Β (dB e2 e1)
theorem Jb (B:FV A G) {h:Nat} (h1:1<=h) (hR:G.R h=[]):bB A (h:Int)=none:=by
 have:=B.w h h1;rw [hR] at this;exact (iJ ω).2 this.symm
end
end Go.Proofs.YtklibcncmbofpaaGreat
namespace Go.Proofs.YtklibcncmbofpaaGreat
open Go Go.RowKit
theorem Rb {w:World} {base size n g cap:Nat} {e:TypeId} {xs:List Value} (h:w.ownsRow base e size (.slice (some ⟨g,0,none⟩) n cap) n xs) (j:Nat) (u:Value) :
  (w.setCell ⟨g,j,none⟩ u).ownsRow base e size (.slice (some ⟨g,0,none⟩) n cap) n (xs.set j u):=by
 rcases h.2 with ⟨h1,_⟩|⟨g',cap',cur,h1,hb,hg,hn,hc,hs,ht⟩
 ·cases h1
 ·cases h1;refine ⟨by rw [Ι];exact h.1,Β ⟨g,cap,cur.setIfInBounds j u,rfl,hb,?_,hn,hc,by simp;exact hs,?_⟩⟩
  ·simp [World.setCell,Array.getElem?_modify,hg]
  ·rw [Array.toList_setIfInBounds]
   by_cases hj:j<n*size
   ·rw [List.take_set,ht]
   ·have hl:=h.1;rw [List.take_set_of_le ω,ht,List.set_eq_of_length_le ω]
theorem BU (p c:Nat):∀W:World,W.cell? ⟨p,0,none⟩=some (.pointer (some ⟨c,0,none⟩))->(method 429 174 (.pointer (some ⟨p,0,none⟩)) "Ahead").run Tryz.prog W=.ok (174,.pointer (some ⟨c,0,none⟩)) W:=(by intro W h;unfold method;have hm:∃m,(Array.find? (fun x=>x.name == "Ahead") Tryz.t174.methods)=some m/\m.path.toList=[⟨212,0,true⟩]/\m.func=some (174,true)/\m.path.isEmpty=false:=⟨(Array.find? (fun x=>x.name == "Ahead") Tryz.t174.methods).get!,by kernel_rfl,by kernel_rfl,by kernel_rfl,by kernel_rfl⟩;obtain ⟨m,h1,h2,h3,h4⟩:=hm;go_simp;simp only [follow,Place.get];go_simp;(try unfold receiverAt);(try simp only [Place.get]);(try go_simp))
def bnO (A:NS) (p c:Nat) (F:List Nat) (st:Nat):rT where
 ty:=174
 p:=p
 rd:=p::c::F
 wr:=[c]
 lt:=bL A
 dom:=fun x=>bV A x=true
 at_:=fun w q=>p<w.heap.size/\p∉c::F/\w.cell? ⟨p,0,none⟩=some (.pointer (some ⟨c,0,none⟩))/\aD w c F A (dF st q)
 sub:=fun x hx=>by simp at hx;subst hx;simp
 low:=fun {w q} h x hx=>by
  obtain ⟨h1,h2,h3,h4⟩:=h;rcases ρ.1 hx with rfl|hx
  ·exact h1
  ·rcases ρ.1 hx with rfl|hx
   ·exact h4.lt _ h4.mem
   ·exact h4.lt _ hx
 upd:=fun {w w' S q} h hu hS=>by
  obtain ⟨h1,h2,h3,h4⟩:=h;exact ⟨Ψ h1 hu.size,h2,hu.kept h3 (fun hm=>hS _ hm σ),h4.upd hu (fun x hx hm=>hS x hx (by simp [hm]))⟩
 asym:=mY A
 ahead:=fun {w q} x y h hx hy hq=>by
  obtain ⟨h1,h2,h3,h4⟩:=h;obtain ⟨a,rfl⟩:=oZ hx;obtain ⟨b,rfl⟩:=oZ hy;refine gN 174 (fun _ _=>by kernel_rfl) h3 (BU p c) (fun W hW=>?_);refine (gZ (h4.ae hW) a b hx hy).mono ?_;rintro e w' ⟨rfl,hC,hu⟩;refine ⟨by rw [jW,hx,hy];simp,⟨Ψ h1 (Χ hW.size hu.size),h2,hu.kept (hW.was h3) (fun hm=>h2 (by simp at hm;simp [hm])),by rw [←kG];exact hC⟩,hu⟩
structure BB where
 n0:Nat
 c:Nat
 bt:Nat
 ba:Nat
structure iI (w:World) (B:BB) (F:List Nat) (gr cr lo:Nat) (A:NS) (st:Nat) (S:CS) (vs:List Value) (R:Nat->List Int):Prop where
 head:aG w B.n0 212 3 (fun j=>[Value.pointer (some ⟨B.c,0,none⟩),.pointer (some ⟨B.bt,0,none⟩),.slice (some ⟨gr,0,none⟩) vs.length cr].getD j undef)
 cells:aD w B.c F A st
 jM:aV w B.bt B.ba lo A.cs.length S
 rows:w.ownsRow 0 26 1 (.slice (some ⟨gr,0,none⟩) vs.length cr) vs.length vs
 len:vs.length=A.hs.length
 each:∀h,h<vs.length->aZ w 0 (vs.getD h undef) (R h)
 d1:B.n0∉F/\B.bt∉F/\B.ba∉F/\gr∉F
 d2:B.n0≠B.bt/\B.n0≠B.ba/\B.n0≠gr/\B.bt≠gr/\B.ba≠gr
 d3:∀g,g∈S.blk A.cs.length->g≠B.n0/\g≠gr/\g∉F
 d4:∀h g,h<vs.length->(vs.getD h undef).ownBlock=some g->g≠B.n0/\g≠B.bt/\g≠B.ba/\g≠gr/\g∉F/\g∉S.blk A.cs.length
 d5:∀h k g,h<vs.length->k<vs.length->h≠k->(vs.getD h undef).ownBlock=some g->(vs.getD k undef).ownBlock≠some g
def WG (vs:List Value):List Nat:=vs.filterMap Value.ownBlock
theorem iP {vs:List Value} {g:Nat}:g∈WG vs↔∃h,h<vs.length/\(vs.getD h undef).ownBlock=some g:=by
 unfold WG;rw [List.mem_filterMap];constructor
 ·rintro ⟨v,hv,e⟩;obtain ⟨i,hi,rfl⟩:=List.getElem_of_mem hv;exact ⟨i,hi,by simpa [φ,hi] using e⟩
 ·rintro ⟨i,hi,e⟩;exact ⟨vs[i],Ϝ hi,by simpa [φ,hi] using e⟩
def BB.blk (B:BB) (F:List Nat) (gr n:Nat) (S:CS) (vs:List Value):List Nat:=B.n0::B.bt::B.ba::gr::(F++(S.blk n++WG vs))
theorem rC (vs:List Value) (h k:Nat) (v:Value):(vs.set h v).getD k undef=if k=h/\h<vs.length then v else vs.getD k undef:=by
 simp only [φ,ύ]
 by_cases e:h=k
 ·subst e
  by_cases hl:h<vs.length
  ·simp [hl]
  ·simp [hl]
 ·rw [Γ e,Γ (fun h'=>e h'.1.symm)]
section
variable {w:World} {B:BB} {F:List Nat} {gr cr lo:Nat} {A:NS} {st:Nat} {S:CS} {vs:List Value} {R:Nat->List Int}
theorem iI.FC (h:iI w B F gr cr lo A st S vs R):gr<w.heap.size:=(h.rows.lt gr rfl).2
theorem iI.vN (h:iI w B F gr cr lo A st S vs R) {q g:Nat} (hq:q<vs.length) (e:(vs.getD q undef).ownBlock=some g):g<w.heap.size:=((h.each q hq).lt g e).2
theorem iI.lt (h:iI w B F gr cr lo A st S vs R):∀x,x∈B.blk F gr A.cs.length S vs->x<w.heap.size:=by
 intro x hx;have h1:=h.head.lt;have h2:=h.jM.head.lt;have h3:=h.jM.row.lt;have h4:=h.FC;simp only [BB.blk,ρ,τ] at hx;rcases hx with rfl|rfl|rfl|rfl|hx|hx|hx
 ·exact h1
 ·exact h2
 ·exact h3
 ·exact h4
 ·exact h.cells.lt x hx
 ·exact (h.jM.mi hx).2
 ·obtain ⟨q,hq,e⟩:=iP.1 hx;exact h.vN hq e
theorem iI.h0 (h:iI w B F gr cr lo A st S vs R):w.cell? ⟨B.n0,0,none⟩=some (.pointer (some ⟨B.c,0,none⟩)):=h.head.cellAt 0 ω rfl
theorem iI.h1 (h:iI w B F gr cr lo A st S vs R):w.cell? ⟨B.n0,1,none⟩=some (.pointer (some ⟨B.bt,0,none⟩)):=h.head.cellAt 1 ω rfl
theorem iI.h2 (h:iI w B F gr cr lo A st S vs R):w.cell? ⟨B.n0,2,none⟩=some (.slice (some ⟨gr,0,none⟩) vs.length cr):=h.head.cellAt 2 ω rfl
theorem iI.Vs (h:iI w B F gr cr lo A st S vs R) {q:Nat} (hq:q<vs.length):w.cell? ⟨gr,q,none⟩=some (vs.getD q undef):=by
 rw [h.rows.cellAt q ω];simp [φ,hq]
theorem iI.ZH (h:iI w B F gr cr lo A st S vs R) (q:Nat):w.frozen? ⟨gr,q,none⟩=false:=h.rows.frozenAt q
theorem iI.ZI (h:iI w B F gr cr lo A st S vs R):vs.length<=65537:=by rw [h.len];exact h.cells.ok.h1
theorem iI.cn (h:iI w B F gr cr lo A st S vs R):B.n0≠B.c/\gr≠B.c/\B.bt≠B.c/\B.ba≠B.c:=by
 have hm:=h.cells.mem;exact ⟨fun e=>h.d1.1 (e▸hm),fun e=>h.d1.2.2.2 (e▸hm),fun e=>h.d1.2.1 (e▸hm),fun e=>h.d1.2.2.1 (e▸hm)⟩
theorem iI.upd {w':World} {G:List Nat} (h:iI w B F gr cr lo A st S vs R) (hu:aa G w w') (hG:∀x,x∈G->x∉B.blk F gr A.cs.length S vs):iI w' B F gr cr lo A st S vs R:=by
 have k:∀x,x∈B.blk F gr A.cs.length S vs->x∉G:=fun x hx hg=>hG x hg hx;refine ⟨h.head.upd hu (k _ (by simp [BB.blk])),h.cells.upd hu (fun x hx hm=>hG x hx (by simp [BB.blk,hm])),h.jM.upd hu (k _ (by simp [BB.blk])) (k _ (by simp [BB.blk])) (fun g hg=>k _ (by simp [BB.blk,hg])),ay h.rows hu (fun g hg=>by simp [Value.ownBlock] at hg;subst hg;exact k _ (by simp [BB.blk])),h.len,fun q hq=>(h.each q hq).upd hu (fun g hg=>k _ ?_),h.d1,h.d2,h.d3,h.d4,h.d5⟩;simp only [BB.blk,ρ,τ];exact Β (Β (Β (Β (Β (Β (iP.2 ⟨q,hq,hg⟩))))))
theorem iI.ae {w':World} (h:iI w B F gr cr lo A st S vs R) (hu:aa [] w w'):iI w' B F gr cr lo A st S vs R:=h.upd hu σ
theorem iI.fH {w':World} {F':List Nat} {A':NS} {st':Nat} (h:iI w B F gr cr lo A st S vs R) (hu:aa F w w') (hC:aD w' B.c F' A' st') (hF:∀x,x∈F'->x∈F\/w.heap.size<=x) (e1:A'.cs.length=A.cs.length) (e2:A'.hs.length=A.hs.length):iI w' B F' gr cr lo A' st' S vs R:=by
 have f:=h.d1;have g:=h.lt;have hf:∀x,x<w.heap.size->x∉F->x∉F':=fun x hx hn hm=>by rcases hF x hm with h'|h';exact hn h';omega
 have l0:=g B.n0 (by simp [BB.blk]);have l1:=g B.bt (by simp [BB.blk]);have l2:=g B.ba (by simp [BB.blk]);have l4:=g gr (by simp [BB.blk])
 refine ⟨h.head.upd hu f.1,hC,by rw [e1];exact h.jM.upd hu f.2.1 f.2.2.1 (fun x hx=>(h.d3 x hx).2.2),ay h.rows hu (fun g hg=>by simp [Value.ownBlock] at hg;subst hg;exact f.2.2.2),by rw [e2];exact h.len,
  fun q hq=>(h.each q hq).upd hu (fun g hg=>(h.d4 q g hq hg).2.2.2.2.1),⟨hf _ l0 f.1,hf _ l1 f.2.1,hf _ l2 f.2.2.1,hf _ l4 f.2.2.2⟩,h.d2,fun x hx=>?_,fun q x hq hx=>?_,h.d5⟩
 ·rw [e1] at hx;have:=h.d3 x hx;exact ⟨this.1,this.2.1,hf x (h.jM.mi hx).2 this.2.2⟩
 ·have:=h.d4 q x hq hx;rw [e1];exact ⟨this.1,this.2.1,this.2.2.1,this.2.2.2.1,hf x (h.vN hq hx) this.2.2.2.2.1,this.2.2.2.2.2⟩
theorem iI.jr {w':World} {S':CS} {st':Nat} (h:iI w B F gr cr lo A st S vs R) (hu:aa (B.c::B.ba::S.blk A.cs.length) w w') (hC:aD w' B.c F A st') (hS:aV w' B.bt B.ba lo A.cs.length S') (hb:∀g,g∈S'.blk A.cs.length->g∈S.blk A.cs.length\/w.heap.size<=g):iI w' B F gr cr lo A st' S' vs R:=by
 have hcn:=h.cn;have g:=h.lt;have l0:=g B.n0 (by simp [BB.blk]);have l4:=g gr (by simp [BB.blk]);have k:∀x,x≠B.c->x≠B.ba->x∉S.blk A.cs.length->x∉B.c::B.ba::S.blk A.cs.length:=fun x h1 h2 h3 hm=>by
  simp only [ρ] at hm;rcases hm with hm|hm|hm
  ·exact h1 hm
  ·exact h2 hm
  ·exact h3 hm
 have hrow:∀q x,q<vs.length->(vs.getD q undef).ownBlock=some x->x∉B.c::B.ba::S.blk A.cs.length:=fun q x hq hx=>by
  have:=h.d4 q x hq hx;exact k x (fun e=>this.2.2.2.2.1 (e▸h.cells.mem)) this.2.2.1 this.2.2.2.2.2
 refine ⟨h.head.upd hu (k _ hcn.1 h.d2.2.1 (fun hm=>(h.d3 _ hm).1 rfl)),hC,hS,ay h.rows hu (fun x hx=>by simp [Value.ownBlock] at hx;subst hx;exact k _ hcn.2.1 (Ne.symm h.d2.2.2.2.2) (fun hm=>(h.d3 _ hm).2.1 rfl)),h.len,fun q hq=>(h.each q hq).upd hu (fun x hx=>hrow q x hq hx),h.d1,h.d2,fun x hx=>?_,fun q x hq hx=>?_,h.d5⟩
 ·rcases hb x hx with h'|h'
  ·exact h.d3 x h'
  ·exact ⟨ω,ω,fun hm=>by have:=h.cells.lt x hm;omega⟩
 ·have:=h.d4 q x hq hx;refine ⟨this.1,this.2.1,this.2.2.1,this.2.2.2.1,this.2.2.2.2.1,fun hm=>?_⟩;rcases hb x hm with h'|h'
  ·exact this.2.2.2.2.2 h'
  ·have:=h.vN hq hx;omega
theorem iI.Ul {w1:World} {K:List Nat} (h:iI w B F gr cr lo A st S vs R) (q:Nat) (hq:q<vs.length) (hu1:aa K w w1) (hK:∀g,g∈K->(vs.getD q undef).ownBlock=some g) (v:Value) (X:List Int) (hv:aZ w1 0 v X)
  (hg:∀g,v.ownBlock=some g->(g≠B.n0/\g≠B.bt/\g≠B.ba/\g≠gr/\g∉F/\g∉S.blk A.cs.length)/\∀k,k<vs.length->k≠q->(vs.getD k undef).ownBlock≠some g) :
  iI (w1.setCell ⟨gr,q,none⟩ v) B F gr cr lo A st S (vs.set q v) (dw R q X):=by
 have hu:aa [gr] w1 (w1.setCell ⟨gr,q,none⟩ v):=β;have kk:∀g,g∈K->g≠B.n0/\g≠B.bt/\g≠B.ba/\g≠gr/\g∉F/\g∉S.blk A.cs.length:=fun g hg=>h.d4 q g hq (hK g hg);have e:∀k,k<vs.length->(vs.set q v).getD k undef=if k=q then v else vs.getD k undef:=fun k hk=>by
  rw [rC]
  by_cases e:k=q
  ·rw [Δ ⟨e,hq⟩,Δ e]
  ·rw [Γ (fun h=>e h.1),Γ e]
 refine ⟨by rw [Ι];exact (h.head.upd hu1 (fun hm=>(kk _ hm).1 rfl)).upd hu (by simp;exact h.d2.2.2.1),(h.cells.upd hu1 (fun x hx=>(kk x hx).2.2.2.2.1)).upd hu (fun x hx hm=>by simp at hx;subst hx;exact h.d1.2.2.2 hm),
  (h.jM.upd hu1 (fun hm=>(kk _ hm).2.1 rfl) (fun hm=>(kk _ hm).2.2.1 rfl) (fun g hg hm=>(kk g hm).2.2.2.2.2 hg)).upd hu (by simp;exact h.d2.2.2.2.1) (by simp;exact h.d2.2.2.2.2) (fun x hx hm=>by simp at hm;exact (h.d3 x hx).2.1 hm),
  by rw [Ι];exact Rb (ay h.rows hu1 (fun g hg hm=>by simp [Value.ownBlock] at hg;subst hg;exact (kk _ hm).2.2.2.1 rfl)) q v,by rw [Ι];exact h.len,fun k hk=>?_,h.d1,h.d2,h.d3,fun k g hk e2=>?_,fun k j g hk hj hne e2=>?_⟩
 ·rw [Ι] at hk;rw [e k hk];unfold dw
  by_cases ek:k=q
  ·rw [Δ ek,Δ ek];exact hv.upd hu (fun g hg2 hm=>by simp at hm;exact (hg g hg2).1.2.2.2.1 hm)
  ·rw [Γ ek,Γ ek];exact ((h.each k hk).upd hu1 (fun g hg2 hm=>h.d5 k q g hk hq ek hg2 (hK g hm))).upd hu (fun g hg2 hm=>by simp at hm;exact (h.d4 k g hk hg2).2.2.2.1 hm)
 ·rw [Ι] at hk;rw [e k hk] at e2
  split at e2
  ·exact (hg g e2).1
  ·exact h.d4 k g hk e2
 ·rw [Ι] at hk hj;rw [e k hk] at e2;rw [e j hj]
  split at e2
  ·rename_i ek
   rw [Γ (fun ej=>hne ω)];exact (hg g e2).2 j hj (fun ej=>hne ω)
  ·rename_i ek
   split
   ·rename_i ej
    intro e3;exact (hg g e3).2 k hk ek e2
   ·exact h.d5 k j g hk hj hne e2
theorem iI.zT (h:iI w B F gr cr lo A st S vs R) (q:Nat) (hq:q<vs.length) (v:Value) (X:List Int) (hv:aZ w 0 v X)
  (hg:∀g,v.ownBlock=some g->(g≠B.n0/\g≠B.bt/\g≠B.ba/\g≠gr/\g∉F/\g∉S.blk A.cs.length)/\∀k,k<vs.length->k≠q->(vs.getD k undef).ownBlock≠some g) :
  iI (w.setCell ⟨gr,q,none⟩ v) B F gr cr lo A st S (vs.set q v) (dw R q X):=h.Ul (K:=[]) q hq (aa.refl _ _) σ v X hv hg
theorem iI.ZE {w1:World} (h:iI w B F gr cr lo A st S vs R) (q:Nat) (hq:q<vs.length) (hu:aa (vs.getD q undef).ownBlock.toList w w1) (v:Value) (X:List Int) (hv:aZ w1 0 v X) (he:v.ownBlock=(vs.getD q undef).ownBlock) :
  iI (w1.setCell ⟨gr,q,none⟩ v) B F gr cr lo A st S (vs.set q v) (dw R q X):=
 h.Ul q hq hu (fun g hg=>by simpa using hg) v X hv (fun g hg=>⟨h.d4 q g hq (by rw [←he];exact hg),fun k hk hne e=>h.d5 k q g hk hq hne e (by rw [←he];exact hg)⟩)
end
theorem aZ.sl {w:World} {base:Nat} {F:List Nat} {v:Value} {xs:List Int} (h:aZ w base v xs) (hF:∀g,v.ownBlock=some g->g∉F):fO w F v xs:=by
 obtain ⟨a,cap,rfl,h1,h2,h3⟩:=h.shape;refine ⟨a,cap,rfl,h1,h2,fun j u hj=>?_⟩;obtain ⟨g,off,rfl,hc⟩:=h3 j u hj;exact ⟨g,off,rfl,(h.lt g rfl).2,hF g rfl,hc⟩
section
variable {w:World} {B:BB} {F:List Nat} {gr cr lo:Nat} {A:NS} {st:Nat} {S:CS} {vs:List Value} {R:Nat->List Int}
theorem iI.shape (h:iI w B F gr cr lo A st S vs R) {q:Nat} (hq:q<vs.length):∃a cap,vs.getD q undef=.slice a (R q).length cap/\(R q).length<=cap/\cap<=9223372036854775807:=by
 obtain ⟨a,cap,e,h1,h2,_⟩:=(h.each q hq).shape;exact ⟨a,cap,e,h1,h2⟩
theorem iI.hq (h:iI w B F gr cr lo A st S vs R) {q:Int} (hh:bq A q=true):∃k:Nat,q=k/\1<=k/\k<vs.length:=by
 have:=(aQ _ _).1 hh;have e:=h.len;exact ⟨q.toNat,ω,ω,ω⟩
theorem Py (M:iI w B F gr cr lo A st S vs R) (q:Nat) (hh:bq A q=true) {a:Option Addr} {n cap:Nat} (hv:vs.getD q undef=.slice a n cap) :
  Calls Tryz.prog 187 #[.pointer (some ⟨B.n0,0,none⟩),.int .i64 (q:Int)] w fun e w'=>e=.returned (.slice a n cap)/\w'=w:=by
 have k:=iw M.cells (q:Int);rw [hh] at k;have h0:=M.h0;have h2:=M.h2;obtain ⟨q',e,_,hq⟩:=M.hq hh;obtain rfl:q=q':=ω;have d:=M.Vs hq;rw [hv] at d;have IA:(0:Int)<=(q:Int):=ω;have J7:(q:Int)<(vs.length:Int):=ω;clear M hh hv e
 go_enter Tryz.func187,Tryz.ntmps187
 go_wp2_with ((go_at_call 139;(with_reducible refine (k).mono ?_);rintro e w9 ⟨rfl,aS⟩;rw [aS];clear aS w9))
 go_ret;exact ⟨rfl,rfl⟩
theorem Tq (M:iI w B F gr cr lo A st S vs R) (q:Int) (hh:bq A q=false) :
  Calls Tryz.prog 187 #[.pointer (some ⟨B.n0,0,none⟩),.int .i64 q] w fun e w'=>e=.returned (.slice none 0 0)/\w'=w:=by
 have k:=iw M.cells q;rw [hh] at k;have h0:=M.h0;clear M hh
 go_enter Tryz.func187,Tryz.ntmps187
 go_wp2_with ((go_at_call 139;(with_reducible refine (k).mono ?_);rintro e w9 ⟨rfl,aS⟩;rw [aS];clear aS w9))
 go_ret;exact ⟨rfl,rfl⟩
theorem iI.ord (M:iI w B F gr cr lo A st S vs R):(bnO A B.n0 B.c F st).at_ w 0:=by
 have h:=M.cells.qp;refine ⟨M.head.lt,?_,M.h0,by rw [ig h];exact M.cells⟩;simp only [ρ,not_or];exact ⟨M.cn.1,M.d1.1⟩
theorem iI.apart (M:iI w B F gr cr lo A st S vs R):Apart (bnO A B.n0 B.c F st) B.bt B.ba A.cs.length S:=by
 have hc:=M.cn;refine ⟨?_,?_,fun g hg=>?_⟩
 ·show B.bt∉B.n0::B.c::F
  simp only [ρ,not_or];exact ⟨Ne.symm M.d2.1,hc.2.2.1,M.d1.2.1⟩
 ·show B.ba∉B.n0::B.c::F
  simp only [ρ,not_or];exact ⟨Ne.symm M.d2.2.1,hc.2.2.2,M.d1.2.2.1⟩
 ·show g∉B.n0::B.c::F
  have:=M.d3 g hg;simp only [ρ,not_or];exact ⟨this.1,fun e=>this.2.2 (e▸M.cells.mem),this.2.2⟩
theorem Gf (M:iI w B F gr cr lo A st S vs R) (ok:rY A.cs.length S.f) {va vl:Value} {X L:List Int} (hva:fO w (B.c::B.ba::S.blk A.cs.length) va X) (hvl:fO w (B.c::B.ba::S.blk A.cs.length) vl L)
  (hA:jK A.cs.length S.f X) (hB:jK A.cs.length S.f L) (hd:∀x,x∈X->x∉L) (hin:∀z,z∈X\/z∈L->bV A z=true) :
  Calls Tryz.prog 194 #[.pointer (some ⟨B.bt,0,none⟩),.iface 174 (.pointer (some ⟨B.n0,0,none⟩)),va,vl] w fun e w'=>
   ∃S' vo,e=.returned (.tuple #[vo,.bool true])/\S'.f=(jy (bL A) A.cs.length S.f X L).F/\iI w' B F gr cr lo A (dF st (jy (bL A) A.cs.length S.f X L).q) S' vs R/\aZ w' w.heap.size vo (jy (bL A) A.cs.length S.f X L).O/\
    aa (B.c::B.ba::S.blk A.cs.length) w w'/\(∀g,g∈S'.blk A.cs.length->g∈S.blk A.cs.length\/w.heap.size<=g)/\(∀g,vo.ownBlock=some g->g∉S'.blk A.cs.length)/\∃a n cap,vo=.slice a n cap:=by
 refine (LF (bnO A B.n0 B.c F st) B.bt B.ba lo A.cs.length S va vl X L 0 w ⟨M.jM,M.ord,M.apart,M.jM.head.lt,ok⟩ hva hvl hA hB hd (Nat.zero_le _) (fun x hx=>hin x (Α hx)) (fun x hx=>hin x (Β hx))).mono ?_;rintro e w' ⟨S',vo,O,q',rfl,hFL,hTo,hG,hO,hS,hu,hb,hx⟩;obtain ⟨e1,e2,e3⟩:=VJ hG (mY A) M.jM.le hTo;have e1:(jy (bL A) A.cs.length S.f X L).F=S'.f:=e1;have e2:(jy (bL A) A.cs.length S.f X L).O=O:=e2;have e3:(jy (bL A) A.cs.length S.f X L).q=q':=e3;rw [e1,e2,e3];obtain ⟨a,cap,e4,_⟩:=hO.shape;exact ⟨S',vo,rfl,rfl,M.jr hu hFL.l.2.2.2 hFL.f hb,hO,hu,hb,hx,a,_,cap,e4⟩
theorem EN (M:iI w B F gr cr lo A st S vs R) (ok:rY A.cs.length S.f) (q:Nat) (hq:q<vs.length) {vl:Value} {L:List Int} (hvl:fO w (B.c::B.ba::S.blk A.cs.length) vl L)
  (hA:jK A.cs.length S.f (R q)) (hB:jK A.cs.length S.f L) (hd:∀x,x∈R q->x∉L) (hin:∀z,z∈R q\/z∈L->bV A z=true) :
  Calls Tryz.prog 186 #[.pointer (some ⟨B.n0,0,none⟩),.int .i64 (q:Int),vl] w fun e w'=>
   ∃S' vo,e=.returned (.tuple #[])/\S'.f=(jy (bL A) A.cs.length S.f (R q) L).F/\iI w' B F gr cr lo A (dF st (jy (bL A) A.cs.length S.f (R q) L).q) S' (vs.set q vo) (dw R q (jy (bL A) A.cs.length S.f (R q) L).O)/\
    aa (B.c::B.ba::gr::S.blk A.cs.length) w w'/\(∀g,g∈S'.blk A.cs.length->g∈S.blk A.cs.length\/w.heap.size<=g)/\(∀g,vo.ownBlock=some g->w.heap.size<=g):=by
 have hrow:fO w (B.c::B.ba::S.blk A.cs.length) (vs.getD q undef) (R q):=(M.each q hq).sl (fun g hg hm=>by
  have:=M.d4 q g hq hg;simp only [ρ] at hm;rcases hm with e|e|e
  ·exact this.2.2.2.2.1 (e▸M.cells.mem)
  ·exact this.2.2.1 e
  ·exact this.2.2.2.2.2 e)
 have kc:=fun W (hW:aa [] w W)=>Gf (M.ae hW) ok (hrow.upd hW σ) (hvl.upd hW σ) hA hB hd hin;obtain ⟨a,cap,hv,_⟩:=M.shape hq;obtain ⟨a2,cap2,hv2,_⟩:=hvl;subst hv2;rw [hv] at kc;have h1:=M.h1;have h2:=M.h2;have d:=M.Vs hq;rw [hv] at d;have df:=M.ZH q;have hcn:=M.cn;have nn:∀x,x≠B.c->x≠B.ba->x∉S.blk A.cs.length->x∉B.c::B.ba::S.blk A.cs.length:=fun x h1 h2 h3 hm=>by
  simp only [ρ] at hm;rcases hm with hm|hm|hm
  ·exact h1 hm
  ·exact h2 hm
  ·exact h3 hm
 have n0:B.n0∉B.c::B.ba::S.blk A.cs.length:=nn _ hcn.1 M.d2.2.1 (fun hm=>(M.d3 _ hm).1 rfl);have ng:gr∉B.c::B.ba::S.blk A.cs.length:=nn _ hcn.2.1 (Ne.symm M.d2.2.2.2.2) (fun hm=>(M.d3 _ hm).2.1 rfl);have r1:∀W,aa (B.c::B.ba::S.blk A.cs.length) w W->W.cell? ⟨B.n0,1,none⟩=some (.pointer (some ⟨B.bt,0,none⟩)):=fun W hW=>hW.kept h1 n0;have r2:∀W,aa (B.c::B.ba::S.blk A.cs.length) w W->W.cell? ⟨B.n0,2,none⟩=some (.slice (some ⟨gr,0,none⟩) vs.length cr):=fun W hW=>hW.kept h2 n0
 have r3:∀W,aa (B.c::B.ba::S.blk A.cs.length) w W->W.cell? ⟨gr,q,none⟩=some (.slice a (R q).length cap)/\W.frozen? ⟨gr,q,none⟩=false:=fun W hW=>⟨hW.kept d ng,hW.aP d ng df⟩
 have IA:(0:Int)<=(q:Int):=ω;have J7:(q:Int)<(vs.length:Int):=ω;have hgl:=M.FC;have HM:=χ M;have hvl2:=M.ZI;clear M hrow hA hB hd hin hv hcn nn;generalize hC:jy (bL A) A.cs.length S.f (R q) L=C at *;generalize hrl:(R q).length=rl at *;generalize hll:L.length=ll at *;clear hC hrl hll
 go_enter Tryz.func186,Tryz.ntmps186
 go_wp2
 go_region_law
  (first
   | (go_simp;go_at_call 194;(with_reducible refine (kc _ β).mono ?_);rintro e w5 ⟨S5,vo,rfl,hS5,Dk,CY,CO,hb5,hx5,a5,n5,c5,rfl⟩;(have dJ:aa (B.c::B.ba::S.blk A.cs.length) w w5:=aa.trans β CO);(have q1:=r1 _ dJ);(have q2:=r2 _ dJ);obtain ⟨q3,q4⟩:=r3 _ dJ))
 all_goals
  go_wp2;go_end0;refine ⟨S5,_,rfl,hS5,Dk.zT q hq _ C.O (CY.mono (Nat.zero_le _)) (fun g hg=>?_),(dJ.mono (fun y hy=>?_)).setCell (Α σ) _,fun g hg=>?_,fun g hg=>?_⟩
  ·have hgs:=(CY.lt g hg).1;have ll:=HM.out.lt;have hw:w.heap.size<=g:=hgs;refine ⟨⟨?_,?_,?_,?_,fun hm=>?_,hx5 g hg⟩,fun k hk hne e=>?_⟩
   ·have:=ll B.n0 (by simp [BB.blk]);omega
   ·have:=ll B.bt (by simp [BB.blk]);omega
   ·have:=ll B.ba (by simp [BB.blk]);omega
   ·omega
   ·have:=HM.out.cells.lt g hm;omega
   ·have:=HM.out.vN hk e;omega
  ·simp only [ρ] at hy ⊢;rcases hy with hy|hy|hy
   ·exact Α hy
   ·exact Β (Α hy)
   ·exact Β (Β (Β hy))
  ·exact hb5 g hg
  ·exact (CY.lt g hg).1
end
theorem aZ.row {w:World} {base:Nat} {v:Value} {xs:List Int} (h:aZ w base v xs) (hne:xs≠[]):∃g off cap m f,v=.slice (some ⟨g,off,none⟩) xs.length cap/\base<=g/\aG w g 3 m f/\xs.length<=cap/\cap<=9223372036854775807/\off+cap<=m/\∀j u,xs[j]?=some u->f (off+j)=.int .i64 u:=by
 rcases h with ⟨_,e⟩|⟨g,off,cap,cur,rfl,hb,hg,h1,h2,h3,h4⟩
 ·exact absurd e hne
 ·refine ⟨g,off,cap,cur.size,fun j=>cur.getD j undef,rfl,hb,⟨cur,hg,rfl,fun j hj=>by simp [hj]⟩,h1,h2,h3,fun j u hj=>?_⟩;have:=h4 j u hj;simp [Array.getD_eq_getD_getElem?,this]
theorem aG.off {w:World} {base g off cap m:Nat} {f:Nat->Value} {ys:List Int} (h:aG w g 3 m f) (hb:base<=g) (h1:ys.length<=cap) (h2:cap<=9223372036854775807) (h3:off+cap<=m) (h4:∀j u,ys[j]?=some u->f (off+j)=.int .i64 u):aZ w base (.slice (some ⟨g,off,none⟩) ys.length cap) ys:=by
 obtain ⟨arr,a1,a2,a3⟩:=h;refine Β ⟨g,off,cap,arr,rfl,hb,a1,h1,h2,ω,fun j u hj=>?_⟩;have hjl:j<ys.length:=(List.getElem?_eq_some_iff.1 hj).1;rw [a3 (off+j) ω,h4 j u hj]
theorem AL (w:World) (b:Nat) (x y:Int) (h:w.cell? ⟨b,0,none⟩=some (.int .i64 x)) :
  Calls Tryz.prog 192 #[.int .i64 y,.pointer (some ⟨b,0,none⟩)] w fun e w'=>e=.returned (.bool (x == y))/\w'=w:=by
 go_enter Tryz.func192,Tryz.ntmps192
 go_wp2;go_ret;exact ⟨rfl,rfl⟩
theorem Hm (w:World) (F:List Nat) (b:Nat) (v:Value) (l1 l2:List Int) (x:Int) (h:fO w F v (l1++x::l2)) (hn:x∉l1) (hb:w.cell? ⟨b,0,none⟩=some (.int .i64 x)) :
  Calls Tryz.prog 197 #[v,.func (Fn.func 192) #[] #[.pointer (some ⟨b,0,none⟩)]] w fun e w'=>e=.returned (.int .i64 (l1.length:Int))/\w'=w:=by
 obtain ⟨a,cap,rfl,hlc,hcp,hp⟩:=h;have HP:=χ hp;clear hp;have hg:∀q,q<l1.length->(l1++x::l2)[q]?=l1[q]?:=fun q hq=>Ρ hq;have hx:(l1++x::l2)[l1.length]?=some x:=by rw [ϊ (Θ _)];simp
 have hl:l1.length<(l1++x::l2).length:=σ;generalize l1++x::l2=xs at *;generalize hxl:xs.length=len at *;have HN:=χ (ψ hn (ψ hg hx));have kc:=fun y=>AL w b x y hb;clear hn hg hx hb hxl;generalize hk:l1.length=k at *;have HK:=χ hk;clear hk
 go_enter Tryz.func197,Tryz.ntmps197
 go_wp2
 go_loop [8] (fun i=>∃q:Nat,q<=k/\i=.int .i64 (q:Int)) (fun i=>k+1-(intOf i).toNat)
 case atStart=>exact ⟨0,ω,rfl⟩
 case round=>
  obtain ⟨q,hq,rfl⟩:=hrel;have Z9:(q:Int)<(len:Int):=ω
  by_cases hqk:q<k
  ·obtain ⟨y,tT⟩:∃y,l1[q]?=some y:=⟨l1[q]'(by rw [HK.out];exact hqk),σ⟩;obtain ⟨gb,off,rfl,_,_,hc⟩:=HP.out q y (by rw [HN.out.2.1 q hqk];exact tT);have k1:=kc y;have hxy:(x == y)=false:=by
    have:x≠y:=fun e=>HN.out.1 (by rw [e];exact Η tT);simpa using this
   rw [hxy] at k1;clear tT kc
   go_wp2_with ((go_at_call 192;(with_reducible refine (k1).mono ?_);rintro e w9 ⟨rfl,aS⟩;rw [aS];clear aS w9))
   go_round
   case rel=>exact ⟨q+1,ω,by go_num⟩
   case measure=>simp [intOf];omega
  ·obtain rfl:q=k:=ω;obtain ⟨gb,off,rfl,_,_,hc⟩:=HP.out q x HN.out.2.2;have k1:=kc x;rw [show (x == x)=true by simp] at k1;clear kc
   go_wp2_with ((go_at_call 192;(with_reducible refine (k1).mono ?_);rintro e w9 ⟨rfl,aS⟩;rw [aS];clear aS w9))
   go_ret;exact ⟨rfl,rfl⟩
theorem Oa (w:World):(zeroValue 3).run Tryz.prog w=.ok (.int .i64 0) w:=by kernel_rfl
theorem OA (w:World) (b base:Nat) (v:Value) (l1 l2:List Int) (x:Int) (h:aZ w base v (l1++x::l2)) (hn1:x∉l1) (hn2:x∉l2) (hb:w.cell? ⟨b,0,none⟩=some (.int .i64 x)) (hbv:v.ownBlock≠some b) (hlen:(l1++x::l2).length<=1000000) :
  Calls Tryz.prog 191 #[v,.func (Fn.func 192) #[] #[.pointer (some ⟨b,0,none⟩)]] w fun e w'=>∃v',e=.returned v'/\aZ w' base v' (l1++l2)/\v'.ownBlock=v.ownBlock/\aa v.ownBlock.toList w w'/\∃a n c,v'=.slice a n c:=by
 have ki:=Hm w [] b v l1 l2 x (by
  obtain ⟨a,cap,rfl,h1,h2,h3⟩:=h.shape;refine ⟨a,cap,rfl,h1,h2,fun j u hj=>?_⟩;obtain ⟨g,off,rfl,hc⟩:=h3 j u hj
  exact ⟨g,off,rfl,(h.lt g rfl).2,σ,hc⟩) hn1 hb
 obtain ⟨g,off,cap,m,f,rfl,hbg,hR,hlc,hcp,hcm,hf⟩:=h.row σ;have hbg2:b≠g:=fun e=>hbv (by rw [e];rfl);have hx1:∀j,j<l1.length->(l1++x::l2)[j]?=l1[j]?:=fun j hj=>Ρ hj;have hx2:∀j,l1.length<j->(l1++x::l2)[j]?=l2[j-(l1.length+1)]?:=fun j hj=>by
  rw [ϊ ω,show j-l1.length=(j-(l1.length+1))+1 by omega,List.getElem?_cons_succ]
 have hln:(l1++x::l2).length=l1.length+l2.length+1:=ζ;simp only [hln] at hlc hlen ki ⊢;have hy1:∀j,j<l1.length->(l1++l2)[j]?=l1[j]?:=fun j hj=>Ρ hj;have hy2:∀j,l1.length<=j->(l1++l2)[j]?=l2[j-l1.length]?:=fun j hj=>ϊ hj;have hyl:(l1++l2).length=l1.length+l2.length:=σ;have HF:=χ (ψ hf (ψ hx1 (ψ hx2 (ψ hy1 (ψ hy2 hyl)))));have HR:=χ hR;have HN:=χ hn2;clear h hf hx1 hx2 hy1 hy2 hyl hn1 hn2 hR;have hlt:g<w.heap.size:=HR.out.lt;generalize hk:l1.length=k at *;generalize hl:l2.length=l at *;have HK:=χ (ψ hk hl);have hkm1:((k:Int) == -1)=false:=beq_eq_false_iff_ne.2 ω
 have hwr0:IntKind.i64.wrap ((k:Int)+1)=((k+1:Nat):Int):=by rw [Μ _ ω];omega
 clear hk hl hln hlen hbv
 go_enter Tryz.func191,Tryz.ntmps191
 go_wp2_with ((go_at_call 197;(with_reducible refine (ki).mono ?_);rintro e w9 ⟨rfl,aS⟩;rw [aS];clear aS w9))
 clear ki
 go_loopw [5,6,7] (fun s5 s6 _ wr=>∃ (j:Nat) (fj:Nat->Value),s5=.int .i64 ((k+j:Nat):Int)/\s6=.int .i64 ((k+j+1:Nat):Int)/\j<=l/\aG wr g 3 m fj/\(∀q,q<off+k->fj q=f q)/\(∀q u,q<j->l2[q]?=some u->fj (off+k+q)=.int .i64 u)/\(∀q,off+k+j<=q->fj q=f q)/\aa [g] w wr) (fun _ s6 _ _=>k+l+1-(intOf s6).toNat)
 case atStart=>exact ⟨0,f,σ,σ,ω,HR.out,fun q hq=>rfl,fun q u hq=>ω,fun q hq=>rfl,aa.refl _ _⟩
 case round=>
  obtain ⟨j,fj,rfl,rfl,hj,hRj,hf1,hf2,hf3,hu⟩:=hrel;rename World=>wr;have HJ:=χ (ψ hf1 (ψ hf2 hf3));have HRj:=χ hRj;have HJR:=χ hRj;have hbc:=hu.kept hb (by simp;exact hbg2)
  by_cases hjl:j<l
  ·obtain ⟨y,tT⟩:∃y,l2[j]?=some y:=⟨l2[j]'(by rw [HK.out.2];exact hjl),σ⟩;have c0:=hRj.cellAt (off+(k+j+1)) ω ((hf3 _ ω).trans (HF.out.1 (k+j+1) y (by rw [HF.out.2.2.1 _ ω,show k+j+1-(k+1)=j by omega];exact tT)));have c1:=hRj.cell (off+(k+j)) ω;have f1:=hRj.free (off+(k+j));have hxy:(x == y)=false:=by
    have:x≠y:=fun e=>HN.out (by rw [e];exact Η tT);simpa using this
   have kc:=AL wr b x y hbc;rw [hxy] at kc;have hi1:((k+j+1:Nat):Int)<((k+l+1:Nat):Int):=ω;have hi2:((k+j:Nat):Int)<((k+l+1:Nat):Int):=ω;have hw1:IntKind.i64.wrap (((k+j:Nat):Int)+1)=((k+(j+1):Nat):Int):=by rw [Μ _ ω];omega
   have hw2:IntKind.i64.wrap (((k+j+1:Nat):Int)+1)=((k+(j+1)+1:Nat):Int):=by rw [Μ _ ω];omega
   have HY:=χ tT;clear hf1 hf2 hf3 hRj tT;generalize hA:k+j+1=ja at *;generalize hB:k+j=jb at *;generalize hL:k+l+1=jl at *
   go_wp2_with ((go_at_call 192;(with_reducible refine (kc).mono ?_);rintro e w9 ⟨rfl,aS⟩;rw [aS];clear aS w9))
   go_roundw
   case rel=>
    refine ⟨j+1,_,by go_num,by go_num,ω,HRj.out.set (off+jb) _,fun q hq=>?_,fun q u hq hqu=>?_,fun q hq=>?_,hu.setCell (Α σ) _⟩
    ·rw [Γ ω];exact HJ.out.1 q hq
    ·by_cases e:q=j
     ·subst e;rw [Δ ω];rw [HY.out] at hqu;cases hqu;rfl
     ·rw [Γ ω];exact HJ.out.2.1 q u ω hqu
    ·rw [Γ ω];exact HJ.out.2.2 q ω
   case measure=>simp [intOf];omega
  ·obtain rfl:j=l:=ω;have c1:=hRj.cell (off+(k+j)) ω;have f1:=hRj.free (off+(k+j));have hcl:∀ty,(Builtin.clear_ #[26] ty #[.slice (some ⟨g,off+(k+j),none⟩) 1 (cap-(k+j))]).run Tryz.prog wr=.ok (.tuple #[]) (wr.setCell ⟨g,off+(k+j),none⟩ (.int .i64 0)):=fun ty=>by
    have:=Lib.run_clear_slice wr 26 3 ty (.int .i64 0) Tryz.underlying26 Oa rfl rfl g (off+(k+j)) 1 (cap-(k+j)) ω (fun t ht=>by rw [show off+(k+j)+t=off+(k+j) by omega,c1];rfl) (fun t ht=>by rw [show off+(k+j)+t=off+(k+j) by omega];exact f1);rw [this]
    rfl
   have HCM:=χ hcm;have hi3:¬ ((k+j+1:Nat):Int)<((k+j+1:Nat):Int):=ω;have hJB:=χ (show k+j=k+j from rfl);clear hf1 hf2 hf3 hRj c1 hcm hbc hb;generalize hB:k+j=jb at *;go_wp2;go_ret;have hR2:=HJR.out.set (off+jb) (.int .i64 0);have hk1:=HK.out.1;have hk2:=HK.out.2;have hlen:(l1++l2).length=jb:=by have:=HF.out.2.2.2.2.2;omega
   have hO:=hR2.off (base:=base) (ys:=l1++l2) (off:=off) (cap:=cap) hbg ω hcp HCM.out (fun q u hq=>by
    have Z9:q<(l1++l2).length:=(List.getElem?_eq_some_iff.1 hq).1;rw [Γ ω]
    by_cases e:q<k
    ·rw [HJ.out.1 (off+q) ω];exact HF.out.1 q u (by rw [HF.out.2.1 q ω];rw [HF.out.2.2.2.1 q ω] at hq;exact hq)
    ·have h3:=HF.out.2.2.2.2.1 q ω;have h5:l2[q-k]?=some u:=by rw [←hq,h3]
     have:=HJ.out.2.1 (q-k) u ω h5;rw [show off+k+(q-k)=off+q by omega] at this
     exact this)
   rw [hlen] at hO;exact ⟨_,rfl,hO,rfl,hu.setCell (Α σ) _,_,_,_,rfl⟩
end Go.Proofs.YtklibcncmbofpaaGreat
