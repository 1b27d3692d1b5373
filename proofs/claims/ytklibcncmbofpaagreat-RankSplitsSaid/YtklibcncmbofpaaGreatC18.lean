/-
  Lemmas for RankSplits: CpE, LsM, MgS, MgR, MgC, MgL, Spl, Mg, Mg2, MgD, Mg3, MgY, MgZ. Conditions: those of each lemma.
-/
import Derived.Deep.RegionHeldLaw
import Derived.Test.YtklibcncmbofpaaGreatC17
set_option linter.all false
set_option maxHeartbeats 8000000
set_option maxRecDepth 10000
namespace Go.Proofs.YtklibcncmbofpaaGreat
open Go Go.RowKit
theorem wT {P:Program} {w:World} (base:Nat) (t ty e:TypeId) (i:TypeInfo) (size:Nat) (ht:P.underlying t=some (.slice e)) (hi:P.info? e=some i) (v:Value) (n:Nat) (xs:List Value) (hown:w.ownsRow base e size v n xs) (ad:Option Addr) (c:Nat) :
  (Builtin.append_ #[t,t] ty #[v,.slice ad 0 c]).run P w=.ok v w:=by
 rcases hown.2 with ⟨rfl,rfl⟩|⟨g,cap,cur,rfl,_,_,hnc,_⟩
 ·cases ad<;>simp [Builtin.append_,run_underlying ht,sizeOf,typeInfo,hi,Builtin.lenOf,Builtin.firstCells,storeCells,loadCells,loadCellsFrom]
 ·cases ad<;>simp [Builtin.append_,run_underlying ht,sizeOf,typeInfo,hi,Builtin.lenOf,hnc,Builtin.firstCells,storeCells,loadCells,loadCellsFrom]
theorem Hl {w:World} {a:Option Addr} {n cap:Nat} {ks:List Int} (hS:fO w [] (.slice a n cap) ks) {l1 l2:Nat} (h1:l1<=l2) (h2:l2<=ks.length) :
  ∃vp,(∀W,(Instr.sliceAt 24 (.slice a n cap) (some (.int .i64 (l1:Int))) (some (.int .i64 (l2:Int))) none).run Tryz.prog W=.ok vp W)/\fO w [] vp ((ks.drop l1).take (l2-l1)):=by
 obtain ⟨a',cap',he,hc1,hc2,hcell⟩:=hS;cases he;have hl:((ks.drop l1).take (l2-l1)).length=l2-l1:=by rw [ϑ,ϒ];omega
 have hz:∀W,(sizeOf 2).run Tryz.prog W=.ok 1 W:=fun W=>by kernel_rfl
 have hel:Tryz.prog.elem 24=2:=by kernel_rfl
 refine ⟨sliced a l1 l2 cap 1,fun W=>?_,?_⟩
 ·rw [run_sliceAt_slice W 24 _ _ _ _ (by rw [hel];exact Tryz.underlying24),run_slice_lh W 24 a ks.length cap (by rw [hel];exact Tryz.underlying24) .i64 .i64 (l1:Int) (l2:Int) ω ω ω,hel,hz]
  rfl
 ·refine ⟨if cap=l1 then a else a.map (·.add (l1*1)),cap-l1,?_,by rw [hl];omega,ω,fun j u hj=>?_⟩
  ·rw [hl];rfl
  ·have hjl:j<l2-l1:=by have:=(List.getElem?_eq_some_iff.1 hj).1;rwa [hl] at this
   rw [List.getElem?_take,Δ hjl,List.getElem?_drop] at hj;obtain ⟨g,off,rfl,hg,_,hc⟩:=hcell (l1+j) u hj;refine ⟨g,off+l1,?_,hg,σ,by rw [Nat.add_assoc];exact hc⟩;rw [Γ ω]
   show some ((⟨g,off,none⟩:Addr).add (l1*1))=_
   rw [Addr.add_lit,Nat.mul_one]
theorem zg {P:Program} {ops:Array Oper} {rest:List Oper} {o:Oper} {a:Act} {w:World} {Q:Exit->Act->World->Prop} (hgd:o.guard=none) (t:TypeId) (x lo hi:Operand) (ho:o.op=.slice t x (some lo) (some hi) none) (vx vl vh vp:Value) (hx:a.eval x=vx) (hl:a.eval lo=vl) (hh:a.eval hi=vh)
  (hr:(Instr.sliceAt t vx (some vl) (some vh) none).run P w=.ok vp w) (h:wpList P ops Q rest (a.put o.dst vp) w):wpList P ops Q (o::rest) a w:=
 wpList_plain hgd fun _ hK=>by
  unfold Oper.wp execOp;simp only [ho,ϡ,Option.map_none,Sem.run_bind,Sem.run_pure,Result.andThen_ok,hx,hl,hh,hr];exact hK _ _ h
theorem uG {ops:Array Oper} {rest:List Oper} {o:Oper} {a:Act} {w:World} {Q:Exit->Act->World->Prop} (hgd:o.guard=none) (s x:Operand) (t e:TypeId)
  (ho:o.op=.call { callee:=.builtin .append,args:=#[s,x],argTypes:=#[t,t] }) (ht:Tryz.prog.underlying t=some (.slice e)) (hinfo:(Tryz.prog.info? e).map (fun i=>(i.zero,i.size,i.bytes))=some (some (.int .i64 0),1,8))
  (base:Nat) (v:Value) (n:Nat) (xs:List Value) (hs:a.eval s=v) (hown:w.ownsRow base e 1 v n xs)
  (F:List Nat) (v2:Value) (l:List Int) (hx:a.eval x=v2) (hl:fO w F v2 l) (hn:n+l.length<=1000000) (hbase:base<=w.heap.size)
  (h:∀v' w',w'.ownsRow base e 1 v' (n+l.length) (xs++aM l)->aa v.ownBlock.toList w w'->(v'.ownBlock=v.ownBlock\/v'.ownBlock=some w.heap.size)->wpList Tryz.prog ops Q rest (a.put o.dst v') w'):wpList Tryz.prog ops Q (o::rest) a w:=by
 obtain ⟨i,hi,hz0,hz1,hz2⟩:=info_parts hinfo;obtain ⟨ax,c,rfl,h1,h2,h3⟩:=hl
 by_cases hl0:l=[]
 ·subst hl0;refine wpList_plain hgd fun K hK=>?_;have hr:=wT (P:=Tryz.prog) base t o.type e i 1 ht hi v n xs hown ax c;unfold Oper.wp execOp;simp only [List.length_nil] at hx;simp only [ho,resolve,invoke,builtin,Sem.run_bind,Sem.run_pure,Result.andThen_ok,List.map_toArray,List.map_cons,List.map_nil,hs,hx,hr];exact hK _ _ (h v w (by simpa [aM] using hown) (aa.refl _ _) (Α rfl))
 ·cases ax with
  | none=>
   exfalso;apply hl0;cases l with
   | nil=>rfl
   | cons y t=>obtain ⟨g,off,he,_⟩:=h3 0 y rfl;cases he
  | some ad=>
   have hnews:∀j u,(aM l)[j]?=some u->w.cell? (ad.add j)=some u:=fun j u hj=>by
    unfold aM at hj;rw [ϔ] at hj;cases hq:l[j]? with
    | none=>rw [hq] at hj;cases hj
    | some y=>
     rw [hq] at hj;simp at hj;subst hj;obtain ⟨g,off,he,_,_,hc⟩:=h3 j y hq;cases he;rw [Addr.add_lit];exact hc
   have hlp:0<l.length:=List.length_pos_iff.2 hl0;refine wpList_append_lies w hgd s x t ho base e i _ 1 8 ht hi hz0 hz1 hz2 rfl δ v n xs hs hown ad l.length c (aM l) hx (by rw [dO,Nat.mul_one]) hnews (Ap l) hlp μ ω hbase w.heap.size rfl ?_;intro g' cap w' h4 h5 h6 _;refine h _ w' h4 ((aa.refl _ _).grown h5 (fun k hk=>Α (by simp [hk]))) ?_;rcases h6 with e|e
   ·exact Α (by rw [e];rfl)
   ·exact Β (by rw [←e];rfl)
structure QR (w:World) (lo g N:Nat) (ts te:TypeId) (vs:Nat->Value) (L:Nat->List Int):Prop where
 row:aG w g ts N vs
 own:∀v,v<N->w.ownsRow lo te 1 (vs v) (L v).length (aM (L v))
 ng:∀v,v<N->(vs v).ownBlock≠some g
 sep:∀u v b,u<N->v<N->u≠v->(vs u).ownBlock=some b->(vs v).ownBlock≠some b
section
variable {w w' w2:World} {lo g N f:Nat} {ts te:TypeId} {vs:Nat->Value} {L:Nat->List Int} {S:List Nat}
theorem QR.upd (h:QR w lo g N ts te vs L) (hu:aa S w w') (hg:g∉S) (hS:∀v,v<N->∀b,(vs v).ownBlock=some b->b∉S):QR w' lo g N ts te vs L:=
 ⟨h.row.upd hu hg,fun v hv=>ay (h.own v hv) hu (fun b hb=>hS v hv b hb),h.ng,h.sep⟩
theorem QR.put (h:QR w lo g N ts te vs L) (hf:f<N) {x:Int} {v2:Value} (hu:aa (vs f).ownBlock.toList w w2) (ho:w2.ownsRow lo te 1 v2 ((L f).length+1) (aM (L f++[x])))
  (hv:v2.ownBlock=(vs f).ownBlock\/∀b,v2.ownBlock=some b->w.heap.size<=b):QR (w2.setCell ⟨g,f,none⟩ v2) lo g N ts te (fun v=>if v=f then v2 else vs v) (fun v=>if v=f then L f++[x] else L v):=by
 have hgf:g∉(vs f).ownBlock.toList:=fun e=>h.ng f hf (by simpa using e);have hU:aa [g] w2 (w2.setCell ⟨g,f,none⟩ v2):=(aa.refl _ _).setCell (Α σ) _;have hgl:=h.row.lt;have Y6:v2.ownBlock≠some g:=fun e=>by
  rcases hv with h1|h1
  ·exact h.ng f hf (by rw [←h1];exact e)
  ·have:=h1 g e;omega
 have Us:∀v b,v<N->v≠f->(vs v).ownBlock=some b->v2.ownBlock≠some b:=fun v b hv' hne hb e=>by
  rcases hv with h1|h1
  ·exact h.sep v f b hv' hf hne hb (by rw [←h1];exact e)
  ·have h2:=h1 b e;have h3:=(h.own v hv').lt b hb;omega
 refine ⟨((h.row.upd hu hgf).set f v2),fun v hv'=>?_,fun v hv'=>?_,fun u v b hu' hv' hne hb=>?_⟩
 ·by_cases e:v=f
  ·simp only [Δ e];rw [υ];exact ay ho hU (fun k hk e=>by simp at e;subst e;exact Y6 hk)
  ·simp only [Γ e];exact ay (ay (h.own v hv') hu (fun k hk e2=>h.sep v f k hv' hf e hk (by simpa using e2))) hU (fun k hk e2=>by simp at e2;subst e2;exact h.ng v hv' hk)
 ·by_cases e:v=f
  ·simp only [Δ e];exact Y6
  ·simp only [Γ e];exact h.ng v hv'
 ·by_cases e1:u=f
  ·have e2:v≠f:=fun e=>hne (by rw [e1,e]);simp only [Δ e1] at hb;simp only [Γ e2];intro e3;exact Us v b hv' e2 e3 hb
  ·simp only [Γ e1] at hb
   by_cases e2:v=f
   ·simp only [Δ e2];exact Us u b hu' e1 hb
   ·simp only [Γ e2];exact h.sep u v b hu' hv' hne hb
theorem oO (w:World) (lo n:Nat) (ts te:TypeId):QR (w.alloc (.cells (madeCells #[.slice none 0 0] n) ts)) lo w.heap.size n ts te (fun _=>.slice none 0 0) (fun _=>[]):=by
 refine ⟨⟨madeCells #[.slice none 0 0] n,?_,by simp [madeCells],fun j hj=>?_⟩,fun v hv=>?_,fun v hv=>by simp [Value.ownBlock],fun u v b hu hv hne hb=>by simp [Value.ownBlock] at hb⟩
 ·show (w.heap.push _)[w.heap.size]?=_;simp
 ·simp [madeCells,hj,Nat.mod_one]
 ·exact World.ownsRow_nil _ _ _ _
end
structure FQ (w:World) (lo g h N:Nat) (vs us:Nat->Value) (X Y:Nat->List Int):Prop where
 a:QR w lo g N 24 2 vs X
 b:QR w lo h N 26 3 us Y
 ne:g≠h
 ah:∀u,u<N->(vs u).ownBlock≠some h
 bg:∀u,u<N->(us u).ownBlock≠some g
 ab:∀u v b,u<N->v<N->(vs u).ownBlock=some b->(us v).ownBlock≠some b
section
variable {w w' w2:World} {lo g h N f:Nat} {vs us:Nat->Value} {X Y:Nat->List Int} {S:List Nat}
theorem FQ.ae (t:FQ w lo g h N vs us X Y) (hu:aa [] w w'):FQ w' lo g h N vs us X Y:=
 ⟨t.a.upd hu σ (fun _ _ _ _=>σ),t.b.upd hu σ (fun _ _ _ _=>σ),t.ne,t.ah,t.bg,t.ab⟩
theorem FQ.putA (t:FQ w lo g h N vs us X Y) (hf:f<N) {x:Int} {v2:Value} (hu:aa (vs f).ownBlock.toList w w2) (ho:w2.ownsRow lo 2 1 v2 ((X f).length+1) (aM (X f++[x])))
  (hv:v2.ownBlock=(vs f).ownBlock\/∀b,v2.ownBlock=some b->w.heap.size<=b):FQ (w2.setCell ⟨g,f,none⟩ v2) lo g h N (fun v=>if v=f then v2 else vs v) us (fun v=>if v=f then X f++[x] else X v) Y:=by
 have hhl:=t.b.row.lt;have hU:aa [g] w2 (w2.setCell ⟨g,f,none⟩ v2):=(aa.refl _ _).setCell (Α σ) _;refine ⟨t.a.put hf hu ho hv,(t.b.upd hu (fun e=>t.ah f hf (by simpa using e)) (fun v hv b hb e=>t.ab f v b hf hv (by simpa using e) hb)).upd hU (fun e=>t.ne (by simp at e;exact e.symm)) (fun v hv b hb e=>by simp at e;subst e;exact t.bg v hv hb),t.ne,fun u hu'=>?_,t.bg,fun u v b hu' hv' hb=>?_⟩
 ·by_cases e:u=f
  ·simp only [Δ e];intro e2;rcases hv with h1|h1
   ·exact t.ah f hf (by rw [←h1];exact e2)
   ·have:=h1 h e2;omega
  ·simp only [Γ e];exact t.ah u hu'
 ·by_cases e:u=f
  ·simp only [Δ e] at hb;intro e2;rcases hv with h1|h1
   ·exact t.ab f v b hf hv' (by rw [←h1];exact hb) e2
   ·have:=h1 b hb;have:=(t.b.own v hv').lt b e2;omega
  ·simp only [Γ e] at hb;exact t.ab u v b hu' hv' hb
theorem FQ.iM (t:FQ w lo g h N vs us X Y) (hf:f<N) {x:Int} {v2:Value} (hu:aa (us f).ownBlock.toList w w2) (ho:w2.ownsRow lo 3 1 v2 ((Y f).length+1) (aM (Y f++[x])))
  (hv:v2.ownBlock=(us f).ownBlock\/∀b,v2.ownBlock=some b->w.heap.size<=b):FQ (w2.setCell ⟨h,f,none⟩ v2) lo g h N vs (fun v=>if v=f then v2 else us v) X (fun v=>if v=f then Y f++[x] else Y v):=by
 have hgl:=t.a.row.lt;have hU:aa [h] w2 (w2.setCell ⟨h,f,none⟩ v2):=(aa.refl _ _).setCell (Α σ) _;refine ⟨(t.a.upd hu (fun e=>t.bg f hf (by simpa using e)) (fun v hv b hb e=>t.ab v f b hv hf hb (by simpa using e))).upd hU (fun e=>t.ne (by simpa using e)) (fun v hv b hb e=>by simp at e;subst e;exact t.ah v hv hb),t.b.put hf hu ho hv,t.ne,t.ah,fun u hu'=>?_,fun u v b hu' hv' hb=>?_⟩
 ·by_cases e:u=f
  ·simp only [Δ e];intro e2;rcases hv with h1|h1
   ·exact t.bg f hf (by rw [←h1];exact e2)
   ·have:=h1 g e2;omega
  ·simp only [Γ e];exact t.bg u hu'
 ·by_cases e:v=f
  ·simp only [Δ e];intro e2;rcases hv with h1|h1
   ·exact t.ab u f b hu' hf hb (by rw [←h1];exact e2)
   ·have:=h1 b e2;have:=(t.a.own u hu').lt b hb;omega
  ·simp only [Γ e];exact t.ab u v b hu' hv' hb
end
theorem Qj (w:World) (lo N:Nat):FQ (((w.alloc (.cells (madeCells #[.slice none 0 0] N) 24)).alloc (.cells (madeCells #[.slice none 0 0] N) 26)).drew) lo w.heap.size (w.heap.size+1) N (fun _=>.slice none 0 0) (fun _=>.slice none 0 0) (fun _=>[]) (fun _=>[]):=by
 refine ⟨?_,?_,ω,fun u hu=>by simp [Value.ownBlock],fun u hu=>by simp [Value.ownBlock],fun u v b hu hv hb=>by simp [Value.ownBlock] at hb⟩
 ·exact (oO w lo N 24 2).upd (S:=[]) β σ (fun _ _ _ _=>σ)
 ·have h1:=oO (w.alloc (.cells (madeCells #[.slice none 0 0] N) 24)) lo N 26 3;rw [Κ] at h1;exact h1.upd (S:=[]) β σ (fun _ _ _ _=>σ)
theorem Mk (w:World) (lo N:Nat):FQ (((w.alloc (.cells (madeCells #[.slice none 0 0] N) 26)).alloc (.cells (madeCells #[.slice none 0 0] N) 24)).drew) lo (w.heap.size+1) w.heap.size N (fun _=>.slice none 0 0) (fun _=>.slice none 0 0) (fun _=>[]) (fun _=>[]):=by
 refine ⟨?_,?_,ω,fun u hu=>by simp [Value.ownBlock],fun u hu=>by simp [Value.ownBlock],fun u v b hu hv hb=>by simp [Value.ownBlock] at hb⟩
 ·have h1:=oO (w.alloc (.cells (madeCells #[.slice none 0 0] N) 26)) lo N 24 2;rw [Κ] at h1;exact h1.upd (S:=[]) β σ (fun _ _ _ _=>σ)
 ·exact (oO w lo N 26 3).upd (S:=[]) β σ (fun _ _ _ _=>σ)
structure SC (n:Nat) (R:AR) (A:NS) (q j:Nat):Prop where
 ok:R.Ok
 xI:A.Ok
 lA:A.cs.length=n
 lR:R.sl.length=n
 link:∀x:Nat,R.v x=bV A (x:Int)
 h1:bq A 1=true
 ms:R.most=4294967295
 gn:∀x,R.g x<=q
 fl:∀x,x<R.next->R.v x=true\/x∈R.wait
 ct:R.cnt=j
section
variable {n:Nat} {R:AR} {A:NS} {q j:Nat}
theorem SC.room (h:SC n R A q j) (hj:j<n):∃x R',iC R=some (x,R'):=by
 unfold iC;cases hp:lX R with
 | some p=>exact ⟨_,_,rfl⟩
 | none=>
  exfalso;unfold lX at hp;cases hw:R.wait.getLast? with
  | some y=>rw [hw] at hp;cases hp
  | none=>
   rw [hw] at hp;have hw0:R.wait=[]:=List.getLast?_eq_none_iff.1 hw;dsimp only at hp
   split at hp
   ·rename_i hn
    have hc:R.cnt=R.sl.length:=zy _ (fun x hx=>by
     rcases h.fl x ω with h1|h1
     ·exact h1
     ·rw [hw0] at h1;cases h1)
    have:=h.ct;have:=h.lR;omega
   ·cases hp
theorem SC.put (h:SC n R A q j) (hq:q+1<=4294967295) {g:Nat} (hg:bq A (g:Int)=true) {k:Int} (hk:-9223372036854775808<=k/\k<=9223372036854775807) {x:Nat} {R':AR} (hT:iC R=some (x,R')) :
  iM A (g:Int) (x:Int)=true/\SC n R' (az A (g:Int) (x:Int) k ((q:Int)+1)) (q+1) (j+1):=by
 obtain ⟨t1,t2,t3,t4,t5,t6,t7⟩:=lK h.ok hT;have JB:iM A (g:Int) (x:Int)=true:=by
  rw [bX];refine ⟨hg,(dE _ _).2 ⟨ω,by rw [h.lA];have:=h.lR;omega⟩,?_⟩;rw [←h.link];exact t3
 have hh:∀i,bq (az A (g:Int) (x:Int) k ((q:Int)+1)) i=bq A i:=fun i=>by unfold az;rw [Δ JB];rfl
 refine ⟨JB,t1,rD h.xI _ _ _ _ ⟨hk.1,hk.2,ω,ω⟩,by rw [qo];exact h.lA,by rw [t5];simp [h.lR],fun y=>by rw [tu h.ok hT,Cc JB,h.link],by rw [hh];exact h.h1,t6.trans h.ms,fun y=>?_,BC h.ok hT h.fl,by rw [t7,h.ct]⟩;have e:R'.g y=(R.put x (R.g x+1,true)).g y:=by
  show (R'.sl.getD y (0,false)).1=((R.sl.set x (R.g x+1,true)).getD y (0,false)).1
  rw [t5]
 rw [e,AR.mZ];have h1:=h.gn x;have h2:=h.gn y
 split
 ·show R.g x+1<=q+1;omega
 ·omega
theorem SC.give (h:SC n R A q (j+1)) (hq:q<4294967295) {g:Int} (hg:0<g) {m:Nat} (hm:bB A g=some m):R.v m=true/\bV A (m:Int)=true/\(A.c m).i=g/\SC n (eB R m) (aN A (m:Int)) q j:=by
 have hf:=(dD hg).1 hm;have hin:bV A (m:Int)=true:=(aj _ _).2 ⟨hf.1,by rw [hf.2.1];exact hg⟩;have hv:R.v m=true:=by rw [h.link];exact hin
 have hgo:=uq h.ok hv;have eg:∀z,(eB R m).g z=R.g z:=fun z=>by
  show (R.put m (R.g m,false)).g z=_
  rw [AR.mZ]
  split
  ·rename_i e;rw [e.1]
  ·rfl
 refine ⟨hv,hin,hf.2.1,hgo.1,uu h.xI _,by rw [dm];exact h.lA,by rw [rJ];exact h.lR,fun y=>by rw [oN hv,xw hin,h.link],by unfold bq;rw [fJ];exact h.h1,h.ms,fun y=>by rw [eg];exact h.gn y,fun y hy=>?_,by have:=hgo.2;have:=h.ct;omega⟩;rw [oN hv];have hw:(eB R m).wait=R.wait++[m]:=by
  show (if R.g m<R.most then R.wait++[m] else R.wait)=_
  rw [Δ (by have:=h.gn m;rw [h.ms];omega)]
 rw [hw]
 by_cases e:y=m
 ·subst e;exact Β σ
 ·rcases h.fl y hy with h1|h1
  ·exact Α (by rw [h1];simp [e])
  ·exact Β (by simp [h1])
end
def zk (Z:List (List Int)) (p:Pl):Int:=(Z.getD p.1 []).getD p.2 0
def zl (Z:List (List Int)) (l:Nat):Nat:=(Z.getD l []).length
def iZ:List (List Int)->(Nat->Bool)->Nat
 | [],_=>0
 | _::r,P=>(if P 0 then 1 else 0)+iZ r (fun i=>P (i+1))
theorem Dl:∀ (Z:List (List Int)) (P:Nat->Bool),(∀i,i<Z.length->P i=true->0<zl Z i)->iZ Z P<=dI Z
 | [],_,_=>by simp [iZ,dI]
 | l::r,P,h=>by
  have e:dI (l::r)=l.length+dI r:=by simp [dI]
  have h1:=Dl r (fun i=>P (i+1)) (fun i hi hp=>by
   have:=h (i+1) (by simpa using hi) hp
   simpa [zl] using this)
  rw [e];unfold iZ
  split
  ·rename_i hp
   have:=h 0 σ hp;simp [zl] at this;omega
  ·omega
theorem iq:∀ (Z:List (List Int)) (P Q:Nat->Bool),(∀i,i<Z.length->P i=Q i)->iZ Z P=iZ Z Q
 | [],_,_,_=>rfl
 | l::r,P,Q,h=>by
  unfold iZ;rw [h 0 σ,iq r _ (fun i=>Q (i+1)) (fun i hi=>h (i+1) (by simpa using hi))]
theorem l8:∀ (Z:List (List Int)) (P:Nat->Bool) (l:Nat),l<Z.length->P l=false->iZ Z (fun i=>if i=l then true else P i)=iZ Z P+1
 | [],_,l,h,_=>by simp at h
 | x::r,P,0,_,hp=>by
  unfold iZ;rw [Δ σ,hp,iq r (fun i=>if i+1=0 then true else P (i+1)) (fun i=>P (i+1)) (fun i _=>by rw [Γ ω])];simp;omega
 | x::r,P,l+1,h,hp=>by
  unfold iZ;have h1:=l8 r (fun i=>P (i+1)) l (by simpa using h) hp;rw [iq r (fun i=>if i+1=l+1 then true else P (i+1)) (fun i=>if i=l then true else P (i+1)) (fun i _=>σ),h1,show ((fun i=>if i=l+1 then true else P i) 0)=P 0 from Γ ω];omega
theorem RL {A:NS} {h x:Nat} {k s:Int} (hB:iM A h x=true) (y:Nat):(az A h x k s).c y=if y=x then ⟨h,k,s⟩ else A.c y:=by
 obtain ⟨b1,b2,b3⟩:=(bX _ _ _).1 hB;have hx:x<A.cs.length:=by have:=(dE _ _).1 b2;omega
 unfold az;rw [Δ hB,π,iN]
 by_cases e:y=x
 ·rw [Δ ⟨e,hx⟩,Δ e]
 ·rw [Γ (fun h=>e h.1),Γ e]
theorem NC {R R':AR} {x:Nat} (ok:R.Ok) (hT:iC R=some (x,R')) (y:Nat):R'.g y=if y=x then R.g x+1 else R.g y:=by
 obtain ⟨t1,t2,t3,t4,t5,t6,t7⟩:=lK ok hT;have e:R'.g y=(R.put x (R.g x+1,true)).g y:=by
  show (R'.sl.getD y (0,false)).1=((R.sl.set x (R.g x+1,true)).getD y (0,false)).1
  rw [t5]
 rw [e,AR.mZ]
 by_cases h:y=x
 ·rw [Δ ⟨h,t2⟩,Δ h]
 ·rw [Γ (fun e=>h e.1),Γ h]
theorem Vy {R:AR} {m:Nat} (y:Nat):(eB R m).g y=R.g y:=by
 show (R.put m (R.g m,false)).g y=_
 rw [AR.mZ]
 split
 ·rename_i e;rw [e.1]
 ·rfl
structure tO (Z:List (List Int)) (R:AR) (A:NS) (q:Nat) (f:Int->Int->Option Pl) (pos:Nat->Nat) (hp:Nat->Option Nat):Prop where
 s:SC (dI Z) R A q (iZ Z (fun l=>(hp l).isSome))
 a:∀l x,hp l=some x->l<Z.length/\pos l<zl Z l/\R.v x=true/\(A.c x).i=1/\(A.c x).k=zk Z (l,pos l)/\f x (R.g x:Int)=some (l,pos l)
 b:∀x,R.v x=true->∃l,hp l=some x
section
variable {Z:List (List Int)} {R:AR} {A:NS} {q:Nat} {f:Int->Int->Option Pl} {pos:Nat->Nat} {hp:Nat->Option Nat}
theorem tO.inj (h:tO Z R A q f pos hp) {l l' x:Nat} (h1:hp l=some x) (h2:hp l'=some x):l=l':=by
 have e1:=(h.a l x h1).2.2.2.2.2;have e2:=(h.a l' x h2).2.2.2.2.2;rw [e1] at e2;simp at e2;exact e2.1
theorem tO.push (h:tO Z R A q f pos hp) {l:Nat} (hl:l<Z.length) (h0:hp l=none) (hk:pos l<zl Z l) (hq:q+1<=4294967295) (hb:-9223372036854775808<=zk Z (l,pos l)/\zk Z (l,pos l)<=9223372036854775807) :
  ∃ (x:Nat) (R':AR),iC R=some (x,R')/\iM A 1 (x:Int)=true/\tO Z R' (az A 1 (x:Int) (zk Z (l,pos l)) ((q:Int)+1)) (q+1) (fun y e=>if y=(x:Int)/\e=(R'.g x:Int) then some (l,pos l) else f y e) pos (fun i=>if i=l then some x else hp i):=by
 have hroom:iZ Z (fun l=>(hp l).isSome)<dI Z:=by
  have h1:=l8 Z (fun l=>(hp l).isSome) l hl (by simp [h0])
  have h2:=Dl Z (fun i=>if i=l then true else (hp i).isSome) (fun i hi hp'=>by
   by_cases e:i=l
   ·rw [e];omega
   ·rw [Γ e] at hp';obtain ⟨x,hx⟩:=Option.isSome_iff_exists.1 hp';have:=(h.a i x hx).2.1
    omega)
  omega
 obtain ⟨x,R',hT⟩:=h.s.room hroom;obtain ⟨hB,hs⟩:=h.s.put hq (g:=1) h.s.h1 hb hT;have ok:=lK h.s.ok hT;have hv0:R.v x=false:=ok.2.2.1;have hg:=NC h.s.ok hT;have hv:=tu h.s.ok hT;have hc:=fun y=>RL (A:=A) (h:=1) (x:=x) (k:=zk Z (l,pos l)) (s:=(q:Int)+1) hB y;have hcn:iZ Z (fun i=>(if i=l then some x else hp i).isSome)=iZ Z (fun l=>(hp l).isSome)+1:=by
  rw [←l8 Z (fun l=>(hp l).isSome) l hl (by simp [h0])];exact iq Z _ _ (fun i _=>by split<;>simp_all)
 refine ⟨x,R',hT,hB,⟨by rw [hcn];exact hs,fun i y hy=>?_,fun y hy=>?_⟩⟩
 ·by_cases e:i=l
  ·subst e
   replace hy:(if i=i then some x else hp i)=some y:=hy
   rw [Δ rfl] at hy;cases hy;refine ⟨hl,hk,by rw [hv];simp,?_,?_,?_⟩
   ·have:=hc x;rw [Δ rfl] at this;exact congrArg Cl.i this
   ·have:=hc x;rw [Δ rfl] at this;exact congrArg Cl.k this
   ·exact Δ ⟨rfl,rfl⟩
  ·replace hy:(if i=l then some x else hp i)=some y:=hy
   rw [Γ e] at hy;obtain ⟨a1,a2,a3,a4,a5,a6⟩:=h.a i y hy;have hne:y≠x:=fun e=>by rw [e,hv0] at a3;cases a3
   have hcy:=hc y;rw [Γ hne] at hcy;refine ⟨a1,a2,by rw [hv,a3];rfl,?_,?_,?_⟩
   ·exact (congrArg Cl.i hcy).trans a4
   ·exact (congrArg Cl.k hcy).trans a5
   ·show (if (y:Int)=(x:Int)/\_ then _ else _)=_
    rw [Γ (fun e=>hne (by have:=e.1;omega)),hg,Γ hne];exact a6
 ·rw [hv] at hy
  by_cases e:y=x
  ·exact ⟨l,by show (if l=l then some x else hp l)=_;rw [Δ rfl,e]⟩
  ·have hy':R.v y=true:=by
    have e':¬ ((y:Int)=(x:Int)):=ω;simpa [e'] using hy
   obtain ⟨i,hi⟩:=h.b y hy';refine ⟨i,?_⟩
   show (if i=l then some x else hp i)=_
   rw [Γ (fun e2=>by rw [e2,h0] at hi;cases hi)];exact hi
theorem tO.pop (h:tO Z R A q f pos hp) (hq:q<4294967295) {m:Nat} (hm:bB A 1=some m) :
  ∃l,hp l=some m/\(∀l' x,hp l'=some x->zk Z (l,pos l)<=zk Z (l',pos l'))/\∀pos',(∀i,i≠l->pos' i=pos i)->tO Z (eB R m) (aN A (m:Int)) q f pos' (fun i=>if i=l then none else hp i):=by
 have hf:=(dD δ).1 hm;have hin:bV A (m:Int)=true:=(aj _ _).2 ⟨hf.1,by rw [hf.2.1];decide⟩;have hv:R.v m=true:=by rw [h.s.link];exact hin
 obtain ⟨l,hl⟩:=h.b m hv;obtain ⟨a1,a2,a3,a4,a5,a6⟩:=h.a l m hl;have hcn:iZ Z (fun l=>(hp l).isSome)=iZ Z (fun i=>(if i=l then none else hp i).isSome)+1:=by
  rw [←l8 Z (fun i=>(if i=l then (none:Option Nat) else hp i).isSome) l a1 σ];refine iq Z _ _ (fun i _=>?_)
  by_cases e:i=l
  ·subst e;simp [hl]
  ·simp [e]
 have hs:=h.s;rw [hcn] at hs;obtain ⟨g1,g2,g3,g4⟩:=hs.give hq δ hm;refine ⟨l,hl,fun l' x hx=>?_,fun pos' hpos=>⟨g4,fun i y hy=>?_,fun y hy=>?_⟩⟩
 ·obtain ⟨b1,b2,b3,b4,b5,b6⟩:=h.a l' x hx;have hxl:x<A.cs.length:=by
   have:bV A (x:Int)=true:=by rw [←h.s.link];exact b3
   exact ((aj _ _).1 this).1
  rcases hf.2.2 x hxl b4 with e|e
  ·rw [←a5,←b5,e];omega
  ·rw [←a5,←b5];unfold eU at e;omega
 ·replace hy:(if i=l then none else hp i)=some y:=hy
  by_cases e:i=l
  ·rw [Δ e] at hy;cases hy
  ·rw [Γ e] at hy;obtain ⟨b1,b2,b3,b4,b5,b6⟩:=h.a i y hy;have hne:y≠m:=fun e2=>e (h.inj hy (by rw [e2];exact hl));rw [hpos i e,Vy];have hcy:=pY hin y;rw [Γ hne] at hcy;exact ⟨b1,b2,by rw [oN hv,b3];simp [hne],by rw [hcy];exact b4,by rw [hcy];exact b5,b6⟩
 ·rw [oN hv] at hy;simp at hy;obtain ⟨i,hi⟩:=h.b y hy.1;refine ⟨i,?_⟩
  show (if i=l then none else hp i)=_
  rw [Γ (fun e=>by rw [e,hl] at hi;simp at hi;exact hy.2 hi.symm)];exact hi
theorem tO.none (h:tO Z R A q f pos hp) (hm:bB A 1=Option.none) (l:Nat):hp l=Option.none:=by
 cases e:hp l with
 | none=>rfl
 | some x=>
  obtain ⟨b1,b2,b3,b4,b5,b6⟩:=h.a l x e;have hin:bV A (x:Int)=true:=by rw [←h.s.link];exact b3
  have h0:=(iJ δ).1 hm;have:0<dG A 1:=dL.2 ⟨x,((aj _ _).1 hin).1,b4,δ⟩;omega
end
def Ui (Z:List (List Int)) (p q:Pl):Prop:=zk Z p<zk Z q\/(zk Z p=zk Z q/\EM p q)
theorem Mm {Z:List (List Int)} {p q:Pl} (h:Ui Z p q) (k:Ui Z q p):p=q:=by
 unfold Ui EM at *;exfalso;omega
theorem GU {Z:List (List Int)} {a b:List Pl} (ha:a.Pairwise (Ui Z)) (hb:b.Pairwise (Ui Z)) (h:a.Perm b):a=b:=
 List.Perm.eq_of_pairwise (fun x y _ _ h1 h2=>Mm h1 h2) ha hb h
structure CK (Z:List (List Int)) (jI:Int) (fT pos:Nat->Nat) (hp:Nat->Option Nat) (ex:Nat) (Q:List Pl):Prop where
 nd:Q.Nodup
 mem:∀p:Pl,p∈Q↔p.1<Z.length/\fT p.1<=p.2/\p.2<pos p.1
 key:∀p,p∈Q->zk Z p=jI
 le:∀l,l<Z.length->fT l<=pos l/\pos l<=zl Z l
 full:∀l,l<Z.length->pos l<zl Z l->l≠ex->hp l≠none
 low:∀l,l<Z.length->pos l<zl Z l->jI<=zk Z (l,pos l)
structure RD (Z:List (List Int)) (pos:Nat->Nat) (O:List Pl):Prop where
 nd:O.Nodup
 mem:∀p:Pl,p∈O↔p.1<Z.length/\p.2<pos p.1
 srt:O.Pairwise (Ui Z)
 lt:∀p,p∈O->∀l,l<Z.length->pos l<zl Z l->zk Z p<zk Z (l,pos l)
theorem RD.add {Z:List (List Int)} {jI:Int} {fT pos:Nat->Nat} {hp:Nat->Option Nat} {ex:Nat} {O Q C:List Pl} (h:RD Z fT O) (r:CK Z jI fT pos hp ex Q) (hC:C.Perm Q) (sC:fw C) (hk:∀l,l<Z.length->pos l<zl Z l->jI<zk Z (l,pos l)):RD Z pos (O++C):=by
 have X5:∀p,p∈C↔p∈Q:=fun p=>hC.mem_iff;have hOk:∀p,p∈O->∀q,q∈C->zk Z p<zk Z q:=fun p hp q hq=>by
  have hq':=(X5 q).1 hq;obtain ⟨h1,h2,h3⟩:=(r.mem q).1 hq';have h4:=(r.le q.1 h1).2;have h5:=r.le q.1 h1;have h6:=h.lt p hp q.1 h1 ω;have h7:zk Z (q.1,fT q.1)=jI:=r.key (q.1,fT q.1) ((r.mem _).2 ⟨h1,Θ _,by show fT q.1<pos q.1;omega⟩);rw [r.key q hq',←h7];exact h6
 refine ⟨?_,fun p=>?_,?_,fun p hp l hl hpos=>?_⟩
 ·refine θ.2 ⟨h.nd,hC.nodup_iff.2 r.nd,fun a ha b hb e=>?_⟩;have:=hOk a ha b hb;rw [e] at this;omega
 ·rw [τ,h.mem,X5,r.mem];constructor
  ·rintro (⟨h1,h2⟩|⟨h1,h2,h3⟩)
   ·have:=r.le p.1 h1;exact ⟨h1,ω⟩
   ·exact ⟨h1,h3⟩
  ·rintro ⟨h1,h2⟩
   by_cases e:p.2<fT p.1
   ·exact Α ⟨h1,e⟩
   ·exact Β ⟨h1,ω,h2⟩
 ·refine List.pairwise_append.2 ⟨h.srt,?_,fun a ha b hb=>Α (hOk a ha b hb)⟩;have hnd:C.Nodup:=hC.nodup_iff.2 r.nd;refine (List.Pairwise.and sC hnd).imp_of_mem ?_;rintro a b ha hb ⟨h1,h2⟩;refine Β ⟨by rw [r.key a ((X5 a).1 ha),r.key b ((X5 b).1 hb)],?_⟩;unfold mo at h1;unfold EM;rcases h1 with h1|⟨h1,h3⟩
  ·exact Α h1
  ·refine Β ⟨h1,?_⟩;have:a.2≠b.2:=fun e=>h2 (Prod.ext h1 e);omega
 ·rcases τ.1 hp with hp|hp
  ·have h1:=r.le l hl;have h2:=h.lt p hp l hl ω
   by_cases e:pos l=fT l
   ·rw [e];exact h2
   ·have h3:zk Z (l,fT l)=jI:=r.key (l,fT l) ((r.mem _).2 ⟨hl,Θ _,by show fT l<pos l;omega⟩);have h4:=hk l hl hpos;omega
  ·rw [r.key p ((X5 p).1 hp)];exact hk l hl hpos
def zh (Z:List (List Int)):Prop:=∀l k,l<Z.length->k+1<zl Z l->zk Z (l,k)<=zk Z (l,k+1)
section
variable {Z:List (List Int)} {jI:Int} {fT pos:Nat->Nat} {hp:Nat->Option Nat} {ex:Nat} {Q:List Pl}
def iQ (pos:Nat->Nat) (l:Nat) (i:Nat):Nat:=if i=l then pos l+1 else pos i
theorem CK.start {pos:Nat->Nat} (hle:∀l,l<Z.length->pos l<=zl Z l) (hfull:∀l,l<Z.length->pos l<zl Z l->hp l≠none) (hlow:∀l,l<Z.length->pos l<zl Z l->jI<=zk Z (l,pos l)):CK Z jI pos pos hp Z.length []:=
 ⟨Ϩ,fun p=>⟨fun h=>by (cases h),fun h=>ω⟩,fun p h=>by (cases h),fun l hl=>⟨Θ _,hle l hl⟩,fun l hl h _=>hfull l hl h,hlow⟩
theorem CK.add (r:CK Z jI fT pos hp ex Q) (hz:zh Z) (hl:ex<Z.length) (hlt:pos ex<zl Z ex) (hk:zk Z (ex,pos ex)=jI):CK Z jI fT (iQ pos ex) hp ex (Q++[(ex,pos ex)]):=by
 have h0:=r.le ex hl;refine ⟨?_,fun p=>?_,fun p hp'=>?_,fun l hl'=>?_,fun l hl' h hne=>?_,fun l hl' h=>?_⟩
 ·refine θ.2 ⟨r.nd,List.nodup_cons.2 ⟨σ,Ϩ⟩,fun a ha b hb e=>?_⟩;simp at hb;rw [e,hb] at ha;have:=((r.mem _).1 ha).2.2;dsimp only at this;omega
 ·rw [τ,r.mem,ϕ];unfold iQ;constructor
  ·rintro (⟨h1,h2,h3⟩|rfl)
   ·refine ⟨h1,h2,?_⟩
    split
    ·rename_i e;rw [←e];omega
    ·exact h3
   ·exact ⟨hl,h0.1,σ⟩
  ·rintro ⟨h1,h2,h3⟩
   by_cases e:p.1=ex
   ·rw [Δ e] at h3
    by_cases e2:p.2=pos ex
    ·exact Β (Prod.ext e e2)
    ·exact Α ⟨h1,h2,by rw [e];omega⟩
   ·rw [Γ e] at h3;exact Α ⟨h1,h2,h3⟩
 ·rcases τ.1 hp' with h|h
  ·exact r.key p h
  ·rw [List.mem_singleton.1 h];exact hk
 ·unfold iQ;have:=r.le l hl'
  split
  ·rename_i e;subst e;omega
  ·exact this
 ·unfold iQ at h;rw [Γ hne] at h;exact r.full l hl' h hne
 ·unfold iQ at h ⊢
  by_cases e:l=ex
  ·subst e;rw [Δ rfl] at h ⊢;have:=hz l (pos l) hl h;omega
  ·rw [Γ e] at h ⊢;exact r.low l hl' h
theorem CK.out (r:CK Z jI fT pos hp Z.length Q) (l:Nat):CK Z jI fT pos (fun i=>if i=l then none else hp i) l Q:=
 ⟨r.nd,r.mem,r.key,r.le,fun i hi h hne=>by rw [Γ hne];exact r.full i hi h ω,r.low⟩
theorem CK.back (r:CK Z jI fT pos hp ex Q) {hp':Nat->Option Nat} (h1:∀i,i≠ex->hp' i=hp i) (h2:pos ex<zl Z ex->hp' ex≠none):CK Z jI fT pos hp' Z.length Q:=
 ⟨r.nd,r.mem,r.key,r.le,fun i hi h _=>by
  by_cases e:i=ex
  ·subst e;exact h2 h
  ·rw [h1 i e];exact r.full i hi h e,r.low⟩
end
def jB:List (List Int)->(Nat->Nat)->Nat
 | [],_=>0
 | _::r,P=>P 0+jB r (fun i=>P (i+1))
theorem tC:∀ (Z:List (List Int)) (P Q:Nat->Nat),(∀i,i<Z.length->P i=Q i)->jB Z P=jB Z Q
 | [],_,_,_=>rfl
 | l::r,P,Q,h=>by
  unfold jB;rw [h 0 σ,tC r _ (fun i=>Q (i+1)) (fun i hi=>h (i+1) (by simpa using hi))]
theorem Bf (Z:List (List Int)):jB Z (fun _=>0)=0:=by
 induction Z with
 | nil=>rfl
 | cons l r ih=>unfold jB;rw [ih]
theorem Ah:∀ (Z:List (List Int)) (P:Nat->Nat) (l:Nat),l<Z.length->jB Z (iQ P l)=jB Z P+1
 | [],P,l,h=>by simp at h
 | x::r,P,0,_=>by
  unfold jB;rw [tC r (fun i=>iQ P 0 (i+1)) (fun i=>P (i+1)) (fun i _=>by unfold iQ;rw [Γ ω])];unfold iQ;rw [Δ rfl];omega
 | x::r,P,l+1,h=>by
  unfold jB;have h1:=Ah r (fun i=>P (i+1)) l (by simpa using h);rw [tC r (fun i=>iQ P (l+1) (i+1)) (iQ (fun i=>P (i+1)) l) (fun i _=>by unfold iQ;simp),h1,show iQ P (l+1) 0=P 0 by unfold iQ;rw [Γ ω]];omega
theorem uz:∀ (Z:List (List Int)) (P:Nat->Nat),(∀i,i<Z.length->P i<=zl Z i)->jB Z P<=dI Z
 | [],_,_=>by simp [jB,dI]
 | l::r,P,h=>by
  have e:dI (l::r)=l.length+dI r:=by simp [dI]
  have h1:=uz r (fun i=>P (i+1)) (fun i hi=>by
   have:=h (i+1) (by simpa using hi)
   simpa [zl] using this)
  have h0:=h 0 σ;simp [zl] at h0;rw [e];unfold jB;omega
theorem Kj (Z:List (List Int)):iZ Z (fun _=>false)=0:=by
 induction Z with
 | nil=>rfl
 | cons l r ih=>unfold iZ;rw [ih];rfl
section
variable {Z:List (List Int)} {R:AR} {A:NS} {q:Nat} {f:Int->Int->Option Pl} {pos:Nat->Nat} {hp:Nat->Option Nat}
theorem tO.SQ (h:tO Z R A q f pos hp) {l x:Nat} (h0:hp l=some x) (hl:l<Z.length):iZ Z (fun i=>(hp i).isSome)=iZ Z (fun i=>(if i=l then Option.none else hp i).isSome)+1:=by
 rw [←l8 Z (fun i=>(if i=l then (Option.none:Option Nat) else hp i).isSome) l hl σ];refine iq Z _ _ (fun i _=>?_)
 by_cases e:i=l
 ·subst e;simp [h0]
 ·simp [e]
theorem tO.NY (h:tO Z R A q f pos hp):iZ Z (fun i=>(hp i).isSome)<=dI Z:=
 Dl Z _ (fun i hi hp'=>by
  obtain ⟨x,hx⟩:=Option.isSome_iff_exists.1 hp';have:=(h.a i x hx).2.1
  omega)
theorem tO.first (h:tO Z R A q f pos hp) {m:Nat} (hm:bB A 1=some m) :
  ∃l,hp l=some m/\l<Z.length/\pos l<zl Z l/\R.v m=true/\(A.c m).k=zk Z (l,pos l)/\f m (R.g m:Int)=some (l,pos l)/\∀l' x,hp l'=some x->zk Z (l,pos l)<=zk Z (l',pos l'):=by
 have hf:=(dD δ).1 hm;have hin:bV A (m:Int)=true:=(aj _ _).2 ⟨hf.1,by rw [hf.2.1];decide⟩;have hv:R.v m=true:=by rw [h.s.link];exact hin
 obtain ⟨l,hl⟩:=h.b m hv;obtain ⟨a1,a2,a3,a4,a5,a6⟩:=h.a l m hl;refine ⟨l,hl,a1,a2,hv,a5,a6,fun l' x hx=>?_⟩;obtain ⟨b1,b2,b3,b4,b5,b6⟩:=h.a l' x hx;have hxl:x<A.cs.length:=by
  have:bV A (x:Int)=true:=by rw [←h.s.link];exact b3
  exact ((aj _ _).1 this).1
 rcases hf.2.2 x hxl b4 with e|e
 ·rw [←a5,←b5,e];omega
 ·rw [←a5,←b5];unfold eU at e;omega
theorem tO.pop' (h:tO Z R A q f pos hp) (hq:q<4294967295) {m l:Nat} (hm:bB A 1=some m) (hl:hp l=some m) {pos':Nat->Nat} (hpos:∀i,i≠l->pos' i=pos i):tO Z (eB R m) (aN A (m:Int)) q f pos' (fun i=>if i=l then Option.none else hp i):=by
 obtain ⟨l',h1,_,h2⟩:=h.pop hq hm;cases h.inj h1 hl;exact h2 pos' hpos
end
section
variable {Z:List (List Int)} {R:AR} {A:NS} {q:Nat} {f:Int->Int->Option Pl} {fT pos:Nat->Nat} {hp:Nat->Option Nat} {jI:Int} {Q:List Pl}
theorem CK.Mr (r:CK Z jI fT pos hp Z.length Q) (h:tO Z R A q f pos hp) (hm:bB A 1=none):∀l,l<Z.length->pos l<zl Z l->jI<zk Z (l,pos l):=fun l hl hlt=>
 absurd (h.none hm l) (r.full l hl hlt ω)
theorem CK.MC (r:CK Z jI fT pos hp Z.length Q) (h:tO Z R A q f pos hp) {m:Nat} (hm:bB A 1=some m) (hk:(A.c m).k≠jI):∀l,l<Z.length->pos l<zl Z l->jI<zk Z (l,pos l):=fun l hl hlt=>by
 obtain ⟨l0,h1,h2,h3,_,h4,_,h5⟩:=h.first hm;obtain ⟨x,hx⟩:=Option.ne_none_iff_exists'.1 (r.full l hl hlt ω);have e1:=h5 l x hx;have e2:=r.low l0 h2 h3;rw [h4] at hk;omega
end
theorem Jv:∀ (Z:List (List Int)) (l:Nat),l<Z.length->zl Z l<=dI Z
 | [],l,h=>by simp at h
 | x::r,0,_=>by
  have e:dI (x::r)=x.length+dI r:=by simp [dI]
  rw [e]
  show x.length<=_
  omega
 | x::r,l+1,h=>by
  have e:dI (x::r)=x.length+dI r:=by simp [dI]
  have h1:=Jv r l (by simpa using h);have e2:zl (x::r) (l+1)=zl r l:=by simp [zl]
  omega
structure Kk (Z:List (List Int)) (jI:Int) (fT:Nat->Nat) (A:NS) (q c:Nat) (pos:Nat->Nat) (hp:Nat->Option Nat) (n:Nat) (Q:List Pl):Prop where
 r:CK Z jI fT pos hp Z.length Q
 hq:q<=jB Z pos+iZ Z (fun i=>(hp i).isSome)
 hc:c<=q
 hl:Q.length=n
 hs:n+jB Z fT=jB Z pos
 z:n=0->∃x,bB A 1=some x/\(A.c x).k=jI
structure PO (Z:List (List Int)) (jI:Int) (fT uA:Nat->Nat) (q c l:Nat) (pos:Nat->Nat) (hp:Nat->Option Nat) (n:Nat) (Q:List Pl):Prop where
 r:CK Z jI fT pos hp l Q
 b:∀i,i≠l->pos i=uA i
 lo:uA l<=pos l
 hq:q<=jB Z uA+iZ Z (fun i=>(hp i).isSome)+1
 hc:c<=q
 hl:Q.length=n
 hs:n+jB Z fT=jB Z pos
 t:jB Z pos+uA l=jB Z uA+pos l
 s0:jB Z fT<=jB Z uA
section
variable {Z:List (List Int)} {jI:Int} {fT uA:Nat->Nat} {A:NS} {q c l:Nat} {pos:Nat->Nat} {hp:Nat->Option Nat} {n:Nat} {Q:List Pl}
theorem Kk.out {R:AR} {f:Int->Int->Option Pl} (h:Kk Z jI fT A q c pos hp n Q) (hi:tO Z R A q f pos hp) {x:Nat} (hl:hp l=some x) (XJ:l<Z.length):PO Z jI fT pos q c l pos (fun i=>if i=l then none else hp i) n Q:=
 ⟨h.r.out l,fun i _=>rfl,Θ _,by have:=h.hq;have:=hi.SQ hl XJ;omega,h.hc,h.hl,h.hs,rfl,by have:=h.hs;omega⟩
theorem PO.add (h:PO Z jI fT uA q c l pos hp n Q) (hz:zh Z) (hl:l<Z.length) (hlt:pos l<zl Z l) (hk:zk Z (l,pos l)=jI):PO Z jI fT uA q c l (iQ pos l) hp (n+1) (Q++[(l,pos l)]):=by
 have h1:iQ pos l l=pos l+1:=by unfold iQ;rw [Δ rfl]
 have h2:=Ah Z pos l hl;have h3:=h.lo;have h4:=h.hs;have h5:=h.t;exact ⟨h.r.add hz hl hlt hk,fun i hi=>by unfold iQ;rw [Γ hi];exact h.b i hi,ω,h.hq,h.hc,by simp [h.hl],ω,ω,h.s0⟩
theorem PO.le (h:PO Z jI fT uA q c l pos hp n Q):n<=dI Z:=by
 have h1:=uz Z pos (fun i hi=>(h.r.le i hi).2);have:=h.hs;omega
theorem Kk.le (h:Kk Z jI fT A q c pos hp n Q):n<=dI Z:=by
 have h1:=uz Z pos (fun i hi=>(h.r.le i hi).2);have:=h.hs;omega
theorem PO.Zy (h:PO Z jI fT uA q c l pos hp n Q) (hB:uA l<pos l) (hn:zl Z l<=pos l):Kk Z jI fT A q c pos hp n Q:=by
 have h5:=h.t;have h4:=h.hq;have h6:=h.hs;have h7:=h.s0;exact ⟨h.r.back (fun i _=>rfl) (fun e=>ω),ω,h.hc,h.hl,h6,fun e=>ω⟩
theorem PO.Xy (h:PO Z jI fT uA q c l pos hp n Q) (hB:uA l<pos l) (hl:l<Z.length) (h0:hp l=none) (x:Nat):Kk Z jI fT A (q+1) (c+1) pos (fun i=>if i=l then some x else hp i) n Q:=by
 have h5:=h.t;have h4:=h.hq;have h6:=h.hs;have h7:=h.s0;have h8:=h.hc;have hc:iZ Z (fun i=>(if i=l then some x else hp i).isSome)=iZ Z (fun i=>(hp i).isSome)+1:=by
  rw [←l8 Z (fun l=>(hp l).isSome) l hl (by simp [h0])];exact iq Z _ _ (fun i _=>by split<;>simp_all)
 exact ⟨h.r.back (fun i hi=>by show (if i=l then some x else hp i)=_;rw [Γ hi]) (fun _=>by show (if l=l then some x else hp l)≠none;rw [Δ rfl];simp),by rw [hc];omega,by omega,h.hl,h6,fun e=>by omega⟩
theorem Kk.qle {R:AR} {f:Int->Int->Option Pl} (h:Kk Z jI fT A q c pos hp n Q) (hi:tO Z R A q f pos hp) (hT:dI Z<=65536):q<=131072:=by
 have h1:=uz Z pos (fun i hi=>(h.r.le i hi).2);have h2:=hi.NY;have:=h.hq;omega
theorem Kk.small (h:Kk Z jI fT A q c pos hp n Q) (hN:Z.length<=65536) (hT:dI Z<=65536):∀p,p∈Q->p.1<1000000/\p.2<1000000:=fun p hp=>by
 obtain ⟨h1,h2,h3⟩:=(h.r.mem p).1 hp;have h4:=(h.r.le p.1 h1).2;have h5:=Jv Z p.1 h1;omega
end
def qA (Z:List (List Int)) (i:Nat):List Pl:=(List.range i).flatMap (fun l=>(List.range (zl Z l)).map (fun k=>(l,k)))
theorem Ba (Z:List (List Int)) (i:Nat):qA Z (i+1)=qA Z i++(List.range (zl Z i)).map (fun k=>(i,k)):=by
 unfold qA;rw [List.range_succ,List.flatMap_append];simp
theorem uN {Z:List (List Int)} {i:Nat} {p:Pl}:p∈qA Z i↔p.1<i/\p.2<zl Z p.1:=by
 unfold qA;simp only [List.mem_flatMap,List.mem_range,List.mem_map];constructor
 ·rintro ⟨l,hl,k,hk,rfl⟩;exact ⟨hl,hk⟩
 ·rintro ⟨h1,h2⟩;exact ⟨p.1,h1,p.2,h2,rfl⟩
theorem KW (i:Nat):∀n,((List.range n).map (fun k=>((i,k):Pl))).Pairwise EM:=fun n=>by
 rw [List.pairwise_map];exact (List.pairwise_lt_range).imp (fun h=>Β ⟨rfl,h⟩)
theorem zz (Z:List (List Int)):∀i,(qA Z i).Pairwise EM
 | 0=>by simp [qA]
 | i+1=>by
  rw [Ba];refine List.pairwise_append.2 ⟨zz Z i,KW i _,fun a ha b hb=>?_⟩;have h1:=(uN.1 ha).1;obtain ⟨k,_,rfl⟩:=List.mem_map.1 hb;exact Α h1
theorem Vq {a b:Pl} (h:EM a b):a≠b:=by
 rintro rfl;unfold EM at h;omega
theorem Gm (Z:List (List Int)) (i:Nat):(qA Z i).Nodup:=(zz Z i).imp (fun h=>Vq h)
theorem Fx (Z:List (List Int)):∀i,i<=Z.length->(qA Z i).length=dI (Z.take i)
 | 0,_=>by simp [qA,dI]
 | i+1,h=>by
  rw [Ba,υ,Fx Z i ω,ϓ,List.length_range];unfold dI;rw [ϐ,List.map_append,List.sum_append,ε ω];simp [zl,φ,ε (show i<Z.length by omega)]
theorem NA (Z:List (List Int)):(qA Z Z.length).length=dI Z:=by rw [Fx Z _ (Θ _),List.take_length]
def jX (Z:List (List Int)):List Pl:=(eO (fun x=>((qA Z Z.length).map (zk Z)).getD x 0) ((qA Z Z.length).map (zk Z)).length).map (fun x=>(qA Z Z.length).getD x (0,0))
theorem xx {P:List Pl} {x:Nat} (h:x<P.length):P.getD x (0,0)=P[x]:=by
 rw [φ,ε h];rfl
theorem Jc {Z:List (List Int)} {P:List Pl} {x:Nat} (h:x<P.length):(P.map (zk Z)).getD x 0=zk Z (P.getD x (0,0)):=by
 rw [xx h,φ,ϔ,ε h];rfl
theorem nu (Z:List (List Int)):(jX Z).Perm (qA Z Z.length):=by
 unfold jX;generalize qA Z Z.length=P;refine ((jU _ _).map _).trans (List.Perm.of_eq ?_);refine List.ext_getElem σ (fun i h1 h2=>?_);rw [List.getElem_map,List.getElem_range];exact xx h2
theorem sZ (Z:List (List Int)):(jX Z).length=dI Z:=by rw [(nu Z).length_eq,NA]
theorem yQ (Z:List (List Int)):(jX Z).Pairwise (Ui Z):=by
 have hP:=zz Z Z.length;unfold jX;generalize qA Z Z.length=P at *;rw [List.pairwise_map];refine (iL _ _).imp_of_mem (fun {a b} ha hb h=>?_);have ha':a<P.length:=by simpa using gU.1 ha
 have hb':b<P.length:=by simpa using gU.1 hb
 unfold A9 at h;dsimp only at h ⊢;rw [Jc ha',Jc hb'] at h;rcases h with h|⟨h,h2⟩
 ·exact Α h
 ·refine Β ⟨h,?_⟩;rw [xx ha',xx hb'];exact List.pairwise_iff_getElem.1 hP a b ha' hb' h2
theorem zP {a b:List Pl} (ha:a.Nodup) (hb:b.Nodup) (h:∀x,x∈a↔x∈b):a.Perm b:=
 (List.perm_ext_iff_of_nodup ha hb).2 h
theorem RD.all {Z:List (List Int)} {pos:Nat->Nat} {O:List Pl} (h:RD Z pos O) (hp:∀l,l<Z.length->pos l=zl Z l):O=jX Z:=by
 refine GU h.srt (yQ Z) ((zP h.nd (Gm Z Z.length) (fun p=>?_)).trans (nu Z).symm);rw [h.mem,uN];constructor
 ·rintro ⟨h1,h2⟩;exact ⟨h1,by rw [←hp p.1 h1];exact h2⟩
 ·rintro ⟨h1,h2⟩;exact ⟨h1,by rw [hp p.1 h1];exact h2⟩
def M0 (kf:Nat->Int) (lo:Nat->Nat) (i:Nat):List Nat:=eO (fun x=>kf (lo i+x)) (lo (i+1)-lo i)
def tJ (kf:Nat->Int) (lo:Nat->Nat) (i:Nat):List Nat:=(M0 kf lo i).map (fun x=>lo i+x)
def Bj (kf:Nat->Int) (lo:Nat->Nat) (i:Nat):List Int:=(tJ kf lo i).map kf
def Dp (kf:Nat->Int) (lo:Nat->Nat) (N:Nat):List (List Int):=(List.range N).map (Bj kf lo)
section
variable {kf:Nat->Int} {lo:Nat->Nat} {N n:Nat}
theorem iW (i:Nat):(tJ kf lo i).length=lo (i+1)-lo i:=by unfold tJ M0;rw [ϓ,nT]
theorem xn (i:Nat):(Bj kf lo i).length=lo (i+1)-lo i:=by unfold Bj;rw [ϓ,iW]
theorem qO:(Dp kf lo N).length=N:=by unfold Dp;simp
theorem Dc {i:Nat} (hi:i<N):(Dp kf lo N).getD i []=Bj kf lo i:=by
 unfold Dp;rw [φ,ϔ,List.getElem?_range hi];rfl
theorem Ic {i:Nat} (hi:i<N):zl (Dp kf lo N) i=lo (i+1)-lo i:=by unfold zl;rw [Dc hi,xn]
theorem JU (i:Nat):(tJ kf lo i).Pairwise (A9 kf):=by
 unfold tJ;rw [List.pairwise_map];refine (iL _ _).imp (fun {a b} h=>?_);unfold A9 at *;dsimp only at h;rcases h with h|⟨h1,h2⟩
 ·exact Α h
 ·exact Β ⟨h1,ω⟩
theorem JK {i y:Nat}:y∈tJ kf lo i↔lo i<=y/\y<lo i+(lo (i+1)-lo i):=by
 unfold tJ M0;rw [List.mem_map];constructor
 ·rintro ⟨x,hx,rfl⟩;have:=gU.1 hx;omega
 ·rintro ⟨h1,h2⟩;exact ⟨y-lo i,gU.2 ω,ω⟩
theorem xz {i k:Nat} (hk:k<lo (i+1)-lo i):(Bj kf lo i).getD k 0=kf ((tJ kf lo i).getD k 0):=by
 have h1:k<(tJ kf lo i).length:=by rw [iW];exact hk
 unfold Bj;rw [φ,ϔ,φ,ε h1];rfl
theorem Nv {p:Pl} (h1:p.1<N) (h2:p.2<lo (p.1+1)-lo p.1):zk (Dp kf lo N) p=kf ((tJ kf lo p.1).getD p.2 0):=by
 unfold zk;rw [Dc h1,xz h2]
theorem F4 {i k:Nat} (hk:k<lo (i+1)-lo i):lo i<=(tJ kf lo i).getD k 0/\(tJ kf lo i).getD k 0<lo i+(lo (i+1)-lo i):=by
 have h1:k<(tJ kf lo i).length:=by rw [iW];exact hk
 rw [φ,ε h1];exact JK.1 (Ϝ h1)
theorem KI:(Dp kf lo N).any (fun l=>!gW l)=false:=by
 rw [List.any_eq_false];intro l hl;unfold Dp at hl;obtain ⟨i,hi,rfl⟩:=List.mem_map.1 hl
 have h:gW (Bj kf lo i)=true:=sJ.2 (fun k hk=>by
  rw [xn] at hk;rw [xz ω,xz hk];have h1:k+1<(tJ kf lo i).length:=by rw [iW];exact hk
  have h2:=List.pairwise_iff_getElem.1 (JU (kf:=kf) (lo:=lo) i) k (k+1) ω h1 ω;rw [φ,φ,ε h1,ε (show k<(tJ kf lo i).length by omega)]
  show kf (tJ kf lo i)[k]<=kf (tJ kf lo i)[k+1]
  unfold A9 at h2
  omega)
 simp [h]
theorem JL (hm:∀i,i<N->lo i<=lo (i+1)):∀ {i j:Nat},i<=j->j<=N->lo i<=lo j:=fun {i j} hij=>by
 induction j with
 | zero=>
  intro _;obtain rfl:i=0:=ω
  exact Θ _
 | succ j ih=>
  intro hj
  by_cases e:i=j+1
  ·rw [e];exact Θ _
  ·exact Χ (ih ω ω) (hm j ω)
theorem IW (h0:lo 0=0) (x:Nat):∀k,x<lo k->∃j,j<k/\lo j<=x/\x<lo (j+1)
 | 0,h=>ω
 | k+1,h=>by
  by_cases e:x<lo k
  ·obtain ⟨j,h1,h2,h3⟩:=IW h0 x k e;exact ⟨j,ω,h2,h3⟩
  ·exact ⟨k,ω,ω,h⟩
theorem LM {a b:Nat} (h:A9 kf a b) (k:A9 kf b a):a=b:=by
 unfold A9 at *;exfalso;omega
theorem Nw (h0:lo 0=0) (hN:lo N=n) (hm:∀i,i<N->lo i<=lo (i+1)):(jX (Dp kf lo N)).map (fun p=>(tJ kf lo p.1).getD p.2 0)=eO kf n:=by
 have hmem:∀p,p∈jX (Dp kf lo N)↔p.1<N/\p.2<lo (p.1+1)-lo p.1:=fun p=>by
  rw [(nu _).mem_iff,uN,qO];constructor
  ·rintro ⟨h1,h2⟩;rw [Ic h1] at h2;exact ⟨h1,h2⟩
  ·rintro ⟨h1,h2⟩;exact ⟨h1,by rw [Ic h1];exact h2⟩
 have hsrt:((jX (Dp kf lo N)).map (fun p=>(tJ kf lo p.1).getD p.2 0)).Pairwise (A9 kf):=by
  rw [List.pairwise_map];refine (yQ _).imp_of_mem (fun {p q} hp hq h=>?_);obtain ⟨p1,p2⟩:=(hmem p).1 hp;obtain ⟨q1,q2⟩:=(hmem q).1 hq;unfold Ui at h;rw [Nv p1 p2,Nv q1 q2] at h;rcases h with h|⟨h,h'⟩
  ·exact Α h
  ·rcases h' with h'|⟨e,h'⟩
   ·refine Β ⟨h,?_⟩;have a1:=F4 (kf:=kf) p2;have a2:=F4 (kf:=kf) q2;have a3:=JL hm (i:=p.1+1) (j:=q.1) h' ω;have a4:=hm p.1 p1;omega
   ·have h1:p.2<(tJ kf lo p.1).length:=by rw [iW];exact p2
    have h2:q.2<(tJ kf lo p.1).length:=by rw [iW,e];exact q2
    have h3:=List.pairwise_iff_getElem.1 (JU (kf:=kf) (lo:=lo) p.1) p.2 q.2 h1 h2 h';rw [←e,φ,φ,ε h1,ε h2];exact h3
 refine List.Perm.eq_of_pairwise (fun a b _ _ h1 h2=>LM h1 h2) hsrt (iL kf n) ?_;refine (List.perm_ext_iff_of_nodup (hsrt.imp (fun h e=>by subst e;exact Sa h)) (wJ kf n)).2 (fun x=>?_);rw [gU,List.mem_map];constructor
 ·rintro ⟨p,hp,rfl⟩;obtain ⟨p1,p2⟩:=(hmem p).1 hp;have a1:=F4 (kf:=kf) p2;have a3:=JL hm (i:=p.1+1) (j:=N) p1 (Θ _);omega
 ·intro hx;obtain ⟨j,j1,j2,j3⟩:=IW h0 x N ω;have h1:x∈tJ kf lo j:=JK.2 ⟨j2,ω⟩;obtain ⟨t,ht,e⟩:=List.mem_iff_getElem.1 h1;have ht':=ht;rw [iW] at ht';refine ⟨(j,t),(hmem _).2 ⟨j1,ht'⟩,?_⟩;dsimp only;rw [φ,ε ht,e];rfl
theorem VS (h0:lo 0=0) (hN:lo N=n) (hm:∀i,i<N->lo i<=lo (i+1)):dI (Dp kf lo N)=n:=by
 have h:=congrArg List.length (Nw (kf:=kf) h0 hN hm);rw [ϓ,sZ,nT] at h;exact h
end
def lT (X:Nat->List Int) (i t:Nat):Nat->List Int:=fun j=>if j<i then X j else if j=i then (X i).take t else []
theorem rO (X:Nat->List Int):lT X 0 0=fun _=>[]:=funext fun j=>by
 unfold lT;rw [Γ (Nat.not_lt_zero _)]
 split
 ·simp
 ·rfl
theorem BA {X:Nat->List Int} {i t:Nat} (ht:t<(X i).length):(fun v=>if v=i then lT X i t i++[(X i).getD t 0] else lT X i t v)=lT X i (t+1):=funext fun v=>by
 unfold lT
 by_cases e:v=i
 ·subst e;rw [Δ rfl,Γ (Nat.lt_irrefl _),Δ rfl,ϐ,φ,ε ht];simp
 ·rw [Γ e];simp only [Γ e]
theorem Bd {X:Nat->List Int} {i t:Nat} (ht:(X i).length<=t):lT X i t=lT X (i+1) 0:=funext fun v=>by
 unfold lT
 by_cases e:v<i
 ·rw [Δ e,Δ ω]
 ·by_cases e2:v=i
  ·subst e2;rw [Γ e,Δ rfl,Δ ω,List.take_of_length_le ht]
  ·rw [Γ e,Γ e2,Γ ω]
   split
   ·simp
   ·rfl
theorem uP {X:Nat->List Int} {i t:Nat}:lT X i t i=(X i).take t:=by
 unfold lT;rw [Γ (Nat.lt_irrefl _),Δ rfl]
theorem Al {X:Nat->List Int} {i j t:Nat} (h:j<i):lT X i t j=X j:=by
 unfold lT;rw [Δ h]
structure pE (K:dV) (w0 w:World) (m p mb:Nat) (a:Option Addr) (N cap:Nat) (F:List Nat) (kd d:Int) (Z:List (List Int)) (c:Nat) (f:Int->Int->Option Pl) (R:AR) (A:NS) (q:Nat) (pos:Nat->Nat) (hp:Nat->Option Nat):Prop where
 c0:w.cell? ⟨m,0,none⟩=some (.pointer (some ⟨p,0,none⟩))
 c1:w.cell? ⟨m,1,none⟩=some (.slice a N cap)
 c2:w.cell? ⟨m,2,none⟩=some (.map (some mb))
 pq:dK K w p F kd d R A q
 map:pW w mb c f
 ll:vU w0 (.slice a N cap) Z
 lN:Z.length=N
 u:aa [] w0 w
 m0:w0.heap.size<=m
 b0:w0.heap.size<=mb
 f0:∀x,x∈F->w0.heap.size<=x
 mF:m∉F
 bF:mb∉F
 YD:m≠mb
 i:tO Z R A q f pos hp
theorem aa.twoS {G:Prop} {w w':World} {S:List Nat} (hu:aa S w w') (b:Nat) (v0 v1:Value) (h0:w.cell? ⟨b,0,none⟩=some v0) (h1:w.cell? ⟨b,1,none⟩=some v1) (f0:w.frozen? ⟨b,0,none⟩=false) (f1:w.frozen? ⟨b,1,none⟩=false) (hn:b∉S)
  (k:w'.cell? ⟨b,0,none⟩=some v0->w'.cell? ⟨b,1,none⟩=some v1->w'.frozen? ⟨b,0,none⟩=false->w'.frozen? ⟨b,1,none⟩=false->b<w'.heap.size->G):G:=
 k (hu.kept h0 hn) (hu.kept h1 hn) (hu.aP h0 hn f0) (hu.aP h1 hn f1) (Ψ (Ε _ _ h0) hu.size)
section
variable {K:dV} {w0 w:World} {m p mb N cap:Nat} {a:Option Addr} {F:List Nat} {kd d:Int} {Z:List (List Int)} {c:Nat} {f:Int->Int->Option Pl} {R:AR} {A:NS} {q:Nat} {pos:Nat->Nat} {hp:Nat->Option Nat}
theorem pE.ae {w':World} (h:pE K w0 w m p mb a N cap F kd d Z c f R A q pos hp) (hu:aa [] w w'):pE K w0 w' m p mb a N cap F kd d Z c f R A q pos hp:=
 ⟨hu.was h.c0,hu.was h.c1,hu.was h.c2,h.pq.ae hu,h.map.upd hu σ,h.ll,h.lN,h.u.trans hu,h.m0,h.b0,h.f0,h.mF,h.bF,h.YD,h.i⟩
theorem pE.list (h:pE K w0 w m p mb a N cap F kd d Z c f R A q pos hp) {l:Nat} (hl:l<N):∃g off ax cx,a=some ⟨g,off,none⟩/\g<w0.heap.size/\w.cell? ⟨g,off+l,none⟩=some (.slice ax (zl Z l) cx)/\fO w0 [] (.slice ax (zl Z l) cx) (Z.getD l []):=by
 have hx:Z[l]?=some (Z.getD l []):=by simp [φ,h.lN,hl]
 obtain ⟨g,off,ax,cx,e,hg,hc,_,_,hs⟩:=h.ll.at hx;exact ⟨g,off,ax,cx,e,hg,h.u.was hc,hs⟩
theorem JJ (h:pE K w0 w m p mb a N cap F kd d Z c f R A q pos hp) (l:Nat) (hl:l<N) (k:Nat) (hk:zl Z l<=k) :
  Calls Tryz.prog 48 #[.pointer (some ⟨m,0,none⟩),.agg #[.int .i64 (l:Int),.int .i64 (k:Int)]] w fun e w'=>e=.returned (.tuple #[])/\aa [] w w':=by
 have c1:=h.c1;obtain ⟨g,off,ax,cx,rfl,hg,hc,hs⟩:=h.list hl;have WL:(l:Int)<(N:Int):=ω;have hgw:g<w.heap.size:=Ψ hg h.u.size;have hmw:m<w.heap.size:=Ε _ _ c1;have Gd:¬ (k:Int)<(zl Z l:Int):=ω;clear h hs;generalize zl Z l=n at *
 go_enter Tryz.func48,Tryz.ntmps48
 go_wp2
 go_quiet (fail)
 go_wp2;go_end0;exact ⟨rfl,β⟩
theorem pE.store (h:pE K w0 w m p mb a N cap F kd d Z c f R A q pos hp) {w':World} {F':List Nat} {R':AR} {A':NS} {q':Nat} {f':Int->Int->Option Pl} {hp':Nat->Option Nat} {pos':Nat->Nat} (hP:dK K w' p F' kd d R' A' q') (hu:aa F w w') (hf:∀x,x∈F'->x∈F\/w.heap.size<=x) :
  (∀ (W:World) (c':Nat),pW W mb c' f'->aa [mb] w' W->tO Z R' A' q' f' pos' hp'->pE K w0 W m p mb a N cap F' kd d Z c' f' R' A' q' pos' hp')/\pW w' mb c f/\w'.cell? ⟨m,0,none⟩=some (.pointer (some ⟨p,0,none⟩))/\w'.cell? ⟨m,2,none⟩=some (.map (some mb)):=by
 have Lt:=Ε _ _ h.c0;have hbl:=h.map.lt;have hszw:=h.u.size;have hm':m∉F':=fun e=>by rcases hf m e with e|e;exact h.mF e;dsimp only at Lt;omega
 have hb':mb∉F':=fun e=>by rcases hf mb e with e|e;exact h.bF e;omega
 refine ⟨fun W c' hm hW hi=>?_,h.map.upd hu h.bF,hu.kept h.c0 h.mF,hu.kept h.c2 h.mF⟩;have hn1:m∉[mb]:=by simp;exact h.YD
 refine ⟨hW.kept (hu.kept h.c0 h.mF) hn1,hW.kept (hu.kept h.c1 h.mF) hn1,hW.kept (hu.kept h.c2 h.mF) hn1,hP.upd hW (fun x hx=>by simp at hx;rw [hx];exact hb'),hm,h.ll,h.lN,?_,h.m0,h.b0,fun x hx=>?_,hm',hb',h.YD,hi⟩
 ·exact (h.u.joined hu (fun x hx=>Β (h.f0 x hx))).joined hW (fun x hx=>Β (by simp at hx;rw [hx];exact h.b0))
 ·rcases hf x hx with e|e
  ·exact h.f0 x e
  ·omega
theorem Dz (h:pE K w0 w m p mb a N cap F kd d Z c f R A q pos hp) (l:Nat) (hl:l<N) (h0:hp l=none) (hk:pos l<zl Z l) (hq:q+1<=4294967295) (hc:c<9223372036854775807) (hb:∀p, -9223372036854775808<=zk Z p/\zk Z p<=9223372036854775807) :
  Calls Tryz.prog 48 #[.pointer (some ⟨m,0,none⟩),.agg #[.int .i64 (l:Int),.int .i64 (pos l:Int)]] w fun e w'=>e=.returned (.tuple #[])/\∃F' x f' R' A',pE K w0 w' m p mb a N cap F' kd d Z (c+1) f' R' A' (q+1) pos (fun i=>if i=l then some x else hp i)/\aa (mb::F) w w'/\∀z,z∈F'->z∈F\/w.heap.size<=z:=by
 obtain ⟨x,R',hT,hB,hI⟩:=h.i.push (by rw [h.lN];exact hl) h0 hk hq (hb _);have c0:=h.c0;have c1:=h.c1;have c2:=h.c2;obtain ⟨g,off,ax,cx,rfl,hg,hcl,hs⟩:=h.list hl;have WL:(l:Int)<(N:Int):=ω;have hgw:g<w.heap.size:=Ψ hg h.u.size;have hmw:m<w.heap.size:=Ε _ _ c1;have Gd:(pos l:Int)<(zl Z l:Int):=ω;obtain ⟨ge,oe,hax,hge,hce⟩:∃ge oe,ax=some ⟨ge,oe,none⟩/\ge<w0.heap.size/\w.cell? ⟨ge,oe+pos l,none⟩=some (.int .i64 (zk Z (l,pos l))):=by
  obtain ⟨a',c',he,_,_,h3⟩:=hs;cases he;obtain ⟨ge,oe,rfl,h4,_,h5⟩:=h3 (pos l) _ (by rw [ε hk]);exact ⟨ge,oe,rfl,h4,by rw [h.u.was h5];simp [zk,φ,ε (show pos l<((Z[l]?).getD []).length by simpa [zl,φ] using hk)]⟩
 subst hax;have kI:=fun W (hW:aa [] w W)=>qD (h.pq.ae hW) 1 (zk Z (l,pos l)) h.i.s.h1 (hb _) ω hT;have hgb:=h.i.s.gn x;have M6:=lK h.i.s.ok hT;have hxb:x<65536:=by have:=M6.2.1;have:=h.i.s.ok.n;omega
 have hgx:=NC h.i.s.ok hT x;rw [Δ rfl] at hgx;have HH:=χ (ψ h (ψ hI (ψ hgx hgb)));have hmF:=h.mF;have xB:ge∉F:=fun e=>by have:=h.f0 _ e;omega
 have hgew:ge<w.heap.size:=Ψ hge h.u.size;have NL:∀z,z∈F->z<w.heap.size:=fun z hz=>by
  obtain ⟨pa,pn,Fa,Fn,rfl,hM⟩:=h.pq;exact hM.lt z hz
 clear h hI hs hT M6 hgb hgx;generalize zk Z (l,pos l)=key at *;generalize hzl:zl Z l=zn at *;clear hzl;generalize R.g x=gx at *;have HP:=χ hk
 go_enter Tryz.func48,Tryz.ntmps48
 go_wp2
 go_quiet (fail)
 go_upto_region 3 with (fail)
 refine eY (fun W=>W.cell? ⟨w.heap.size,0,none⟩=some (.int .i64 (l:Int))/\W.cell? ⟨w.heap.size,1,none⟩=some (.int .i64 (pos l:Int))/\aa [] w W) ⟨γ,γ,β⟩ ?_;rintro W ⟨b0,b1,hW⟩;have hwF:w.heap.size∉F:=fun e=>by have:=NL _ e;omega
 have hWF:W.heap.size∉F:=fun e=>by have:=NL _ e;have:=hW.size;omega
 have s0:∀X,aa F W X->X.cell? ⟨m,0,none⟩=some (.pointer (some ⟨p,0,none⟩)):=fun X hX=>hX.kept (hW.was c0) hmF;have s1:∀X,aa F W X->X.cell? ⟨w.heap.size,1,none⟩=some (.int .i64 (pos l:Int)):=fun X hX=>hX.kept b1 hwF;have s2:∀X,aa F W X->X.cell? ⟨ge,oe+pos l,none⟩=some (.int .i64 key):=fun X hX=>hX.kept (hW.was hce) xB;have hWs:=hW.size;clear c0 c1 hcl hce
 go_region_held_law (aa F W) (exact ν)
  (first|((go_at_call 40;(with_reducible refine (kI _ β).mono ?_));rintro e w6 ⟨rfl,F',hP,gX,MR⟩;(have FP:aa F W w6:=aa.trans ν gX);(have hs6:=gX.size);(try simp only [Κ,World.size_drew] at hs6 MR);(try (refine aa.twoS gX W.heap.size (.int .i64 0) (.int .u32 0) ?_ ?_ ?_ ?_ ?_ ?_;(focus (go_simp;done));(focus (go_simp;done));(focus (go_simp;done));(focus (go_simp;done));(focus assumption);intro z0 z1 z2 z3 z4))))
 all_goals
  go_upto_region 4 with (fail)
  have hF6:=hP.lt
 ·refine eY (fun X=>X.cell? ⟨w6.heap.size,0,none⟩=some (.int .i64 (x:Int))/\X.cell? ⟨w6.heap.size,1,none⟩=some (.int .u32 ((gx:Int)+1))/\aa [w6.heap.size] w6 X/\w6.heap.size∉F'/\W.heap.size<=w6.heap.size/\∀z,z∈F'->z∈F\/W.heap.size<=z) ⟨γ,γ,ν,fun e=>by have:=hF6 _ e;omega,ω,fun z hz=>(MR z hz).imp id (fun e=>ω)⟩ ?_;generalize w6.heap.size=B5
  (rintro X ⟨y0,y1,hX,hBF,hBW,Oh⟩;(have Xu:=hP.upd hX (fun z hz=>by simp at hz;rw [hz];exact hBF));(have Mo:aa F W X:=FP.joined hX (fun z hz=>Β (by simp at hz;omega)));(obtain ⟨hfin,hmap,e0,e2⟩:=(HH.out.1.ae hW).store (f':=fun y e=>if y=(x:Int)/\e=(gx:Int)+1 then some (l,pos l) else f y e) (hp':=fun i=>if i=l then some x else hp i) (pos':=pos) Xu Mo (by first|exact Oh|(intro z hz;exact (Oh z hz).imp id (fun e=>ω))));(have x0:=Mo.kept b0 hwF);(have x1:=Mo.kept b1 hwF);(obtain ⟨w7,hrun,SV,pV⟩:=(hmap.upd ((aa.refl [] _).drew) σ).store hc (x:Int) ((gx:Int)+1) (l,pos l) ω (by have:=HH.out.2.2.2;omega));(have HF7:=χ (ψ hfin (ψ SV (ψ pV (ψ Mo Oh)))));clear hfin SV pV hmap Xu hP hX s0 s1 s2;(try clear z0 z1 z2 z3);unfold hV RY at hrun;go_region;all_goals (go_wp2;go_end0;(obtain ⟨hfin,SV,pV,Mo,Oh⟩:=HF7.out);(have Pb:=((aa.refl [mb] X).drew).trans pV);(have hI:=HH.out.2.1);rw [HH.out.2.2.1] at hI;exact ⟨rfl,F',⟨x,_,_,_,hfin _ _ SV Pb hI⟩,((hW.mono σ).trans (Mo.mono (fun z hz=>Λ _ hz))).trans (Pb.mono (fun z hz=>by simp at hz;simp [hz])),fun z hz=>(Oh z hz).imp id (fun e=>ω)⟩))
 ·refine eY (fun X=>X.cell? ⟨W.heap.size,0,none⟩=some (.int .i64 (x:Int))/\X.cell? ⟨W.heap.size,1,none⟩=some (.int .u32 ((gx:Int)+1))/\aa [W.heap.size] w6 X/\W.heap.size∉F'/\W.heap.size<=W.heap.size/\∀z,z∈F'->z∈F\/W.heap.size<=z) ⟨γ,γ,ν,fun e=>by rcases MR _ e with e|e;exact hWF e;omega,Θ _,fun z hz=>(MR z hz).imp id (fun e=>ω)⟩ ?_;generalize hB5:W.heap.size=B5
  (rintro X ⟨y0,y1,hX,hBF,hBW,Oh⟩;(have Xu:=hP.upd hX (fun z hz=>by simp at hz;rw [hz];exact hBF));(have Mo:aa F W X:=FP.joined hX (fun z hz=>Β (by simp at hz;omega)));(obtain ⟨hfin,hmap,e0,e2⟩:=(HH.out.1.ae hW).store (f':=fun y e=>if y=(x:Int)/\e=(gx:Int)+1 then some (l,pos l) else f y e) (hp':=fun i=>if i=l then some x else hp i) (pos':=pos) Xu Mo (by first|exact Oh|(intro z hz;exact (Oh z hz).imp id (fun e=>ω))));(have x0:=Mo.kept b0 hwF);(have x1:=Mo.kept b1 hwF);(obtain ⟨w7,hrun,SV,pV⟩:=(hmap.upd ((aa.refl [] _).drew) σ).store hc (x:Int) ((gx:Int)+1) (l,pos l) ω (by have:=HH.out.2.2.2;omega));(have HF7:=χ (ψ hfin (ψ SV (ψ pV (ψ Mo Oh)))));clear hfin SV pV hmap Xu hP hX s0 s1 s2;(try clear z0 z1 z2 z3);unfold hV RY at hrun;go_region;all_goals (go_wp2;go_end0;(obtain ⟨hfin,SV,pV,Mo,Oh⟩:=HF7.out);(have Pb:=((aa.refl [mb] X).drew).trans pV);(have hI:=HH.out.2.1);rw [HH.out.2.2.1] at hI;exact ⟨rfl,F',⟨x,_,_,_,hfin _ _ SV Pb hI⟩,((hW.mono σ).trans (Mo.mono (fun z hz=>Λ _ hz))).trans (Pb.mono (fun z hz=>by simp at hz;simp [hz])),fun z hz=>(Oh z hz).imp id (fun e=>ω)⟩))
end
section
variable {K:dV} {w0 w:World} {m p mb N cap:Nat} {a:Option Addr} {F:List Nat} {kd d:Int} {Z:List (List Int)} {c:Nat} {f:Int->Int->Option Pl} {R:AR} {A:NS} {q:Nat} {pos:Nat->Nat} {hp:Nat->Option Nat}
theorem pE.moved (h:pE K w0 w m p mb a N cap F kd d Z c f R A q pos hp) {w':World} (hg:Goes F w w' (fun F'=>dK K w' p F' kd d R A q)):∃F',pE K w0 w' m p mb a N cap F' kd d Z c f R A q pos hp/\aa F w w'/\∀z,z∈F'->z∈F\/w.heap.size<=z:=by
 obtain ⟨F',hP,hu,hf⟩:=hg;obtain ⟨h1,h2,_,_⟩:=h.store (f':=f) (hp':=hp) (pos':=pos) hP hu hf;exact ⟨F',h1 _ _ h2 (aa.refl _ _) h.i,hu,hf⟩
theorem Ih (h:pE K w0 w m p mb a N cap F kd d Z c f R A q pos hp) (hm:bB A 1=none) :
  Calls Tryz.prog 49 #[.pointer (some ⟨m,0,none⟩)] w fun e w'=>e=.returned (.slice none 0 0)/\∃F',pE K w0 w' m p mb a N cap F' kd d Z c f R A q pos hp/\aa F w w'/\∀z,z∈F'->z∈F\/w.heap.size<=z:=by
 have c0:=h.c0;have kI:=Fj h.pq 1 ω hm;have hmw:m<w.heap.size:=Ε _ _ c0;have hE:(nR A 1 != 0)=true:=by
  unfold nR;rw [hm]
  split<;>simp
 have HH:=χ h;clear h hm;generalize nR A 1=er at *
 go_enter Tryz.func49,Tryz.ntmps49
 go_wp2_with (first|((go_at_call 43;(with_reducible refine (kI).mono ?_));rintro e w1 ⟨rfl,hg⟩)|fail)
 go_ret;obtain ⟨F',h1,h2,h3⟩:=HH.out.moved hg;exact ⟨rfl,F',h1.ae β,h2.trans (aa.mono (S:=[]) β σ),h3⟩
end
def zA:Value->Nat
 | .slice _ n _=>n
 | _=>0
structure Bx (w:World) (P:Nat) (a b:Value):Prop where
 c0:w.cell? ⟨P,0,none⟩=some a
 c1:w.cell? ⟨P,1,none⟩=some b
 f0:w.frozen? ⟨P,0,none⟩=false
 f1:w.frozen? ⟨P,1,none⟩=false
theorem Bx.lt {w:World} {P:Nat} {a b:Value} (h:Bx w P a b):P<w.heap.size:=Ε _ _ h.c0
theorem Bx.upd {w w':World} {P:Nat} {a b:Value} {S:List Nat} (h:Bx w P a b) (hu:aa S w w') (hn:P∉S):Bx w' P a b:=
 ⟨hu.kept h.c0 hn,hu.kept h.c1 hn,hu.aP h.c0 hn h.f0,hu.aP h.c1 hn h.f1⟩
section
variable {K:dV} {w0 w wr:World} {m p mb N cap:Nat} {a:Option Addr} {F0 F:List Nat} {kd d:Int} {Z:List (List Int)} {c:Nat} {f:Int->Int->Option Pl} {R:AR} {A:NS} {q:Nat} {pos:Nat->Nat} {hp:Nat->Option Nat} {v:Value} {n:Nat} {Q:List Pl}
theorem pE.goes (h:pE K w0 w m p mb a N cap F kd d Z c f R A q pos hp) {w':World} {R':AR} {A':NS} {q':Nat} {pos':Nat->Nat} {hp':Nat->Option Nat} (hg:Goes F w w' (fun F'=>dK K w' p F' kd d R' A' q')) (hi:tO Z R' A' q' f pos' hp'):∃F',pE K w0 w' m p mb a N cap F' kd d Z c f R' A' q' pos' hp'/\aa F w w'/\∀z,z∈F'->z∈F\/w.heap.size<=z:=by
 obtain ⟨F',hP,hu,hf⟩:=hg;obtain ⟨h1,h2,_,_⟩:=h.store (f':=f) (hp':=hp') (pos':=pos') hP hu hf;exact ⟨F',h1 _ _ h2 (aa.refl _ _) hi,hu,hf⟩
theorem pE.upd (h:pE K w0 w m p mb a N cap F kd d Z c f R A q pos hp) {w':World} {S:List Nat} (hu:aa S w w') (hS:∀x,x∈S->x∉F/\x≠m/\x≠mb/\w0.heap.size<=x):pE K w0 w' m p mb a N cap F kd d Z c f R A q pos hp:=
  ⟨hu.kept h.c0 (fun e=>(hS _ e).2.1 rfl),hu.kept h.c1 (fun e=>(hS _ e).2.1 rfl),hu.kept h.c2 (fun e=>(hS _ e).2.1 rfl),h.pq.upd hu (fun x hx=>(hS x hx).1),h.map.upd hu (fun e=>(hS _ e).2.2.1 rfl),h.ll,h.lN,
   h.u.joined hu (fun x hx=>Β (hS x hx).2.2.2),h.m0,h.b0,h.f0,h.mF,h.bF,h.YD,h.i⟩
theorem pE.Jz (h:pE K w0 w m p mb a N cap F kd d Z c f R A q pos hp) {pos':Nat->Nat} (hi:tO Z R A q f pos' hp):pE K w0 w m p mb a N cap F kd d Z c f R A q pos' hp:=
 ⟨h.c0,h.c1,h.c2,h.pq,h.map,h.ll,h.lN,h.u,h.m0,h.b0,h.f0,h.mF,h.bF,h.YD,hi⟩
structure oq (K:dV) (w0 w wr:World) (m p mb:Nat) (a:Option Addr) (N cap:Nat) (F0 F:List Nat) (kd d:Int) (Z:List (List Int)) (c:Nat) (f:Int->Int->Option Pl) (R:AR) (A:NS) (q:Nat) (pos:Nat->Nat) (hp:Nat->Option Nat) (v:Value) (n:Nat) (Q:List Pl):Prop where
 g:pE K w0 wr m p mb a N cap F kd d Z c f R A q pos hp
 own:wr.ownsRow w.heap.size 53 2 v n (vg Q)
 off:∀g,v.ownBlock=some g->g∉F
 up:aa (mb::F0) w wr
 fr:∀z,z∈F->z∈F0\/w.heap.size<=z
 ml:m<w.heap.size
 bl:mb<w.heap.size
 Tg:w0.heap.size<=w.heap.size
theorem oq.start (h:pE K w0 w m p mb a N cap F kd d Z c f R A q pos hp):oq K w0 w w m p mb a N cap F F kd d Z c f R A q pos hp (.slice none 0 0) 0 []:=
 ⟨h,⟨rfl,Α ⟨rfl,rfl⟩⟩,fun g hg=>(by cases hg),aa.refl _ _,fun z hz=>Α hz,Ε _ _ h.c0,h.map.lt,h.u.size⟩
theorem oq.upd (h:oq K w0 w wr m p mb a N cap F0 F kd d Z c f R A q pos hp v n Q) {w':World} {S:List Nat} (hu:aa S wr w') (hS:∀x,x∈S->x∉F/\w.heap.size<=x/\v.ownBlock≠some x):oq K w0 w w' m p mb a N cap F0 F kd d Z c f R A q pos hp v n Q:=
 ⟨h.g.upd hu (fun x hx=>⟨(hS x hx).1,by have:=(hS x hx).2.1;have:=h.ml;omega,by have:=(hS x hx).2.1;have:=h.bl;omega,by have:=(hS x hx).2.1;have:=h.Tg;omega⟩),ay h.own hu (fun k hk hm=>(hS k hm).2.2 hk),h.off,h.up.joined hu (fun x hx=>Β (hS x hx).2.1),h.fr,h.ml,h.bl,h.Tg⟩
theorem oq.ae (h:oq K w0 w wr m p mb a N cap F0 F kd d Z c f R A q pos hp v n Q) {w':World} (hu:aa [] wr w'):oq K w0 w w' m p mb a N cap F0 F kd d Z c f R A q pos hp v n Q:=h.upd hu σ
theorem oq.goes (h:oq K w0 w wr m p mb a N cap F0 F kd d Z c f R A q pos hp v n Q) {w':World} {R':AR} {A':NS} {q':Nat} {pos':Nat->Nat} {hp':Nat->Option Nat} (hg:Goes F wr w' (fun F'=>dK K w' p F' kd d R' A' q')) (hi:tO Z R' A' q' f pos' hp'):∃F',oq K w0 w w' m p mb a N cap F0 F' kd d Z c f R' A' q' pos' hp' v n Q/\aa F wr w'/\∀z,z∈F'->z∈F\/wr.heap.size<=z:=by
 obtain ⟨F',h1,h2,h3⟩:=h.g.goes hg hi;have hs:=h.up.size;refine ⟨F',⟨h1,ay h.own h2 h.off,fun g hg hm=>?_,h.up.joined h2 (fun x hx=>(h.fr x hx).imp (fun e=>Λ _ e) id),fun z hz=>?_,h.ml,h.bl,h.Tg⟩,h2,h3⟩
 ·rcases h3 g hm with e|e
  ·exact h.off g hg e
  ·have:=(h.own.lt g hg).2;omega
 ·rcases h3 z hz with e|e
  ·exact h.fr z e
  ·exact Β ω
theorem oq.app (h:oq K w0 w wr m p mb a N cap F0 F kd d Z c f R A q pos hp v n Q) {w':World} {v':Value} {n':Nat} {Q':List Pl} (ho:w'.ownsRow w.heap.size 53 2 v' n' (vg Q')) (hu:aa v.ownBlock.toList wr w') (hs:v'.ownBlock=v.ownBlock\/∀k,v'.ownBlock=some k->wr.heap.size<k):oq K w0 w w' m p mb a N cap F0 F kd d Z c f R A q pos hp v' n' Q':=by
 have Nb:=h.g.pq.lt;have Lt:=h.ml;have hbl:=h.bl;have h0l:=h.Tg;refine ⟨h.g.upd hu (fun x hx=>?_),ho,fun g hg hm=>?_,h.up.own h.own (Θ _) hu,h.fr,h.ml,h.bl,h.Tg⟩
 ·have hx':=Option.mem_toList.1 hx;have hb:=(h.own.lt x hx').1;exact ⟨h.off x hx',ω,ω,ω⟩
 ·rcases hs with e|e
  ·rw [e] at hg;exact h.off g hg hm
  ·have:=e g hg;have:=Nb g hm;omega
theorem oq.min (h:oq K w0 w wr m p mb a N cap F0 F kd d Z c f R A q pos hp v n Q) {x:Nat} (hM:bB A 1=some x) {k:Int} (hk:(A.c x).k=k) :
  Calls Tryz.prog 43 #[.pointer (some ⟨p,0,none⟩),.int .i64 1] wr fun e w'=>e=.returned (.tuple #[.agg #[.int .i64 (x:Int),.int .u32 (R.g x:Int)],.int .i64 k,.int .i64 0])/\∃F',oq K w0 w w' m p mb a N cap F0 F' kd d Z c f R A q pos hp v n Q/\aa F wr w'/\∀z,z∈F'->z∈F\/wr.heap.size<=z:=by
 subst hk;exact (vP h.g.pq 1 hM).mono (fun e w' hh=>⟨hh.1,h.goes hh.2 h.g.i⟩)
theorem oq.minE (h:oq K w0 w wr m p mb a N cap F0 F kd d Z c f R A q pos hp v n Q) (hM:bB A 1=none) :
  Calls Tryz.prog 43 #[.pointer (some ⟨p,0,none⟩),.int .i64 1] wr fun e w'=>e=.returned (.tuple #[.agg #[.int .i64 0,.int .u32 0],.int .i64 0,.int .i64 (nR A 1)])/\∃F',oq K w0 w w' m p mb a N cap F0 F' kd d Z c f R A q pos hp v n Q/\aa F wr w'/\∀z,z∈F'->z∈F\/wr.heap.size<=z:=
 (Fj h.g.pq 1 ω hM).mono (fun e w' hh=>⟨hh.1,h.goes hh.2 h.g.i⟩)
theorem oq.ext (h:oq K w0 w wr m p mb a N cap F0 F kd d Z c f R A q pos hp v n Q) {x l:Nat} (hM:bB A 1=some x) {k:Int} (hk:(A.c x).k=k) (hl:hp l=some x) (hq:q<4294967295) :
  Calls Tryz.prog 41 #[.pointer (some ⟨p,0,none⟩),.int .i64 1] wr fun e w'=>e=.returned (.tuple #[.agg #[.int .i64 (x:Int),.int .u32 (R.g x:Int)],.int .i64 k,.int .i64 0])/\∃F',oq K w0 w w' m p mb a N cap F0 F' kd d Z c f (eB R x) (aN A (x:Int)) q pos (fun i=>if i=l then none else hp i) v n Q/\aa F wr w'/\∀z,z∈F'->z∈F\/wr.heap.size<=z:=by
 subst hk;exact (vC h.g.pq 1 hM).mono (fun e w' hh=>⟨hh.1,h.goes hh.2 (h.g.i.pop' hq hM hl (fun i _=>rfl))⟩)
theorem oq.Zk (h:oq K w0 w wr m p mb a N cap F0 F kd d Z c f R A q pos hp v n Q) (l:Nat) (hl:l<N) (k:Nat) (hk:zl Z l<=k) :
  Calls Tryz.prog 48 #[.pointer (some ⟨m,0,none⟩),.agg #[.int .i64 (l:Int),.int .i64 (k:Int)]] wr fun e w'=>e=.returned (.tuple #[])/\oq K w0 w w' m p mb a N cap F0 F kd d Z c f R A q pos hp v n Q:=
 (JJ h.g l hl k hk).mono (fun e w' hh=>⟨hh.1,h.ae hh.2⟩)
theorem oq.Ze (h:oq K w0 w wr m p mb a N cap F0 F kd d Z c f R A q pos hp v n Q) (l:Nat) (hl:l<N) (h0:hp l=none) (hk:pos l<zl Z l) (hq:q+1<=4294967295) (hc:c<9223372036854775807) (hb:∀p, -9223372036854775808<=zk Z p/\zk Z p<=9223372036854775807) :
  Calls Tryz.prog 48 #[.pointer (some ⟨m,0,none⟩),.agg #[.int .i64 (l:Int),.int .i64 (pos l:Int)]] wr fun e w'=>e=.returned (.tuple #[])/\∃F' x f' R' A',oq K w0 w w' m p mb a N cap F0 F' kd d Z (c+1) f' R' A' (q+1) pos (fun i=>if i=l then some x else hp i) v n Q:=by
 refine (Dz h.g l hl h0 hk hq hc hb).mono (fun e w' hh=>⟨hh.1,?_⟩);obtain ⟨F',x,f',R',A',h1,h2,h3⟩:=hh.2;have hs:=h.up.size;have hbl:=h.bl;have hoff:∀g,v.ownBlock=some g->g∉mb::F:=fun g hg hm=>by
  rcases ρ.1 hm with e|e
  ·have:=(h.own.lt g hg).1;omega
  ·exact h.off g hg e
 refine ⟨F',x,f',R',A',⟨h1,ay h.own h2 hoff,fun g hg hm=>?_,h.up.joined h2 (fun x hx=>?_),fun z hz=>?_,h.ml,h.bl,h.Tg⟩⟩
 ·rcases h3 g hm with e|e
  ·exact h.off g hg e
  ·have:=(h.own.lt g hg).2;omega
 ·rcases ρ.1 hx with e|e
  ·exact Α (by rw [e];simp)
  ·exact (h.fr x e).imp (fun e=>Λ _ e) id
 ·rcases h3 z hz with e|e
  ·exact h.fr z e
  ·exact Β ω
theorem oq.Jz (h:oq K w0 w wr m p mb a N cap F0 F kd d Z c f R A q pos hp v n Q) {pos':Nat->Nat} (hi:tO Z R A q f pos' hp):oq K w0 w wr m p mb a N cap F0 F kd d Z c f R A q pos' hp v n Q:=
 ⟨h.g.Jz hi,h.own,h.off,h.up,h.fr,h.ml,h.bl,h.Tg⟩
theorem pE.items (h:pE K w0 w m p mb a N cap F kd d Z c f R A q pos hp) {l:Nat} (hl:l<N) (h0:0<zl Z l):∃g off ge oe cx,a=some ⟨g,off,none⟩/\w0.cell? ⟨g,off+l,none⟩=some (.slice (some ⟨ge,oe,none⟩) (zl Z l) cx)/\∀k,k<zl Z l->w0.cell? ⟨ge,oe+k,none⟩=some (.int .i64 (zk Z (l,k))):=by
 have hx:Z[l]?=some (Z.getD l []):=by simp [φ,h.lN,hl]
 obtain ⟨g,off,ax,cx,e,hg,hc,_,_,hs⟩:=h.ll.at hx;obtain ⟨a',c',he,_,_,h3⟩:=hs;cases he;obtain ⟨ge,oe,rfl,_,_,_⟩:=h3 0 _ (ε h0);refine ⟨g,off,ge,oe,_,e,hc,fun k hk=>?_⟩;obtain ⟨_,_,he,_,_,h5⟩:=h3 k _ (ε hk);cases he;rw [h5];simp [zk,φ,ε (show k<((Z[l]?).getD []).length by simpa [zl,φ] using hk)]
end
section
variable {K:dV} {w0 w wr:World} {m p mb N cap:Nat} {a:Option Addr} {F0 F:List Nat} {kd d:Int} {Z:List (List Int)} {c:Nat} {f:Int->Int->Option Pl} {R:AR} {A:NS} {q:Nat} {pos:Nat->Nat} {hp:Nat->Option Nat} {v:Value} {n:Nat} {Q:List Pl}
def IJ (K:dV) (w0 w:World) (m p mb:Nat) (a:Option Addr) (N cap:Nat) (F0:List Nat) (kd d:Int) (Z:List (List Int)) (fT:Nat->Nat) (e:Ending) (w':World):Prop:=
 ∃ (jI:Int) (Q C:List Pl) (g n co:Nat) (F':List Nat) (c':Nat) (f':Int->Int->Option Pl) (R':AR) (A':NS) (q':Nat) (pos':Nat->Nat) (hp':Nat->Option Nat),e=.returned (.slice (some ⟨g,0,none⟩) n co)/\0<n/\C.length=n/\w.heap.size<=g/\PR w' g C/\C.Perm Q/\fw C/\
  (∀l,l<Z.length->pos' l<zl Z l->jI<zk Z (l,pos' l))/\pE K w0 w' m p mb a N cap F' kd d Z c' f' R' A' q' pos' hp'/\Kk Z jI fT A' q' c' pos' hp' n Q/\aa (mb::F0) w w'/\∀z,z∈F'->z∈F0\/w.heap.size<=z
theorem Iy (h:pE K w0 w m p mb a N cap F kd d Z c f R A q pos hp) (hz:zh Z) (hN:Z.length<=65536) (hT:dI Z<=65536) (hb:∀p, -9223372036854775808<=zk Z p/\zk Z p<=9223372036854775807) (hle:∀l,l<Z.length->pos l<=zl Z l) (hfull:∀l,l<Z.length->pos l<zl Z l->hp l≠none) {m0:Nat} (hm:bB A 1=some m0) (hq:q<=jB Z pos+iZ Z (fun i=>(hp i).isSome)) (hc:c<=q) :
  Calls Tryz.prog 49 #[.pointer (some ⟨m,0,none⟩)] w (IJ K w0 w m p mb a N cap F kd d Z pos):=by
 obtain ⟨l0,e1,e2,e3,e4,e5,e6,e7⟩:=h.i.first hm;obtain ⟨jI,ZU⟩:∃jI,zk Z (l0,pos l0)=jI:=⟨_,rfl⟩;rw [ZU] at e5 e7
 have hS0:Hid (Kk Z jI pos A q c pos hp 0 []):=⟨CK.start hle hfull (fun l hl hlt=>by
  obtain ⟨x,hx⟩:=Option.ne_none_iff_exists'.1 (hfull l hl hlt)
  exact e7 l x hx),hq,hc,rfl,ω,fun _=>⟨m0,hm,e5⟩⟩
 have c0:=h.c0;have hmw:m<w.heap.size:=Ε _ _ c0;have kM1:=(oq.start h).min hm e5;have HG:=χ (ψ hz (ψ hN (ψ hT (ψ hb (show m<w.heap.size from hmw)))));clear h hz hN hT hb hle hfull hq hc hm e1 e2 e3 e4 e5 e6 e7 ZU;unfold IJ
 go_enter Tryz.func49,Tryz.ntmps49
 go_wp2_with (first|((go_at_call 43;(with_reducible refine (kM1).mono ?_));rintro e w1 ⟨rfl,F1,AQ,hu1,hf1⟩)|fail)
 refine eY (fun W=>oq K w0 w W m p mb a N cap F F1 kd d Z c f R A q pos hp (.slice none 0 0) 0 []) (AQ.ae β) ?_;rintro W wH;have HW:=χ wH;clear AQ wH hu1 hf1 kM1 c0
 go_loopw [6,7,8,9,10,11] (fun v6 _ _ _ _ _ wr=>∃ (n:Nat) (ao:Option Addr) (co:Nat) (Q:List Pl) (F':List Nat) (c':Nat) (f':Int->Int->Option Pl) (R':AR) (A':NS) (q':Nat) (pos':Nat->Nat) (hp':Nat->Option Nat),v6=.slice ao n co/\oq K w0 w wr m p mb a N cap F F' kd d Z c' f' R' A' q' pos' hp' (.slice ao n co) n Q/\Kk Z jI pos A' q' c' pos' hp' n Q) (fun v6 _ _ _ _ _ _=>dI Z-zA v6)
 case atStart=>exact ⟨0,none,0,[],_,_,_,_,_,_,_,_,rfl,HW.out,hS0.out⟩
 case round=>
  obtain ⟨n,ao,co,Q,F',c',f',R',A',q',pos',hp',rfl,hR,hS⟩:=hrel;rename World=>wr;have c0:=hR.g.c0;have hmr:=Ε _ _ c0;obtain ⟨hz,hN,hT,hb,Lt⟩:=HG.out;cases hm':bB A' 1 with
  | none=>
   have kM:=fun W (hW:aa [] wr W)=>(hR.ae hW).minE hm';have hE:(nR A' 1 != 0)=true:=by unfold nR;rw [hm'];split<;>simp
   have hfin:=hS.r.Mr hR.g.i hm';have hn0:0<n:=Nat.pos_of_ne_zero (fun e=>by obtain ⟨x,hx,_⟩:=hS.z e;rw [hm'] at hx;cases hx);have HF:=χ (ψ hN (ψ hT (ψ hS (ψ hfin hn0))));clear hz hN hT hb hS hfin hm' hn0;generalize nR A' 1=er at *
   (go_upto_region 14 with (first|((go_at_call 43;(with_reducible refine (kM _ β).mono ?_));rintro e w6 ⟨rfl,F6,QN,gX,MR⟩)|fail);refine eY (fun W=>∃F2,oq K w0 w W m p mb a N cap F F2 kd d Z c' f' R' A' q' pos' hp' (.slice ao n co) n Q) ⟨_,QN.ae β⟩ ?_;rintro W ⟨F2,wH⟩;obtain ⟨hN,hT,hS,hfin,hn0⟩:=HF.out;obtain ⟨g,cp,hv,hg,hQl,hnc,hcc,Td⟩:=PR.fQ wH.own (hS.small hN hT) hn0;cases hv;have kS:=yG W g n co Q Td hQl (by have:=hS.le;omega);have HR:=χ (ψ wH (ψ hg Td.lt));clear wH Td hg hS hR QN hfin hN hT gX MR kM;go_wp2_with (first|((go_at_call 72;(with_reducible refine (kS).mono ?_));rintro e w9 ⟨rfl,C,jN,hC2,Xb,jJ⟩)|fail);go_ret;obtain ⟨wH,hg,hgl⟩:=HR.out;obtain ⟨hN,hT,hS,hfin,hn0⟩:=HF.out;have xB:g∉F2:=wH.off g rfl;exact ⟨jI,Q,C,g,n,co,F2,c',f',R',A',q',pos',hp',rfl,hn0,by rw [jN.length_eq];exact hS.hl,hg,Xb,jN,hC2,hfin,wH.g.upd jJ (fun x hx=>by simp at hx;subst hx;exact ⟨xB,by have:=wH.ml;omega,by have:=wH.bl;omega,by have:=wH.Tg;omega⟩),hS,wH.up.joined jJ (fun x hx=>by simp at hx;subst hx;exact Β hg),wH.fr⟩)
  | some x=>
   by_cases hk:(A'.c x).k=jI
   ·obtain ⟨l,hl,XJ,hlt,hv,hkz,hfx, -⟩:=hR.g.i.first hm';rw [hk] at hkz;have hlN:l<N:=by rw [←hR.g.lN];exact XJ
    obtain ⟨g,off,ge,oe,cx,rfl,hcl,hce⟩:=hR.g.items hlN ω;have hq':=hS.qle hR.g.i hT;have hgx:=hR.g.i.s.gn x;have hxb:x<65536:=by have h1:=hR.g.i.s.ok.n;have h2:=AR.Ht hv;omega
    have kM:=fun W (hW:aa [] wr W)=>(hR.ae hW).min hm' hk;have HA:=χ (fun (Xw:Nat->Nat) (h:∀i,i≠l->Xw i=pos' i)=>hR.g.i.pop' ω hm' hl h);have HT:=χ (hS.out hR.g.i hl XJ);have HS:=χ hS;have HI:=χ hR.g.i;obtain ⟨gx,hgx'⟩:∃gx,R'.g x=gx:=⟨_,rfl⟩;rw [hgx'] at kM hfx hgx;have HC:=χ (ψ hcl (ψ hce (ψ hkz (ψ hlt XJ))));have HD:=χ (ψ hm' (ψ hk hl));clear hz hN hT hb hS hcl hce hkz hm' hk hv
    go_upto_region 7 with (first|((go_at_call 43;(with_reducible refine (kM _ β).mono ?_));rintro e w6 ⟨rfl,F6,QN,gX,MR⟩)|fail)
    refine eY (fun W=>oq K w0 w W m p mb (some ⟨g,off,none⟩) N cap F F6 kd d Z c' f' R' A' q' pos' hp' (.slice ao n co) n Q/\Bx W w6.heap.size (.int .i64 (x:Int)) (.int .u32 (gx:Int))) ⟨QN.ae β,⟨γ,γ,γ,γ⟩⟩ ?_;rintro W7 ⟨Za,hX⟩;clear QN hR kM c0 hmr MR gX;generalize w6.heap.size=X at *;have c2:=Za.g.c2;have hml7:m<W7.heap.size:=Ε _ _ c2;have CW:¬m=W7.heap.size:=ω;have QM:=hX.lt;have Af:¬X=W7.heap.size:=ω;obtain ⟨x0,x1, -, -⟩:=hX;have hl1:=(Za.g.map.upd (S:=[]) (w':=W7.drew) β σ).look hfx ω ω
    have hl2:=(Za.g.map.upd (S:=[]) (w':=(W7.alloc (.cells #[.int .i64 0,.int .i64 0] 53)).drew) β σ).look hfx ω ω;unfold hV RY at hl1 hl2;have Xx:=χ Za;clear Za;have hPF:W7.heap.size∉F6:=fun e=>absurd (Xx.out.g.pq.lt _ e) (Nat.lt_irrefl _);have X7:∀k,Value.ownBlock (.slice ao n co)=some k->k≠W7.heap.size:=fun k hk=>Nat.ne_of_lt (Xx.out.own.lt k hk).2;have hPb:w.heap.size<=W7.heap.size:=Xx.out.up.size
    go_region
    all_goals
     go_upto_region 8 with (fail)
     refine eY (fun W=>oq K w0 w W m p mb (some ⟨g,off,none⟩) N cap F F6 kd d Z c' f' R' A' q' pos' hp' (.slice ao n co) n Q/\Bx W W7.heap.size (.int .i64 (l:Int)) (.int .i64 (pos' l:Int))) ⟨Xx.out.ae β,⟨γ,γ,γ,γ⟩⟩ ?_;rintro W8 ⟨hR8,hP⟩;clear hl1 hl2 Xx c2 hml7 CW QM Af x0 x1;generalize W7.heap.size=P at *;have c0:=hR8.g.c0;have kE:=fun W (hW:aa [] W8 W)=>(hR8.ae hW).ext HD.out.1 HD.out.2.1 HD.out.2.2 ω;have hml8:=Ε _ _ c0
     go_upto_region 9 with (first|((go_at_call 41;(with_reducible refine (kE _ β).mono ?_));rintro e w9 ⟨rfl,F9,hR9,jJ,hf9⟩)|fail)
     have U1:Bx w9 P (.int .i64 (l:Int)) (.int .i64 (pos' l:Int)):=hP.upd jJ hPF;have Xv:P∉F9:=fun e=>by rcases hf9 P e with e|e;exact hPF e;have:=hP.lt;omega
     have c1:=hR9.g.c1;have hcl:=hR9.g.u.was HC.out.1;obtain ⟨p0,p1, -, -⟩:=U1;have WL:(l:Int)<(N:Int):=ω;have H9:=χ (ψ hR9 (ψ hP jJ));clear hR9 jJ hf9 hR8 kE c0 hml8 hP
     go_quiet (fail)
     go_wp2;clear p0 p1 c1 hcl
     go_loopw [6] (fun v6 wi=>∃ (n1:Nat) (a1:Option Addr) (c1:Nat) (Q1:List Pl) (jS:Nat->Nat),v6=.slice a1 n1 c1/\oq K w0 w wi m p mb (some ⟨g,off,none⟩) N cap F F9 kd d Z c' f' (eB R' x) (aN A' (x:Int)) q' pos' (fun i=>if i=l then none else hp' i) (.slice a1 n1 c1) n1 Q1/\Bx wi P (.int .i64 (l:Int)) (.int .i64 (jS l:Int))/\(∀k,Value.ownBlock (.slice a1 n1 c1)=some k->k≠P)/\PO Z jI pos pos' q' c' l jS (fun i=>if i=l then none else hp' i) n1 Q1) (fun v6 _=>dI Z-zA v6)
     case atStart=>exact ⟨n,ao,co,Q,pos',rfl,H9.out.1.ae β,(H9.out.2.1.upd H9.out.2.2 hPF).upd (S:=[]) β σ,X7,HT.out⟩
     case round=>
      clear X7;obtain ⟨n1,a1,c1,Q1,jS,rfl,AQ,hB,X7,hT1⟩:=hrel;rename World=>wi;have hTT:=HG.out.2.2.1;have hn1:=hT1.le;have hple:=(hT1.r.le l HC.out.2.2.2.2).2;have hzz:=Jv Z l HC.out.2.2.2.2;have hb0:w.heap.size<=wi.heap.size:=AQ.up.size;obtain ⟨p0,p1,g0,g1⟩:=hB
      by_cases hlt1:jS l<zl Z l
      ·have hce:=AQ.g.u.was (HC.out.2.1 _ hlt1);have zi:(jS l:Int)<(zl Z l:Int):=ω;have hltD:decide ((jS l:Int)<(zl Z l:Int))=true:=by simpa using hlt1
       by_cases hkk:zk Z (l,jS l)=jI
       ·have ho:=AQ.own;have Rh:P∉(Value.ownBlock (.slice a1 n1 c1)).toList:=fun e=>X7 P (Option.mem_toList.1 e) rfl;have hPs:=Ε _ _ p0;have hwr:IntKind.i64.wrap ((jS l:Int)+1)=(jS l:Int)+1:=Μ _ ω;have hn2:=(hT1.add HG.out.1 HC.out.2.2.2.2 hlt1 hkk).le;have HI:=χ (ψ AQ (ψ hT1 (ψ hlt1 hkk)));rw [hkk] at hce;clear AQ hT1 hlt1 hkk
        go_wp2_with (first|((at_builtin;refine aI rfl _ _ 42 rfl w.heap.size 53 (.agg #[.int .i64 0,.int .i64 0]) 2 16 Tryz.underlying42 Qk rfl δ _ _ _ rfl ho [.int .i64 (l:Int),.int .i64 (jS l:Int)] rfl (by simp [Value.oneCell']) (by first|rfl|(rw [Κ];rfl)) μ ω ω ?_;intro v9 w9 I9 jJ uB;obtain ⟨a9,c9,rfl,hc9⟩:=aU I9);(have r0:=jJ.kept p0 Rh);(have r1:=jJ.kept p1 Rh);(have r3:=jJ.aP p1 Rh g1);(have r2:=jJ.aP p0 Rh g0))|fail)
        go_roundw
        case rel=>
         obtain ⟨AQ,hT1,hlt1,hkk⟩:=HI.out;have hA:=AQ.app (Q':=Q1++[(l,jS l)]) (by rw [Cz];exact I9) jJ uB;have hPb2:P∉F9:=Xv;have Yd:∀k,Value.ownBlock (.slice a9 (n1+1) c9)=some k->k≠P:=fun k hk=>by
          rcases uB with e|e
          ·rw [e] at hk;exact X7 k hk
          ·have:=e k hk;dsimp only at hPs;omega
         have hst:iQ jS l l=jS l+1:=by unfold iQ;rw [Δ rfl]
         refine ⟨n1+1,a9,c9,Q1++[(l,jS l)],iQ jS l,rfl,hA.upd (S:=[P]) ν (fun x hx=>by simp at hx;subst hx;exact ⟨Xv,hPb,fun e=>Yd _ e rfl⟩),⟨γ,by rw [hst];go_simp,γ,γ⟩,Yd,hT1.add HG.out.1 HC.out.2.2.2.2 hlt1 hkk⟩
        case measure=>simp [zA];omega
       ·have hkB:(zk Z (l,jS l) == jI)=false:=by simpa using hkk
        have X8:pos' l<jS l:=by
         have h1:=hT1.lo;rcases Ϙ (pos' l) (jS l) with e|e
         ·exact e
         ·exact absurd (by rw [show jS l=pos' l by omega];exact HC.out.2.2.1.symm) hkk
        have kP:=fun W (hW:aa [] wi W)=>((AQ.ae hW).Jz (HA.out jS hT1.b)).Ze l ω (Δ rfl) hlt1 ω (by have:=hT1.hc;omega) HG.out.2.2.2.1;have HI:=χ (ψ hT1 (ψ X8 (HT.out.hs)));clear AQ hT1 hlt1 hkk X8
        go_wp2_with (first|((go_at_call 48;(with_reducible refine (kP _ β).mono ?_));rintro e Q0 ⟨rfl,F10,x10,f10,R10,A10,UW⟩)|fail)
        go_roundw
        case rel=>exact ⟨n1,a1,c1,Q1,F10,_,f10,R10,A10,_,jS,_,rfl,UW,HI.out.1.Xy HI.out.2.1 HC.out.2.2.2.2 (Δ rfl) x10⟩
        case measure=>
         have h1:=HI.out.1.hs;have h2:=HI.out.1.t;have h3:=HI.out.2.1;have h4:=HI.out.2.2;simp [zA];omega
      ·have zi:¬ (jS l:Int)<(zl Z l:Int):=ω;have hltD:decide ((jS l:Int)<(zl Z l:Int))=false:=ζ;have X8:pos' l<jS l:=by have:=HC.out.2.2.2.1;omega
       have kP:=fun W (hW:aa [] wi W)=>((AQ.ae hW).Jz (HA.out jS hT1.b)).Zk l ω (jS l) ω;have HI:=χ (ψ hT1 (ψ X8 (ψ (HT.out.hs) hlt1)));clear AQ hT1 hlt1 X8
       go_wp2_with (first|((go_at_call 48;(with_reducible refine (kP _ β).mono ?_));rintro e Q0 ⟨rfl,UW⟩)|fail)
       go_roundw
       case rel=>exact ⟨n1,a1,c1,Q1,_,_,_,_,_,_,jS,_,rfl,UW,HI.out.1.Zy HI.out.2.1 (by have:=HI.out.2.2.2;omega)⟩
       case measure=>
        have h1:=HI.out.1.hs;have h2:=HI.out.1.t;have h3:=HI.out.2.1;have h4:=HI.out.2.2.1;simp [zA];omega
   ·have kM:=fun W (hW:aa [] wr W)=>(hR.ae hW).min hm' rfl;have hfin:=hS.r.MC hR.g.i hm' hk;have hn0:0<n:=Nat.pos_of_ne_zero (fun e=>by obtain ⟨y,hy,hy2⟩:=hS.z e;rw [hm'] at hy;cases hy;exact hk hy2);have HF:=χ (ψ hN (ψ hT (ψ hS (ψ hfin hn0))));clear hz hN hT hb hS hfin hm' hn0;generalize (A'.c x).k=k at *;have hkB:(k != jI)=true:=by simpa using hk
    (go_upto_region 14 with (first|((go_at_call 43;(with_reducible refine (kM _ β).mono ?_));rintro e w6 ⟨rfl,F6,QN,gX,MR⟩)|fail);refine eY (fun W=>∃F2,oq K w0 w W m p mb a N cap F F2 kd d Z c' f' R' A' q' pos' hp' (.slice ao n co) n Q) ⟨_,QN.ae β⟩ ?_;rintro W ⟨F2,wH⟩;obtain ⟨hN,hT,hS,hfin,hn0⟩:=HF.out;obtain ⟨g,cp,hv,hg,hQl,hnc,hcc,Td⟩:=PR.fQ wH.own (hS.small hN hT) hn0;cases hv;have kS:=yG W g n co Q Td hQl (by have:=hS.le;omega);have HR:=χ (ψ wH (ψ hg Td.lt));clear wH Td hg hS hR QN hfin hN hT gX MR kM;go_wp2_with (first|((go_at_call 72;(with_reducible refine (kS).mono ?_));rintro e w9 ⟨rfl,C,jN,hC2,Xb,jJ⟩)|fail);go_ret;obtain ⟨wH,hg,hgl⟩:=HR.out;obtain ⟨hN,hT,hS,hfin,hn0⟩:=HF.out;have xB:g∉F2:=wH.off g rfl;exact ⟨jI,Q,C,g,n,co,F2,c',f',R',A',q',pos',hp',rfl,hn0,by rw [jN.length_eq];exact hS.hl,hg,Xb,jN,hC2,hfin,wH.g.upd jJ (fun x hx=>by simp at hx;subst hx;exact ⟨xB,by have:=wH.ml;omega,by have:=wH.bl;omega,by have:=wH.Tg;omega⟩),hS,wH.up.joined jJ (fun x hx=>by simp at hx;subst hx;exact Β hg),wH.fr⟩)
end
structure ZT (Z:List (List Int)) (q c:Nat) (pos:Nat->Nat) (hp:Nat->Option Nat):Prop where
 le:∀l,l<Z.length->pos l<=zl Z l
 full:∀l,l<Z.length->pos l<zl Z l->hp l≠none
 hq:q<=jB Z pos+iZ Z (fun i=>(hp i).isSome)
 hc:c<=q
def Xc (w:World) (lo:Nat) (v:Value) (n:Nat) (C:List Pl):Prop:=
 C.length=n/\((v=.slice none 0 0/\n=0)\/∃g co,v=.slice (some ⟨g,0,none⟩) n co/\0<n/\lo<=g/\PR w g C)
section
variable {K:dV} {w0 w:World} {m p mb N cap:Nat} {a:Option Addr} {F:List Nat} {kd d:Int} {Z:List (List Int)} {c:Nat} {f:Int->Int->Option Pl} {R:AR} {A:NS} {q:Nat} {pos:Nat->Nat} {hp:Nat->Option Nat} {O:List Pl}
theorem Bg (h:pE K w0 w m p mb a N cap F kd d Z c f R A q pos hp) (hQ:ZT Z q c pos hp) (hO:RD Z pos O) (hz:zh Z) (hN:Z.length<=65536) (hT:dI Z<=65536) (hb:∀p, -9223372036854775808<=zk Z p/\zk Z p<=9223372036854775807) :
  Calls Tryz.prog 49 #[.pointer (some ⟨m,0,none⟩)] w fun e w'=>∃ (v:Value) (n:Nat) (C:List Pl) (F':List Nat) (c':Nat) (f':Int->Int->Option Pl) (R':AR) (A':NS) (q':Nat) (pos':Nat->Nat) (hp':Nat->Option Nat),e=.returned v/\Xc w' w.heap.size v n C/\pE K w0 w' m p mb a N cap F' kd d Z c' f' R' A' q' pos' hp'/\ZT Z q' c' pos' hp'/\RD Z pos' (O++C)/\n+jB Z pos=jB Z pos'/\(n=0->∀l,l<Z.length->pos' l=zl Z l)/\aa (mb::F) w w'/\∀z,z∈F'->z∈F\/w.heap.size<=z:=by
 cases hm:bB A 1 with
 | none=>
  refine (Ih h hm).mono (fun e w' hh=>?_);obtain ⟨he,F',h1,h2,h3⟩:=hh;refine ⟨_,0,[],F',_,_,_,_,_,_,_,he,⟨rfl,Α ⟨rfl,rfl⟩⟩,h1,hQ,by rw [Υ];exact hO,ω,fun _ l hl=>?_,h2.mono (fun x hx=>Λ _ hx),h3⟩;have e1:=hQ.le l hl;have e2:=h.i.none hm l;have e3:=hQ.full l hl
  by_cases e:pos l<zl Z l
  ·exact absurd e2 (e3 e)
  ·omega
 | some m0=>
  refine (Iy h hz hN hT hb hQ.le hQ.full hm hQ.hq hQ.hc).mono (fun e w' hh=>?_);obtain ⟨jI,Q,C,g,n,co,F',c',f',R',A',q',pos',hp',he,h1,h2,h3,h4,h5,h6,h7,h8,h9,h10,h11⟩:=hh;exact ⟨_,n,C,F',c',f',R',A',q',pos',hp',he,⟨h2,Β ⟨g,co,rfl,h1,h3,h4⟩⟩,h8,⟨fun l hl=>(h9.r.le l hl).2,fun l hl hlt=>h9.r.full l hl hlt ω,h9.hq,h9.hc⟩,hO.add h9.r h5 h6 h7,h9.hs,fun e=>ω,h10,h11⟩
end
theorem QF (Z:List (List Int)) (hT:dI Z<=65536):tO Z (AR.new (dI Z) 4294967295) (Js (NS.new (dI Z)) 1) 0 (fun _ _=>none) (fun _=>0) (fun _=>none):=by
 have hm:Js (NS.new (dI Z)) 1=aC (NS.new (dI Z)):=rfl;rw [hm];have hg0:∀x,(AR.new (dI Z) 4294967295).g x=0:=fun x=>((AR.mg hT ω).fresh x (Nat.zero_le _)).1;refine ⟨⟨AR.mg hT ω,qa (NS.mg _ hT),by rw [nS];simp [NS.new],by simp [AR.new],fun x=>by rw [FN,qd,BK],?_,rfl,fun x=>by rw [hg0];exact Θ _,fun x hx=>absurd hx (Nat.not_lt_zero _),?_⟩,fun l x hx=>(by cases hx),fun x hx=>by rw [FN] at hx;cases hx⟩
 ·unfold aC NS.new bq;simp
 ·rw [AR.Ci];exact (Kj Z).symm
theorem Nr (Z:List (List Int)):RD Z (fun _=>0) []:=
 ⟨Ϩ,fun p=>⟨fun h=>(by cases h),fun h=>absurd h.2 (Nat.not_lt_zero _)⟩,List.Pairwise.nil,fun p hp=>(by cases hp)⟩
structure Tt (Z:List (List Int)) (i q c:Nat) (hp:Nat->Option Nat):Prop where
 no:∀l,i<=l->hp l=none
 yes:∀l,l<i->0<zl Z l->hp l≠none
 hq:q<=iZ Z (fun l=>(hp l).isSome)
 hc:c<=q
theorem Tt.step {Z:List (List Int)} {i q c:Nat} {hp:Nat->Option Nat} (h:Tt Z i q c hp) (hi:i<Z.length) (x:Nat):Tt Z (i+1) (q+1) (c+1) (fun l=>if l=i then some x else hp l):=by
 have h0:hp i=none:=h.no i (Θ _);have hc:iZ Z (fun l=>(if l=i then some x else hp l).isSome)=iZ Z (fun l=>(hp l).isSome)+1:=by
  rw [←l8 Z (fun l=>(hp l).isSome) i hi (by simp [h0])];exact iq Z _ _ (fun l _=>by split<;>simp_all)
 have h1:=h.hq;have h2:=h.hc;refine ⟨fun l hl=>?_,fun l hl hz=>?_,by rw [hc];omega,ω⟩
 ·show (if l=i then some x else hp l)=_
  rw [Γ ω];exact h.no l ω
 ·show (if l=i then some x else hp l)≠_
  split
  ·simp
  ·exact h.yes l ω hz
theorem Tt.skip {Z:List (List Int)} {i q c:Nat} {hp:Nat->Option Nat} (h:Tt Z i q c hp) (hz:zl Z i<=0):Tt Z (i+1) q c hp:=
 ⟨fun l hl=>h.no l ω,fun l hl h0=>by
  by_cases e:l=i
  ·subst e;omega
  ·exact h.yes l ω h0,h.hq,h.hc⟩
theorem Tt.done {Z:List (List Int)} {q c:Nat} {hp:Nat->Option Nat} (h:Tt Z Z.length q c hp):ZT Z q c (fun _=>0) hp:=
 ⟨fun l _=>Nat.zero_le _,fun l hl h0=>h.yes l hl h0,by rw [Bf];have:=h.hq;omega,h.hc⟩
theorem Xc.shape {w:World} {lo:Nat} {v:Value} {n:Nat} {C:List Pl} (h:Xc w lo v n C):∃al cl,v=.slice al n cl:=by
 rcases h.2 with ⟨rfl,rfl⟩|⟨g,co,rfl,_⟩
 ·exact ⟨_,_,rfl⟩
 ·exact ⟨_,_,rfl⟩
theorem Xc.row {w:World} {lo:Nat} {al:Option Addr} {n cl:Nat} {C:List Pl} (h:Xc w lo (.slice al n cl) n C) (hn:0<n):C.length=n/\∃g,al=some ⟨g,0,none⟩/\lo<=g/\PR w g C:=by
 rcases h.2 with ⟨_,e⟩|⟨g,co,e,_,h1,h2⟩
 ·omega
 ·cases e;exact ⟨h.1,g,rfl,h1,h2⟩
theorem LG {Z:List (List Int)} (hr:Z.any (fun l=>!gW l)=false):zh Z:=fun l k hl hk=>by
 have h1:=List.any_eq_false.1 hr (Z.getD l []) (Η (show Z[l]?=some (Z.getD l []) by simp [φ,hl]));have h2:gW (Z.getD l [])=true:=by simpa using h1
 exact sJ.1 h2 k hk
theorem Pj {Z:List (List Int)} (hb:∀l,l∈Z->∀x,x∈l->-9223372036854775808<=x/\x<=9223372036854775807) (p:Pl):-9223372036854775808<=zk Z p/\zk Z p<=9223372036854775807:=by
 unfold zk;rw [φ,φ];cases h1:Z[p.1]? with
 | none=>simp
 | some l=>
  simp only [Option.getD_some];cases h2:l[p.2]? with
  | none=>simp
  | some x=>exact hb l (Η h1) x (Η h2)
theorem Lp {K:dV} (kd d:Int) (va:Value) (Z:List (List Int)) (w:World) (h:vU w va Z) (hb:∀l,l∈Z->∀x,x∈l->-9223372036854775808<=x/\x<=9223372036854775807) (hc:xY kd d=0) (hT:dI Z<=65536) (hl:Z.length<=65536) (hr:Z.any (fun l=>!gW l)=false) (ko:lG K kd d (dI Z)) :
  Calls Tryz.prog 23 #[.agg #[.int .i64 kd,.int .i64 d],va] w fun e w'=>∃ao co,e=.returned (.tuple #[.slice ao (dI Z) co,.int .i64 0])/\w'.ownsRow w.heap.size 53 2 (.slice ao (dI Z) co) (dI Z) (vg (jX Z))/\aa [] w w':=by
 have hkb:∀i,i<Z.length->(Z.getD i []).length<=1000000000000:=fun i hi=>by have h1:=Jv Z i hi;unfold zl at h1;omega
 have km:=fun W (hW:aa [] w W)=>L9 W va Z (h.upd hW) hkb;have kc:=fun W (hW:aa [] w W)=>PU W va Z (h.upd hW);rw [hr] at kc;have hm:=Fz Z 0 ω;rw [ϖ] at hm;rw [hm] at km;have kp:∀W:World,_:=fun W=>tN kd d (dI Z) 1 W hc hT ω ko;rw [show ((1:Nat):Int)=1 from rfl] at kp;obtain ⟨a,cap,rfl,hcap,hcap2⟩:=h.shape;have HZ:=χ (ψ h (ψ (LG hr) (ψ hl (ψ hT (fun p=>Pj hb p)))));clear h hkb hc hb hr hm ko;generalize hN:Z.length=N at *;have HN:=χ hN;clear hN;have hnB:decide ((N:Int) > 65536)=false:=ζ;have hmm:=@run_makeMap Tryz.prog
 go_enter Tryz.func23,Tryz.ntmps23
 go_wp2_with (first
  | ((go_at_call 44;(with_reducible refine (km _ β).mono ?_));rintro e w1 ⟨rfl,hu1⟩;(have q0:w1.cell? ⟨w.heap.size,0,none⟩=some (.int .i64 kd):=hu1.was γ);(have q1:w1.cell? ⟨w.heap.size,1,none⟩=some (.int .i64 d):=hu1.was γ);(have hw1:aa [] w w1:=aa.trans β hu1))
  | ((go_at_call 39;(with_reducible refine (kp _).mono ?_));rintro e w2 ⟨p,F,rfl,hP2,hu2,hF2⟩)
  | ((go_at_call 45;(with_reducible refine (kc _ (hw1.trans hu2)).mono ?_));rintro e w3 ⟨rfl,hu3⟩)
  | fail)
 have NL:=hP2.lt;have hs1:=hw1.size;have hs2:=hu2.size;have hs3:=hu3.size;refine eY (fun W=>pE K w W (w3.heap.size+1) p w3.heap.size a N cap F kd d Z 0 (fun _ _=>none) (AR.new (dI Z) 4294967295) (Js (NS.new (dI Z)) 1) 0 (fun _=>0) (fun _=>none)) ⟨γ,γ,γ,hP2.ae (aa.trans hu3 β),(pW.made w3).upd (S:=[]) β σ,HZ.out.1,HN.out,(hw1.trans hu2).trans (aa.trans hu3 β),ω,ω,fun x hx=>by have:=hF2 x hx;omega,fun e=>by have:=NL _ e;omega,fun e=>by have:=NL _ e;omega,ω,QF Z HZ.out.2.2.2.1⟩ ?_;rintro W hM;have HM:=χ hM;clear hM hP2 hF2 NL hu3 hu2 hu1 hw1 q0 q1 kp km kc hmm;generalize w3.heap.size+1=m at *
 generalize w3.heap.size=mb at *;go_wp2
 go_loopw [10,38] (fun v10 v38 wr=>∃ (i c q:Nat) (F':List Nat) (f:Int->Int->Option Pl) (R:AR) (A:NS) (hp:Nat->Option Nat),i<=N/\v38=.int .i64 (i:Int)/\pE K w wr m p mb a N cap F' kd d Z c f R A q (fun _=>0) hp/\Tt Z i q c hp) (fun _ v38 _=>N-(intOf v38).toNat)
 case atStart=>exact ⟨0,0,0,_,_,_,_,_,Nat.zero_le _,rfl,HM.out,⟨fun _ _=>rfl,fun l hl=>absurd hl (Nat.not_lt_zero _),Nat.zero_le _,Θ _⟩⟩
 case round=>
  obtain ⟨i,c,q,F',f,R,A,hp,hi,rfl,hM,hP⟩:=hrel;rename World=>wr;obtain ⟨-,hz,QX,hT,hb⟩:=HZ.out
  by_cases FU:i<N
  ·have NH:(i:Int)<(N:Int):=ω;have hiD:decide ((i:Int)<(N:Int))=true:=ζ;have hiZ:i<Z.length:=by rw [HN.out];exact FU
   have hwr:IntKind.i64.wrap ((i:Int)+1)=(i:Int)+1:=Μ _ ω
   by_cases h0:0<zl Z i
   ·have hcn:=hM.i.NY;have kY:∀W,aa [] wr W->Calls Tryz.prog 48 #[.pointer (some ⟨m,0,none⟩),.agg #[.int .i64 (i:Int),.int .i64 0]] W _:=fun W (hW:aa [] wr W)=>Dz (hM.ae hW) i FU (hP.no i (Θ _)) h0 (by have:=hP.hq;omega) (by have:=hP.hq;have:=hP.hc;omega) hb;have HP:=χ hP;clear hP hM hz QX hT hb
    go_wp2_with (first|((go_at_call 48;(with_reducible refine (kY _ β).mono ?_));rintro e Q0 ⟨rfl,F10,x10,f10,R10,A10,hM10, -, -⟩)|fail)
    go_roundw
    case rel=>exact ⟨i+1,_,_,F10,f10,R10,A10,_,ω,by go_num,hM10,HP.out.step hiZ x10⟩
    case measure=>simp [intOf];omega
   ·have kN:∀W,aa [] wr W->Calls Tryz.prog 48 #[.pointer (some ⟨m,0,none⟩),.agg #[.int .i64 (i:Int),.int .i64 0]] W _:=fun W (hW:aa [] wr W)=>JJ (hM.ae hW) i FU 0 ω;have HP:=χ (ψ hP (ψ hM h0));clear hP hM hz QX hT hb h0
    go_wp2_with (first|((go_at_call 48;(with_reducible refine (kN _ β).mono ?_));rintro e Q0 ⟨rfl,tF⟩)|fail)
    go_roundw
    case rel=>exact ⟨i+1,_,_,_,_,_,_,_,ω,by go_num,HP.out.2.1.ae tF,HP.out.1.skip (by have:=HP.out.2.2;omega)⟩
    case measure=>simp [intOf];omega
  ·obtain rfl:i=N:=ω;have NH:¬ (i:Int)<(i:Int):=ω;have hiD:decide ((i:Int)<(i:Int))=false:=σ;have hQ:ZT Z q c (fun _=>0) hp:=by rw [←HN.out] at hP;exact hP.done
   have kR:=fun W (hW:aa [] wr W)=>Bg (hM.ae hW) hQ (Nr Z) hz (by rw [HN.out];exact QX) hT hb;clear hM hP hQ hz QX hT hb
   go_wp2_with (first|((go_at_call 49;(with_reducible refine (kR _ β).mono ?_));rintro e Q0 ⟨v,k,C,F1,c1,f1,R1,A1,q1,pos1,hp1,rfl,xS,hM1,hQ1,pM,hs1,hk1, -, -⟩)|fail)
   obtain ⟨al,cl,rfl⟩:=xS.shape;have hmb:w.heap.size<=Q0.heap.size:=hM1.u.size;have XI:0+k=jB Z pos1:=by rw [Bf] at hs1;omega
   have HA:=χ (ψ xS (ψ hM1 (ψ hQ1 (ψ pM (ψ XI hk1)))));clear xS hM1 hQ1 pM hs1 XI hk1 kR
   go_loopw [11,12] (fun v11 v12 wr=>∃ (n k:Nat) (ao:Option Addr) (co:Nat) (al:Option Addr) (cl:Nat) (O C:List Pl) (F':List Nat) (c:Nat) (f:Int->Int->Option Pl) (R:AR) (A:NS) (q:Nat) (pos:Nat->Nat) (hp:Nat->Option Nat),v11=.slice ao n co/\v12=.slice al k cl/\wr.ownsRow w.heap.size 53 2 (.slice ao n co) n (vg O)/\Xc wr 0 (.slice al k cl) k C/\pE K w wr m p mb a i cap F' kd d Z c f R A q pos hp/\ZT Z q c pos hp/\RD Z pos (O++C)/\n+k=jB Z pos/\(k=0->∀l,l<Z.length->pos l=zl Z l)/\(∀g,Value.ownBlock (.slice ao n co)=some g->g∉F'/\g≠m/\g≠mb)) (fun v11 _ _=>dI Z-zA v11)
   case atStart=>exact ⟨0,k,none,0,al,cl,[],C,F1,_,_,_,_,_,_,_,rfl,rfl,⟨rfl,Α ⟨rfl,rfl⟩⟩,⟨HA.out.1.1,HA.out.1.2.imp id (fun ⟨g,co,h1,h2,h3,h4⟩=>⟨g,co,h1,h2,Nat.zero_le _,h4⟩)⟩,HA.out.2.1,HA.out.2.2.1,HA.out.2.2.2.1,HA.out.2.2.2.2.1,HA.out.2.2.2.2.2,fun g hg=>by cases hg⟩
   case round=>
    clear HA;obtain ⟨n,k,ao,co,al,cl,O,C,F',c,f,R,A,q,pos,hp,rfl,rfl,ho,xS,hM,hQ,hO,hnk,hk0,Vo⟩:=hrel;rename World=>wr;obtain ⟨-,hz,QX,hT,hb⟩:=HZ.out;have hsl:=uz Z pos hQ.le;have hwl:w.heap.size<=wr.heap.size:=hM.u.size;have hnk2:n+k<=1000000:=ω;have hnk3:n+k<=dI Z:=ω
    by_cases hk:0<k
    ·have Gd:(k:Int) > 0:=ω;have hkD:decide ((k:Int) > 0)=true:=ζ;obtain ⟨IU,g,rfl,hg,Td⟩:=xS.row hk;have NL:=hM.pq.lt;have Lt:=Ε _ _ hM.c0;have hbl:=hM.map.lt;have kR:=fun W (lu:pE K w W m p mb a i cap F' kd d Z c f R A q pos hp)=>Bg lu hQ hO hz (by rw [HN.out];exact QX) hT hb
     have hup:∀W,aa (Value.ownBlock (.slice ao n co)).toList wr W->pE K w W m p mb a i cap F' kd d Z c f R A q pos hp:=fun W hW=>hM.upd hW (fun x hx=>by
      have h1:=Option.mem_toList.1 hx
      exact ⟨(Vo x h1).1,(Vo x h1).2.1,(Vo x h1).2.2,(ho.lt x h1).1⟩)
     have HF:=χ (ψ hup (ψ NL (ψ Lt (ψ hbl (ψ Vo hnk)))));clear xS hM hQ hO hz QX hT hb hk0 hup NL Lt hbl Vo hnk hsl
     go_wp2_with (first
      | (at_builtin;refine wz rfl _ _ rfl w.heap.size _ n O rfl ho g k cl C rfl IU Td hk ω ω ?_;intro g9 c9 w9 I9 jJ hg9)
      | ((have hX:=kR _ (HF.out.1 _ jJ));(go_at_call 49;(with_reducible refine (hX).mono ?_));rintro e Q0 ⟨v,k2,C2,F2,c2,f2,R2,A2,q2,pos2,hp2,rfl,Sm,hM2,hQ2,hO2,hs2,hk2,tF,hf10⟩;obtain ⟨al2,cl2,rfl⟩:=Sm.shape)
      | fail)
     go_roundw
     case rel=>
      obtain ⟨hup,NL,Lt,hbl,Vo,hnk⟩:=HF.out;have YQ:=jJ.size;have h9:g9∉F'/\g9≠m/\g9≠mb:=by
       rcases hg9 with e|e
       ·exact Vo g9 e
       ·subst e;exact ⟨fun e=>by have:=NL _ e;omega,by (try dsimp only at Lt);omega,ω⟩
      have h9l:=(I9.lt g9 rfl).2;refine ⟨n+k,k2,_,c9,al2,cl2,O++C,C2,F2,c2,f2,R2,A2,q2,pos2,hp2,rfl,rfl,ay I9 tF (fun x hx hm=>?_),⟨Sm.1,Sm.2.imp id (fun ⟨g,co,h1,h2,h3,h4⟩=>⟨g,co,h1,h2,Nat.zero_le _,h4⟩)⟩,hM2,hQ2,hO2,ω,hk2,fun x hx=>?_⟩
      ·cases hx;rcases ρ.1 hm with e|e
       ·exact h9.2.2 e
       ·exact h9.1 e
      ·cases hx;refine ⟨fun e=>?_,h9.2⟩;rcases hf10 _ e with e|e
       ·exact h9.1 e
       ·dsimp only at e;omega
     case measure=>
      simp [zA];omega
    ·obtain rfl:k=0:=ω;have Gd:¬ ((0:Nat):Int) > 0:=ω;have hkD:decide (((0:Nat):Int) > 0)=false:=σ;obtain rfl:C=[]:=ϟ xS.1;rw [Υ] at hO;have hOm:=hO.all (hk0 rfl);have hnl:n=dI Z:=by
      have h1:=ho.1;rw [uC,hOm,sZ] at h1;omega
     subst hOm;subst hnl;have HF:=χ (ψ ho hM.u);clear xS hM hQ hO hz QX hT hb hk0 ho;go_wp2;go_ret2;exact ⟨ao,co,rfl,HF.out.1,HF.out.2⟩
end Go.Proofs.YtklibcncmbofpaaGreat
