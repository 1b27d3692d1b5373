/-
  Lemmas for PathAlike: Bn, Bn2, Del, Bn3, Bn4, Bn5, BnT, Bn6, Bn7, Bn8, BnW. Conditions: those of each lemma.
-/
import Derived.Lib.SliceRun
import Derived.IntWalk
import Derived.Deep.LoopGhost
import Derived.Test.YtklibcncmbofpaaGreatA03
import Derived.Test.YtklibcncmbofpaaGreatA06
set_option linter.all false
set_option maxHeartbeats 8000000
set_option maxRecDepth 10000
namespace Go.Proofs.YtklibcncmbofpaaGreat
open Go Go.RowKit
theorem El (p c:Nat):∀W:World,W.cell? ⟨p,0,none⟩=some (.pointer (some ⟨c,0,none⟩))->(method 429 174 (.pointer (some ⟨p,0,none⟩)) "Ahead").run Tryz.prog W=.ok (174,.pointer (some ⟨c,0,none⟩)) W:=(by intro W h;unfold method;have hm:∃m,(Array.find? (fun x=>x.name == "Ahead") Tryz.t174.methods)=some m/\m.path.toList=[⟨212,0,true⟩]/\m.func=some (174,true)/\m.path.isEmpty=false:=⟨(Array.find? (fun x=>x.name == "Ahead") Tryz.t174.methods).get!,by kernel_rfl,by kernel_rfl,by kernel_rfl,by kernel_rfl⟩;obtain ⟨m,h1,h2,h3,h4⟩:=hm;go_simp;simp only [follow,Place.get];go_simp;(try unfold receiverAt);(try simp only [Place.get]);(try go_simp))
def bnO (A:NS) (p c:Nat) (F:List Nat) (st:Nat):uA where
 ty:=174
 p:=p
 rd:=p::c::F
 wr:=[c]
 lt:=bU A
 dom:=fun x=>bQ A x=true
 at_:=fun w q=>p<w.heap.size/\p∉c::F/\w.cell? ⟨p,0,none⟩=some (.pointer (some ⟨c,0,none⟩))/\aC w c F A (bR st q)
 sub:=fun x hx=>by simp at hx;subst hx;simp
 low:=fun {w q} h x hx=>by
  obtain ⟨h1,h2,h3,h4⟩:=h;rcases ρ.1 hx with rfl|hx
  ·exact h1
  ·rcases ρ.1 hx with rfl|hx
   ·exact h4.lt _ h4.mem
   ·exact h4.lt _ hx
 upd:=fun {w w' S q} h hu hS=>by
  obtain ⟨h1,h2,h3,h4⟩:=h;exact ⟨Ψ h1 hu.size,h2,hu.kept h3 (fun hm=>hS _ hm σ),h4.upd hu (fun x hx hm=>hS x hx (by simp [hm]))⟩
 asym:=nU A
 ahead:=fun {w q} x y h hx hy hq=>by
  obtain ⟨h1,h2,h3,h4⟩:=h;obtain ⟨a,rfl⟩:=qj hx;obtain ⟨b,rfl⟩:=qj hy;refine iA 174 (fun _ _=>by kernel_rfl) h3 (El p c) (fun W hW=>?_);refine (dX (h4.aj hW) a b hx hy).mono ?_;rintro e w' ⟨rfl,hC,hu⟩;refine ⟨by rw [lJ,hx,hy];simp,⟨Ψ h1 (Χ hW.size hu.size),h2,hu.kept (hW.was h3) (fun hm=>h2 (by simp at hm;simp [hm])),by rw [←iN];exact hC⟩,hu⟩
structure BB where
 n0:Nat
 c:Nat
 bt:Nat
 ba:Nat
structure iH (w:World) (B:BB) (F:List Nat) (gr cr lo:Nat) (A:NS) (st:Nat) (S:CS) (vs:List Value) (R:Nat->List Int):Prop where
 head:aK w B.n0 212 3 (fun j=>[Value.pointer (some ⟨B.c,0,none⟩),.pointer (some ⟨B.bt,0,none⟩),.slice (some ⟨gr,0,none⟩) vs.length cr].getD j undef)
 cells:aC w B.c F A st
 iW:aQ w B.bt B.ba lo A.cs.length S
 rows:w.ownsRow 0 26 1 (.slice (some ⟨gr,0,none⟩) vs.length cr) vs.length vs
 len:vs.length=A.hs.length
 each:∀h,h<vs.length->aX w 0 (vs.getD h undef) (R h)
 d1:B.n0∉F/\B.bt∉F/\B.ba∉F/\gr∉F
 d2:B.n0≠B.bt/\B.n0≠B.ba/\B.n0≠gr/\B.bt≠gr/\B.ba≠gr
 d3:∀g,g∈S.blk A.cs.length->g≠B.n0/\g≠gr/\g∉F
 d4:∀h g,h<vs.length->(vs.getD h undef).ownBlock=some g->g≠B.n0/\g≠B.bt/\g≠B.ba/\g≠gr/\g∉F/\g∉S.blk A.cs.length
 d5:∀h k g,h<vs.length->k<vs.length->h≠k->(vs.getD h undef).ownBlock=some g->(vs.getD k undef).ownBlock≠some g
def X6 (vs:List Value):List Nat:=vs.filterMap Value.ownBlock
theorem jg {vs:List Value} {g:Nat}:g∈X6 vs↔∃h,h<vs.length/\(vs.getD h undef).ownBlock=some g:=by
 unfold X6;rw [List.mem_filterMap];constructor
 ·rintro ⟨v,hv,e⟩;obtain ⟨i,hi,rfl⟩:=List.getElem_of_mem hv;exact ⟨i,hi,by simpa [φ,hi] using e⟩
 ·rintro ⟨i,hi,e⟩;exact ⟨vs[i],ϗ hi,by simpa [φ,hi] using e⟩
def BB.blk (B:BB) (F:List Nat) (gr n:Nat) (S:CS) (vs:List Value):List Nat:=B.n0::B.bt::B.ba::gr::(F++(S.blk n++X6 vs))
theorem ug (vs:List Value) (h k:Nat) (v:Value):(vs.set h v).getD k undef=if k=h/\h<vs.length then v else vs.getD k undef:=by
 simp only [φ,ύ]
 by_cases e:h=k
 ·subst e
  by_cases hl:h<vs.length
  ·simp [hl]
  ·simp [hl]
 ·rw [Γ e,Γ (fun h'=>e h'.1.symm)]
section
variable {w:World} {B:BB} {F:List Nat} {gr cr lo:Nat} {A:NS} {st:Nat} {S:CS} {vs:List Value} {R:Nat->List Int}
theorem iH.GQ (h:iH w B F gr cr lo A st S vs R):gr<w.heap.size:=(h.rows.lt gr rfl).2
theorem iH.xq (h:iH w B F gr cr lo A st S vs R) {q g:Nat} (hq:q<vs.length) (e:(vs.getD q undef).ownBlock=some g):g<w.heap.size:=((h.each q hq).lt g e).2
theorem iH.lt (h:iH w B F gr cr lo A st S vs R):∀x,x∈B.blk F gr A.cs.length S vs->x<w.heap.size:=by
 intro x hx;have h1:=h.head.lt;have h2:=h.iW.head.lt;have h3:=h.iW.row.lt;have h4:=h.GQ;simp only [BB.blk,ρ,τ] at hx;rcases hx with rfl|rfl|rfl|rfl|hx|hx|hx
 ·exact h1
 ·exact h2
 ·exact h3
 ·exact h4
 ·exact h.cells.lt x hx
 ·exact (h.iW.nu hx).2
 ·obtain ⟨q,hq,e⟩:=jg.1 hx;exact h.xq hq e
theorem iH.h0 (h:iH w B F gr cr lo A st S vs R):w.cell? ⟨B.n0,0,none⟩=some (.pointer (some ⟨B.c,0,none⟩)):=h.head.cellAt 0 ω rfl
theorem iH.h1 (h:iH w B F gr cr lo A st S vs R):w.cell? ⟨B.n0,1,none⟩=some (.pointer (some ⟨B.bt,0,none⟩)):=h.head.cellAt 1 ω rfl
theorem iH.h2 (h:iH w B F gr cr lo A st S vs R):w.cell? ⟨B.n0,2,none⟩=some (.slice (some ⟨gr,0,none⟩) vs.length cr):=h.head.cellAt 2 ω rfl
theorem iH.U8 (h:iH w B F gr cr lo A st S vs R) {q:Nat} (hq:q<vs.length):w.cell? ⟨gr,q,none⟩=some (vs.getD q undef):=by
 rw [h.rows.cellAt q ω];simp [φ,hq]
theorem iH.rowf (h:iH w B F gr cr lo A st S vs R) (q:Nat):w.frozen? ⟨gr,q,none⟩=false:=h.rows.frozenAt q
theorem iH.Xt (h:iH w B F gr cr lo A st S vs R):vs.length<=65537:=by rw [h.len];exact h.cells.ok.h1
theorem iH.cn (h:iH w B F gr cr lo A st S vs R):B.n0≠B.c/\gr≠B.c/\B.bt≠B.c/\B.ba≠B.c:=by
 have hm:=h.cells.mem;exact ⟨fun e=>h.d1.1 (e▸hm),fun e=>h.d1.2.2.2 (e▸hm),fun e=>h.d1.2.1 (e▸hm),fun e=>h.d1.2.2.1 (e▸hm)⟩
theorem iH.upd {w':World} {G:List Nat} (h:iH w B F gr cr lo A st S vs R) (hu:aa G w w') (hG:∀x,x∈G->x∉B.blk F gr A.cs.length S vs):iH w' B F gr cr lo A st S vs R:=by
 have k:∀x,x∈B.blk F gr A.cs.length S vs->x∉G:=fun x hx hg=>hG x hg hx;refine ⟨h.head.upd hu (k _ (by simp [BB.blk])),h.cells.upd hu (fun x hx hm=>hG x hx (by simp [BB.blk,hm])),h.iW.upd hu (k _ (by simp [BB.blk])) (k _ (by simp [BB.blk])) (fun g hg=>k _ (by simp [BB.blk,hg])),ay h.rows hu (fun g hg=>by simp [Value.ownBlock] at hg;subst hg;exact k _ (by simp [BB.blk])),h.len,fun q hq=>(h.each q hq).upd hu (fun g hg=>k _ ?_),h.d1,h.d2,h.d3,h.d4,h.d5⟩;simp only [BB.blk,ρ,τ];exact Β (Β (Β (Β (Β (Β (jg.2 ⟨q,hq,hg⟩))))))
theorem iH.aj {w':World} (h:iH w B F gr cr lo A st S vs R) (hu:aa [] w w'):iH w' B F gr cr lo A st S vs R:=h.upd hu σ
theorem iH.bY {w':World} {F':List Nat} {A':NS} {st':Nat} (h:iH w B F gr cr lo A st S vs R) (hu:aa F w w') (hC:aC w' B.c F' A' st') (hF:∀x,x∈F'->x∈F\/w.heap.size<=x) (e1:A'.cs.length=A.cs.length) (e2:A'.hs.length=A.hs.length):iH w' B F' gr cr lo A' st' S vs R:=by
 have f:=h.d1;have g:=h.lt;have hf:∀x,x<w.heap.size->x∉F->x∉F':=fun x hx hn hm=>by rcases hF x hm with h'|h';exact hn h';omega
 have l0:=g B.n0 (by simp [BB.blk]);have l1:=g B.bt (by simp [BB.blk]);have l2:=g B.ba (by simp [BB.blk]);have l4:=g gr (by simp [BB.blk])
 refine ⟨h.head.upd hu f.1,hC,by rw [e1];exact h.iW.upd hu f.2.1 f.2.2.1 (fun x hx=>(h.d3 x hx).2.2),ay h.rows hu (fun g hg=>by simp [Value.ownBlock] at hg;subst hg;exact f.2.2.2),by rw [e2];exact h.len,
  fun q hq=>(h.each q hq).upd hu (fun g hg=>(h.d4 q g hq hg).2.2.2.2.1),⟨hf _ l0 f.1,hf _ l1 f.2.1,hf _ l2 f.2.2.1,hf _ l4 f.2.2.2⟩,h.d2,fun x hx=>?_,fun q x hq hx=>?_,h.d5⟩
 ·rw [e1] at hx;have:=h.d3 x hx;exact ⟨this.1,this.2.1,hf x (h.iW.nu hx).2 this.2.2⟩
 ·have:=h.d4 q x hq hx;rw [e1];exact ⟨this.1,this.2.1,this.2.2.1,this.2.2.2.1,hf x (h.xq hq hx) this.2.2.2.2.1,this.2.2.2.2.2⟩
theorem iH.jG {w':World} {S':CS} {st':Nat} (h:iH w B F gr cr lo A st S vs R) (hu:aa (B.c::B.ba::S.blk A.cs.length) w w') (hC:aC w' B.c F A st') (hS:aQ w' B.bt B.ba lo A.cs.length S') (hb:∀g,g∈S'.blk A.cs.length->g∈S.blk A.cs.length\/w.heap.size<=g):iH w' B F gr cr lo A st' S' vs R:=by
 have hcn:=h.cn;have g:=h.lt;have l0:=g B.n0 (by simp [BB.blk]);have l4:=g gr (by simp [BB.blk]);have k:∀x,x≠B.c->x≠B.ba->x∉S.blk A.cs.length->x∉B.c::B.ba::S.blk A.cs.length:=fun x h1 h2 h3 hm=>by
  simp only [ρ] at hm;rcases hm with hm|hm|hm
  ·exact h1 hm
  ·exact h2 hm
  ·exact h3 hm
 have hrow:∀q x,q<vs.length->(vs.getD q undef).ownBlock=some x->x∉B.c::B.ba::S.blk A.cs.length:=fun q x hq hx=>by
  have:=h.d4 q x hq hx;exact k x (fun e=>this.2.2.2.2.1 (e▸h.cells.mem)) this.2.2.1 this.2.2.2.2.2
 refine ⟨h.head.upd hu (k _ hcn.1 h.d2.2.1 (fun hm=>(h.d3 _ hm).1 rfl)),hC,hS,ay h.rows hu (fun x hx=>by simp [Value.ownBlock] at hx;subst hx;exact k _ hcn.2.1 (Ne.symm h.d2.2.2.2.2) (fun hm=>(h.d3 _ hm).2.1 rfl)),h.len,fun q hq=>(h.each q hq).upd hu (fun x hx=>hrow q x hq hx),h.d1,h.d2,fun x hx=>?_,fun q x hq hx=>?_,h.d5⟩
 ·rcases hb x hx with h'|h'
  ·exact h.d3 x h'
  ·exact ⟨ω,ω,fun hm=>by have:=h.cells.lt x hm;omega⟩
 ·have:=h.d4 q x hq hx;refine ⟨this.1,this.2.1,this.2.2.1,this.2.2.2.1,this.2.2.2.2.1,fun hm=>?_⟩;rcases hb x hm with h'|h'
  ·exact this.2.2.2.2.2 h'
  ·have:=h.xq hq hx;omega
theorem iH.Wu {w1:World} {K:List Nat} (h:iH w B F gr cr lo A st S vs R) (q:Nat) (hq:q<vs.length) (hu1:aa K w w1) (hK:∀g,g∈K->(vs.getD q undef).ownBlock=some g) (v:Value) (X:List Int) (hv:aX w1 0 v X)
  (hg:∀g,v.ownBlock=some g->(g≠B.n0/\g≠B.bt/\g≠B.ba/\g≠gr/\g∉F/\g∉S.blk A.cs.length)/\∀k,k<vs.length->k≠q->(vs.getD k undef).ownBlock≠some g) :
  iH (w1.setCell ⟨gr,q,none⟩ v) B F gr cr lo A st S (vs.set q v) (cz R q X):=by
 have hu:aa [gr] w1 (w1.setCell ⟨gr,q,none⟩ v):=β;have kk:∀g,g∈K->g≠B.n0/\g≠B.bt/\g≠B.ba/\g≠gr/\g∉F/\g∉S.blk A.cs.length:=fun g hg=>h.d4 q g hq (hK g hg);have e:∀k,k<vs.length->(vs.set q v).getD k undef=if k=q then v else vs.getD k undef:=fun k hk=>by
  rw [ug]
  by_cases e:k=q
  ·rw [Δ ⟨e,hq⟩,Δ e]
  ·rw [Γ (fun h=>e h.1),Γ e]
 refine ⟨by rw [Ι];exact (h.head.upd hu1 (fun hm=>(kk _ hm).1 rfl)).upd hu (by simp;exact h.d2.2.2.1),(h.cells.upd hu1 (fun x hx=>(kk x hx).2.2.2.2.1)).upd hu (fun x hx hm=>by simp at hx;subst hx;exact h.d1.2.2.2 hm),
  (h.iW.upd hu1 (fun hm=>(kk _ hm).2.1 rfl) (fun hm=>(kk _ hm).2.2.1 rfl) (fun g hg hm=>(kk g hm).2.2.2.2.2 hg)).upd hu (by simp;exact h.d2.2.2.2.1) (by simp;exact h.d2.2.2.2.2) (fun x hx hm=>by simp at hm;exact (h.d3 x hx).2.1 hm),
  by rw [Ι];exact VG (ay h.rows hu1 (fun g hg hm=>by simp [Value.ownBlock] at hg;subst hg;exact (kk _ hm).2.2.2.1 rfl)) q v,by rw [Ι];exact h.len,fun k hk=>?_,h.d1,h.d2,h.d3,fun k g hk e2=>?_,fun k j g hk hj hne e2=>?_⟩
 ·rw [Ι] at hk;rw [e k hk];unfold cz
  by_cases ek:k=q
  ·rw [Δ ek,Δ ek];exact hv.upd hu (fun g hg2 hm=>by simp at hm;exact (hg g hg2).1.2.2.2.1 hm)
  ·rw [Γ ek,Γ ek];exact ((h.each k hk).upd hu1 (fun g hg2 hm=>h.d5 k q g hk hq ek hg2 (hK g hm))).upd hu (fun g hg2 hm=>by simp at hm;exact (h.d4 k g hk hg2).2.2.2.1 hm)
 ·rw [Ι] at hk;rw [e k hk] at e2
  split at e2
  ·exact (hg g e2).1
  ·exact h.d4 k g hk e2
 ·rw [Ι] at hk hj;rw [e k hk] at e2;rw [e j hj]
  split at e2
  ·rename_i ek
   rw [Γ (fun ej=>hne ω)];exact (hg g e2).2 j hj (fun ej=>hne ω)
  ·rename_i ek
   split
   ·rename_i ej
    intro e3;exact (hg g e3).2 k hk ek e2
   ·exact h.d5 k j g hk hj hne e2
theorem iH.Bz (h:iH w B F gr cr lo A st S vs R) (q:Nat) (hq:q<vs.length) (v:Value) (X:List Int) (hv:aX w 0 v X)
  (hg:∀g,v.ownBlock=some g->(g≠B.n0/\g≠B.bt/\g≠B.ba/\g≠gr/\g∉F/\g∉S.blk A.cs.length)/\∀k,k<vs.length->k≠q->(vs.getD k undef).ownBlock≠some g) :
  iH (w.setCell ⟨gr,q,none⟩ v) B F gr cr lo A st S (vs.set q v) (cz R q X):=h.Wu (K:=[]) q hq (aa.refl _ _) σ v X hv hg
theorem iH.abZ {w1:World} (h:iH w B F gr cr lo A st S vs R) (q:Nat) (hq:q<vs.length) (hu:aa (vs.getD q undef).ownBlock.toList w w1) (v:Value) (X:List Int) (hv:aX w1 0 v X) (he:v.ownBlock=(vs.getD q undef).ownBlock) :
  iH (w1.setCell ⟨gr,q,none⟩ v) B F gr cr lo A st S (vs.set q v) (cz R q X):=
 h.Wu q hq hu (fun g hg=>by simpa using hg) v X hv (fun g hg=>⟨h.d4 q g hq (by rw [←he];exact hg),fun k hk hne e=>h.d5 k q g hk hq hne e (by rw [←he];exact hg)⟩)
end
theorem aX.sl {w:World} {base:Nat} {F:List Nat} {v:Value} {xs:List Int} (h:aX w base v xs) (hF:∀g,v.ownBlock=some g->g∉F):iC w F v xs:=by
 obtain ⟨a,cap,rfl,h1,h2,h3⟩:=h.shape;refine ⟨a,cap,rfl,h1,h2,fun j u hj=>?_⟩;obtain ⟨g,off,rfl,hc⟩:=h3 j u hj;exact ⟨g,off,rfl,(h.lt g rfl).2,hF g rfl,hc⟩
section
variable {w:World} {B:BB} {F:List Nat} {gr cr lo:Nat} {A:NS} {st:Nat} {S:CS} {vs:List Value} {R:Nat->List Int}
theorem iH.shape (h:iH w B F gr cr lo A st S vs R) {q:Nat} (hq:q<vs.length):∃a cap,vs.getD q undef=.slice a (R q).length cap/\(R q).length<=cap/\cap<=9223372036854775807:=by
 obtain ⟨a,cap,e,h1,h2,_⟩:=(h.each q hq).shape;exact ⟨a,cap,e,h1,h2⟩
theorem iH.hq (h:iH w B F gr cr lo A st S vs R) {q:Int} (hh:bD A q=true):∃k:Nat,q=k/\1<=k/\k<vs.length:=by
 have:=(aO _ _).1 hh;have e:=h.len;exact ⟨q.toNat,ω,ω,ω⟩
theorem Q9 (M:iH w B F gr cr lo A st S vs R) (q:Nat) (hh:bD A q=true) {a:Option Addr} {n cap:Nat} (hv:vs.getD q undef=.slice a n cap) :
  Calls Tryz.prog 187 #[.pointer (some ⟨B.n0,0,none⟩),.int .i64 (q:Int)] w fun e w'=>e=.returned (.slice a n cap)/\w'=w:=by
 have k:=jm M.cells (q:Int);rw [hh] at k;have h0:=M.h0;have h2:=M.h2;obtain ⟨q',e,_,hq⟩:=M.hq hh;obtain rfl:q=q':=ω;have d:=M.U8 hq;rw [hv] at d;have Bw:(0:Int)<=(q:Int):=ω;have FY:(q:Int)<(vs.length:Int):=ω;clear M hh hv e
 go_enter Tryz.func187,Tryz.ntmps187
 go_wp2_with ((go_at_call 139;(with_reducible refine (k).mono ?_);rintro e w9 ⟨rfl,aI⟩;rw [aI];clear aI w9))
 go_ret;exact ⟨rfl,rfl⟩
theorem Vg (M:iH w B F gr cr lo A st S vs R) (q:Int) (hh:bD A q=false) :
  Calls Tryz.prog 187 #[.pointer (some ⟨B.n0,0,none⟩),.int .i64 q] w fun e w'=>e=.returned (.slice none 0 0)/\w'=w:=by
 have k:=jm M.cells q;rw [hh] at k;have h0:=M.h0;clear M hh
 go_enter Tryz.func187,Tryz.ntmps187
 go_wp2_with ((go_at_call 139;(with_reducible refine (k).mono ?_);rintro e w9 ⟨rfl,aI⟩;rw [aI];clear aI w9))
 go_ret;exact ⟨rfl,rfl⟩
theorem iH.ord (M:iH w B F gr cr lo A st S vs R):(bnO A B.n0 B.c F st).at_ w 0:=by
 have h:=M.cells.ou;refine ⟨M.head.lt,?_,M.h0,by rw [fO h];exact M.cells⟩;simp only [ρ,not_or];exact ⟨M.cn.1,M.d1.1⟩
theorem iH.apart (M:iH w B F gr cr lo A st S vs R):Apart (bnO A B.n0 B.c F st) B.bt B.ba A.cs.length S:=by
 have hc:=M.cn;refine ⟨?_,?_,fun g hg=>?_⟩
 ·show B.bt∉B.n0::B.c::F
  simp only [ρ,not_or];exact ⟨Ne.symm M.d2.1,hc.2.2.1,M.d1.2.1⟩
 ·show B.ba∉B.n0::B.c::F
  simp only [ρ,not_or];exact ⟨Ne.symm M.d2.2.1,hc.2.2.2,M.d1.2.2.1⟩
 ·show g∉B.n0::B.c::F
  have:=M.d3 g hg;simp only [ρ,not_or];exact ⟨this.1,fun e=>this.2.2 (e▸M.cells.mem),this.2.2⟩
theorem Je (M:iH w B F gr cr lo A st S vs R) (ok:nY A.cs.length S.f) {va vl:Value} {X L:List Int} (hva:iC w (B.c::B.ba::S.blk A.cs.length) va X) (hvl:iC w (B.c::B.ba::S.blk A.cs.length) vl L)
  (hA:kX A.cs.length S.f X) (hB:kX A.cs.length S.f L) (hd:∀x,x∈X->x∉L) (hin:∀z,z∈X\/z∈L->bQ A z=true) :
  Calls Tryz.prog 194 #[.pointer (some ⟨B.bt,0,none⟩),.iface 174 (.pointer (some ⟨B.n0,0,none⟩)),va,vl] w fun e w'=>
   ∃S' vo,e=.returned (.tuple #[vo,.bool true])/\S'.f=(kG (bU A) A.cs.length S.f X L).F/\iH w' B F gr cr lo A (bR st (kG (bU A) A.cs.length S.f X L).q) S' vs R/\aX w' w.heap.size vo (kG (bU A) A.cs.length S.f X L).O/\
    aa (B.c::B.ba::S.blk A.cs.length) w w'/\(∀g,g∈S'.blk A.cs.length->g∈S.blk A.cs.length\/w.heap.size<=g)/\(∀g,vo.ownBlock=some g->g∉S'.blk A.cs.length)/\∃a n cap,vo=.slice a n cap:=by
 refine (M9 (bnO A B.n0 B.c F st) B.bt B.ba lo A.cs.length S va vl X L 0 w ⟨M.iW,M.ord,M.apart,M.iW.head.lt,ok⟩ hva hvl hA hB hd (Nat.zero_le _) (fun x hx=>hin x (Α hx)) (fun x hx=>hin x (Β hx))).mono ?_;rintro e w' ⟨S',vo,O,q',rfl,hFL,hTo,hG,hO,hS,hu,hb,hx⟩;obtain ⟨e1,e2,e3⟩:=YJ hG (nU A) M.iW.le hTo;have e1:(kG (bU A) A.cs.length S.f X L).F=S'.f:=e1;have e2:(kG (bU A) A.cs.length S.f X L).O=O:=e2;have e3:(kG (bU A) A.cs.length S.f X L).q=q':=e3;rw [e1,e2,e3];obtain ⟨a,cap,e4,_⟩:=hO.shape;exact ⟨S',vo,rfl,rfl,M.jG hu hFL.l.2.2.2 hFL.f hb,hO,hu,hb,hx,a,_,cap,e4⟩
theorem Ho (M:iH w B F gr cr lo A st S vs R) (ok:nY A.cs.length S.f) (q:Nat) (hq:q<vs.length) {vl:Value} {L:List Int} (hvl:iC w (B.c::B.ba::S.blk A.cs.length) vl L)
  (hA:kX A.cs.length S.f (R q)) (hB:kX A.cs.length S.f L) (hd:∀x,x∈R q->x∉L) (hin:∀z,z∈R q\/z∈L->bQ A z=true) :
  Calls Tryz.prog 186 #[.pointer (some ⟨B.n0,0,none⟩),.int .i64 (q:Int),vl] w fun e w'=>
   ∃S' vo,e=.returned (.tuple #[])/\S'.f=(kG (bU A) A.cs.length S.f (R q) L).F/\iH w' B F gr cr lo A (bR st (kG (bU A) A.cs.length S.f (R q) L).q) S' (vs.set q vo) (cz R q (kG (bU A) A.cs.length S.f (R q) L).O)/\
    aa (B.c::B.ba::gr::S.blk A.cs.length) w w'/\(∀g,g∈S'.blk A.cs.length->g∈S.blk A.cs.length\/w.heap.size<=g)/\(∀g,vo.ownBlock=some g->w.heap.size<=g):=by
 have hrow:iC w (B.c::B.ba::S.blk A.cs.length) (vs.getD q undef) (R q):=(M.each q hq).sl (fun g hg hm=>by
  have:=M.d4 q g hq hg;simp only [ρ] at hm;rcases hm with e|e|e
  ·exact this.2.2.2.2.1 (e▸M.cells.mem)
  ·exact this.2.2.1 e
  ·exact this.2.2.2.2.2 e)
 have kc:=fun W (hW:aa [] w W)=>Je (M.aj hW) ok (hrow.upd hW σ) (hvl.upd hW σ) hA hB hd hin;obtain ⟨a,cap,hv,_⟩:=M.shape hq;obtain ⟨a2,cap2,hv2,_⟩:=hvl;subst hv2;rw [hv] at kc;have h1:=M.h1;have h2:=M.h2;have d:=M.U8 hq;rw [hv] at d;have df:=M.rowf q;have hcn:=M.cn;have nn:∀x,x≠B.c->x≠B.ba->x∉S.blk A.cs.length->x∉B.c::B.ba::S.blk A.cs.length:=fun x h1 h2 h3 hm=>by
  simp only [ρ] at hm;rcases hm with hm|hm|hm
  ·exact h1 hm
  ·exact h2 hm
  ·exact h3 hm
 have n0:B.n0∉B.c::B.ba::S.blk A.cs.length:=nn _ hcn.1 M.d2.2.1 (fun hm=>(M.d3 _ hm).1 rfl);have ng:gr∉B.c::B.ba::S.blk A.cs.length:=nn _ hcn.2.1 (Ne.symm M.d2.2.2.2.2) (fun hm=>(M.d3 _ hm).2.1 rfl);have r1:∀W,aa (B.c::B.ba::S.blk A.cs.length) w W->W.cell? ⟨B.n0,1,none⟩=some (.pointer (some ⟨B.bt,0,none⟩)):=fun W hW=>hW.kept h1 n0;have r2:∀W,aa (B.c::B.ba::S.blk A.cs.length) w W->W.cell? ⟨B.n0,2,none⟩=some (.slice (some ⟨gr,0,none⟩) vs.length cr):=fun W hW=>hW.kept h2 n0
 have r3:∀W,aa (B.c::B.ba::S.blk A.cs.length) w W->W.cell? ⟨gr,q,none⟩=some (.slice a (R q).length cap)/\W.frozen? ⟨gr,q,none⟩=false:=fun W hW=>⟨hW.kept d ng,hW.aH d ng df⟩
 have Bw:(0:Int)<=(q:Int):=ω;have FY:(q:Int)<(vs.length:Int):=ω;have hgl:=M.GQ;have HM:=χ M;have hvl2:=M.Xt;clear M hrow hA hB hd hin hv hcn nn;generalize hC:kG (bU A) A.cs.length S.f (R q) L=C at *;generalize hrl:(R q).length=rl at *;generalize hll:L.length=ll at *;clear hC hrl hll
 go_enter Tryz.func186,Tryz.ntmps186
 go_wp2
 go_region_law
  (first
   | (go_simp;go_at_call 194;(with_reducible refine (kc _ β).mono ?_);rintro e w5 ⟨S5,vo,rfl,hS5,wQ,Bu,xw,hb5,hx5,a5,n5,c5,rfl⟩;(have bK:aa (B.c::B.ba::S.blk A.cs.length) w w5:=aa.trans β xw);(have q1:=r1 _ bK);(have q2:=r2 _ bK);obtain ⟨q3,q4⟩:=r3 _ bK))
 all_goals
  go_wp2;go_end0;refine ⟨S5,_,rfl,hS5,wQ.Bz q hq _ C.O (Bu.mono (Nat.zero_le _)) (fun g hg=>?_),(bK.mono (fun y hy=>?_)).setCell (Α σ) _,fun g hg=>?_,fun g hg=>?_⟩
  ·have hgs:=(Bu.lt g hg).1;have ll:=HM.out.lt;have hw:w.heap.size<=g:=hgs;refine ⟨⟨?_,?_,?_,?_,fun hm=>?_,hx5 g hg⟩,fun k hk hne e=>?_⟩
   ·have:=ll B.n0 (by simp [BB.blk]);omega
   ·have:=ll B.bt (by simp [BB.blk]);omega
   ·have:=ll B.ba (by simp [BB.blk]);omega
   ·omega
   ·have:=HM.out.cells.lt g hm;omega
   ·have:=HM.out.xq hk e;omega
  ·simp only [ρ] at hy ⊢;rcases hy with hy|hy|hy
   ·exact Α hy
   ·exact Β (Α hy)
   ·exact Β (Β (Β hy))
  ·exact hb5 g hg
  ·exact (Bu.lt g hg).1
end
theorem aX.row {w:World} {base:Nat} {v:Value} {xs:List Int} (h:aX w base v xs) (hne:xs≠[]):∃g off cap m f,v=.slice (some ⟨g,off,none⟩) xs.length cap/\base<=g/\aK w g 3 m f/\xs.length<=cap/\cap<=9223372036854775807/\off+cap<=m/\∀j u,xs[j]?=some u->f (off+j)=.int .i64 u:=by
 rcases h with ⟨_,e⟩|⟨g,off,cap,cur,rfl,hb,hg,h1,h2,h3,h4⟩
 ·exact absurd e hne
 ·refine ⟨g,off,cap,cur.size,fun j=>cur.getD j undef,rfl,hb,⟨cur,hg,rfl,fun j hj=>by simp [hj]⟩,h1,h2,h3,fun j u hj=>?_⟩;have:=h4 j u hj;simp [Array.getD_eq_getD_getElem?,this]
theorem aK.off {w:World} {base g off cap m:Nat} {f:Nat->Value} {ys:List Int} (h:aK w g 3 m f) (hb:base<=g) (h1:ys.length<=cap) (h2:cap<=9223372036854775807) (h3:off+cap<=m) (h4:∀j u,ys[j]?=some u->f (off+j)=.int .i64 u):aX w base (.slice (some ⟨g,off,none⟩) ys.length cap) ys:=by
 obtain ⟨arr,a1,a2,a3⟩:=h;refine Β ⟨g,off,cap,arr,rfl,hb,a1,h1,h2,ω,fun j u hj=>?_⟩;have hjl:j<ys.length:=(List.getElem?_eq_some_iff.1 hj).1;rw [a3 (off+j) ω,h4 j u hj]
theorem CG (w:World) (b:Nat) (x y:Int) (h:w.cell? ⟨b,0,none⟩=some (.int .i64 x)) :
  Calls Tryz.prog 192 #[.int .i64 y,.pointer (some ⟨b,0,none⟩)] w fun e w'=>e=.returned (.bool (x == y))/\w'=w:=by
 go_enter Tryz.func192,Tryz.ntmps192
 go_wp2;go_ret;exact ⟨rfl,rfl⟩
theorem Jd (w:World) (F:List Nat) (b:Nat) (v:Value) (l1 l2:List Int) (x:Int) (h:iC w F v (l1++x::l2)) (hn:x∉l1) (hb:w.cell? ⟨b,0,none⟩=some (.int .i64 x)) :
  Calls Tryz.prog 197 #[v,.func (Fn.func 192) #[] #[.pointer (some ⟨b,0,none⟩)]] w fun e w'=>e=.returned (.int .i64 (l1.length:Int))/\w'=w:=by
 obtain ⟨a,cap,rfl,hlc,hcp,hp⟩:=h;have HP:=χ hp;clear hp;have hg:∀q,q<l1.length->(l1++x::l2)[q]?=l1[q]?:=fun q hq=>Ρ hq;have hx:(l1++x::l2)[l1.length]?=some x:=by rw [ϊ (Θ _)];simp
 have hl:l1.length<(l1++x::l2).length:=σ;generalize l1++x::l2=xs at *;generalize hxl:xs.length=len at *;have HN:=χ (ψ hn (ψ hg hx));have kc:=fun y=>CG w b x y hb;clear hn hg hx hb hxl;generalize hk:l1.length=k at *;have HK:=χ hk;clear hk
 go_enter Tryz.func197,Tryz.ntmps197
 go_wp2
 go_loop [8] (fun i=>∃q:Nat,q<=k/\i=.int .i64 (q:Int)) (fun i=>k+1-(intOf i).toNat)
 case atStart=>exact ⟨0,ω,rfl⟩
 case round=>
  obtain ⟨q,hq,rfl⟩:=hrel;have hql:(q:Int)<(len:Int):=ω
  by_cases hqk:q<k
  ·obtain ⟨y,pM⟩:∃y,l1[q]?=some y:=⟨l1[q]'(by rw [HK.out];exact hqk),σ⟩;obtain ⟨gb,off,rfl,_,_,hc⟩:=HP.out q y (by rw [HN.out.2.1 q hqk];exact pM);have k1:=kc y;have hxy:(x == y)=false:=by
    have:x≠y:=fun e=>HN.out.1 (by rw [e];exact Η pM);simpa using this
   rw [hxy] at k1;clear pM kc
   go_wp2_with ((go_at_call 192;(with_reducible refine (k1).mono ?_);rintro e w9 ⟨rfl,aI⟩;rw [aI];clear aI w9))
   go_round
   case rel=>exact ⟨q+1,ω,by go_num⟩
   case measure=>simp [intOf];omega
  ·obtain rfl:q=k:=ω;obtain ⟨gb,off,rfl,_,_,hc⟩:=HP.out q x HN.out.2.2;have k1:=kc x;rw [show (x == x)=true by simp] at k1;clear kc
   go_wp2_with ((go_at_call 192;(with_reducible refine (k1).mono ?_);rintro e w9 ⟨rfl,aI⟩;rw [aI];clear aI w9))
   go_ret;exact ⟨rfl,rfl⟩
theorem Rk (w:World):(zeroValue 3).run Tryz.prog w=.ok (.int .i64 0) w:=by kernel_rfl
theorem PV (w:World) (b base:Nat) (v:Value) (l1 l2:List Int) (x:Int) (h:aX w base v (l1++x::l2)) (hn1:x∉l1) (hn2:x∉l2) (hb:w.cell? ⟨b,0,none⟩=some (.int .i64 x)) (hbv:v.ownBlock≠some b) (hlen:(l1++x::l2).length<=1000000) :
  Calls Tryz.prog 191 #[v,.func (Fn.func 192) #[] #[.pointer (some ⟨b,0,none⟩)]] w fun e w'=>∃v',e=.returned v'/\aX w' base v' (l1++l2)/\v'.ownBlock=v.ownBlock/\aa v.ownBlock.toList w w'/\∃a n c,v'=.slice a n c:=by
 have ki:=Jd w [] b v l1 l2 x (by
  obtain ⟨a,cap,rfl,h1,h2,h3⟩:=h.shape;refine ⟨a,cap,rfl,h1,h2,fun j u hj=>?_⟩;obtain ⟨g,off,rfl,hc⟩:=h3 j u hj
  exact ⟨g,off,rfl,(h.lt g rfl).2,σ,hc⟩) hn1 hb
 obtain ⟨g,off,cap,m,f,rfl,hbg,hR,hlc,hcp,hcm,hf⟩:=h.row σ;have hbg2:b≠g:=fun e=>hbv (by rw [e];rfl);have hx1:∀j,j<l1.length->(l1++x::l2)[j]?=l1[j]?:=fun j hj=>Ρ hj;have hx2:∀j,l1.length<j->(l1++x::l2)[j]?=l2[j-(l1.length+1)]?:=fun j hj=>by
  rw [ϊ ω,show j-l1.length=(j-(l1.length+1))+1 by omega,List.getElem?_cons_succ]
 have hln:(l1++x::l2).length=l1.length+l2.length+1:=ζ;simp only [hln] at hlc hlen ki ⊢;have hy1:∀j,j<l1.length->(l1++l2)[j]?=l1[j]?:=fun j hj=>Ρ hj;have hy2:∀j,l1.length<=j->(l1++l2)[j]?=l2[j-l1.length]?:=fun j hj=>ϊ hj;have hyl:(l1++l2).length=l1.length+l2.length:=σ;have HF:=χ (ψ hf (ψ hx1 (ψ hx2 (ψ hy1 (ψ hy2 hyl)))));have HR:=χ hR;have HN:=χ hn2;clear h hf hx1 hx2 hy1 hy2 hyl hn1 hn2 hR;have hlt:g<w.heap.size:=HR.out.lt;generalize hk:l1.length=k at *;generalize hl:l2.length=l at *;have HK:=χ (ψ hk hl);have hkm1:((k:Int) == -1)=false:=beq_eq_false_iff_ne.2 ω
 have hwr0:IntKind.i64.wrap ((k:Int)+1)=((k+1:Nat):Int):=by rw [Μ _ ω];omega
 clear hk hl hln hlen hbv
 go_enter Tryz.func191,Tryz.ntmps191
 go_wp2_with ((go_at_call 197;(with_reducible refine (ki).mono ?_);rintro e w9 ⟨rfl,aI⟩;rw [aI];clear aI w9))
 clear ki
 go_loopw [5,6,7] (fun s5 s6 _ wr=>∃ (j:Nat) (fj:Nat->Value),s5=.int .i64 ((k+j:Nat):Int)/\s6=.int .i64 ((k+j+1:Nat):Int)/\j<=l/\aK wr g 3 m fj/\(∀q,q<off+k->fj q=f q)/\(∀q u,q<j->l2[q]?=some u->fj (off+k+q)=.int .i64 u)/\(∀q,off+k+j<=q->fj q=f q)/\aa [g] w wr) (fun _ s6 _ _=>k+l+1-(intOf s6).toNat)
 case atStart=>exact ⟨0,f,σ,σ,ω,HR.out,fun q hq=>rfl,fun q u hq=>ω,fun q hq=>rfl,aa.refl _ _⟩
 case round=>
  obtain ⟨j,fj,rfl,rfl,hj,hRj,hf1,hf2,hf3,hu⟩:=hrel;rename World=>wr;have HJ:=χ (ψ hf1 (ψ hf2 hf3));have HRj:=χ hRj;have HJR:=χ hRj;have hbc:=hu.kept hb (by simp;exact hbg2)
  by_cases hjl:j<l
  ·obtain ⟨y,pM⟩:∃y,l2[j]?=some y:=⟨l2[j]'(by rw [HK.out.2];exact hjl),σ⟩;have c0:=hRj.cellAt (off+(k+j+1)) ω ((hf3 _ ω).trans (HF.out.1 (k+j+1) y (by rw [HF.out.2.2.1 _ ω,show k+j+1-(k+1)=j by omega];exact pM)));have c1:=hRj.cell (off+(k+j)) ω;have f1:=hRj.free (off+(k+j));have hxy:(x == y)=false:=by
    have:x≠y:=fun e=>HN.out (by rw [e];exact Η pM);simpa using this
   have kc:=CG wr b x y hbc;rw [hxy] at kc;have hi1:((k+j+1:Nat):Int)<((k+l+1:Nat):Int):=ω;have hi2:((k+j:Nat):Int)<((k+l+1:Nat):Int):=ω;have hw1:IntKind.i64.wrap (((k+j:Nat):Int)+1)=((k+(j+1):Nat):Int):=by rw [Μ _ ω];omega
   have hw2:IntKind.i64.wrap (((k+j+1:Nat):Int)+1)=((k+(j+1)+1:Nat):Int):=by rw [Μ _ ω];omega
   have HY:=χ pM;clear hf1 hf2 hf3 hRj pM;generalize hA:k+j+1=ja at *;generalize hB:k+j=jb at *;generalize hL:k+l+1=jl at *
   go_wp2_with ((go_at_call 192;(with_reducible refine (kc).mono ?_);rintro e w9 ⟨rfl,aI⟩;rw [aI];clear aI w9))
   go_roundw
   case rel=>
    refine ⟨j+1,_,by go_num,by go_num,ω,HRj.out.set (off+jb) _,fun q hq=>?_,fun q u hq hqu=>?_,fun q hq=>?_,hu.setCell (Α σ) _⟩
    ·rw [Γ ω];exact HJ.out.1 q hq
    ·by_cases e:q=j
     ·subst e;rw [Δ ω];rw [HY.out] at hqu;cases hqu;rfl
     ·rw [Γ ω];exact HJ.out.2.1 q u ω hqu
    ·rw [Γ ω];exact HJ.out.2.2 q ω
   case measure=>simp [intOf];omega
  ·obtain rfl:j=l:=ω;have c1:=hRj.cell (off+(k+j)) ω;have f1:=hRj.free (off+(k+j));have hcl:∀ty,(Builtin.clear_ #[26] ty #[.slice (some ⟨g,off+(k+j),none⟩) 1 (cap-(k+j))]).run Tryz.prog wr=.ok (.tuple #[]) (wr.setCell ⟨g,off+(k+j),none⟩ (.int .i64 0)):=fun ty=>by
    have:=Lib.run_clear_slice wr 26 3 ty (.int .i64 0) Tryz.underlying26 Rk rfl rfl g (off+(k+j)) 1 (cap-(k+j)) ω (fun t ht=>by rw [show off+(k+j)+t=off+(k+j) by omega,c1];rfl) (fun t ht=>by rw [show off+(k+j)+t=off+(k+j) by omega];exact f1);rw [this]
    rfl
   have HCM:=χ hcm;have hi3:¬ ((k+j+1:Nat):Int)<((k+j+1:Nat):Int):=ω;have hJB:=χ (show k+j=k+j from rfl);clear hf1 hf2 hf3 hRj c1 hcm hbc hb;generalize hB:k+j=jb at *;go_wp2;go_ret;have hR2:=HJR.out.set (off+jb) (.int .i64 0);have hk1:=HK.out.1;have hk2:=HK.out.2;have hlen:(l1++l2).length=jb:=by have:=HF.out.2.2.2.2.2;omega
   have hO:=hR2.off (base:=base) (ys:=l1++l2) (off:=off) (cap:=cap) hbg ω hcp HCM.out (fun q u hq=>by
    have hql:q<(l1++l2).length:=(List.getElem?_eq_some_iff.1 hq).1;rw [Γ ω]
    by_cases e:q<k
    ·rw [HJ.out.1 (off+q) ω];exact HF.out.1 q u (by rw [HF.out.2.1 q ω];rw [HF.out.2.2.2.1 q ω] at hq;exact hq)
    ·have h3:=HF.out.2.2.2.2.1 q ω;have h5:l2[q-k]?=some u:=by rw [←hq,h3]
     have:=HJ.out.2.1 (q-k) u ω h5;rw [show off+k+(q-k)=off+q by omega] at this
     exact this)
   rw [hlen] at hO;exact ⟨_,rfl,hO,rfl,hu.setCell (Α σ) _,_,_,_,rfl⟩
def BnAt (w:World) (p:Nat) (FF:List Nat) (A:NS) (st:Nat) (G:BG):Prop:=∃B F gr cr lo S vs,p=B.n0/\FF=B.blk F gr A.cs.length S vs/\iH w B F gr cr lo A st S vs G.R/\S.f=G.F
theorem Qh {l:List Int} {x:Int} (hn:l.Nodup) (hx:x∈l):∃l1 l2,l=l1++x::l2/\x∉l1/\x∉l2/\l.filter (fun z=>z != x)=l1++l2:=by
 obtain ⟨l1,l2,rfl⟩:=List.append_of_mem hx;rw [θ,Ζ] at hn;have h1:x∉l1:=fun h=>hn.2.2 x h x σ rfl;have h2:x∉l2:=hn.2.1.1;refine ⟨l1,l2,rfl,h1,h2,?_⟩;have f:∀l:List Int,x∉l->l.filter (fun z=>z != x)=l:=fun l hl=>by
  rw [List.filter_eq_self];intro a ha;simp;intro e;subst e;exact hl ha
 rw [List.filter_append,List.filter_cons_of_neg σ,f l1 h1,f l2 h2]
section
variable {w:World} {B:BB} {F:List Nat} {gr cr lo:Nat} {A:NS} {st:Nat} {S:CS} {vs:List Value} {G:BG}
theorem OD (M:iH w B F gr cr lo A st S vs G.R) (eF:S.f=G.F) {x h:Nat} (X:EP A G x) (hx:x<A.cs.length) (hr:G.F.u x=-1) (hin:0<(A.c x).i) (hh:(A.c x).i=h) (hq:h<vs.length) :
  Calls Tryz.prog 185 #[.pointer (some ⟨B.n0,0,none⟩),.int .i64 (h:Int),.int .i64 (x:Int)] w fun e w'=>e=.returned (.bool true)/\
   Goes (B.blk F gr A.cs.length S vs) w w' (fun FF=>BnAt w' B.n0 FF (aZ A x) (bR st (x9 A h x G)) (qQ A h x G)):=by
 have ok:=M.cells.ok;obtain ⟨T1,T2,mx,t1,t2,t3,t4,t5⟩:=LZ X ok hx hr hin hh;have nd:=(X.rh.row h).nodup;obtain ⟨l1,l2,eR,n1,n2,eL⟩:=Qh nd mx;have hrl:(G.R h).length<=65536:=Χ (rC A.cs.length _ nd (fun z hz=>⟨((X.rh.row h).1 z hz).1,((X.rh.row h).1 z hz).2.1⟩)) ok.c1;obtain ⟨w0,hw0⟩:∃w0,w0=w.alloc (.cells #[.int .i64 (x:Int)] 3):=⟨_,rfl⟩;have hs0:w.heap.size<w0.heap.size:=by rw [hw0];simp
 have u0:aa [] w w0:=by rw [hw0];exact (aa.refl _ _).alloc _
 have hb0:w0.cell? ⟨w.heap.size,0,none⟩=some (.int .i64 (x:Int)):=by rw [hw0];simp
 have hlt:=M.lt;have hbx:∀g,(vs.getD h undef).ownBlock=some g->g≠w.heap.size:=fun g hg e=>by have:=M.xq hq hg;omega
 have kd:=fun W (hW:aa [] w0 W)=>PV W w.heap.size 0 (vs.getD h undef) l1 l2 x (by rw [←eR];exact (M.each h hq).upd (u0.trans hW) σ) n1 n2 (hW.was hb0) (fun e=>hbx _ e rfl) (by rw [←eR];omega);obtain ⟨a,cap,hv,_⟩:=M.shape hq;have h2:=M.h2;have d:=M.U8 hq;rw [hv] at d;have df:=M.rowf h;have n0:B.n0∉(vs.getD h undef).ownBlock.toList:=fun hm=>(M.d4 h _ hq (by simpa using hm)).1 rfl;have ng:gr∉(vs.getD h undef).ownBlock.toList:=fun hm=>(M.d4 h _ hq (by simpa using hm)).2.2.2.1 rfl;have nb:w.heap.size∉(vs.getD h undef).ownBlock.toList:=fun hm=>hbx _ (by simpa using hm) rfl
 have r2:∀W,aa (vs.getD h undef).ownBlock.toList w0 W->W.cell? ⟨B.n0,2,none⟩=some (.slice (some ⟨gr,0,none⟩) vs.length cr):=fun W hW=>hW.kept (u0.was h2) n0;have r3:∀W,aa (vs.getD h undef).ownBlock.toList w0 W->W.cell? ⟨gr,h,none⟩=some (.slice a (G.R h).length cap)/\W.frozen? ⟨gr,h,none⟩=false:=fun W hW=>⟨hW.kept (u0.was d) ng,hW.aH (u0.was d) ng (u0.aH d σ df)⟩
 have r4:∀W,aa (vs.getD h undef).ownBlock.toList w0 W->W.cell? ⟨w.heap.size,0,none⟩=some (.int .i64 (x:Int)):=fun W hW=>hW.kept hb0 nb;have Bw:(0:Int)<=(h:Int):=ω;have FY:(h:Int)<(vs.length:Int):=ω;have hgl:=M.GQ;have hn0l:=hlt B.n0 (by simp [BB.blk]);have HM:=χ M;have HX:=χ (ψ T1 (ψ t1 (ψ t2 (ψ t3 (ψ t4 (ψ t5 (ψ eL (ψ eF X))))))));have hvl2:=M.Xt;rw [hv] at kd r2 r3 r4;clear M X T1 T2 mx t1 t2 t3 t4 t5 nd eL hbx ok h2 d df n0 ng nb n1 n2 eF hlt;have HV:=χ hv;clear eR hrl;generalize (G.R h).length=rl at *
 go_enter Tryz.func185,Tryz.ntmps185
 go_wp2;rw [←hw0];clear hw0 hb0
 go_cut [20] (fun s20 wx=>∃v1,iH wx B F gr cr lo A st S (vs.set h v1) (cz G.R h (l1++l2))/\wx.cell? ⟨w.heap.size,0,none⟩=some (.int .i64 (x:Int))/\aa (gr::(Value.slice a rl cap).ownBlock.toList) w wx/\v1.ownBlock=(Value.slice a rl cap).ownBlock)
 case first=>
  have p2:=r2 _ (aa.refl _ _);obtain ⟨p3,p4⟩:=r3 _ (aa.refl _ _)
  go_region_law
   (first
    | (go_simp;go_at_call 191;(with_reducible refine (kd _ β).mono ?_);rintro e w1 ⟨v1,rfl,tC,hb1,hu1a,a1,n1,c1,rfl⟩;(have hu1:aa (Value.slice a rl cap).ownBlock.toList w0 w1:=aa.trans β hu1a);(have q2:=r2 _ hu1);obtain ⟨q3,q4⟩:=r3 _ hu1;(have q5:=r4 _ hu1)))
  all_goals
   go_wp2
   go_meet
   have hu2:aa (Value.slice a rl cap).ownBlock.toList w w1:=(u0.mono σ).trans hu1;exact ⟨_,HM.out.abZ h hq (by rw [hv];exact hu2) _ _ tC (by rw [hv];exact hb1),γ,(hu2.mono (by simp +contextual)).setCell (Α σ) _,hb1⟩
 case rest=>
  obtain ⟨v1,hM2,hb2,hu2,ho2⟩:=hcut;obtain ⟨T1,t1,t2,t3,t4,t5,eL,eF,X⟩:=HX.out;have hvs2:(vs.set h v1).length=vs.length:=Ι;have hfs:nY A.cs.length S.f:=by rw [eF];exact X.fh.f
  have hSk:S.k x=G.F.k x:=by rw [←eF];rfl
  have ksp:=fun W (hW:aa [] wc W)=>NF B.bt B.ba lo A.cs.length S x W (hM2.iW.aj hW) hx (by unfold oh;rw [Ν ω];have e:S.u x=-1:=(by rw [←hr,←eF];rfl);simp [e]) (fun k hk=>by have:=hfs.vD x hx k hk;omega);have h1:=hM2.h1;have hl2:=hM2.lt;have hbn:w.heap.size∉B.c::B.ba::gr::S.blk A.cs.length:=fun hm=>by
   have hl:=HM.out.lt;simp only [ρ] at hm;rcases hm with e|e|e|e
   ·have:=HM.out.cells.lt B.c HM.out.cells.mem;omega
   ·have:=hl B.ba (by simp [BB.blk]);omega
   ·omega
   ·have:=(HM.out.iW.nu e).2;omega
  have hn0:B.n0∉B.c::B.ba::gr::S.blk A.cs.length:=fun hm=>by
   have hcn:=HM.out.cn;simp only [ρ] at hm;rcases hm with e|e|e|e
   ·exact hcn.1 e
   ·exact HM.out.d2.2.1 e
   ·exact HM.out.d2.2.2.1 e
   ·exact (HM.out.d3 _ e).1 rfl
  have r1:∀W,aa (B.c::B.ba::gr::S.blk A.cs.length) wc W->W.cell? ⟨B.n0,1,none⟩=some (.pointer (some ⟨B.bt,0,none⟩)):=fun W hW=>hW.kept h1 hn0;have r0:∀W,aa (B.c::B.ba::gr::S.blk A.cs.length) wc W->W.cell? ⟨w.heap.size,0,none⟩=some (.int .i64 (x:Int)):=fun W hW=>hW.kept hb2 hbn
  have ka:=fun (W:World) (vl:Value) (hM:iH W B F gr cr lo A st (gN S x) (vs.set h v1) (cz G.R h (l1++l2))) (hvl:iC W (B.c::B.ba::(gN S x).blk A.cs.length) vl (G.F.k x))=>Ho hM (by rw [yG,eF];exact X.fh.f.Qj hx hr) h (by rw [hvs2];exact hq) hvl (by rw [yG,eF,show cz G.R h (l1++l2) h=l1++l2 by simp [cz],←eL];exact t1) (by rw [yG,eF];exact t2) (fun z hz=>by rw [show cz G.R h (l1++l2) h=l1++l2 by simp [cz],←eL] at hz;exact t3 z hz) (fun z hz=>by rw [show cz G.R h (l1++l2) h=l1++l2 by simp [cz],←eL] at hz;exact t5 z (by rcases hz with hz|hz;exact Α (List.mem_filter.1 hz).1;exact Β hz))
  have mU:=χ hM2;have HB:=χ (show ∀W:World,aa [B.ba] wc W->aQ W B.bt B.ba lo A.cs.length (gN S x)->iH W B F gr cr lo A st (gN S x) (vs.set h v1) (cz G.R h (l1++l2)) from fun W hu hF=>mU.out.jG (hu.mono σ) (mU.out.cells.upd hu (fun y hy hm=>by simp at hy;subst hy;exact mU.out.d1.2.2.1 hm)) hF (fun g hg=>Α (qB S x _ g hg)))
  have HSUB:=χ (show ∀y,y∈B.c::B.ba::gr::(gN S x).blk A.cs.length->y∈B.c::B.ba::gr::S.blk A.cs.length from fun y hy=>by
   simp only [ρ] at hy ⊢;rcases hy with e|e|e|e
   ·exact Α e
   ·exact Β (Α e)
   ·exact Β (Β (Α e))
   ·exact Β (Β (Β (qB S x _ y e))))
  have WG:=χ (show ∀y,y∈B.c::B.ba::(gN S x).blk A.cs.length->y<wc.heap.size from fun y hy=>by
   simp only [ρ] at hy;rcases hy with e|e|e
   ·subst e;exact hM2.cells.lt _ hM2.cells.mem
   ·subst e;exact hM2.iW.row.lt
   ·exact (hM2.iW.nu (qB S x _ y e)).2)
  clear hM2 T1 t1 t2 t3 t4 t5 eL hfs X h1 hb2 eF;rw [hSk] at ksp;go_wp2
  go_region_held3 (aa (B.c::B.ba::gr::S.blk A.cs.length) wc) (exact ν)
   (first
    | ((go_at_call 193;(with_reducible refine (ksp _ β).mono ?_));rintro e w3 ⟨v3,rfl,hL3,WX,hu3⟩;(have VL:aa [B.ba] wc w3:=aa.trans β hu3);(have hu3b:aa (B.c::B.ba::gr::S.blk A.cs.length) wc w3:=VL.mono σ);(have jD:=HB.out _ VL WX);obtain ⟨a3,c3,hv3,hl3,hc3⟩:=(show ∃a c,v3=.slice a (G.F.k x).length c/\True/\True from (by obtain ⟨a,c,e,_⟩:=hL3.open;exact ⟨a,c,e,trivial,trivial⟩));subst hv3;(have ka3:=fun W (hW:aa [] w3 W)=>ka W _ (jD.aj hW) (iC.upd (iC.Zd (F:=B.c::B.ba::(gN S x).blk A.cs.length) hL3 (fun g hg=>Ψ (WG.out g hg) (aa.size (S:=[]) (w:=wc) β))) hW σ)))
    | ((go_at_call 186;(with_reducible refine (ka3 _ β).mono ?_));rintro e w4 ⟨S4,vo,rfl,ZN,rQ,fZ,hb4,hx4⟩;(have Yu:aa (B.c::B.ba::gr::S.blk A.cs.length) wc w4:=aa.trans ν (fZ.mono HSUB.out))))
  have h04:=rQ.h0;have hnF:=HM.out.d1.1;have uH:w.heap.size∉F:=fun hm=>by have:=HM.out.cells.lt _ hm;omega
  have r5:∀W,aa F w4 W->W.cell? ⟨B.n0,0,none⟩=some (.pointer (some ⟨B.c,0,none⟩)):=fun W hW=>hW.kept h04 hnF;have r6:∀W,aa F w4 W->W.cell? ⟨w.heap.size,0,none⟩=some (.int .i64 (x:Int)):=fun W hW=>hW.kept (r0 _ Yu) uH;have Xo:=fun W (hW:aa [] w4 W)=>gP (rQ.cells.aj hW) x ((ae _ _).2 ⟨hx,hin⟩);have Pt:=χ rQ;clear rQ h04 r0 r1 ka ksp ka3 jD hL3 WX;go_wp2
  go_region_held3 (aa F w4) (exact ν)
   (first
    | ((go_at_call 151;(with_reducible refine (Xo _ β).mono ?_));rintro e w5 ⟨rfl,Uc,bK⟩;(have Kb:aa F w4 w5:=aa.trans ν bK)))
  go_wp2;go_ret;obtain ⟨T1,t1,t2,t3,t4,t5,eL,eF,X⟩:=HX.out;have dl:=eU A (x:Int);have dh:=iK A (x:Int);have wQ:=Pt.out.bY Kb Uc (fun y hy=>Α hy) dl (by rw [dh]);have eR1:cz G.R h (l1++l2) h=l1++l2:=by simp [cz]
  have eT:(iw G h x).R=cz G.R h (l1++l2):=by unfold iw;rw [eL]
  have eTF:(iw G h x).F=(gN S x).f:=by rw [yG,eF];rfl
  have e1:(qQ A h x G).R=cz (cz G.R h (l1++l2)) h (kG (bU A) A.cs.length (gN S x).f (cz G.R h (l1++l2) h) (G.F.k x)).O:=by unfold qQ yo;rw [eT,eTF]
  have e2:(qQ A h x G).F=S4.f:=by rw [ZN];unfold qQ yo;rw [eT,eTF]
  have e3:x9 A h x G=(kG (bU A) A.cs.length (gN S x).f (cz G.R h (l1++l2) h) (G.F.k x)).q:=by unfold x9;rw [eT,eTF]
  have uw:aa (B.blk F gr A.cs.length S vs) w w5:=by
   have m1:∀y,y∈gr::(Value.slice a rl cap).ownBlock.toList->y∈B.blk F gr A.cs.length S vs:=fun y hy=>by
    simp only [BB.blk,ρ,τ] at hy ⊢;rcases hy with e|e
    ·exact Β (Β (Β (Α e)))
    ·exact Β (Β (Β (Β (Β (Β (jg.2 ⟨h,hq,by rw [HV.out];simpa using e⟩))))))
   have m2:∀y,y∈B.c::B.ba::gr::S.blk A.cs.length->y∈B.blk F gr A.cs.length S vs:=fun y hy=>by
    simp only [BB.blk,ρ,τ] at hy ⊢;rcases hy with e|e|e|e
    ·exact Β (Β (Β (Β (Α (by rw [e];exact HM.out.cells.mem)))))
    ·exact Β (Β (Α e))
    ·exact Β (Β (Β (Α e)))
    ·exact Β (Β (Β (Β (Β (Α e)))))
   have m3:∀y,y∈F->y∈B.blk F gr A.cs.length S vs:=fun y hy=>by simp [BB.blk,hy]
   exact ((hu2.mono m1).trans (Yu.mono m2)).trans (Kb.mono m3)
  refine ⟨rfl,B.blk F gr (aZ A x).cs.length S4 ((vs.set h v1).set h vo),⟨B,F,gr,cr,lo,S4,(vs.set h v1).set h vo,rfl,rfl,by rw [e1,e3];exact wQ,e2.symm⟩,uw,fun y hy=>?_⟩;have hsz:=hu2.size;rw [dl] at hy;simp only [BB.blk,ρ,τ] at hy ⊢;rcases hy with e|e|e|e|e|e|e
  ·exact Α (Α e)
  ·exact Α (Β (Α e))
  ·exact Α (Β (Β (Α e)))
  ·exact Α (Β (Β (Β (Α e))))
  ·exact Α (Β (Β (Β (Β (Α e)))))
  ·rcases hb4 y e with h'|h'
   ·exact Α (Β (Β (Β (Β (Β (Α (qB S x _ y h')))))))
   ·right;have:=hu3b.size;omega
  ·obtain ⟨k,hk,hk2⟩:=jg.1 e;rw [Ι,Ι] at hk;rw [ug,ug] at hk2
   by_cases ek:k=h
   ·rw [Δ ⟨ek,by rw [Ι];exact hq⟩] at hk2;right;have:=hx4 y hk2;have:=hu3b.size;omega
   ·rw [Γ (fun h=>ek h.1),Γ (fun h=>ek h.1)] at hk2;exact Α (Β (Β (Β (Β (Β (Β (jg.2 ⟨k,hk,hk2⟩)))))))
end
section
variable {w:World} {B:BB} {F:List Nat} {gr cr lo:Nat} {A:NS} {st:Nat} {S:CS} {vs:List Value} {G:BG} {R:Nat->List Int}
theorem iH.setSt {w':World} {st':Nat} (h:iH w B F gr cr lo A st S vs R) (hu:aa [B.c] w w') (hC:aC w' B.c F A st'):iH w' B F gr cr lo A st' S vs R:=
 h.bY (hu.mono (fun x hx=>by simp at hx;subst hx;exact h.cells.mem)) hC (fun x hx=>Α hx) rfl rfl
def Ew (A:NS) (G:BG) (h:Int):Nat:=if bD A h then (G.R h.toNat).length-1 else 0
theorem Gi (M:iH w B F gr cr lo A st S vs G.R) (I:Cx A G) (h:Int) :
  Calls Tryz.prog 181 #[.pointer (some ⟨B.n0,0,none⟩),.int .i64 h] w fun e w'=>e=.returned (.tuple #[.int .i64 (pQ (dF A h)),.bool (dF A h).isSome])/\iH w' B F gr cr lo A (bR st (Ew A G h)) S vs G.R/\aa [B.c] w w':=by
 have hst:=M.cells.ou;cases hh:bD A h with
 | false=>
  have e:dF A h=none:=by
   by_cases h1:0<h
   ·exact (jB h1).2 (Ms M.cells.ok hh)
   ·exact o9 h1
  have e2:Ew A G h=0:=by unfold Ew;rw [hh];rfl
  rw [e,e2,fO hst];have kr:=Vg M h hh;have HM:=χ M;clear M I hh e e2
  go_enter Tryz.func181,Tryz.ntmps181
  go_wp2_with ((go_at_call 187;(with_reducible refine (kr).mono ?_);rintro e w9 ⟨rfl,aI⟩;rw [aI];clear aI w9))
  go_ret2;exact ⟨rfl,HM.out,aa.refl _ _⟩
 | true=>
  obtain ⟨q,rfl,hq1,hq⟩:=M.hq hh;have e2:Ew A G (q:Int)=(G.R q).length-1:=by unfold Ew;rw [hh];simp
  obtain ⟨a,cap,hv,hl1,hl2⟩:=M.shape hq;have kr:=Q9 M q hh hv;have hsl:iC w [B.c] (vs.getD q undef) (G.R q):=(M.each q hq).sl (fun g hg hm=>by simp at hm;subst hm;exact (M.d4 q _ hq hg).2.2.2.2.1 M.cells.mem);rw [hv] at hsl;rw [e2];cases hR:G.R q with
  | nil=>
   rw [Lu I hq1 hR];rw [hR] at kr hsl;simp only [List.length_nil] at kr ⊢;rw [fO hst];have HM:=χ M;clear M I hh hR e2 hv hsl
   go_enter Tryz.func181,Tryz.ntmps181
   go_wp2_with ((go_at_call 187;(with_reducible refine (kr).mono ?_);rintro e w9 ⟨rfl,aI⟩;rw [aI];clear aI w9))
   go_ret2;exact ⟨rfl,HM.out,aa.refl _ _⟩
  | cons x t=>
   obtain ⟨m,hb,hm,_⟩:=Rh I hq1 hR;rw [hm];rw [hR] at kr hsl hl1;simp only [Ω] at kr hsl hl1 ⊢;have hin:∀z,z∈x::t->∃y:Nat,z=y/\bQ A z=true:=fun z hz=>by
    obtain ⟨y,e,_,i,_⟩:=QN I (h:=q) (z:=z) (by rw [hR];exact hz);exact ⟨y,e,i⟩
   obtain ⟨g,off,rfl,hgl,EU,hc0⟩:=hsl.head;have ET:=(show iC w [B.c] (.slice (some ⟨g,off,none⟩) (t.length+1) cap) (x::t) from hsl).tail;have hsr:=fun W=>wD W (some ⟨g,off,none⟩) (t.length+1) cap ω ω;obtain ⟨a3,zT⟩:=qc (some ⟨g,off,none⟩) (t.length+1) cap;rw [zT] at hsr ET;simp only [Nat.add_sub_cancel] at hsr ET ⊢;have h0:=M.h0;have hn0:B.n0∉[B.c]:=by simp;exact M.cn.1
   have HM:=χ M;have HT:=χ ET;have HI:=χ (ψ hin hb);have hC:=M.cells;have hz:bR st 0=st:=fO hst;clear M I hh hR e2 hv hsl ET hin hb hm zT;generalize htl:t.length=tl at *;have HTL:=χ htl;have hne0:((tl:Int)+1 == 0)=false:=beq_eq_false_iff_ne.2 ω;clear htl
   go_enter Tryz.func181,Tryz.ntmps181
   go_wp2_with ((go_at_call 187;(with_reducible refine (kr).mono ?_);rintro e w9 ⟨rfl,aI⟩;rw [aI];clear aI w9))
   go_loopw [7,22] (fun s7 s22 wr=>∃ (j:Nat) (b:Int),j<=tl/\s22=.int .i64 (j:Int)/\s7=.int .i64 b/\lY (bU A) b (t.drop j)=lY (bU A) x t/\(∃y:Nat,b=y/\bQ A b=true)/\aC wr B.c F A (bR st j)/\aa [B.c] w wr) (fun _ s22 _=>tl-(intOf s22).toNat)
   case atStart=>exact ⟨0,x,ω,rfl,rfl,σ,HI.out.1 x σ,by rw [hz];exact hC,aa.refl _ _⟩
   case round=>
    obtain ⟨j,b,hj,rfl,rfl,hbb,hib,hCj,hu⟩:=hrel;rename World=>wr
    by_cases hjt:j<tl
    ·obtain ⟨y,pM⟩:∃y,t[j]?=some y:=⟨t[j]'(by rw [HTL.out];exact hjt),σ⟩;have hd:t.drop j=y::t.drop (j+1):=by
      obtain ⟨hl,e⟩:=List.getElem?_eq_some_iff.1 pM;rw [ϛ hl,e]
     obtain ⟨a4,c4,e4,_,_,h4⟩:=HT.out;have ea:a3=a4:=by injection e4
     subst ea;obtain ⟨g4,o4,rfl,_,hg4,hc4⟩:=h4 j y pM;have hc5:=hu.kept hc4 hg4;obtain ⟨yn,rfl,hiy⟩:=HI.out.1 y (Λ _ (Η pM));obtain ⟨bn,rfl,hbn⟩:=hib;have ka:=dX hCj yn bn hiy hbn;have h05:=hu.kept h0 hn0;have ZP:(j:Int)<(tl:Int):=ω;have hw1:IntKind.i64.wrap ((j:Int)+1)=(j:Int)+1:=Μ _ ω;have eah:bU A (yn:Int) (bn:Int)=decide (bX A yn bn):=by rw [lJ,hiy,hbn];simp
     have hnx:∀b':Int,b'=(if bU A (yn:Int) (bn:Int) then (yn:Int) else (bn:Int))->lY (bU A) b' (t.drop (j+1))=lY (bU A) x t:=fun b' e=>by rw [←hbb,hd,e];rfl
     have HN:=χ (ψ hnx (ψ hiy hbn));have hse:bR (bR st j) 1=bR st (j+1):=iN st j 1;rw [←eah] at ka;clear hCj hbb hd h4 pM hc4 hiy hbn eah hnx e4;cases hab:bU A (yn:Int) (bn:Int) with
     | true=>
      rw [hab] at ka;have HAB:=χ hab;clear hab
      go_wp2_with ((go_at_call 174;(with_reducible refine (ka).mono ?_));rintro e w2 ⟨rfl,hC2,hu2⟩)
      go_roundw
      case rel=>exact ⟨j+1,yn,ω,by go_num,rfl,HN.out.1 _ (by rw [HAB.out];rfl),⟨yn,rfl,HN.out.2.1⟩,by rw [←hse];exact hC2,hu.trans hu2⟩
      case measure=>simp [intOf];omega
     | false=>
      rw [hab] at ka;have HAB:=χ hab;clear hab
      go_wp2_with ((go_at_call 174;(with_reducible refine (ka).mono ?_));rintro e w2 ⟨rfl,hC2,hu2⟩)
      go_roundw
      case rel=>exact ⟨j+1,bn,ω,by go_num,rfl,HN.out.1 _ (by rw [HAB.out];rfl),⟨bn,rfl,HN.out.2.2⟩,by rw [←hse];exact hC2,hu.trans hu2⟩
      case measure=>simp [intOf];omega
    ·obtain rfl:j=tl:=ω;have hbf:b=(m:Int):=by
      rw [List.drop_of_length_le (by rw [HTL.out];omega)] at hbb;have e:lY (bU A) b []=b:=rfl;rw [e,HI.out.2] at hbb;exact hbb
     have HB:=χ hbf;have HC:=χ hCj;clear hbb hib hbf hCj;go_wp2;go_ret2;exact ⟨by rw [HB.out];rfl,HM.out.setSt hu HC.out,hu⟩
end
def Iz (w:World) (p:Nat) (FF:List Nat) (A:NS) (st:Nat) (G:BG):Prop:=BnAt w p FF A st G/\Cx A G
theorem TF {A:NS} {G:BG} (I:Cx A G) (ok:A.Ok) {q:Int} {m:Nat} (hm:dF A q=some m):∃k:Nat,q=k/\1<=k/\bD A q=true/\m<A.cs.length/\G.F.u m=-1/\(A.c m).i=k:=by
 have hq:0<q:=by
  apply Ϙ;intro h;rw [o9 h] at hm;cases hm
 obtain ⟨k,rfl⟩:∃k:Nat,q=k:=⟨q.toNat,ω⟩;have hf:=(iB hq).1 hm;have hh:bD A (k:Int)=true:=by
  have:=iJ ok ((ae A m).2 ⟨hf.1,by rw [hf.2.1];omega⟩);rw [π,hf.2.1] at this;exact this
 cases hR:G.R k with
 | nil=>rw [Lu I ω hR] at hm;cases hm
 | cons x t=>
  obtain ⟨m',_,h2,h3,h4,h5⟩:=Rh I (show 1<=k by omega) hR;rw [hm] at h2;cases h2;exact ⟨k,rfl,ω,hh,h3,h4,h5⟩
def Qy (A:NS) (q:Int) (G:BG):Nat:=Ew A G q+(match dF A q with|some m=>x9 A q.toNat m G|none=>0)
def Sc (A:NS) (q:Int) (G:BG):BG:=match dF A q with|some m=>qQ A q.toNat m G|none=>G
section
variable {w:World} {p:Nat} {FF:List Nat} {A:NS} {st:Nat} {G:BG}
theorem Eb (h:Iz w p FF A st G) (q:Int) :
  Calls Tryz.prog 177 #[.pointer (some ⟨p,0,none⟩),.int .i64 q] w fun e w'=>e=.returned (.tuple #[.int .i64 (pQ (dF A q)),.bool (dF A q).isSome])/\Goes FF w w' (fun JY=>Iz w' p JY (uo A q) (bR st (Qy A q G)) (Sc A q G)):=by
 obtain ⟨⟨B,F,gr,cr,lo,S,vs,rfl,rfl,M,eF⟩,I⟩:=h;have km:=Gi M I q;have pY:∀y,y∈[B.c]->y∈B.blk F gr A.cs.length S vs:=fun y hy=>by
  simp at hy;subst hy;simp [BB.blk,M.cells.mem]
 have hst:=M.cells.ou;cases hm:dF A q with
 | none=>
  rw [hm] at km;simp only [pQ,Option.isSome_none] at km ⊢;have e1:Qy A q G=Ew A G q:=by unfold Qy;rw [hm];rfl
  have e2:Sc A q G=G:=by unfold Sc;rw [hm]
  have e3:uo A q=A:=by unfold uo;rw [hm]
  rw [e1,e2,e3];have HI:=χ (ψ I (ψ eF pY));clear M I hm e1 e2 e3 eF pY
  go_enter Tryz.func177,Tryz.ntmps177
  go_wp2_with ((go_at_call 181;(with_reducible refine (km).mono ?_));rintro e w1 ⟨rfl,hM1,hu1⟩)
  go_ret2;exact ⟨rfl,Goes.stay ⟨⟨B,F,gr,cr,lo,S,vs,rfl,rfl,hM1,HI.out.2.1⟩,HI.out.1⟩ (hu1.mono HI.out.2.2)⟩
 | some m=>
  rw [hm] at km;simp only [pQ,Option.isSome_some] at km ⊢;obtain ⟨k,rfl,hk1,hh,m1,m2,m3⟩:=TF I M.cells.ok hm;have e1:Qy A (k:Int) G=Ew A G (k:Int)+x9 A k m G:=by unfold Qy;rw [hm];simp
  have e2:Sc A (k:Int) G=qQ A k m G:=by unfold Sc;rw [hm];simp
  have e3:uo A (k:Int)=aZ A (m:Int):=by unfold uo;rw [hm]
  rw [e1,e2,e3];obtain ⟨k',hk',_,hkv⟩:=M.hq hh;obtain rfl:k=k':=ω;have X:=I.x m1;have kt:=fun W (hM:iH W B F gr cr lo A (bR st (Ew A G (k:Int))) S vs G.R)=>OD hM eF X m1 m2 (by rw [m3];omega) m3 hkv;have T:=(LZ X M.cells.ok m1 m2 (by rw [m3];omega) m3).1;have HI:=χ (ψ T pY);clear M I hm e1 e2 e3 eF pY X T m1 m2 m3 hh hk'
  go_enter Tryz.func177,Tryz.ntmps177
  go_wp2_with (first
   | ((go_at_call 181;(with_reducible refine (km).mono ?_));rintro e w1 ⟨rfl,hM1,hu1⟩;(have kt1:=kt _ hM1);(have hs1:=hu1.size))
   | ((go_at_call 185;(with_reducible refine (kt1).mono ?_));rintro e w2 ⟨rfl,FF2,hK2,hu2,hf2⟩)
   | fail)
  go_ret2;rw [iN] at hK2;refine ⟨rfl,FF2,⟨hK2,HI.out.1⟩,(hu1.mono HI.out.2).trans hu2,fun y hy=>?_⟩;rcases hf2 y hy with h'|h'
  ·exact Α h'
  ·exact Β ω
theorem x8 {B:BB} {F:List Nat} {gr n:Nat} {S:CS} {vs:List Value}:∀y,y∈F->y∈B.blk F gr n S vs:=fun y hy=>by simp [BB.blk,hy]
theorem We {w:World} {B:BB} {F F':List Nat} {gr n:Nat} {S S':CS} {vs:List Value} {q:Nat} {vo:Value} (hF:∀y,y∈F'->y∈F) (hb:∀g,g∈S'.blk n->g∈S.blk n\/w.heap.size<=g) (hv:∀g,vo.ownBlock=some g->w.heap.size<=g) :
  ∀y,y∈B.blk F' gr n S' (vs.set q vo)->y∈B.blk F gr n S vs\/w.heap.size<=y:=fun y hy=>by
 simp only [BB.blk,ρ,τ] at hy ⊢;rcases hy with e|e|e|e|e|e|e
 ·exact Α (Α e)
 ·exact Α (Β (Α e))
 ·exact Α (Β (Β (Α e)))
 ·exact Α (Β (Β (Β (Α e))))
 ·exact Α (Β (Β (Β (Β (Α (hF y e))))))
 ·rcases hb y e with h'|h'
  ·exact Α (Β (Β (Β (Β (Β (Α h'))))))
  ·exact Β h'
 ·obtain ⟨k,hk,hk2⟩:=jg.1 e;rw [Ι] at hk;rw [ug] at hk2
  by_cases ek:k=q/\q<vs.length
  ·rw [Δ ek] at hk2;exact Β (hv y hk2)
  ·rw [Γ ek] at hk2;exact Α (Β (Β (Β (Β (Β (Β (jg.2 ⟨k,hk,hk2⟩)))))))
theorem abt {w:World} {B:BB} {F:List Nat} {gr cr lo:Nat} {S:CS} {vs:List Value} {R:Nat->List Int} (M:iH w B F gr cr lo A st S vs R):∀y,y∈B.c::B.ba::gr::S.blk A.cs.length->y∈B.blk F gr A.cs.length S vs:=fun y hy=>by
 simp only [BB.blk,ρ,τ] at hy ⊢;rcases hy with e|e|e|e
 ·exact Β (Β (Β (Β (Α (by rw [e];exact M.cells.mem)))))
 ·exact Β (Β (Α e))
 ·exact Β (Β (Β (Α e)))
 ·exact Β (Β (Β (Β (Β (Α e)))))
theorem FT (h:Iz w p FF A st G) (q x:Nat) (k s:Int) (hk:-9223372036854775808<=k/\k<=9223372036854775807/\0<=s/\s<=18446744073709551615) (hB:nR A q x=true) :
  Calls Tryz.prog 178 #[.pointer (some ⟨p,0,none⟩),.int .i64 (q:Int),.int .i64 (x:Int),.agg #[.int .i64 k,.int .u64 s]] w fun e w'=>e=.returned (.bool true)/\
   Goes FF w w' (fun JY=>Iz w' p JY (aJ A q x k s) (bR st (Vi (aJ A q x k s) q x G)) (Tj (aJ A q x k s) q x G)):=by
 obtain ⟨⟨B,F,gr,cr,lo,S,vs,rfl,rfl,M,eF⟩,I⟩:=h;have ok:=M.cells.ok;obtain ⟨I2,_,t2,t3,t4,hcs⟩:=Zl (h:=q) (x:=x) k s I ok hB;have kY:(aJ A q x k s).hs.length=A.hs.length:=by unfold aJ;split;rfl;rfl
 have QV:=((dW _ _ _).1 hB).1;obtain ⟨q',e,hq1,hqv⟩:=M.hq QV;obtain rfl:q=q':=ω;have u1:aa [] w (w.alloc (.cells #[.int .i64 k,.int .u64 s] 129)):=(aa.refl _ _).alloc _;have kp:=fun W (hW:aa [] (w.alloc (.cells #[.int .i64 k,.int .u64 s] 129)) W)=>nC (M.cells.aj (u1.trans hW)) q x k s hk hB;have h0:=M.h0;have uH:B.n0∉F:=M.d1.1;have hsz:w.heap.size∉F:=fun hm=>by have:=M.cells.lt _ hm;omega
 have r0:∀W,aa F (w.alloc (.cells #[.int .i64 k,.int .u64 s] 129)) W->W.cell? ⟨B.n0,0,none⟩=some (.pointer (some ⟨B.c,0,none⟩)):=fun W hW=>hW.kept (u1.was h0) uH;have r1:∀W,aa F (w.alloc (.cells #[.int .i64 k,.int .u64 s] 129)) W->W.cell? ⟨w.heap.size,0,none⟩=some (.int .i64 k):=fun W h=>h.kept σ hsz;have r2:∀W,aa F (w.alloc (.cells #[.int .i64 k,.int .u64 s] 129)) W->W.cell? ⟨w.heap.size,1,none⟩=some (.int .u64 s):=fun W h=>h.kept σ hsz;have hrow:=I.rh.row q
 have ka:=fun (W:World) (hM:iH W B F gr cr lo (aJ A q x k s) st S vs G.R) (vl:Value) (hvl:iC W (B.c::B.ba::S.blk (aJ A q x k s).cs.length) vl [(x:Int)])=>Ho hM (by rw [hcs,eF];exact I.fh.f) q hqv hvl (by rw [hcs,eF];exact hrow) (by rw [hcs,eF];exact t2) t3 t4;have HM:=χ M;have HI:=χ (ψ I2 (ψ eF (ψ hcs kY)));clear M I ok I2 t2 t3 t4 hcs kY eF hrow h0 hB;generalize hA':aJ A q x k s=A' at *
 go_enter Tryz.func178,Tryz.ntmps178
 go_wp2
 go_region_held3 (aa F (w.alloc (.cells #[.int .i64 k,.int .u64 s] 129))) (exact ν)
  (first
   | ((go_at_call 154;(with_reducible refine (kp _ β).mono ?_));rintro e w1 ⟨rfl,jd,hu1⟩;(have hu2:aa F (w.alloc (.cells #[.int .i64 k,.int .u64 s] 129)) w1:=ν)))
 have uF:aa F w w1:=(u1.mono σ).trans hu2;have hM1:=HM.out.bY uF jd (fun y hy=>Α hy) HI.out.2.2.1 HI.out.2.2.2;have hsz1:=uF.size;have hlt1:∀y,y∈B.c::B.ba::S.blk A'.cs.length->y<w1.heap.size:=fun y hy=>by
  simp only [ρ] at hy;rcases hy with e|e|e
  ·subst e;exact hM1.cells.lt _ hM1.cells.mem
  ·subst e;exact hM1.iW.row.lt
  ·exact (hM1.iW.nu e).2
 have Zv:=fun (W:World) (hW:aa [] w1 W) (vl:Value)=>ka W (hM1.aj hW) vl;have HL:=χ hlt1;clear kp r0 r1 r2 hM1 hlt1 ka
 go_wp2_with (first
  | ((go_at_call 186;(with_reducible refine (Zv _ β _ ((aX.lit w1 0 (x:Int) (Nat.zero_le _)).sl (fun g hg hm=>by have:=HL.out g hm;simp [Value.ownBlock] at hg;omega))).mono ?_));rintro e w2 ⟨S2,vo,rfl,hS2,hM2,hu3,hb2,hx2⟩)
  | fail)
 go_ret;have eF:=HI.out.2.1;have hcs:=HI.out.2.2.1;have uw:aa (B.blk F gr A.cs.length S vs) w w2:=by
  refine ((uF.mono x8).alloc _).trans (hu3.mono (fun y hy=>?_));rw [hcs] at hy;exact abt HM.out y hy
 refine ⟨rfl,B.blk F gr A'.cs.length S2 (vs.set q vo),⟨⟨B,F,gr,cr,lo,S2,_,rfl,rfl,by unfold Vi Tj yo;rw [←eF];exact hM2,by rw [hS2,eF];rfl⟩,HI.out.1⟩,uw,fun y hy=>?_⟩;rw [hcs] at hy hb2;exact We (w:=w) (fun _ h=>h) (fun g hg=>(hb2 g hg).imp id (fun h=>by simp at h;omega)) (fun g hg=>by have:=hx2 g hg;simp at this;omega) y hy
end
end Go.Proofs.YtklibcncmbofpaaGreat
namespace Go.Proofs.YtklibcncmbofpaaGreat
def iI (hp:Nat->Bool) (ct x:Nat):Nat->BG->BG×Nat
 | 0,G=>(G,0)
 | f+1,G=>if G.F.u x=-1 then (G,0) else if hp (G.F.u x).toNat then ((iI hp ct x f (qP G x (G.F.u x).toNat)).1,(iI hp ct x f (qP G x (G.F.u x).toNat)).2+ct) else (G,ct)
theorem vv {hp:Nat->Bool} {ct x f:Nat} {G:BG} (h:G.F.u x=-1):iI hp ct x f G=(G,0):=by
 cases f with
 | zero=>rfl
 | succ f=>rw [iI,Δ h]
theorem Ae {hp:Nat->Bool} {ct x f p:Nat} {G:BG} (h:G.F.u x=p) (hh:hp p=false):iI hp ct x (f+1) G=(G,ct):=by
 rw [iI,Γ ω,h,π,hh];rfl
theorem wZ {hp:Nat->Bool} {ct x f p:Nat} {G:BG} (h:G.F.u x=p) (hh:hp p=true):iI hp ct x (f+1) G=((iI hp ct x f (qP G x p)).1,(iI hp ct x f (qP G x p)).2+ct):=by
 rw [iI,Γ ω,h,π,hh];rfl
section
variable {A:NS} {G:BG} {x:Nat} {hp:Nat->Bool} {ct:Nat}
theorem Cf {p:Nat} (B:EP A G x) (hx:x<A.cs.length) (hu:G.F.u x=p):(G.F.k x).length<((qP G x p).F.k x).length:=by
 have:=B.fh.f.NV hx hu
 show _<((rT G.F x p (G.F.u p)).k x).length
 rw [sS,Δ rfl];exact this
theorem Ht (hx:x<A.cs.length):∀ (f:Nat) {G:BG},EP A G x->A.cs.length<=f+(G.F.k x).length->EP A (iI hp ct x f G).1 x/\((iI hp ct x f G).1.F.u x=-1\/∃p:Nat,(iI hp ct x f G).1.F.u x=p/\hp p=false)
 | 0,G,B,hf=>by have:=B.fh.f.len hx;omega
 | f+1,G,B,hf=>by
  rcases B.fh.f.up x hx with h1|⟨p,hp1,h1,h2⟩
  ·rw [vv h1];exact ⟨B,Α h1⟩
  ·cases hh:hp p with
   | false=>rw [Ae h1 hh];exact ⟨B,Β ⟨p,h1,hh⟩⟩
   | true=>
    rw [wZ h1 hh];have:=Cf B hx h1;exact Ht hx f (Ad B hx h1) ω
theorem zx (hx:x<A.cs.length) (hl:∀p:Nat,p<A.cs.length->hp p=true->bX A x p):∀ (f:Nat) {G:BG},EP A G x->(∀c:Nat,c<A.cs.length->G.F.u c=x->bX A x c)->∀c:Nat,c<A.cs.length->(iI hp ct x f G).1.F.u c=x->bX A x c
 | 0,G,B,hk=>hk
 | f+1,G,B,hk=>by
  rcases B.fh.f.up x hx with h1|⟨p,hp1,h1,h2⟩
  ·rw [vv h1];exact hk
  ·cases hh:hp p with
   | false=>rw [Ae h1 hh];exact hk
   | true=>
    rw [wZ h1 hh];exact zx hx hl f (Ad B hx h1) (Oa B hx h1 hk (hl p hp1 hh))
theorem MX {p h:Nat} (B:EP A G x) (hx:x<A.cs.length) (hu:G.F.u x=p) (hh:(A.c x).i=h):(qP G x p).R=if G.F.u p=-1 then cz G.R h (setAt (G.R h) p x) else G.R:=by
 obtain ⟨hp1,hm⟩:=B.fh.f.above hx hu;have bJ:(A.c x).i=(A.c p).i/\0<(A.c x).i:=B.fh.home x p hx hu
 funext k
 show (G.R k).map (JD x p (G.F.u p))=_
 by_cases e:G.F.u p=-1
 ·rw [Δ e];unfold cz
  by_cases ek:k=h
  ·rw [Δ ek,ek];have hpR:(p:Int)∈G.R h:=(B.rh.mem h p).2 ⟨ω,hp1,e,by show (A.c p).i=_;omega⟩;rw [←yK (B.rh.row h).nodup p x hpR];unfold Pf JD
   exact List.map_congr_left (fun z _=>by
    by_cases ez:z=p
    ·rw [Δ ⟨ez,e⟩,Δ ez]
    ·rw [Γ (fun h=>ez h.1),Γ ez])
  ·rw [Γ ek];have:∀z,z∈G.R k->JD x p (G.F.u p) z=z:=fun z hz=>by
    unfold JD;rw [Γ (fun h=>?_)];rw [h.1] at hz;have h4:(A.c p).i=(k:Int):=((B.rh.mem k p).1 hz).2.2.2;omega
   rw [List.map_congr_left this];simp
 ·rw [Γ e];have:∀z,z∈G.R k->JD x p (G.F.u p) z=z:=fun z hz=>by
   unfold JD;rw [Γ (fun h=>e h.2)]
  rw [List.map_congr_left this];simp
end
end Go.Proofs.YtklibcncmbofpaaGreat
namespace Go.Proofs.YtklibcncmbofpaaGreat
open Go Go.RowKit
theorem aX.set {w:World} {base g off n cap:Nat} {xs:List Int} (h:aX w base (.slice (some ⟨g,off,none⟩) n cap) xs) (i:Nat) (hi:i<xs.length) (y:Int):aX (w.setCell ⟨g,off+i,none⟩ (.int .i64 y)) base (.slice (some ⟨g,off,none⟩) n cap) (xs.set i y):=by
 rcases h with ⟨e,_⟩|⟨g',off',cap',cur,e,hb,hg,h1,h2,h3,h4⟩
 ·cases e
 ·cases e;refine Β ⟨g,off,cap,cur.setIfInBounds (off+i) (.int .i64 y),by rw [Ι],hb,?_,by rw [Ι];exact h1,h2,ζ,fun j u hj=>?_⟩
  ·simp [World.setCell,Array.getElem?_modify,hg]
  ·have hjl:j<xs.length:=by have:=(List.getElem?_eq_some_iff.1 hj).1;simpa using this
   rw [Array.getElem?_setIfInBounds]
   by_cases e:i=j
   ·subst e;rw [List.getElem?_set_self hi] at hj;cases hj;rw [Δ rfl,Δ ω]
   ·rw [Γ ω];rw [ώ e] at hj;exact h4 j u hj
theorem aX.free {w:World} {base:Nat} {v:Value} {xs:List Int} (h:aX w base v xs) {g:Nat} (hg:v.ownBlock=some g) (j:Nat):w.frozen? ⟨g,j,none⟩=false:=by
 rcases h with ⟨rfl,_⟩|⟨g',off',cap',cur,rfl,hb,hh,h1,h2,h3,h4⟩
 ·cases hg
 ·simp [Value.ownBlock] at hg;subst hg;simp [World.frozen?,hh]
theorem Mv {n:Nat} (S:CS) {x p:Nat} (above:Int) (hx:x<n) (hp:p<n):∀g,g∈(gT S x p above).blk n->g∈S.blk n:=fun g hg=>by
 obtain ⟨y,hy,e⟩:=(CS.jK _ n g).1 hg;have e:(if y=x then S.v p else if y=p then S.v x else S.v y).ownBlock=some g:=e;rw [CS.jK]
 split at e
 ·exact ⟨p,hp,e⟩
 ·split at e
  ·exact ⟨x,hx,e⟩
  ·exact ⟨y,hy,e⟩
section
variable {w:World} {B:BB} {F:List Nat} {gr cr lo:Nat} {A:NS} {st:Nat} {S:CS} {vs:List Value} {R:Nat->List Int}
theorem iH.setX {w1:World} (h:iH w B F gr cr lo A st S vs R) (q:Nat) (hq:q<vs.length) (hu1:aa (vs.getD q undef).ownBlock.toList w w1) (X:List Int) (hv:aX w1 0 (vs.getD q undef) X):iH w1 B F gr cr lo A st S vs (cz R q X):=by
 have hK:∀g,g∈(vs.getD q undef).ownBlock.toList->(vs.getD q undef).ownBlock=some g:=fun g hg=>by simpa using hg
 have kk:∀g,g∈(vs.getD q undef).ownBlock.toList->g≠B.n0/\g≠B.bt/\g≠B.ba/\g≠gr/\g∉F/\g∉S.blk A.cs.length:=fun g hg=>h.d4 q g hq (hK g hg)
 refine ⟨h.head.upd hu1 (fun hm=>(kk _ hm).1 rfl),h.cells.upd hu1 (fun x hx=>(kk x hx).2.2.2.2.1),
  h.iW.upd hu1 (fun hm=>(kk _ hm).2.1 rfl) (fun hm=>(kk _ hm).2.2.1 rfl) (fun g hg hm=>(kk g hm).2.2.2.2.2 hg),
  ay h.rows hu1 (fun g hg hm=>by simp [Value.ownBlock] at hg;subst hg;exact (kk _ hm).2.2.2.1 rfl),h.len,fun k hk=>?_,h.d1,h.d2,h.d3,h.d4,h.d5⟩
 unfold cz
 by_cases ek:k=q
 ·rw [Δ ek,ek];exact hv
 ·rw [Γ ek];exact (h.each k hk).upd hu1 (fun g hg2 hm=>h.d5 k q g hk hq ek hg2 (hK g hm))
end
structure WU (w:World) (K:List Nat) (B:BB) (F:List Nat) (A:NS) (ct:Nat) (hp:Nat->Bool) (f:FuncId) (zO:Array Value):Prop where
 enters:Enters f
 calls:∀ (W:World) (st above:Nat),aa K w W->W.cell? ⟨B.n0,0,none⟩=some (.pointer (some ⟨B.c,0,none⟩))->B.n0≠B.c->aC W B.c F A st->bQ A (above:Int)=true->
  Calls Tryz.prog f (#[.int .i64 (above:Int)]++zO) W fun e w'=>e=.returned (.bool (hp above))/\aC w' B.c F A (bR st ct)/\aa [B.c] W w'
section
variable {w:World} {B:BB} {F:List Nat} {gr cr lo:Nat} {A:NS} {st:Nat} {S:CS} {vs:List Value} {G:BG}
theorem Nf (M:iH w B F gr cr lo A st S vs G.R) (eF:S.f=G.F) {x h ct:Nat} {hp:Nat->Bool} {f:FuncId} {zO:Array Value} (X:EP A G x) (hx:x<A.cs.length) (hin:0<(A.c x).i) (hh:(A.c x).i=h) (hq:h<vs.length) (H:WU w (B.blk F gr A.cs.length S vs) B F A ct hp f zO) :
  Calls Tryz.prog 183 #[.pointer (some ⟨B.n0,0,none⟩),.int .i64 (h:Int),.int .i64 (x:Int),.func (Fn.func f) #[] zO] w fun e w'=>e=.returned (.tuple #[])/\
   ∃S',iH w' B F gr cr lo A (bR st (iI hp ct x A.cs.length G).2) S' vs (iI hp ct x A.cs.length G).1.R/\S'.f=(iI hp ct x A.cs.length G).1.F/\aa (B.blk F gr A.cs.length S vs) w w'/\∀g,g∈S'.blk A.cs.length->g∈S.blk A.cs.length:=by
 have ok:=M.cells.ok;have hn:=ok.c1;have hz:=fO M.cells.ou;have hcl:=H.calls;have hen:=H.enters;unfold Enters at hen;have HM:=χ M;have HX:=χ (ψ X eF);have HC:=χ hcl;have hvl:=M.Xt;clear M X eF hcl ok H
 go_enter Tryz.func183,Tryz.ntmps183
 go_wp2
 go_loopg [8,9,10,11] A.cs.length (fun fu _ _ _ _ wr=>∃ (c:Nat) (G':BG) (S':CS),iH wr B F gr cr lo A (bR st c) S' vs G'.R/\S'.f=G'.F/\EP A G' x/\(∀g,g∈S'.blk A.cs.length->g∈S.blk A.cs.length)/\aa (B.blk F gr A.cs.length S vs) w wr/\A.cs.length<=fu+(G'.F.k x).length/\(iI hp ct x fu G').1=(iI hp ct x A.cs.length G).1/\(iI hp ct x fu G').2+c=(iI hp ct x A.cs.length G).2)
 case atStart=>exact ⟨0,G,S,by rw [hz];exact HM.out,HX.out.2,HX.out.1,fun g hg=>hg,aa.refl _ _,ω,rfl,rfl⟩
 case round=>
  rename Nat=>fu;obtain ⟨c,G',S',hM,eF,X,hSb,hu,hfu,hl1,hl2⟩:=hrel;rename World=>wr;have hlen:=X.fh.f.len hx;obtain ⟨fv,rfl⟩:∃fv,fu=fv+1:=⟨fu-1,ω⟩;have ku:=vX B.bt B.ba lo A.cs.length S' (x:Int) wr hM.iW;have h1:=hM.h1;have ZO:S'.u x=G'.F.u x:=by rw [←eF];rfl
  have kb:∀y,y∈B.blk F gr A.cs.length S' vs->y∈B.blk F gr A.cs.length S vs:=fun y hy=>by
   simp only [BB.blk,ρ,τ] at hy ⊢;rcases hy with e|e|e|e|e|e|e
   ·exact Α e
   ·exact Β (Α e)
   ·exact Β (Β (Α e))
   ·exact Β (Β (Β (Α e)))
   ·exact Β (Β (Β (Β (Α e))))
   ·exact Β (Β (Β (Β (Β (Α (hSb y e))))))
   ·exact Β (Β (Β (Β (Β (Β e)))))
  have HR:=χ (ψ hM (ψ eF (ψ X (ψ hSb (ψ hu (ψ hl1 (ψ hl2 kb)))))));rcases X.fh.f.up x hx with e1|⟨p,hp1,e1,e2⟩
  ·have eu:IJ A.cs.length S' (x:Int)=none:=by unfold IJ;rw [Δ ω,π,ZO,Δ e1]
   rw [eu] at ku;have E1:=χ e1;clear hM X hl1 hl2 eu e1 ZO kb hSb hfu
   go_wp2_with ((go_at_call 188;(with_reducible refine (ku).mono ?_);rintro e w9 ⟨rfl,aI⟩;rw [aI];clear aI w9))
   refine bodyPost_ret (v:=.tuple #[]) (by simp [results,Tryz.results183,go_sem]) rfl ?_;obtain ⟨hM,eF,X,hSb,hu,hl1,hl2,kb⟩:=HR.out;rw [vv E1.out] at hl1 hl2;refine ⟨rfl,S',?_,by rw [←hl1];exact eF,hu,hSb⟩;rw [←hl1,←hl2,show (((G',0):BG×Nat)).2+c=c by simp];exact hM
  ·have eu:IJ A.cs.length S' (x:Int)=some (p:Int):=by unfold IJ;rw [Δ ω,π,ZO,e1,Γ ω]
   rw [eu] at ku;simp only [ov,ob,Option.getD_some,Option.isSome_some] at ku;have bJ:(A.c x).i=(A.c p).i:=(X.fh.home x p hx e1).1;have hip:bQ A (p:Int)=true:=(ae _ _).2 ⟨hp1,ω⟩;have kh:=HC.out wr (bR st c) p hu hM.h0 hM.cn.1 hM.cells hip;rw [iN] at kh;cases Yp:hp p with
   | false=>
    rw [Yp] at kh;have E1:=χ (ψ e1 Yp);clear hM X hl1 hl2 eu e1 ZO kb hSb hfu Yp
    go_wp2_with (first
     | (go_at_call 188;(with_reducible refine (ku).mono ?_);rintro e w9 ⟨rfl,aI⟩;rw [aI];clear aI w9)
     | ((with_reducible refine (kh).mono ?_);rintro e w2 ⟨rfl,hC2,hu2⟩))
    refine bodyPost_ret (v:=.tuple #[]) (by simp [results,Tryz.results183,go_sem]) rfl ?_;obtain ⟨hM,eF,X,hSb,hu,hl1,hl2,kb⟩:=HR.out;rw [Ae E1.out.1 E1.out.2] at hl1 hl2;refine ⟨rfl,S',?_,by rw [←hl1];exact eF,hu.trans (hu2.mono (fun y hy=>by simp at hy;subst hy;exact x8 _ HM.out.cells.mem)),hSb⟩;rw [←hl1,←hl2,show (((G',ct):BG×Nat)).2+c=c+ct by simp;omega];exact hM.setSt hu2 hC2
   | true=>
    rw [Yp] at kh;have okL:=Lh (S:=S') (by rw [eF];exact X.fh.f) hx hp1 (by rw [ZO];exact e1) (show (x:Int)∈S'.f.k p by rw [eF];exact e2);have ZI:S'.u p=G'.F.u p:=by rw [←eF];rfl
    have hfL:=Ad X hx e1;have hmL:=Cf X hx e1;have hrR:=MX X hx e1 hh;have E1:=χ (ψ e1 (ψ Yp (ψ hfL (ψ hmL (ψ hrR (ψ hfu ZI))))))
    have FIN:=χ (show ∀ (W w3:World),iH W B F gr cr lo A (bR st (c+ct)) S' vs (qP G' x p).R->aa (B.blk F gr A.cs.length S vs) w W->aQ w3 B.bt B.ba lo A.cs.length (gT S' x p (S'.u p))->aa (B.ba::S'.blk A.cs.length) W w3->
      ∃ (c2:Nat) (G2:BG) (S2:CS),iH w3 B F gr cr lo A (bR st c2) S2 vs G2.R/\S2.f=G2.F/\EP A G2 x/\(∀g,g∈S2.blk A.cs.length->g∈S.blk A.cs.length)/\aa (B.blk F gr A.cs.length S vs) w w3/\A.cs.length<=fv+(G2.F.k x).length/\(iI hp ct x fv G2).1=(iI hp ct x A.cs.length G).1/\(iI hp ct x fv G2).2+c2=(iI hp ct x A.cs.length G).2 from fun W w3 lL Ue WX hu3=>by
     have hb3:=Mv S' (S'.u p) hx hp1
     have jD:=lL.jG (hu3.mono (fun y hy=>Λ _ hy)) (lL.cells.upd hu3 (fun y hy hm=>by
      rcases ρ.1 hy with e|e
      ·subst e;exact lL.d1.2.2.1 hm
      ·exact (lL.d3 y e).2.2 hm)) WX (fun g hg=>Α (hb3 g hg))
     rw [wZ e1 Yp] at hl1 hl2;refine ⟨c+ct,qP G' x p,gT S' x p (S'.u p),jD,by rw [X3,eF,ZI];rfl,hfL,fun g hg=>hSb g (hb3 g hg),Ue.trans (hu3.mono (fun y hy=>?_)),ω,hl1,by simp only at hl2;omega⟩;rcases ρ.1 hy with e|e
     ·subst e;simp [BB.blk]
     ·have:=hSb y e;simp only [BB.blk,ρ,τ]
      exact Β (Β (Β (Β (Β (Α this))))))
    have kM:=χ (show ∀w2,aC w2 B.c F A (bR st (c+ct))->aa [B.c] wr w2->iH w2 B F gr cr lo A (bR st (c+ct)) S' vs G'.R/\aa (B.blk F gr A.cs.length S vs) w w2 from fun w2 hC2 hu2=>⟨hM.setSt hu2 hC2,hu.trans (hu2.mono (fun y hy=>by simp at hy;subst hy;exact x8 _ HM.out.cells.mem))⟩);have hup:=X.fh.f.up p hp1;have hpR:G'.F.u p=-1->(p:Int)∈G'.R h:=fun e=>(X.rh.mem h p).2 ⟨ω,hp1,e,by show (A.c p).i=_;omega⟩;have hnd:=(X.rh.row h).nodup;clear hM X hl1 hl2 eu e1 ZO kb hSb hfu Yp hfL hmL hrR e2 hu;rcases hup with e3|⟨q,hq1,e3,_⟩
    ·have eu2:IJ A.cs.length S' (p:Int)=none:=by unfold IJ;rw [Δ ω,π,ZI,Δ e3]
     have hpm:=hpR e3;obtain ⟨i,hi,hidx,hix⟩:=vC (G'.R h) (p:Int) hpm;have E3:=χ (ψ e3 (ψ hpm hnd));clear e3 hpR ZI hpm hnd
     go_wp2_with (first
      | (go_at_call 188;(with_reducible refine (ku).mono ?_);rintro e w9 ⟨rfl,aI⟩;rw [aI];clear aI w9)
      | ((with_reducible refine (kh).mono ?_);rintro e w2 ⟨rfl,hC2,hu2⟩;obtain ⟨hM2,hu3⟩:=kM.out w2 hC2 hu2;(have h2:=hM2.h1);(have Wy:=vX B.bt B.ba lo A.cs.length S' (p:Int) w2 hM2.iW);rw [eu2] at Wy;simp only [ov,ob,Option.getD_none,Option.isSome_none] at Wy;(have mU:=χ hM2);clear hM2)
      | (go_at_call 188;(with_reducible refine (Wy).mono ?_);rintro e w9 ⟨rfl,aI⟩;rw [aI];clear aI w9))
     have hsl:iC w2 [] (vs.getD h undef) (G'.R h):=(mU.out.each h hq).sl (fun g _=>σ);have kix:=fun W (hW:aa [] w2 W)=>Iw W [] (vs.getD h undef) (G'.R h) (p:Int) (hsl.upd hW σ);rw [hidx] at kix;obtain ⟨a0,cap,hv,hlc,hcp,hcs⟩:=(mU.out.each h hq).shape;obtain ⟨g,off,rfl,hci⟩:=hcs i (p:Int) hix;have hfi:w2.frozen? ⟨g,off+i,none⟩=false:=(mU.out.each h hq).free (by rw [hv];rfl) _;have hR2:=mU.out.h2;have hrc:=mU.out.U8 hq;rw [hv] at kix hrc;have hib0:(0:Int)<=(h:Int):=ω;have Bw:(h:Int)<(vs.length:Int):=ω;have FY:(0:Int)<=(i:Int):=ω;have hib3:(i:Int)<((G'.R h).length:Int):=ω
     have hrl:(G'.R h).length<=9223372036854775807:=ω
     have hfin:=χ (show iH (w2.setCell ⟨g,off+i,none⟩ (.int .i64 (x:Int))).drew B F gr cr lo A (bR st (c+ct)) S' vs (cz G'.R h (setAt (G'.R h) (p:Int) (x:Int)))/\aa (B.blk F gr A.cs.length S vs) w (w2.setCell ⟨g,off+i,none⟩ (.int .i64 (x:Int))).drew from by
      have u1:aa (vs.getD h undef).ownBlock.toList w2 (w2.setCell ⟨g,off+i,none⟩ (.int .i64 (x:Int))).drew:=by
       rw [hv];exact ((aa.refl _ _).setCell (Α (by simp [Value.ownBlock])) _).drew
      have o1:aX (w2.setCell ⟨g,off+i,none⟩ (.int .i64 (x:Int))).drew 0 (vs.getD h undef) (setAt (G'.R h) (p:Int) (x:Int)):=by
       have:=mU.out.each h hq;rw [hv] at this ⊢;have o2:=this.set i hi (x:Int);unfold setAt;rw [hidx,π];exact o2.upd ((aa.refl [] _).drew) σ
      refine ⟨mU.out.setX h hq u1 _ o1,hu3.trans (u1.mono (fun y hy=>?_))⟩;simp only [BB.blk,ρ,τ]
      exact Β (Β (Β (Β (Β (Β (jg.2 ⟨h,hq,by simpa using hy⟩)))))))
     clear hi hidx hix hcs hv hsl;generalize hrlq:(G'.R h).length=rl at *
     go_cut [55] (fun s55 wx=>iH wx B F gr cr lo A (bR st (c+ct)) S' vs (cz G'.R h (setAt (G'.R h) (p:Int) (x:Int)))/\aa (B.blk F gr A.cs.length S vs) w wx)
     case first=>
      go_region_law
       (first
        | (go_simp;go_at_call 189;(with_reducible refine (kix _ β).mono ?_);rintro e w9 ⟨rfl,aI⟩;rw [aI];clear aI w9))
      all_goals
       go_wp2
       go_meet
       exact hfin.out
     case rest=>
      obtain ⟨jD,fZ⟩:=hcut;have h3:=jD.h1;have kl:=FQ B.bt B.ba lo A.cs.length S' x p (S'.u p) wc jD.iW okL;have JC:=χ jD;clear jD hfin ku kh Wy kix hR2 hrc hci hfi
      go_wp2_with ((go_at_call 190;(with_reducible refine (kl).mono ?_));rintro e w3 ⟨rfl,WX,bK⟩)
      go_roundg fv
      case measure=>omega
      case rel=>
       have hR2:=E1.out.2.2.2.2.1;rw [E3.out.1,Δ rfl] at hR2;exact FIN.out wc w3 (by rw [hR2];exact JC.out) fZ WX bK
    ·have eu2:IJ A.cs.length S' (p:Int)=some (q:Int):=by unfold IJ;rw [Δ ω,π,ZI,e3,Γ ω]
     have E3:=χ e3;clear e3 hpR ZI
     go_wp2_with (first
      | (go_at_call 188;(with_reducible refine (ku).mono ?_);rintro e w9 ⟨rfl,aI⟩;rw [aI];clear aI w9)
      | ((with_reducible refine (kh).mono ?_);rintro e w2 ⟨rfl,hC2,hu2⟩;obtain ⟨hM2,hu3⟩:=kM.out w2 hC2 hu2;(have h2:=hM2.h1);(have Wy:=vX B.bt B.ba lo A.cs.length S' (p:Int) w2 hM2.iW);rw [eu2] at Wy;simp only [ov,ob,Option.getD_some,Option.isSome_some] at Wy;(have kl:=FQ B.bt B.ba lo A.cs.length S' x p (S'.u p) w2 hM2.iW okL);(have mU:=χ hM2);clear hM2)
      | (go_at_call 188;(with_reducible refine (Wy).mono ?_);rintro e w9 ⟨rfl,aI⟩;rw [aI];clear aI w9)
      | ((go_at_call 190;(with_reducible refine (kl).mono ?_));rintro e w3 ⟨rfl,WX,fZ⟩))
     go_roundg fv
     case measure=>omega
     case rel=>
      have hR2:=E1.out.2.2.2.2.1;rw [E3.out,Γ ω] at hR2;exact FIN.out w2 w3 (by rw [hR2];exact mU.out) hu3 WX fZ
end
theorem NZ (W:World) (n0 c b3 b4:Nat) (F:List Nat) (A:NS) (st x y:Nat) (h3:W.cell? ⟨b3,0,none⟩=some (.pointer (some ⟨n0,0,none⟩))) (h4:W.cell? ⟨b4,0,none⟩=some (.int .i64 (x:Int))) (h0:W.cell? ⟨n0,0,none⟩=some (.pointer (some ⟨c,0,none⟩)))
  (hC:aC W c F A st) (hx:bQ A (x:Int)=true) (hy:bQ A (y:Int)=true) (e3:b3≠c) (e4:b4≠c) (e0:n0≠c) :
  Calls Tryz.prog 184 #[.int .i64 (y:Int),.pointer (some ⟨b3,0,none⟩),.pointer (some ⟨b4,0,none⟩)] W fun e w'=>e=.returned (.bool (decide (bX A x y)))/\aC w' c F A (bR st 1)/\aa [c] W w':=by
 have ka:=fun W' (hW:aa [] W W')=>dX (hC.aj hW) x y hx hy;have r3:∀W',aa [c] W W'->W'.cell? ⟨b3,0,none⟩=some (.pointer (some ⟨n0,0,none⟩)):=fun W' hW=>hW.kept h3 (by simpa using e3);have r4:∀W',aa [c] W W'->W'.cell? ⟨b4,0,none⟩=some (.int .i64 (x:Int)):=fun W' hW=>hW.kept h4 (by simpa using e4);have r0:∀W',aa [c] W W'->W'.cell? ⟨n0,0,none⟩=some (.pointer (some ⟨c,0,none⟩)):=fun W' hW=>hW.kept h0 (by simpa using e0);clear hC hx hy h3 h4 h0;generalize decide (bX A x y)=b at *
 go_enter Tryz.func184,Tryz.ntmps184
 go_wp2
 go_region_held3 (aa [c] W) (exact ν)
  (first
   | ((go_at_call 174;(with_reducible refine (ka _ β).mono ?_));rintro e w1 ⟨rfl,jd,hu1⟩;(have hu2:aa [c] W w1:=aa.trans ν hu1)))
 go_wp2;go_ret;exact ⟨rfl,jd.aj β,ν⟩
theorem JP (w:World) (K:List Nat) (B:BB) (F:List Nat) (A:NS) (b3 b4 x:Nat) (h3:w.cell? ⟨b3,0,none⟩=some (.pointer (some ⟨B.n0,0,none⟩))) (h4:w.cell? ⟨b4,0,none⟩=some (.int .i64 (x:Int))) (hx:bQ A (x:Int)=true) (k3:b3∉K) (k4:b4∉K) (hc:B.c∈K) :
  WU w K B F A 1 (fun y=>decide (bX A x y)) 184 #[.pointer (some ⟨b3,0,none⟩),.pointer (some ⟨b4,0,none⟩)]:=by
 refine ⟨fun _ _=>by kernel_rfl,fun W st above hu h0 hne hC hin=>?_⟩;exact NZ W B.n0 B.c b3 b4 F A st x above (hu.kept h3 k3) (hu.kept h4 k4) h0 hC hx hin (fun e=>k3 (e▸hc)) (fun e=>k4 (e▸hc)) hne
section
variable {w:World} {p:Nat} {FF:List Nat} {A:NS} {st:Nat} {G:BG}
def Jj (A':NS) (x:Nat) (G:BG):BG×Nat:=iI (fun y=>decide (bX A' x y)) 1 x A'.cs.length G
theorem Yj {x:Nat} {k s:Int} (I:Cx A G) (hB:iT A x k s=true) (hx:x<A.cs.length):Cx (ak A x k s) (Jj (ak A x k s) x G).1:=by
 obtain ⟨X,hk⟩:=CZ I hB hx;have hn:=eB A x k s;have hx':x<(ak A x k s).cs.length:=by rw [hn];exact hx
 have E:=Ht (hp:=fun y=>decide (bX (ak A x k s) x y)) (ct:=1) hx' (ak A x k s).cs.length X ω;have K:=zx (hp:=fun y=>decide (bX (ak A x k s) x y)) (ct:=1) hx' (fun p _ h=>ϟ h) (ak A x k s).cs.length X (by rw [hn];exact hk);refine E.1.done hx' K (fun p hp=>?_);rcases E.2 with h|⟨p',h1,h2⟩
 ·have hp:(Jj (ak A x k s) x G).1.F.u x=p:=hp;have h:(Jj (ak A x k s) x G).1.F.u x=-1:=h;omega
 ·have hp:(Jj (ak A x k s) x G).1.F.u x=p:=hp;have h1:(Jj (ak A x k s) x G).1.F.u x=p':=h1;obtain rfl:p=p':=ω;have hne:x≠p:=fun e=>by
   subst e;exact E.1.fh.f.self hx' (E.1.fh.f.above hx' h1).2
  exact (iQ hne).resolve_left (of_decide_eq_false h2)
theorem RB (h:Iz w p FF A st G) (x:Nat) (k s:Int) (hk:-9223372036854775808<=k/\k<=9223372036854775807/\0<=s/\s<=18446744073709551615) (hB:iT A x k s=true) :
  Calls Tryz.prog 175 #[.pointer (some ⟨p,0,none⟩),.int .i64 (x:Int),.agg #[.int .i64 k,.int .u64 s]] w fun e w'=>e=.returned (.bool true)/\
   Goes FF w w' (fun JY=>Iz w' p JY (ak A x k s) (bR st (Jj (ak A x k s) x G).2) (Jj (ak A x k s) x G).1):=by
 obtain ⟨⟨B,F,gr,cr,lo,S,vs,rfl,rfl,M,eF⟩,I⟩:=h;have hin:=qw hB;obtain ⟨hx,hhome⟩:=(ae _ _).1 hin;obtain ⟨X, -⟩:=CZ I hB hx;have I2:=Yj I hB hx;have hcs:=eB A (x:Int) k s;have kY:=kV A (x:Int) k s;have hix:=iy hB hx x;have hin2:bQ (ak A x k s) (x:Int)=true:=(ae _ _).2 ⟨ω,ω⟩;have QV:=iJ M.cells.ok hin;rw [π] at QV;obtain ⟨q,hq0,hq1,hqv⟩:=M.hq QV;obtain ⟨w3,hw3⟩:∃w3,w3=((w.alloc (.cells #[.pointer (some ⟨B.n0,0,none⟩)] 174)).alloc (.cells #[.int .i64 (x:Int)] 3)).alloc (.cells #[.int .i64 k,.int .u64 s] 129):=⟨_,rfl⟩;have u3:aa [] w w3:=by rw [hw3];exact β
 have s3:w3.heap.size=w.heap.size+3:=by rw [hw3];simp
 have b3:w3.cell? ⟨w.heap.size,0,none⟩=some (.pointer (some ⟨B.n0,0,none⟩)):=by rw [hw3];go_simp
 have b4:w3.cell? ⟨w.heap.size+1,0,none⟩=some (.int .i64 (x:Int)):=by rw [hw3];go_simp
 have b5:w3.cell? ⟨w.heap.size+1+1,0,none⟩=some (.int .i64 k):=by rw [hw3];go_simp
 have b6:w3.cell? ⟨w.heap.size+1+1,1,none⟩=some (.int .u64 s):=by rw [hw3];go_simp
 have nF:∀j,w.heap.size+j∉F:=fun j hm=>by have:=M.cells.lt _ hm;omega
 have kl:=fun W (hW:aa [] w3 W)=>ig (M.cells.aj (u3.trans hW)) x k s hk hB;have h0:=u3.was M.h0;have uH:=M.d1.1;have r0:∀W,aa F w3 W->W.cell? ⟨B.n0,0,none⟩=some (.pointer (some ⟨B.c,0,none⟩)):=fun W hW=>hW.kept h0 uH;have r3:∀W,aa F w3 W->W.cell? ⟨w.heap.size,0,none⟩=some (.pointer (some ⟨B.n0,0,none⟩)):=fun W hW=>hW.kept b3 (nF 0);have r4:∀W,aa F w3 W->W.cell? ⟨w.heap.size+1,0,none⟩=some (.int .i64 (x:Int)):=fun W hW=>hW.kept b4 (nF 1);have r5:∀W,aa F w3 W->W.cell? ⟨w.heap.size+1+1,0,none⟩=some (.int .i64 k):=fun W hW=>hW.kept b5 (nF 2)
 have r6:∀W,aa F w3 W->W.cell? ⟨w.heap.size+1+1,1,none⟩=some (.int .u64 s):=fun W hW=>hW.kept b6 (nF 2);have HM:=χ M;have HI:=χ (ψ X (ψ I2 (ψ eF (ψ hcs (ψ kY hin2)))));have HW:=χ hw3;clear M I X I2 eF hcs kY hin QV h0 b3 b4 b5 b6 hB nF hw3;generalize hA':ak A (x:Int) k s=A' at *;rw [hq0] at hix
 go_enter Tryz.func175,Tryz.ntmps175
 go_wp2;rw [←HW.out]
 go_region_held3 (aa F w3) (exact ν)
  (first
   | ((go_at_call 147;(with_reducible refine (kl _ β).mono ?_));rintro e w4 ⟨rfl,PL,fZ⟩;(have Yu:aa F w3 w4:=aa.trans ν fZ)))
 have kh:=fun W (hW:aa [] w4 W)=>dK (PL.aj hW) x HI.out.2.2.2.2.2;rw [hix] at kh;go_wp2
 go_region_held3 (aa F w3) (exact ν)
  (first
   | ((go_at_call 140;(with_reducible refine (kh _ β).mono ?_));rintro e w5 ⟨rfl,Uc,bK⟩;(have Kb:aa F w3 w5:=aa.trans ν bK)))
 have wQ:=(HM.out.aj u3).bY Kb Uc (fun y hy=>Α hy) HI.out.2.2.2.1 (by rw [HI.out.2.2.2.2.1]);have g3:=r3 w5 Kb;have g4:=r4 w5 Kb;have hlt:=HM.out.lt;have hcs:=HI.out.2.2.2.1;have hKK:∀j,w.heap.size+j∉B.blk F gr A'.cs.length S vs:=fun j hm=>by rw [hcs] at hm;have:=hlt _ hm;omega
 have H5:=fun (W:World) (hW:aa [] w5 W)=>JP W (B.blk F gr A'.cs.length S vs) B F A' w.heap.size (w.heap.size+1) x (hW.was g3) (hW.was g4) HI.out.2.2.2.2.2 (hKK 0) (hKK 1) (x8 _ HM.out.cells.mem);have kL:=fun W (hW:aa [] w5 W)=>Nf (wQ.aj hW) HI.out.2.2.1 HI.out.1 ω (by rw [hix];omega) hix hqv (H5 W hW);have uZ:=χ wQ;clear wQ Uc PL kh kl r0 r5 r6 hlt hKK r3 r4
 go_wp2_with (first
  | ((go_at_call 183;(with_reducible refine (kL _ β).mono ?_));rintro e w6 ⟨rfl,S6,tF,hF6,gF,hb6⟩)
  | fail)
 go_ret;have hcs:=HI.out.2.2.2.1;have uw:aa (B.blk F gr A.cs.length S vs) w w6:=by
  rw [hcs] at gF;exact ((u3.mono σ).trans (Kb.mono x8)).trans (aa.trans ν gF)
 refine ⟨rfl,B.blk F gr A'.cs.length S6 vs,⟨⟨B,F,gr,cr,lo,S6,vs,rfl,rfl,tF,hF6⟩,HI.out.2.1⟩,uw,fun y hy=>Α ?_⟩;rw [hcs] at hy hb6;simp only [BB.blk,ρ,τ] at hy ⊢;rcases hy with e|e|e|e|e|e|e
 ·exact Α e
 ·exact Β (Α e)
 ·exact Β (Β (Α e))
 ·exact Β (Β (Β (Α e)))
 ·exact Β (Β (Β (Β (Α e))))
 ·exact Β (Β (Β (Β (Β (Α (hb6 y e))))))
 ·exact Β (Β (Β (Β (Β (Β e)))))
end
theorem UK:(Tryz.prog.info? 26).map (fun i=>(i.zero,i.size,i.bytes))=some (some (.slice none 0 0),1,24):=by kernel_rfl
theorem Xy {A:NS} {G:BG} (I:Cx A G) (ok:A.Ok):G.R A.hs.length=[]:=by
 cases e:G.R A.hs.length with
 | nil=>rfl
 | cons x t=>
  have hx:x∈G.R A.hs.length:=by rw [e];simp
  obtain ⟨y,_,hy,_,hh,_⟩:=QN I hx;have:=ok.nat y hy;omega
theorem Cg (vs:List Value) (v:Value) (k:Nat):(vs++[v]).getD k undef=if k<vs.length then vs.getD k undef else if k=vs.length then v else undef:=by
 simp only [φ]
 by_cases e:k<vs.length
 ·rw [Ρ e,Δ e]
 ·rw [ϊ ω,Γ e]
  by_cases e2:k=vs.length
  ·subst e2;simp
  ·rw [Γ e2,List.getElem?_eq_none ζ];rfl
section
variable {w:World} {p:Nat} {FF:List Nat} {A:NS} {st:Nat} {G:BG}
theorem NN (h:Iz w p FF A st G) :
  Calls Tryz.prog 179 #[.pointer (some ⟨p,0,none⟩)] w fun e w'=>e=.returned (.int .i64 (cu A))/\Goes FF w w' (fun JY=>Iz w' p JY (aN A) st G):=by
 obtain ⟨⟨B,F,gr,cr,lo,S,vs,rfl,rfl,M,eF⟩,I⟩:=h;have k:=iF M.cells;have h0:=M.h0;have I2:=UU I
 by_cases hl:65536<A.hs.length
 ·have e1:cu A=0:=by unfold cu;rw [Δ hl]
  have e2:aN A=A:=by unfold aN;rw [Δ hl]
  rw [e1,e2] at k;rw [e1,e2];have HM:=χ M;have HI:=χ (ψ I eF);clear M I eF e1 e2 I2
  go_enter Tryz.func179,Tryz.ntmps179
  go_wp2_with ((go_at_call 156;(with_reducible refine (k).mono ?_));rintro e w1 ⟨rfl,F1,hC,hu,hF⟩)
  go_ret;refine ⟨rfl,B.blk F1 gr A.cs.length S vs,⟨⟨B,F1,gr,cr,lo,S,vs,rfl,rfl,HM.out.bY hu hC hF rfl rfl,HI.out.2⟩,HI.out.1⟩,hu.mono x8,fun y hy=>?_⟩;simp only [BB.blk,ρ,τ] at hy ⊢;rcases hy with e|e|e|e|e|e|e
  ·exact Α (Α e)
  ·exact Α (Β (Α e))
  ·exact Α (Β (Β (Α e)))
  ·exact Α (Β (Β (Β (Α e))))
  ·rcases hF y e with h'|h'
   ·exact Α (Β (Β (Β (Β (Α h')))))
   ·exact Β h'
  ·exact Α (Β (Β (Β (Β (Β (Α e))))))
  ·exact Α (Β (Β (Β (Β (Β (Β e))))))
 ·have e1:cu A=A.hs.length:=by unfold cu;rw [Γ hl]
  rw [e1] at k;rw [e1];have hcs:(aN A).cs.length=A.cs.length:=by rw [K7]
  have kY:(aN A).hs.length=A.hs.length+1:=by unfold aN;rw [Γ hl];simp
  have hh0:=M.cells.ok.h0;have hvl:vs.length<=65536:=by rw [M.len];omega
  have hlen:=M.len;have hpos:(0:Int)<(A.hs.length:Int):=ω;have HM:=χ M;have HI:=χ (ψ I2 (ψ eF (ψ (Xy I M.cells.ok) hlen)));clear M I e1 I2 eF hlen
  go_enter Tryz.func179,Tryz.ntmps179
  go_wp2_with (first
   | ((go_at_call 156;(with_reducible refine (k).mono ?_));rintro e w1 ⟨rfl,F1,hC,hu,hF⟩;(have d3:=hu.kept HM.out.h2 HM.out.d1.1);(have f3:=hu.aH HM.out.h2 HM.out.d1.1 (HM.out.head.free 2));(have ho1:=ay HM.out.rows hu (fun g hg=>by simp [Value.ownBlock] at hg;subst hg;exact HM.out.d1.2.2.2));(have g0:B.n0≠gr:=HM.out.d2.2.2.1);(have gl:=Ψ HM.out.GQ hu.size))
   | ((at_builtin;refine aV rfl _ _ 51 rfl 0 26 (.slice none 0 0) 1 24 Tryz.underlying51 UK rfl δ _ _ _ rfl (ho1) [.slice none 0 0] rfl (by simp [Value.oneCell']) (by first|rfl|(rw [Κ];rfl)) μ ω ω ?_;intro v2 w2 ho2 hu2 mG);(have hu2:aa [gr] w1 w2:=hu2);obtain ⟨EX,cr1,ev,_⟩:=fM ho2 ω;subst ev;(have d4:=hu2.kept d3 ζ);(have f4:=hu2.aH d3 ζ f3)))
  go_ret;have hM:=HM.out;have hlt:=hM.lt;have f:=hM.d1;have q:=hM.d2;have hws:=hu.size;have hw3:aa [B.n0] w2 (w2.setCell ⟨B.n0,2,none⟩ (.slice (some ⟨EX,0,none⟩) (vs.length+1) cr1)):=β;have hg1:EX=gr\/w1.heap.size<EX:=by
   rcases mG with h|h
   ·exact Α (Option.some.inj h)
   ·exact Β (h EX rfl)
  have jd:=hC.lt;have l0:=hlt B.n0 (by simp [BB.blk]);have l1:=hlt B.bt (by simp [BB.blk]);have l2:=hlt B.ba (by simp [BB.blk]);have l4:=hM.GQ;have hnF:∀y,y<w.heap.size->y∉F->y∉F1:=fun y hy hn hm=>by rcases hF y hm with h'|h';exact hn h';omega
  have EU:EX∉F1:=by
   rcases hg1 with e|e
   ·rw [e];exact hnF gr l4 f.2.2.2
   ·exact fun hm=>by have:=jd EX hm;omega
  have hgn:∀y,y<w.heap.size->y≠gr->y≠EX:=fun y hy hn e=>by
   rcases hg1 with e2|e2
   ·exact hn (e.trans e2)
   ·omega
  have hcs:=hcs;have hv:(vs++[Value.slice none 0 0]).length=vs.length+1:=σ;have hin:=HI.out.2.2.1;have hhd:=((hM.head.upd hu f.1).upd hu2 ζ).set 2 (.slice (some ⟨EX,0,none⟩) (vs.length+1) cr1);have VM:∀j,j<vs.length+1->∀g,((vs++[Value.slice none 0 0]).getD j undef).ownBlock=some g->j<vs.length/\(vs.getD j undef).ownBlock=some g:=fun j hj g hg=>by
   rw [Cg] at hg
   by_cases e:j<vs.length
   ·rw [Δ e] at hg;exact ⟨e,hg⟩
   ·rw [Γ e,Δ ω] at hg;cases hg
  have hBM:iH (w2.setCell ⟨B.n0,2,none⟩ (.slice (some ⟨EX,0,none⟩) (vs.length+1) cr1)) B F1 EX cr1 lo (aN A) st S (vs++[.slice none 0 0]) G.R:=by
   refine ⟨?_,?_,?_,?_,by rw [hv,kY,HI.out.2.2.2],fun j hj=>?_,⟨hnF _ l0 f.1,hnF _ l1 f.2.1,hnF _ l2 f.2.2.1,EU⟩,⟨q.1,q.2.1,hgn _ l0 q.2.2.1,hgn _ l1 q.2.2.2.1,hgn _ l2 q.2.2.2.2⟩,fun g hg=>?_,fun j g hj hg=>?_,fun j k g hj hk hne hg=>?_⟩
   ·rw [hv];refine hhd.ext (fun j hj=>?_);rcases (ω:j=0\/j=1\/j=2) with rfl|rfl|rfl<;>rfl
   ·exact (hC.upd hu2 (fun y hy=>by simp at hy;rw [hy];exact hnF gr l4 f.2.2.2)).upd hw3 (fun y hy=>by simp at hy;rw [hy];exact hnF _ l0 f.1)
   ·rw [hcs];exact ((hM.iW.upd hu f.2.1 f.2.2.1 (fun g hg=>(hM.d3 g hg).2.2)).upd hu2 (by simp;exact q.2.2.2.1) (by simp;exact q.2.2.2.2) (fun g hg hm=>by simp at hm;exact (hM.d3 g hg).2.1 hm)).upd hw3 (by simp;exact Ne.symm q.1) (by simp;exact Ne.symm q.2.1) (fun g hg hm=>by simp at hm;exact (hM.d3 g hg).1 hm)
   ·rw [hv];refine ay (lF ho2 (Nat.zero_le _)) hw3 (fun g hg hm=>?_);simp [Value.ownBlock] at hg hm;exact hgn _ l0 q.2.2.1 ω
   ·rw [hv] at hj;rw [Cg]
    by_cases e:j<vs.length
    ·rw [Δ e];exact (((hM.each j e).upd hu (fun g hg=>(hM.d4 j g e hg).2.2.2.2.1)).upd hu2 (fun g hg hm=>by simp at hm;exact (hM.d4 j g e hg).2.2.2.1 hm)).upd hw3 (fun g hg hm=>by simp at hm;exact (hM.d4 j g e hg).1 hm)
    ·obtain rfl:j=vs.length:=ω;rw [Γ e,Δ rfl,HI.out.2.2.2,hin];exact aX.nil _ _
   ·rw [hcs] at hg;have:=hM.d3 g hg;have hgl:=(hM.iW.nu hg).2;exact ⟨this.1,hgn g hgl this.2.1,hnF g hgl this.2.2⟩
   ·rw [hv] at hj;obtain ⟨e,hg⟩:=VM j hj g hg;have:=hM.d4 j g e hg;have hgl:=hM.xq e hg;rw [hcs];exact ⟨this.1,this.2.1,this.2.2.1,hgn g hgl this.2.2.2.1,hnF g hgl this.2.2.2.2.1,this.2.2.2.2.2⟩
   ·rw [hv] at hj hk;obtain ⟨e,hg⟩:=VM j hj g hg;intro h2;obtain ⟨e2,h2⟩:=VM k hk g h2;exact hM.d5 j k g e e2 hne hg h2
  refine ⟨rfl,B.blk F1 EX (aN A).cs.length S (vs++[.slice none 0 0]),⟨⟨B,F1,EX,cr1,lo,S,_,rfl,rfl,hBM,HI.out.2.1⟩,HI.out.1⟩,((hu.mono x8).trans (hu2.mono (fun y hy=>by simp at hy;subst hy;simp [BB.blk]))).trans (hw3.mono (fun y hy=>by simp at hy;subst hy;simp [BB.blk])),fun y hy=>?_⟩;rw [hcs] at hy;simp only [BB.blk,ρ,τ] at hy ⊢;rcases hy with e|e|e|e|e|e|e
  ·exact Α (Α e)
  ·exact Α (Β (Α e))
  ·exact Α (Β (Β (Α e)))
  ·rcases hg1 with e2|e2
   ·exact Α (Β (Β (Β (Α (e.trans e2)))))
   ·exact Β ω
  ·rcases hF y e with h'|h'
   ·exact Α (Β (Β (Β (Β (Α h')))))
   ·exact Β h'
  ·exact Α (Β (Β (Β (Β (Β (Α e))))))
  ·obtain ⟨j,hj,hg⟩:=jg.1 e;rw [hv] at hj;obtain ⟨e3,hg⟩:=VM j hj y hg;exact Α (Β (Β (Β (Β (Β (Β (jg.2 ⟨j,e3,hg⟩)))))))
end
theorem Rw (n:Nat) (w:World) (h:n<=65536) :
  Calls Tryz.prog 94 #[.int .i64 (n:Int)] w fun e w'=>∃p FF,e=.returned (.tuple #[.pointer (some ⟨p,0,none⟩),.int .i64 0])/\Iz w' p FF (NS.new n) 0 BG.none/\aa [] w w'/\∀x,x∈FF->w.heap.size<=x:=by
 have k:=nO n w h;have kc:=fun W=>Dx n W h
 go_enter Tryz.func94,Tryz.ntmps94
 go_wp2_with (first
  | ((go_at_call 107;(with_reducible refine (k).mono ?_));rintro e w1 ⟨c,F,rfl,hC,hu1,hF⟩)
  | ((go_at_call 109;(with_reducible refine (kc _).mono ?_));rintro e w2 ⟨bt,ba,rfl,ZB,hu2,hbt,OG⟩))
 go_ret2;have hn:(NS.new n).cs.length=n:=by simp [NS.new]
 obtain ⟨w3,hw3⟩:∃w3,w3=w2.alloc (.cells #[.slice none 0 0] 26):=⟨_,rfl⟩;have hs3:w3.heap.size=w2.heap.size+1:=by rw [hw3];simp
 have u3:aa [] w2 w3:=by rw [hw3];exact (aa.refl _ _).alloc _
 have o3:w3.ownsRow 0 26 1 (.slice (some ⟨w2.heap.size,0,none⟩) 1 1) 1 [.slice none 0 0]:=by rw [hw3];exact qy w2 [.slice none 0 0] 26 0 1 1 rfl (Nat.zero_le _) μ
 rw [←hw3];have hR:=dJ w3 [Value.pointer (some ⟨c,0,none⟩),.pointer (some ⟨bt,0,none⟩),.slice (some ⟨w2.heap.size,0,none⟩) 1 1] 212;rw [hs3] at hR;have u4:aa [] w3 (w3.alloc (.cells #[.pointer (some ⟨c,0,none⟩),.pointer (some ⟨bt,0,none⟩),.slice (some ⟨w2.heap.size,0,none⟩) 1 1] 212)):=(aa.refl _ _).alloc _;have z1:=hu1.size;have z2:=hu2.size;have Lm:=hC.lt;have hb1:=ZB.head.lt;have hb2:=ZB.row.lt;have hFn:∀y,w1.heap.size<=y->y∉F:=fun y hy hm=>by have:=Lm y hm;omega
 have hno:∀m g,g∉CS.none.blk m:=fun m g hg=>by
  obtain ⟨y,_,e⟩:=(CS.jK _ m g).1 hg;cases e
 have hv0:∀h,h < [Value.slice none 0 0].length->[Value.slice none 0 0].getD h undef=Value.slice none 0 0:=fun h hh=>by
  have:h=0:=by simp at hh;omega
  subst this;rfl
 have hBM:iH (w3.alloc (.cells #[.pointer (some ⟨c,0,none⟩),.pointer (some ⟨bt,0,none⟩),.slice (some ⟨w2.heap.size,0,none⟩) 1 1] 212)) ⟨w2.heap.size+1,c,bt,ba⟩ F w2.heap.size 1 w2.heap.size (NS.new n) 0 CS.none [.slice none 0 0] BG.none.R:=by
  refine ⟨hR,hC.aj (hu2.trans (u3.trans u4)),by rw [hn];exact ZB.aj (u3.trans u4),ay o3 u4 σ,rfl,fun h hh=>by rw [hv0 h hh];exact aX.nil _ _,⟨hFn _ (by simp only;omega),hFn _ (by simp only;omega),hFn _ (by simp only;omega),hFn _ ω⟩,⟨?_,?_,?_,?_,?_⟩,fun g hg=>absurd hg (hno _ g),fun h g hh hg=>(by rw [hv0 h hh] at hg;cases hg),fun h k g hh hk _ hg=>(by rw [hv0 h hh] at hg;cases hg)⟩
  all_goals simp only;omega
 refine ⟨w2.heap.size+1,_,by simp [hs3],⟨⟨⟨w2.heap.size+1,c,bt,ba⟩,F,w2.heap.size,1,w2.heap.size,CS.none,[.slice none 0 0],rfl,rfl,hBM,rfl⟩,Zq n⟩,hu1.trans (hu2.trans (u3.trans u4)),fun y hy=>?_⟩;simp only [BB.blk,ρ,τ] at hy;rcases hy with e|e|e|e|e|e|e
 ·omega
 ·omega
 ·omega
 ·omega
 ·exact hF y e
 ·exact absurd e (hno _ y)
 ·obtain ⟨j,hj,hg⟩:=jg.1 e;rw [hv0 j hj] at hg;cases hg
theorem F4 (p c:Nat):∀W:World,W.cell? ⟨p,0,none⟩=some (.pointer (some ⟨c,0,none⟩))->(method 429 174 (.pointer (some ⟨p,0,none⟩)) "Has").run Tryz.prog W=.ok (139,.pointer (some ⟨c,0,none⟩)) W:=(by intro W h;unfold method;have hm:∃m,(Array.find? (fun x=>x.name == "Has") Tryz.t174.methods)=some m/\m.path.toList=[⟨212,0,true⟩]/\m.func=some (139,true)/\m.path.isEmpty=false:=⟨(Array.find? (fun x=>x.name == "Has") Tryz.t174.methods).get!,by kernel_rfl,by kernel_rfl,by kernel_rfl,by kernel_rfl⟩;obtain ⟨m,h1,h2,h3,h4⟩:=hm;go_simp;simp only [follow,Place.get];go_simp;(try unfold receiverAt);(try simp only [Place.get]);(try go_simp))
theorem BA (p c:Nat):∀W:World,W.cell? ⟨p,0,none⟩=some (.pointer (some ⟨c,0,none⟩))->(method 429 174 (.pointer (some ⟨p,0,none⟩)) "Entry").run Tryz.prog W=.ok (137,.pointer (some ⟨c,0,none⟩)) W:=(by intro W h;unfold method;have hm:∃m,(Array.find? (fun x=>x.name == "Entry") Tryz.t174.methods)=some m/\m.path.toList=[⟨212,0,true⟩]/\m.func=some (137,true)/\m.path.isEmpty=false:=⟨(Array.find? (fun x=>x.name == "Entry") Tryz.t174.methods).get!,by kernel_rfl,by kernel_rfl,by kernel_rfl,by kernel_rfl⟩;obtain ⟨m,h1,h2,h3,h4⟩:=hm;go_simp;simp only [follow,Place.get];go_simp;(try unfold receiverAt);(try simp only [Place.get]);(try go_simp))
theorem Rn (p:Nat):∀W:World,(method 429 174 (.pointer (some ⟨p,0,none⟩)) "Make").run Tryz.prog W=.ok (179,.pointer (some ⟨p,0,none⟩)) W:=fun _=>by kernel_rfl
theorem JS (p:Nat):∀W:World,(method 429 174 (.pointer (some ⟨p,0,none⟩)) "Insert").run Tryz.prog W=.ok (178,.pointer (some ⟨p,0,none⟩)) W:=fun _=>by kernel_rfl
theorem UQ (p:Nat):∀W:World,(method 429 174 (.pointer (some ⟨p,0,none⟩)) "Min").run Tryz.prog W=.ok (181,.pointer (some ⟨p,0,none⟩)) W:=fun _=>by kernel_rfl
theorem GN (p:Nat):∀W:World,(method 429 174 (.pointer (some ⟨p,0,none⟩)) "Extract").run Tryz.prog W=.ok (177,.pointer (some ⟨p,0,none⟩)) W:=fun _=>by kernel_rfl
theorem EH (p:Nat):∀W:World,(method 429 174 (.pointer (some ⟨p,0,none⟩)) "Decrease").run Tryz.prog W=.ok (175,.pointer (some ⟨p,0,none⟩)) W:=fun _=>by kernel_rfl
theorem xy {w w':World} {p:Nat} {F S:List Nat} {A:NS} {st:Nat} {G:BG} (h:Iz w p F A st G) (hu:aa S w w') (hS:∀x,x∈S->x∉F):Iz w' p F A st G:=by
 obtain ⟨⟨B,F1,gr,cr,lo,S1,vs,rfl,rfl,M,eF⟩,I⟩:=h;exact ⟨⟨B,F1,gr,cr,lo,S1,vs,rfl,rfl,M.upd hu hS,eF⟩,I⟩
theorem acy {w:World} {p:Nat} {F:List Nat} {A:NS} {st:Nat} {G:BG} (h:Iz w p F A st G):∀x,x∈F->x<w.heap.size:=by
 obtain ⟨⟨B,F1,gr,cr,lo,S1,vs,rfl,rfl,M,eF⟩,I⟩:=h;exact M.lt
theorem abr {w:World} {p:Nat} {F:List Nat} {A:NS} {st:Nat} {G:BG} (h:Iz w p F A st G):A.Ok:=by
 obtain ⟨⟨B,F1,gr,cr,lo,S1,vs,rfl,rfl,M,eF⟩,I⟩:=h;exact M.cells.ok
theorem WE {w:World} {p:Nat} {F:List Nat} {A:NS} {st:Nat} {G:BG} (h:Iz w p F A st G):∃c F1,w.cell? ⟨p,0,none⟩=some (.pointer (some ⟨c,0,none⟩))/\aC w c F1 A st:=by
 obtain ⟨⟨B,F1,gr,cr,lo,S1,vs,rfl,rfl,M,eF⟩,I⟩:=h;exact ⟨B.c,F1,M.h0,M.cells⟩
def BnQ (w:World) (p:Nat) (F:List Nat) (A:NS):Prop:=∃st G,Iz w p F A st G
noncomputable def yA:gD where
 ty:=174
 at_:=BnQ
 upd:=fun h hu hS=>by
  obtain ⟨st,G,hL⟩:=h;exact ⟨st,G,xy hL hu hS⟩
 lt:=fun h=>by
  obtain ⟨st,G,hL⟩:=h;exact acy hL
 ok:=fun h=>by
  obtain ⟨st,G,hL⟩:=h;exact abr hL
 make:=fun {w p F A} h=>by
  obtain ⟨st,G,hL⟩:=h;refine aS 179 (fun _ _=>by kernel_rfl) (Rn _) (fun W hW=>?_);refine (NN (xy hL hW σ)).mono ?_;rintro e w' ⟨rfl,F',hA,hu,hf⟩;exact ⟨rfl,F',⟨_,_,hA⟩,hu,hf⟩
 insert:=fun {w p F A} g y k s hk hB h=>by
  obtain ⟨st,G,hL⟩:=h;refine aS 178 (fun _ _=>by kernel_rfl) (JS _) (fun W hW=>?_);refine (FT (xy hL hW σ) g y k s hk hB).mono ?_;rintro e w' ⟨rfl,F',hA,hu,hf⟩;exact ⟨rfl,F',⟨_,_,hA⟩,hu,hf⟩
 min:=fun {w p F A} y hB h=>by
  obtain ⟨st,G,hL⟩:=h;refine aS 181 (fun _ _=>by kernel_rfl) (UQ _) (fun W hW=>?_);have lM:=xy hL hW σ;obtain ⟨⟨B,F1,gr,cr,lo,S1,vs,rfl,rfl,M,eF⟩,I⟩:=lM;refine (Gi M I (y:Int)).mono ?_;rintro e w' ⟨rfl,hM2,hu⟩;exact ⟨rfl,Goes.stay ⟨_,_,⟨B,F1,gr,cr,lo,S1,vs,rfl,rfl,hM2,eF⟩,I⟩ (hu.mono (fun y hy=>by simp at hy;subst hy;exact x8 _ M.cells.mem))⟩
 extract:=fun {w p F A} y m hm h=>by
  obtain ⟨st,G,hL⟩:=h;refine aS 177 (fun _ _=>by kernel_rfl) (GN _) (fun W hW=>?_);have lM:=xy hL hW σ;have e2:uo A (y:Int)=aZ A (m:Int):=by unfold uo;rw [hm]
  have k:=Eb lM (y:Int);rw [e2,hm] at k;refine k.mono ?_;rintro e w' ⟨rfl,F',hA,hu,hf⟩;exact ⟨rfl,F',⟨_,_,hA⟩,hu,hf⟩
 lS:=fun {w p F A} y k s hk hB h=>by
  obtain ⟨st,G,hL⟩:=h;refine aS 175 (fun _ _=>by kernel_rfl) (EH _) (fun W hW=>?_);have lM:=xy hL hW σ;refine (RB lM y k s hk hB).mono ?_;rintro e w' ⟨rfl,F',hA,hu,hf⟩;exact ⟨rfl,F',⟨_,_,hA⟩,hu,hf⟩
 has:=fun x h=>by
  obtain ⟨st,G,hL⟩:=h;obtain ⟨c,F1,h0,hC⟩:=WE hL;exact iA 139 (fun _ _=>by kernel_rfl) h0 (F4 _ _) (fun W hW=>jm (hC.aj hW) x)
 entry:=fun {w p F A} x h=>by
  obtain ⟨st,G,hL⟩:=h;obtain ⟨c,F1,h0,hC⟩:=WE hL;refine iA 137 (fun _ _=>by kernel_rfl) h0 (BA _ _) (fun W hW=>?_);cases hin:bQ A x with
  | false=>simpa using lK (hC.aj hW) x hin
  | true=>
   obtain ⟨y,rfl⟩:=qj hin;simpa using jR (hC.aj hW) y hin
theorem Jl (p:Nat) (w:World):Calls Tryz.prog 93 #[.pointer (some ⟨p,0,none⟩),.int .i64 0] w fun e w'=>e=.returned (.tuple #[.iface 174 (.pointer (some ⟨p,0,none⟩)),.int .i64 0])/\w'=w:=by
 go_enter Tryz.func93,Tryz.ntmps93
 go_wp2;go_ret2;exact ⟨rfl,rfl⟩
theorem QB (n:Nat) (hn:n<=65536):om yA 3 0 n:=by
 intro w;have kn:=fun W=>Rw n W hn;have km:=Jl;have hty:yA.ty=174:=rfl;have hat:∀w' p FF,Iz w' p FF (NS.new n) 0 BG.none->yA.at_ w' p FF (NS.new n):=fun w' p FF h=>⟨_,_,h⟩
 generalize yA=K at *;rw [hty]
 go_enter Tryz.func81,Tryz.ntmps81
 go_wp2_with (first
  | ((go_at_call 94;(with_reducible refine (kn _).mono ?_));rintro e w1 ⟨pn,FF,rfl,hS,hu1,hf⟩)
  | ((go_at_call 93;(with_reducible refine (km _ _).mono ?_));rintro e w2 ⟨rfl,rfl⟩)
  | fail)
 go_ret2;exact ⟨pn,FF,rfl,hat _ _ _ hS,aa.trans β hu1,fun x hx=>by have:=hf x hx;simp at this;omega⟩
end Go.Proofs.YtklibcncmbofpaaGreat
