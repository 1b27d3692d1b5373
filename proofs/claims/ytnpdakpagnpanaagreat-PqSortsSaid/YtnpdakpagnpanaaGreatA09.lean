/-
  Lemmas for PqSorts: OwnS, Bn, Bn2, Del, Bn3, Bn4, Bn5, BnT, Bn6, Bn7, Bn8, BnW. Conditions: those of each lemma.
-/
import Derived.Lib.SliceRun
import Derived.Deep.LoopGhost
import Derived.Test.YtnpdakpagnpanaaGreatA06
import Derived.Test.YtnpdakpagnpanaaGreatA08
set_option linter.all false
set_option maxHeartbeats 8000000
set_option maxRecDepth 10000
namespace Go.Proofs.YtnpdakpagnpanaaGreat
open Go Go.RowKit
theorem uA {w:World} {base size n g cap:Nat} {e:TypeId} {xs:List Value} (h:w.ownsRow base e size (.slice (some ⟨g,0,none⟩) n cap) n xs) (j:Nat) (u:Value) :
  (w.setCell ⟨g,j,none⟩ u).ownsRow base e size (.slice (some ⟨g,0,none⟩) n cap) n (xs.set j u):=by
 rcases h.2 with ⟨h1,_⟩|⟨g',cap',cur,h1,hb,hg,hn,hc,hs,ht⟩
 ·cases h1
 ·cases h1;refine ⟨by rw [Ι];exact h.1,Β ⟨g,cap,cur.setIfInBounds j u,rfl,hb,?_,hn,hc,by simp;exact hs,?_⟩⟩
  ·simp [World.setCell,Array.getElem?_modify,hg]
  ·rw [Array.toList_setIfInBounds]
   by_cases hj:j<n*size
   ·rw [List.take_set,ht]
   ·have hl:=h.1;rw [List.take_set_of_le ω,ht,List.set_eq_of_length_le ω]
theorem Be (p c:Nat):∀W:World,W.cell? ⟨p,0,none⟩=some (.pointer (some ⟨c,0,none⟩))->(method 409 126 (.pointer (some ⟨p,0,none⟩)) "Ahead").run Tryz.prog W=.ok (164,.pointer (some ⟨c,0,none⟩)) W:=(by intro W h;unfold method;have hm:∃m,(Array.find? (λx=>x.name == "Ahead") Tryz.t126.methods)=some m/\m.path.toList=[⟨185,0,true⟩]/\m.func=some (164,true)/\m.path.isEmpty=false:=⟨(Array.find? (λx=>x.name == "Ahead") Tryz.t126.methods).get!,by kernel_rfl,by kernel_rfl,by kernel_rfl,by kernel_rfl⟩;obtain ⟨m,h1,h2,h3,h4⟩:=hm;go_simp;simp only [follow,Place.get];go_simp;(try unfold receiverAt);(try simp only [Place.get]);(try go_simp))
def bnO (A:NS) (p c:Nat) (F:List Nat) (st:Nat):rQ where
 ty:=126
 p:=p
 rd:=p::c::F
 wr:=[c]
 lt:=bJ A
 dom:=λx=>bR A x=true
 at_:=λw q=>p<w.heap.size/\p∉c::F/\w.cell? ⟨p,0,none⟩=some (.pointer (some ⟨c,0,none⟩))/\aB w c F A (bS st q)
 sub:=λx hx=>by simp at hx;subst hx;simp
 low:=λ{w q} h x hx=>by
  obtain ⟨h1,h2,h3,h4⟩:=h;rcases ρ.1 hx with rfl|hx
  ·exact h1
  ·rcases ρ.1 hx with rfl|hx
   ·exact h4.lt _ h4.mem
   ·exact h4.lt _ hx
 upd:=λ{w w' S q} h hu hS=>by
  obtain ⟨h1,h2,h3,h4⟩:=h;exact ⟨Ψ h1 hu.size,h2,hu.kept h3 (λhm=>hS _ hm σ),h4.upd hu (λx hx hm=>hS x hx (by simp [hm]))⟩
 asym:=j4 A
 ahead:=λ{w q} x y h hx hy hq=>by
  obtain ⟨h1,h2,h3,h4⟩:=h;obtain ⟨a,rfl⟩:=oW hx;obtain ⟨b,rfl⟩:=oW hy;refine gN 164 (λ_ _=>by kernel_rfl) h3 (Be p c) (λW hW=>?_);refine (gW (h4.ai hW) a b hx hy).mono ?_;rintro e w' ⟨rfl,hC,hu⟩;refine ⟨by rw [jN,hx,hy];simp,⟨Ψ h1 (Χ hW.size hu.size),h2,hu.kept (hW.was h3) (λhm=>h2 (by simp at hm;simp [hm])),by rw [←iV];exact hC⟩,hu⟩
structure BB where
 n0:Nat
 c:Nat
 bt:Nat
 ba:Nat
structure gL (w:World) (B:BB) (F:List Nat) (gr cr lo:Nat) (A:NS) (st:Nat) (S:CS) (vs:List Value) (R:Nat->List Int):Prop where
 head:aJ w B.n0 185 3 (λj=>[Value.pointer (some ⟨B.c,0,none⟩),.pointer (some ⟨B.bt,0,none⟩),.slice (some ⟨gr,0,none⟩) vs.length cr].getD j undef)
 cells:aB w B.c F A st
 iy:aN w B.bt B.ba lo A.cs.length S
 rows:w.ownsRow 0 77 1 (.slice (some ⟨gr,0,none⟩) vs.length cr) vs.length vs
 len:vs.length=A.hs.length
 each:∀h,h<vs.length->aV w 0 (vs.getD h undef) (R h)
 d1:B.n0∉F/\B.bt∉F/\B.ba∉F/\gr∉F
 d2:B.n0≠B.bt/\B.n0≠B.ba/\B.n0≠gr/\B.bt≠gr/\B.ba≠gr
 d3:∀g,g∈S.blk A.cs.length->g≠B.n0/\g≠gr/\g∉F
 d4:∀h g,h<vs.length->(vs.getD h undef).ownBlock=some g->g≠B.n0/\g≠B.bt/\g≠B.ba/\g≠gr/\g∉F/\g∉S.blk A.cs.length
 d5:∀h k g,h<vs.length->k<vs.length->h≠k->(vs.getD h undef).ownBlock=some g->(vs.getD k undef).ownBlock≠some g
def VI (vs:List Value):List Nat:=vs.filterMap Value.ownBlock
theorem iJ {vs:List Value} {g:Nat}:g∈VI vs↔∃h,h<vs.length/\(vs.getD h undef).ownBlock=some g:=by
 unfold VI;rw [List.mem_filterMap];constructor
 ·rintro ⟨v,hv,e⟩;obtain ⟨i,hi,rfl⟩:=List.getElem_of_mem hv;exact ⟨i,hi,by simpa [φ,hi] using e⟩
 ·rintro ⟨i,hi,e⟩;exact ⟨vs[i],ϗ hi,by simpa [φ,hi] using e⟩
def BB.blk (B:BB) (F:List Nat) (gr n:Nat) (S:CS) (vs:List Value):List Nat:=B.n0::B.bt::B.ba::gr::(F++(S.blk n++VI vs))
theorem rG (vs:List Value) (h k:Nat) (v:Value):(vs.set h v).getD k undef=if k=h/\h<vs.length then v else vs.getD k undef:=by
 simp only [φ,ύ]
 by_cases e:h=k
 ·subst e
  by_cases hl:h<vs.length
  ·simp [hl]
  ·simp [hl]
 ·rw [Γ e,Γ (λh'=>e h'.1.symm)]
section
variable {w:World} {B:BB} {F:List Nat} {gr cr lo:Nat} {A:NS} {st:Nat} {S:CS} {vs:List Value} {R:Nat->List Int}
theorem gL.EN (h:gL w B F gr cr lo A st S vs R):gr<w.heap.size:=(h.rows.lt gr rfl).2
theorem gL.vQ (h:gL w B F gr cr lo A st S vs R) {q g:Nat} (hq:q<vs.length) (e:(vs.getD q undef).ownBlock=some g):g<w.heap.size:=((h.each q hq).lt g e).2
theorem gL.lt (h:gL w B F gr cr lo A st S vs R):∀x,x∈B.blk F gr A.cs.length S vs->x<w.heap.size:=by
 intro x hx;have h1:=h.head.lt;have h2:=h.iy.head.lt;have h3:=h.iy.row.lt;have h4:=h.EN;simp only [BB.blk,ρ,τ] at hx;rcases hx with rfl|rfl|rfl|rfl|hx|hx|hx
 ·exact h1
 ·exact h2
 ·exact h3
 ·exact h4
 ·exact h.cells.lt x hx
 ·exact (h.iy.lU hx).2
 ·obtain ⟨q,hq,e⟩:=iJ.1 hx;exact h.vQ hq e
theorem gL.h0 (h:gL w B F gr cr lo A st S vs R):w.cell? ⟨B.n0,0,none⟩=some (.pointer (some ⟨B.c,0,none⟩)):=h.head.cellAt 0 ω rfl
theorem gL.h1 (h:gL w B F gr cr lo A st S vs R):w.cell? ⟨B.n0,1,none⟩=some (.pointer (some ⟨B.bt,0,none⟩)):=h.head.cellAt 1 ω rfl
theorem gL.h2 (h:gL w B F gr cr lo A st S vs R):w.cell? ⟨B.n0,2,none⟩=some (.slice (some ⟨gr,0,none⟩) vs.length cr):=h.head.cellAt 2 ω rfl
theorem gL.JY (h:gL w B F gr cr lo A st S vs R) {q:Nat} (hq:q<vs.length):w.cell? ⟨gr,q,none⟩=some (vs.getD q undef):=by
 rw [h.rows.cellAt q ω];simp [φ,hq]
theorem gL.Un (h:gL w B F gr cr lo A st S vs R) (q:Nat):w.frozen? ⟨gr,q,none⟩=false:=h.rows.frozenAt q
theorem gL.Rq (h:gL w B F gr cr lo A st S vs R):vs.length<=65537:=by rw [h.len];exact h.cells.ok.h1
theorem gL.cn (h:gL w B F gr cr lo A st S vs R):B.n0≠B.c/\gr≠B.c/\B.bt≠B.c/\B.ba≠B.c:=by
 have hm:=h.cells.mem;exact ⟨λe=>h.d1.1 (e▸hm),λe=>h.d1.2.2.2 (e▸hm),λe=>h.d1.2.1 (e▸hm),λe=>h.d1.2.2.1 (e▸hm)⟩
theorem gL.upd {w':World} {G:List Nat} (h:gL w B F gr cr lo A st S vs R) (hu:aa G w w') (hG:∀x,x∈G->x∉B.blk F gr A.cs.length S vs):gL w' B F gr cr lo A st S vs R:=by
 have k:∀x,x∈B.blk F gr A.cs.length S vs->x∉G:=λx hx hg=>hG x hg hx;refine ⟨h.head.upd hu (k _ (by simp [BB.blk])),h.cells.upd hu (λx hx hm=>hG x hx (by simp [BB.blk,hm])),h.iy.upd hu (k _ (by simp [BB.blk])) (k _ (by simp [BB.blk])) (λg hg=>k _ (by simp [BB.blk,hg])),au h.rows hu (λg hg=>by simp [Value.ownBlock] at hg;subst hg;exact k _ (by simp [BB.blk])),h.len,λq hq=>(h.each q hq).upd hu (λg hg=>k _ ?_),h.d1,h.d2,h.d3,h.d4,h.d5⟩;simp only [BB.blk,ρ,τ];exact Β (Β (Β (Β (Β (Β (iJ.2 ⟨q,hq,hg⟩))))))
theorem gL.ai {w':World} (h:gL w B F gr cr lo A st S vs R) (hu:aa [] w w'):gL w' B F gr cr lo A st S vs R:=h.upd hu σ
theorem gL.dV {w':World} {F':List Nat} {A':NS} {st':Nat} (h:gL w B F gr cr lo A st S vs R) (hu:aa F w w') (hC:aB w' B.c F' A' st') (hF:∀x,x∈F'->x∈F\/w.heap.size<=x) (e1:A'.cs.length=A.cs.length) (e2:A'.hs.length=A.hs.length):gL w' B F' gr cr lo A' st' S vs R:=by
 have f:=h.d1;have g:=h.lt;have hf:∀x,x<w.heap.size->x∉F->x∉F':=λx hx hn hm=>by rcases hF x hm with h'|h';exact hn h';omega
 have l0:=g B.n0 (by simp [BB.blk]);have l1:=g B.bt (by simp [BB.blk]);have l2:=g B.ba (by simp [BB.blk]);have l4:=g gr (by simp [BB.blk])
 refine ⟨h.head.upd hu f.1,hC,by rw [e1];exact h.iy.upd hu f.2.1 f.2.2.1 (λx hx=>(h.d3 x hx).2.2),au h.rows hu (λg hg=>by simp [Value.ownBlock] at hg;subst hg;exact f.2.2.2),by rw [e2];exact h.len,
  λq hq=>(h.each q hq).upd hu (λg hg=>(h.d4 q g hq hg).2.2.2.2.1),⟨hf _ l0 f.1,hf _ l1 f.2.1,hf _ l2 f.2.2.1,hf _ l4 f.2.2.2⟩,h.d2,λx hx=>?_,λq x hq hx=>?_,h.d5⟩
 ·rw [e1] at hx;have:=h.d3 x hx;exact ⟨this.1,this.2.1,hf x (h.iy.lU hx).2 this.2.2⟩
 ·have:=h.d4 q x hq hx;rw [e1];exact ⟨this.1,this.2.1,this.2.2.1,this.2.2.2.1,hf x (h.vQ hq hx) this.2.2.2.2.1,this.2.2.2.2.2⟩
theorem gL.dU {w':World} {S':CS} {st':Nat} (h:gL w B F gr cr lo A st S vs R) (hu:aa (B.c::B.ba::S.blk A.cs.length) w w') (hC:aB w' B.c F A st') (hS:aN w' B.bt B.ba lo A.cs.length S') (hb:∀g,g∈S'.blk A.cs.length->g∈S.blk A.cs.length\/w.heap.size<=g):gL w' B F gr cr lo A st' S' vs R:=by
 have hcn:=h.cn;have g:=h.lt;have l0:=g B.n0 (by simp [BB.blk]);have l4:=g gr (by simp [BB.blk]);have k:∀x,x≠B.c->x≠B.ba->x∉S.blk A.cs.length->x∉B.c::B.ba::S.blk A.cs.length:=λx h1 h2 h3 hm=>by
  simp only [ρ] at hm;rcases hm with hm|hm|hm
  ·exact h1 hm
  ·exact h2 hm
  ·exact h3 hm
 have hrow:∀q x,q<vs.length->(vs.getD q undef).ownBlock=some x->x∉B.c::B.ba::S.blk A.cs.length:=λq x hq hx=>by
  have:=h.d4 q x hq hx;exact k x (λe=>this.2.2.2.2.1 (e▸h.cells.mem)) this.2.2.1 this.2.2.2.2.2
 refine ⟨h.head.upd hu (k _ hcn.1 h.d2.2.1 (λhm=>(h.d3 _ hm).1 rfl)),hC,hS,au h.rows hu (λx hx=>by simp [Value.ownBlock] at hx;subst hx;exact k _ hcn.2.1 (Ne.symm h.d2.2.2.2.2) (λhm=>(h.d3 _ hm).2.1 rfl)),h.len,λq hq=>(h.each q hq).upd hu (λx hx=>hrow q x hq hx),h.d1,h.d2,λx hx=>?_,λq x hq hx=>?_,h.d5⟩
 ·rcases hb x hx with h'|h'
  ·exact h.d3 x h'
  ·exact ⟨ω,ω,λhm=>by have:=h.cells.lt x hm;omega⟩
 ·have:=h.d4 q x hq hx;refine ⟨this.1,this.2.1,this.2.2.1,this.2.2.2.1,this.2.2.2.2.1,λhm=>?_⟩;rcases hb x hm with h'|h'
  ·exact this.2.2.2.2.2 h'
  ·have:=h.vQ hq hx;omega
theorem gL.SG {w1:World} {K:List Nat} (h:gL w B F gr cr lo A st S vs R) (q:Nat) (hq:q<vs.length) (hu1:aa K w w1) (hK:∀g,g∈K->(vs.getD q undef).ownBlock=some g) (v:Value) (X:List Int) (hv:aV w1 0 v X)
  (hg:∀g,v.ownBlock=some g->(g≠B.n0/\g≠B.bt/\g≠B.ba/\g≠gr/\g∉F/\g∉S.blk A.cs.length)/\∀k,k<vs.length->k≠q->(vs.getD k undef).ownBlock≠some g) :
  gL (w1.setCell ⟨gr,q,none⟩ v) B F gr cr lo A st S (vs.set q v) (bH R q X):=by
 have hu:aa [gr] w1 (w1.setCell ⟨gr,q,none⟩ v):=β;have kk:∀g,g∈K->g≠B.n0/\g≠B.bt/\g≠B.ba/\g≠gr/\g∉F/\g∉S.blk A.cs.length:=λg hg=>h.d4 q g hq (hK g hg);have e:∀k,k<vs.length->(vs.set q v).getD k undef=if k=q then v else vs.getD k undef:=λk hk=>by
  rw [rG]
  by_cases e:k=q
  ·rw [Δ ⟨e,hq⟩,Δ e]
  ·rw [Γ (λh=>e h.1),Γ e]
 refine ⟨by rw [Ι];exact (h.head.upd hu1 (λhm=>(kk _ hm).1 rfl)).upd hu (by simp;exact h.d2.2.2.1),(h.cells.upd hu1 (λx hx=>(kk x hx).2.2.2.2.1)).upd hu (λx hx hm=>by simp at hx;subst hx;exact h.d1.2.2.2 hm),
  (h.iy.upd hu1 (λhm=>(kk _ hm).2.1 rfl) (λhm=>(kk _ hm).2.2.1 rfl) (λg hg hm=>(kk g hm).2.2.2.2.2 hg)).upd hu (by simp;exact h.d2.2.2.2.1) (by simp;exact h.d2.2.2.2.2) (λx hx hm=>by simp at hm;exact (h.d3 x hx).2.1 hm),
  by rw [Ι];exact uA (au h.rows hu1 (λg hg hm=>by simp [Value.ownBlock] at hg;subst hg;exact (kk _ hm).2.2.2.1 rfl)) q v,by rw [Ι];exact h.len,λk hk=>?_,h.d1,h.d2,h.d3,λk g hk e2=>?_,λk j g hk hj hne e2=>?_⟩
 ·rw [Ι] at hk;rw [e k hk];unfold bH
  by_cases ek:k=q
  ·rw [Δ ek,Δ ek];exact hv.upd hu (λg hg2 hm=>by simp at hm;exact (hg g hg2).1.2.2.2.1 hm)
  ·rw [Γ ek,Γ ek];exact ((h.each k hk).upd hu1 (λg hg2 hm=>h.d5 k q g hk hq ek hg2 (hK g hm))).upd hu (λg hg2 hm=>by simp at hm;exact (h.d4 k g hk hg2).2.2.2.1 hm)
 ·rw [Ι] at hk;rw [e k hk] at e2
  split at e2
  ·exact (hg g e2).1
  ·exact h.d4 k g hk e2
 ·rw [Ι] at hk hj;rw [e k hk] at e2;rw [e j hj]
  split at e2
  ·rename_i ek
   rw [Γ (λej=>hne ω)];exact (hg g e2).2 j hj (λej=>hne ω)
  ·rename_i ek
   split
   ·rename_i ej
    intro e3;exact (hg g e3).2 k hk ek e2
   ·exact h.d5 k j g hk hj hne e2
theorem gL.xW (h:gL w B F gr cr lo A st S vs R) (q:Nat) (hq:q<vs.length) (v:Value) (X:List Int) (hv:aV w 0 v X)
  (hg:∀g,v.ownBlock=some g->(g≠B.n0/\g≠B.bt/\g≠B.ba/\g≠gr/\g∉F/\g∉S.blk A.cs.length)/\∀k,k<vs.length->k≠q->(vs.getD k undef).ownBlock≠some g) :
  gL (w.setCell ⟨gr,q,none⟩ v) B F gr cr lo A st S (vs.set q v) (bH R q X):=h.SG (K:=[]) q hq (aa.refl _ _) σ v X hv hg
theorem gL.WO {w1:World} (h:gL w B F gr cr lo A st S vs R) (q:Nat) (hq:q<vs.length) (hu:aa (vs.getD q undef).ownBlock.toList w w1) (v:Value) (X:List Int) (hv:aV w1 0 v X) (he:v.ownBlock=(vs.getD q undef).ownBlock) :
  gL (w1.setCell ⟨gr,q,none⟩ v) B F gr cr lo A st S (vs.set q v) (bH R q X):=
 h.SG q hq hu (λg hg=>by simpa using hg) v X hv (λg hg=>⟨h.d4 q g hq (by rw [←he];exact hg),λk hk hne e=>h.d5 k q g hk hq hne e (by rw [←he];exact hg)⟩)
end
theorem aV.sl {w:World} {base:Nat} {F:List Nat} {v:Value} {xs:List Int} (h:aV w base v xs) (hF:∀g,v.ownBlock=some g->g∉F):jc w F v xs:=by
 obtain ⟨a,cap,rfl,h1,h2,h3⟩:=h.shape;refine ⟨a,cap,rfl,h1,h2,λj u hj=>?_⟩;obtain ⟨g,off,rfl,hc⟩:=h3 j u hj;exact ⟨g,off,rfl,(h.lt g rfl).2,hF g rfl,hc⟩
section
variable {w:World} {B:BB} {F:List Nat} {gr cr lo:Nat} {A:NS} {st:Nat} {S:CS} {vs:List Value} {R:Nat->List Int}
theorem gL.shape (h:gL w B F gr cr lo A st S vs R) {q:Nat} (hq:q<vs.length):∃a cap,vs.getD q undef=.slice a (R q).length cap/\(R q).length<=cap/\cap<=9223372036854775807:=by
 obtain ⟨a,cap,e,h1,h2,_⟩:=(h.each q hq).shape;exact ⟨a,cap,e,h1,h2⟩
theorem gL.hq (h:gL w B F gr cr lo A st S vs R) {q:Int} (hh:bA A q=true):∃k:Nat,q=k/\1<=k/\k<vs.length:=by
 have:=(aA _ _).1 hh;have e:=h.len;exact ⟨q.toNat,ω,ω,ω⟩
theorem Pd (M:gL w B F gr cr lo A st S vs R) (q:Nat) (hh:bA A q=true) {a:Option Addr} {n cap:Nat} (hv:vs.getD q undef=.slice a n cap) :
  Calls Tryz.prog 178 #[.pointer (some ⟨B.n0,0,none⟩),.int .i64 (q:Int)] w λe w'=>e=.returned (.slice a n cap)/\w'=w:=by
 have k:=iM M.cells (q:Int);rw [hh] at k;have h0:=M.h0;have h2:=M.h2;obtain ⟨q',e,_,hq⟩:=M.hq hh;obtain rfl:q=q':=ω;have d:=M.JY hq;rw [hv] at d;have zi:(0:Int)<=(q:Int):=ω;have Bd:(q:Int)<(vs.length:Int):=ω;clear M hh hv e
 go_enter Tryz.func178,Tryz.ntmps178
 go_wp2_with ((go_at_call 123;(with_reducible refine (k).mono ?_);rintro e w9 ⟨rfl,aH⟩;rw [aH];clear aH w9))
 go_ret;exact ⟨rfl,rfl⟩
theorem Rm (M:gL w B F gr cr lo A st S vs R) (q:Int) (hh:bA A q=false) :
  Calls Tryz.prog 178 #[.pointer (some ⟨B.n0,0,none⟩),.int .i64 q] w λe w'=>e=.returned (.slice none 0 0)/\w'=w:=by
 have k:=iM M.cells q;rw [hh] at k;have h0:=M.h0;clear M hh
 go_enter Tryz.func178,Tryz.ntmps178
 go_wp2_with ((go_at_call 123;(with_reducible refine (k).mono ?_);rintro e w9 ⟨rfl,aH⟩;rw [aH];clear aH w9))
 go_ret;exact ⟨rfl,rfl⟩
theorem gL.ord (M:gL w B F gr cr lo A st S vs R):(bnO A B.n0 B.c F st).at_ w 0:=by
 have h:=M.cells.mH;refine ⟨M.head.lt,?_,M.h0,by rw [fB h];exact M.cells⟩;simp only [ρ,not_or];exact ⟨M.cn.1,M.d1.1⟩
theorem gL.apart (M:gL w B F gr cr lo A st S vs R):Apart (bnO A B.n0 B.c F st) B.bt B.ba A.cs.length S:=by
 have hc:=M.cn;refine ⟨?_,?_,λg hg=>?_⟩
 ·show B.bt∉B.n0::B.c::F
  simp only [ρ,not_or];exact ⟨Ne.symm M.d2.1,hc.2.2.1,M.d1.2.1⟩
 ·show B.ba∉B.n0::B.c::F
  simp only [ρ,not_or];exact ⟨Ne.symm M.d2.2.1,hc.2.2.2,M.d1.2.2.1⟩
 ·show g∉B.n0::B.c::F
  have:=M.d3 g hg;simp only [ρ,not_or];exact ⟨this.1,λe=>this.2.2 (e▸M.cells.mem),this.2.2⟩
theorem F7 (M:gL w B F gr cr lo A st S vs R) (ok:mP A.cs.length S.f) {va vl:Value} {X L:List Int} (hva:jc w (B.c::B.ba::S.blk A.cs.length) va X) (hvl:jc w (B.c::B.ba::S.blk A.cs.length) vl L)
  (hA:jF A.cs.length S.f X) (hB:jF A.cs.length S.f L) (hd:∀x,x∈X->x∉L) (hin:∀z,z∈X\/z∈L->bR A z=true) :
  Calls Tryz.prog 185 #[.pointer (some ⟨B.bt,0,none⟩),.iface 126 (.pointer (some ⟨B.n0,0,none⟩)),va,vl] w λe w'=>
   ∃S' vo,e=.returned (.tuple #[vo,.bool true])/\S'.f=(iQ (bJ A) A.cs.length S.f X L).F/\gL w' B F gr cr lo A (bS st (iQ (bJ A) A.cs.length S.f X L).q) S' vs R/\aV w' w.heap.size vo (iQ (bJ A) A.cs.length S.f X L).O/\
    aa (B.c::B.ba::S.blk A.cs.length) w w'/\(∀g,g∈S'.blk A.cs.length->g∈S.blk A.cs.length\/w.heap.size<=g)/\(∀g,vo.ownBlock=some g->g∉S'.blk A.cs.length)/\∃a n cap,vo=.slice a n cap:=by
 refine (Lp (bnO A B.n0 B.c F st) B.bt B.ba lo A.cs.length S va vl X L 0 w ⟨M.iy,M.ord,M.apart,M.iy.head.lt,ok⟩ hva hvl hA hB hd (Nat.zero_le _) (λx hx=>hin x (Α hx)) (λx hx=>hin x (Β hx))).mono ?_;rintro e w' ⟨S',vo,O,q',rfl,hFL,hTo,hG,hO,hS,hu,hb,hx⟩;obtain ⟨e1,e2,e3⟩:=Ut hG (j4 A) M.iy.le hTo;have e1:(iQ (bJ A) A.cs.length S.f X L).F=S'.f:=e1;have e2:(iQ (bJ A) A.cs.length S.f X L).O=O:=e2;have e3:(iQ (bJ A) A.cs.length S.f X L).q=q':=e3;rw [e1,e2,e3];obtain ⟨a,cap,e4,_⟩:=hO.shape;exact ⟨S',vo,rfl,rfl,M.dU hu hFL.l.2.2.2 hFL.f hb,hO,hu,hb,hx,a,_,cap,e4⟩
theorem xV (M:gL w B F gr cr lo A st S vs R) (ok:mP A.cs.length S.f) (q:Nat) (hq:q<vs.length) {vl:Value} {L:List Int} (hvl:jc w (B.c::B.ba::S.blk A.cs.length) vl L)
  (hA:jF A.cs.length S.f (R q)) (hB:jF A.cs.length S.f L) (hd:∀x,x∈R q->x∉L) (hin:∀z,z∈R q\/z∈L->bR A z=true) :
  Calls Tryz.prog 177 #[.pointer (some ⟨B.n0,0,none⟩),.int .i64 (q:Int),vl] w λe w'=>
   ∃S' vo,e=.returned (.tuple #[])/\S'.f=(iQ (bJ A) A.cs.length S.f (R q) L).F/\gL w' B F gr cr lo A (bS st (iQ (bJ A) A.cs.length S.f (R q) L).q) S' (vs.set q vo) (bH R q (iQ (bJ A) A.cs.length S.f (R q) L).O)/\
    aa (B.c::B.ba::gr::S.blk A.cs.length) w w'/\(∀g,g∈S'.blk A.cs.length->g∈S.blk A.cs.length\/w.heap.size<=g)/\(∀g,vo.ownBlock=some g->w.heap.size<=g):=by
 have hrow:jc w (B.c::B.ba::S.blk A.cs.length) (vs.getD q undef) (R q):=(M.each q hq).sl (λg hg hm=>by
  have:=M.d4 q g hq hg;simp only [ρ] at hm;rcases hm with e|e|e
  ·exact this.2.2.2.2.1 (e▸M.cells.mem)
  ·exact this.2.2.1 e
  ·exact this.2.2.2.2.2 e)
 have kc:=λW (hW:aa [] w W)=>F7 (M.ai hW) ok (hrow.upd hW σ) (hvl.upd hW σ) hA hB hd hin;obtain ⟨a,cap,hv,_⟩:=M.shape hq;obtain ⟨a2,cap2,hv2,_⟩:=hvl;subst hv2;rw [hv] at kc;have h1:=M.h1;have h2:=M.h2;have d:=M.JY hq;rw [hv] at d;have df:=M.Un q;have hcn:=M.cn;have nn:∀x,x≠B.c->x≠B.ba->x∉S.blk A.cs.length->x∉B.c::B.ba::S.blk A.cs.length:=λx h1 h2 h3 hm=>by
  simp only [ρ] at hm;rcases hm with hm|hm|hm
  ·exact h1 hm
  ·exact h2 hm
  ·exact h3 hm
 have n0:B.n0∉B.c::B.ba::S.blk A.cs.length:=nn _ hcn.1 M.d2.2.1 (λhm=>(M.d3 _ hm).1 rfl);have ng:gr∉B.c::B.ba::S.blk A.cs.length:=nn _ hcn.2.1 (Ne.symm M.d2.2.2.2.2) (λhm=>(M.d3 _ hm).2.1 rfl);have r1:∀W,aa (B.c::B.ba::S.blk A.cs.length) w W->W.cell? ⟨B.n0,1,none⟩=some (.pointer (some ⟨B.bt,0,none⟩)):=λW hW=>hW.kept h1 n0;have r2:∀W,aa (B.c::B.ba::S.blk A.cs.length) w W->W.cell? ⟨B.n0,2,none⟩=some (.slice (some ⟨gr,0,none⟩) vs.length cr):=λW hW=>hW.kept h2 n0
 have r3:∀W,aa (B.c::B.ba::S.blk A.cs.length) w W->W.cell? ⟨gr,q,none⟩=some (.slice a (R q).length cap)/\W.frozen? ⟨gr,q,none⟩=false:=λW hW=>⟨hW.kept d ng,hW.aM d ng df⟩
 have zi:(0:Int)<=(q:Int):=ω;have Bd:(q:Int)<(vs.length:Int):=ω;have hgl:=M.EN;have HM:=χ M;have hvl2:=M.Rq;clear M hrow hA hB hd hin hv hcn nn;generalize hC:iQ (bJ A) A.cs.length S.f (R q) L=C at *;generalize hrl:(R q).length=rl at *;generalize hll:L.length=ll at *;clear hC hrl hll
 go_enter Tryz.func177,Tryz.ntmps177
 go_wp2
 go_region_law
  (first
   | (go_simp;go_at_call 185;(with_reducible refine (kc _ β).mono ?_);rintro e w5 ⟨S5,vo,rfl,hS5,xQ,BQ,vS,hb5,hx5,a5,n5,c5,rfl⟩;(have cB:aa (B.c::B.ba::S.blk A.cs.length) w w5:=aa.trans β vS);(have q1:=r1 _ cB);(have q2:=r2 _ cB);obtain ⟨q3,q4⟩:=r3 _ cB))
 all_goals
  go_wp2;go_end0;refine ⟨S5,_,rfl,hS5,xQ.xW q hq _ C.O (BQ.mono (Nat.zero_le _)) (λg hg=>?_),(cB.mono (λy hy=>?_)).setCell (Α σ) _,λg hg=>?_,λg hg=>?_⟩
  ·have hgs:=(BQ.lt g hg).1;have ll:=HM.out.lt;have hw:w.heap.size<=g:=hgs;refine ⟨⟨?_,?_,?_,?_,λhm=>?_,hx5 g hg⟩,λk hk hne e=>?_⟩
   ·have:=ll B.n0 (by simp [BB.blk]);omega
   ·have:=ll B.bt (by simp [BB.blk]);omega
   ·have:=ll B.ba (by simp [BB.blk]);omega
   ·omega
   ·have:=HM.out.cells.lt g hm;omega
   ·have:=HM.out.vQ hk e;omega
  ·simp only [ρ] at hy ⊢;rcases hy with hy|hy|hy
   ·exact Α hy
   ·exact Β (Α hy)
   ·exact Β (Β (Β hy))
  ·exact hb5 g hg
  ·exact (BQ.lt g hg).1
end
theorem aV.row {w:World} {base:Nat} {v:Value} {xs:List Int} (h:aV w base v xs) (hne:xs≠[]):∃g off cap m f,v=.slice (some ⟨g,off,none⟩) xs.length cap/\base<=g/\aJ w g 3 m f/\xs.length<=cap/\cap<=9223372036854775807/\off+cap<=m/\∀j u,xs[j]?=some u->f (off+j)=.int .i64 u:=by
 rcases h with ⟨_,e⟩|⟨g,off,cap,cur,rfl,hb,hg,h1,h2,h3,h4⟩
 ·exact absurd e hne
 ·refine ⟨g,off,cap,cur.size,λj=>cur.getD j undef,rfl,hb,⟨cur,hg,rfl,λj hj=>by simp [hj]⟩,h1,h2,h3,λj u hj=>?_⟩;have:=h4 j u hj;simp [Array.getD_eq_getD_getElem?,this]
theorem aJ.off {w:World} {base g off cap m:Nat} {f:Nat->Value} {ys:List Int} (h:aJ w g 3 m f) (hb:base<=g) (h1:ys.length<=cap) (h2:cap<=9223372036854775807) (h3:off+cap<=m) (h4:∀j u,ys[j]?=some u->f (off+j)=.int .i64 u):aV w base (.slice (some ⟨g,off,none⟩) ys.length cap) ys:=by
 obtain ⟨arr,a1,a2,a3⟩:=h;refine Β ⟨g,off,cap,arr,rfl,hb,a1,h1,h2,ω,λj u hj=>?_⟩;have hjl:j<ys.length:=(List.getElem?_eq_some_iff.1 hj).1;rw [a3 (off+j) ω,h4 j u hj]
theorem zO (w:World) (b:Nat) (x y:Int) (h:w.cell? ⟨b,0,none⟩=some (.int .i64 x)) :
  Calls Tryz.prog 183 #[.int .i64 y,.pointer (some ⟨b,0,none⟩)] w λe w'=>e=.returned (.bool (x == y))/\w'=w:=by
 go_enter Tryz.func183,Tryz.ntmps183
 go_wp2;go_ret;exact ⟨rfl,rfl⟩
theorem G6 (w:World) (F:List Nat) (b:Nat) (v:Value) (l1 l2:List Int) (x:Int) (h:jc w F v (l1++x::l2)) (hn:x∉l1) (hb:w.cell? ⟨b,0,none⟩=some (.int .i64 x)) :
  Calls Tryz.prog 188 #[v,.func (Fn.func 183) #[] #[.pointer (some ⟨b,0,none⟩)]] w λe w'=>e=.returned (.int .i64 (l1.length:Int))/\w'=w:=by
 obtain ⟨a,cap,rfl,hlc,hcp,hp⟩:=h;have HP:=χ hp;clear hp;have hg:∀q,q<l1.length->(l1++x::l2)[q]?=l1[q]?:=λq hq=>Ρ hq;have hx:(l1++x::l2)[l1.length]?=some x:=by rw [ϊ (Θ _)];simp
 have hl:l1.length<(l1++x::l2).length:=σ;generalize l1++x::l2=xs at *;generalize hxl:xs.length=len at *;have HN:=χ (ψ hn (ψ hg hx));have kc:=λy=>zO w b x y hb;clear hn hg hx hb hxl;generalize hk:l1.length=k at *;have HK:=χ hk;clear hk
 go_enter Tryz.func188,Tryz.ntmps188
 go_wp2
 go_loop [8] (λi=>∃q:Nat,q<=k/\i=.int .i64 (q:Int)) (λi=>k+1-(intOf i).toNat)
 case atStart=>exact ⟨0,ω,rfl⟩
 case round=>
  obtain ⟨q,hq,rfl⟩:=hrel;have Zy:(q:Int)<(len:Int):=ω
  by_cases hqk:q<k
  ·obtain ⟨y,nL⟩:∃y,l1[q]?=some y:=⟨l1[q]'(by rw [HK.out];exact hqk),σ⟩;obtain ⟨gb,off,rfl,_,_,hc⟩:=HP.out q y (by rw [HN.out.2.1 q hqk];exact nL);have k1:=kc y;have hxy:(x == y)=false:=by
    have:x≠y:=λe=>HN.out.1 (by rw [e];exact Η nL);simpa using this
   rw [hxy] at k1;clear nL kc
   go_wp2_with ((go_at_call 183;(with_reducible refine (k1).mono ?_);rintro e w9 ⟨rfl,aH⟩;rw [aH];clear aH w9))
   go_round
   case rel=>exact ⟨q+1,ω,by go_num⟩
   case measure=>simp [intOf];omega
  ·obtain rfl:q=k:=ω;obtain ⟨gb,off,rfl,_,_,hc⟩:=HP.out q x HN.out.2.2;have k1:=kc x;rw [show (x == x)=true by simp] at k1;clear kc
   go_wp2_with ((go_at_call 183;(with_reducible refine (k1).mono ?_);rintro e w9 ⟨rfl,aH⟩;rw [aH];clear aH w9))
   go_ret;exact ⟨rfl,rfl⟩
theorem NJ (w:World):(zeroValue 3).run Tryz.prog w=.ok (.int .i64 0) w:=by kernel_rfl
theorem M9 (w:World) (b base:Nat) (v:Value) (l1 l2:List Int) (x:Int) (h:aV w base v (l1++x::l2)) (hn1:x∉l1) (hn2:x∉l2) (hb:w.cell? ⟨b,0,none⟩=some (.int .i64 x)) (hbv:v.ownBlock≠some b) (hlen:(l1++x::l2).length<=1000000) :
  Calls Tryz.prog 182 #[v,.func (Fn.func 183) #[] #[.pointer (some ⟨b,0,none⟩)]] w λe w'=>∃v',e=.returned v'/\aV w' base v' (l1++l2)/\v'.ownBlock=v.ownBlock/\aa v.ownBlock.toList w w'/\∃a n c,v'=.slice a n c:=by
 have ki:=G6 w [] b v l1 l2 x (by
  obtain ⟨a,cap,rfl,h1,h2,h3⟩:=h.shape;refine ⟨a,cap,rfl,h1,h2,λj u hj=>?_⟩;obtain ⟨g,off,rfl,hc⟩:=h3 j u hj
  exact ⟨g,off,rfl,(h.lt g rfl).2,σ,hc⟩) hn1 hb
 obtain ⟨g,off,cap,m,f,rfl,hbg,hR,hlc,hcp,hcm,hf⟩:=h.row σ;have hbg2:b≠g:=λe=>hbv (by rw [e];rfl);have hx1:∀j,j<l1.length->(l1++x::l2)[j]?=l1[j]?:=λj hj=>Ρ hj;have hx2:∀j,l1.length<j->(l1++x::l2)[j]?=l2[j-(l1.length+1)]?:=λj hj=>by
  rw [ϊ ω,show j-l1.length=(j-(l1.length+1))+1 by omega,List.getElem?_cons_succ]
 have hln:(l1++x::l2).length=l1.length+l2.length+1:=ζ;simp only [hln] at hlc hlen ki ⊢;have hy1:∀j,j<l1.length->(l1++l2)[j]?=l1[j]?:=λj hj=>Ρ hj;have hy2:∀j,l1.length<=j->(l1++l2)[j]?=l2[j-l1.length]?:=λj hj=>ϊ hj;have hyl:(l1++l2).length=l1.length+l2.length:=σ;have HF:=χ (ψ hf (ψ hx1 (ψ hx2 (ψ hy1 (ψ hy2 hyl)))));have HR:=χ hR;have HN:=χ hn2;clear h hf hx1 hx2 hy1 hy2 hyl hn1 hn2 hR;have hlt:g<w.heap.size:=HR.out.lt;generalize hk:l1.length=k at *;generalize hl:l2.length=l at *;have HK:=χ (ψ hk hl);have hkm1:((k:Int) == -1)=false:=beq_eq_false_iff_ne.2 ω
 have hwr0:IntKind.i64.wrap ((k:Int)+1)=((k+1:Nat):Int):=by rw [Μ _ ω];omega
 clear hk hl hln hlen hbv
 go_enter Tryz.func182,Tryz.ntmps182
 go_wp2_with ((go_at_call 188;(with_reducible refine (ki).mono ?_);rintro e w9 ⟨rfl,aH⟩;rw [aH];clear aH w9))
 clear ki
 go_loopw [5,6,7] (λs5 s6 _ wr=>∃ (j:Nat) (fj:Nat->Value),s5=.int .i64 ((k+j:Nat):Int)/\s6=.int .i64 ((k+j+1:Nat):Int)/\j<=l/\aJ wr g 3 m fj/\(∀q,q<off+k->fj q=f q)/\(∀q u,q<j->l2[q]?=some u->fj (off+k+q)=.int .i64 u)/\(∀q,off+k+j<=q->fj q=f q)/\aa [g] w wr) (λ_ s6 _ _=>k+l+1-(intOf s6).toNat)
 case atStart=>exact ⟨0,f,σ,σ,ω,HR.out,λq hq=>rfl,λq u hq=>ω,λq hq=>rfl,aa.refl _ _⟩
 case round=>
  obtain ⟨j,fj,rfl,rfl,hj,hRj,hf1,hf2,hf3,hu⟩:=hrel;rename World=>wr;have HJ:=χ (ψ hf1 (ψ hf2 hf3));have HRj:=χ hRj;have HJR:=χ hRj;have hbc:=hu.kept hb (by simp;exact hbg2)
  by_cases hjl:j<l
  ·obtain ⟨y,nL⟩:∃y,l2[j]?=some y:=⟨l2[j]'(by rw [HK.out.2];exact hjl),σ⟩;have c0:=hRj.cellAt (off+(k+j+1)) ω ((hf3 _ ω).trans (HF.out.1 (k+j+1) y (by rw [HF.out.2.2.1 _ ω,show k+j+1-(k+1)=j by omega];exact nL)));have c1:=hRj.cell (off+(k+j)) ω;have f1:=hRj.free (off+(k+j));have hxy:(x == y)=false:=by
    have:x≠y:=λe=>HN.out (by rw [e];exact Η nL);simpa using this
   have kc:=zO wr b x y hbc;rw [hxy] at kc;have hi1:((k+j+1:Nat):Int)<((k+l+1:Nat):Int):=ω;have hi2:((k+j:Nat):Int)<((k+l+1:Nat):Int):=ω;have hw1:IntKind.i64.wrap (((k+j:Nat):Int)+1)=((k+(j+1):Nat):Int):=by rw [Μ _ ω];omega
   have hw2:IntKind.i64.wrap (((k+j+1:Nat):Int)+1)=((k+(j+1)+1:Nat):Int):=by rw [Μ _ ω];omega
   have HY:=χ nL;clear hf1 hf2 hf3 hRj nL;generalize hA:k+j+1=ja at *;generalize hB:k+j=jb at *;generalize hL:k+l+1=jl at *
   go_wp2_with ((go_at_call 183;(with_reducible refine (kc).mono ?_);rintro e w9 ⟨rfl,aH⟩;rw [aH];clear aH w9))
   go_roundw
   case rel=>
    refine ⟨j+1,_,by go_num,by go_num,ω,HRj.out.set (off+jb) _,λq hq=>?_,λq u hq hqu=>?_,λq hq=>?_,hu.setCell (Α σ) _⟩
    ·rw [Γ ω];exact HJ.out.1 q hq
    ·by_cases e:q=j
     ·subst e;rw [Δ ω];rw [HY.out] at hqu;cases hqu;rfl
     ·rw [Γ ω];exact HJ.out.2.1 q u ω hqu
    ·rw [Γ ω];exact HJ.out.2.2 q ω
   case measure=>simp [intOf];omega
  ·obtain rfl:j=l:=ω;have c1:=hRj.cell (off+(k+j)) ω;have f1:=hRj.free (off+(k+j));have hcl:∀ty,(Builtin.clear_ #[77] ty #[.slice (some ⟨g,off+(k+j),none⟩) 1 (cap-(k+j))]).run Tryz.prog wr=.ok (.tuple #[]) (wr.setCell ⟨g,off+(k+j),none⟩ (.int .i64 0)):=λty=>by
    have:=Lib.run_clear_slice wr 77 3 ty (.int .i64 0) Tryz.underlying77 NJ rfl rfl g (off+(k+j)) 1 (cap-(k+j)) ω (λt ht=>by rw [show off+(k+j)+t=off+(k+j) by omega,c1];rfl) (λt ht=>by rw [show off+(k+j)+t=off+(k+j) by omega];exact f1);rw [this]
    rfl
   have HCM:=χ hcm;have hi3:¬ ((k+j+1:Nat):Int)<((k+j+1:Nat):Int):=ω;have hJB:=χ (show k+j=k+j from rfl);clear hf1 hf2 hf3 hRj c1 hcm hbc hb;generalize hB:k+j=jb at *;go_wp2;go_ret;have hR2:=HJR.out.set (off+jb) (.int .i64 0);have hk1:=HK.out.1;have hk2:=HK.out.2;have hlen:(l1++l2).length=jb:=by have:=HF.out.2.2.2.2.2;omega
   have hO:=hR2.off (base:=base) (ys:=l1++l2) (off:=off) (cap:=cap) hbg ω hcp HCM.out (λq u hq=>by
    have Zy:q<(l1++l2).length:=(List.getElem?_eq_some_iff.1 hq).1;rw [Γ ω]
    by_cases e:q<k
    ·rw [HJ.out.1 (off+q) ω];exact HF.out.1 q u (by rw [HF.out.2.1 q ω];rw [HF.out.2.2.2.1 q ω] at hq;exact hq)
    ·have h3:=HF.out.2.2.2.2.1 q ω;have h5:l2[q-k]?=some u:=by rw [←hq,h3]
     have:=HJ.out.2.1 (q-k) u ω h5;rw [show off+k+(q-k)=off+q by omega] at this
     exact this)
   rw [hlen] at hO;exact ⟨_,rfl,hO,rfl,hu.setCell (Α σ) _,_,_,_,rfl⟩
def Xx (w:World) (p:Nat) (FF:List Nat) (A:NS) (st:Nat) (G:BG):Prop:=∃B F gr cr lo S vs,p=B.n0/\FF=B.blk F gr A.cs.length S vs/\gL w B F gr cr lo A st S vs G.R/\S.f=G.F
theorem O9 {l:List Int} {x:Int} (hn:l.Nodup) (hx:x∈l):∃l1 l2,l=l1++x::l2/\x∉l1/\x∉l2/\l.filter (λz=>z != x)=l1++l2:=by
 obtain ⟨l1,l2,rfl⟩:=List.append_of_mem hx;rw [θ,Ζ] at hn;have h1:x∉l1:=λh=>hn.2.2 x h x σ rfl;have h2:x∉l2:=hn.2.1.1;refine ⟨l1,l2,rfl,h1,h2,?_⟩;have f:∀l:List Int,x∉l->l.filter (λz=>z != x)=l:=λl hl=>by
  rw [List.filter_eq_self];intro a ha;simp;intro e;subst e;exact hl ha
 rw [List.filter_append,List.filter_cons_of_neg σ,f l1 h1,f l2 h2]
section
variable {w:World} {B:BB} {F:List Nat} {gr cr lo:Nat} {A:NS} {st:Nat} {S:CS} {vs:List Value} {G:BG}
theorem zA (M:gL w B F gr cr lo A st S vs G.R) (eF:S.f=G.F) {x h:Nat} (X:Ht A G x) (hx:x<A.cs.length) (hr:G.F.u x=-1) (hin:0<(A.c x).i) (hh:(A.c x).i=h) (hq:h<vs.length) :
  Calls Tryz.prog 176 #[.pointer (some ⟨B.n0,0,none⟩),.int .i64 (h:Int),.int .i64 (x:Int)] w λe w'=>e=.returned (.bool true)/\
   Goes (B.blk F gr A.cs.length S vs) w w' (λFF=>Xx w' B.n0 FF (aU A x) (bS st (uO A h x G)) (nP A h x G)):=by
 have ok:=M.cells.ok;obtain ⟨T1,T2,mx,t1,t2,t3,t4,t5⟩:=Co X ok hx hr hin hh;have nd:=(X.rh.row h).nodup;obtain ⟨l1,l2,eR,n1,n2,eL⟩:=O9 nd mx;have hrl:(G.R h).length<=65536:=Χ (qy A.cs.length _ nd (λz hz=>⟨((X.rh.row h).1 z hz).1,((X.rh.row h).1 z hz).2.1⟩)) ok.c1;obtain ⟨w0,hw0⟩:∃w0,w0=w.alloc (.cells #[.int .i64 (x:Int)] 3):=⟨_,rfl⟩;have hs0:w.heap.size<w0.heap.size:=by rw [hw0];simp
 have u0:aa [] w w0:=by rw [hw0];exact (aa.refl _ _).alloc _
 have hb0:w0.cell? ⟨w.heap.size,0,none⟩=some (.int .i64 (x:Int)):=by rw [hw0];simp
 have hlt:=M.lt;have hbx:∀g,(vs.getD h undef).ownBlock=some g->g≠w.heap.size:=λg hg e=>by have:=M.vQ hq hg;omega
 have kd:=λW (hW:aa [] w0 W)=>M9 W w.heap.size 0 (vs.getD h undef) l1 l2 x (by rw [←eR];exact (M.each h hq).upd (u0.trans hW) σ) n1 n2 (hW.was hb0) (λe=>hbx _ e rfl) (by rw [←eR];omega);obtain ⟨a,cap,hv,_⟩:=M.shape hq;have h2:=M.h2;have d:=M.JY hq;rw [hv] at d;have df:=M.Un h;have n0:B.n0∉(vs.getD h undef).ownBlock.toList:=λhm=>(M.d4 h _ hq (by simpa using hm)).1 rfl;have ng:gr∉(vs.getD h undef).ownBlock.toList:=λhm=>(M.d4 h _ hq (by simpa using hm)).2.2.2.1 rfl;have nb:w.heap.size∉(vs.getD h undef).ownBlock.toList:=λhm=>hbx _ (by simpa using hm) rfl
 have r2:∀W,aa (vs.getD h undef).ownBlock.toList w0 W->W.cell? ⟨B.n0,2,none⟩=some (.slice (some ⟨gr,0,none⟩) vs.length cr):=λW hW=>hW.kept (u0.was h2) n0;have r3:∀W,aa (vs.getD h undef).ownBlock.toList w0 W->W.cell? ⟨gr,h,none⟩=some (.slice a (G.R h).length cap)/\W.frozen? ⟨gr,h,none⟩=false:=λW hW=>⟨hW.kept (u0.was d) ng,hW.aM (u0.was d) ng (u0.aM d σ df)⟩
 have r4:∀W,aa (vs.getD h undef).ownBlock.toList w0 W->W.cell? ⟨w.heap.size,0,none⟩=some (.int .i64 (x:Int)):=λW hW=>hW.kept hb0 nb;have zi:(0:Int)<=(h:Int):=ω;have Bd:(h:Int)<(vs.length:Int):=ω;have hgl:=M.EN;have hn0l:=hlt B.n0 (by simp [BB.blk]);have HM:=χ M;have HX:=χ (ψ T1 (ψ t1 (ψ t2 (ψ t3 (ψ t4 (ψ t5 (ψ eL (ψ eF X))))))));have hvl2:=M.Rq;rw [hv] at kd r2 r3 r4;clear M X T1 T2 mx t1 t2 t3 t4 t5 nd eL hbx ok h2 d df n0 ng nb n1 n2 eF hlt;have HV:=χ hv;clear eR hrl;generalize (G.R h).length=rl at *
 go_enter Tryz.func176,Tryz.ntmps176
 go_wp2;rw [←hw0];clear hw0 hb0
 go_cut [20] (λs20 wx=>∃v1,gL wx B F gr cr lo A st S (vs.set h v1) (bH G.R h (l1++l2))/\wx.cell? ⟨w.heap.size,0,none⟩=some (.int .i64 (x:Int))/\aa (gr::(Value.slice a rl cap).ownBlock.toList) w wx/\v1.ownBlock=(Value.slice a rl cap).ownBlock)
 case first=>
  have p2:=r2 _ (aa.refl _ _);obtain ⟨p3,p4⟩:=r3 _ (aa.refl _ _)
  go_region_law
   (first
    | (go_simp;go_at_call 182;(with_reducible refine (kd _ β).mono ?_);rintro e w1 ⟨v1,rfl,oq,hb1,hu1a,a1,n1,c1,rfl⟩;(have hu1:aa (Value.slice a rl cap).ownBlock.toList w0 w1:=aa.trans β hu1a);(have q2:=r2 _ hu1);obtain ⟨q3,q4⟩:=r3 _ hu1;(have q5:=r4 _ hu1)))
  all_goals
   go_wp2
   go_meet
   have hu2:aa (Value.slice a rl cap).ownBlock.toList w w1:=(u0.mono σ).trans hu1;exact ⟨_,HM.out.WO h hq (by rw [hv];exact hu2) _ _ oq (by rw [hv];exact hb1),γ,(hu2.mono (by simp +contextual)).setCell (Α σ) _,hb1⟩
 case rest=>
  obtain ⟨v1,hM2,hb2,hu2,ho2⟩:=hcut;obtain ⟨T1,t1,t2,t3,t4,t5,eL,eF,X⟩:=HX.out;have hvs2:(vs.set h v1).length=vs.length:=Ι;have hfs:mP A.cs.length S.f:=by rw [eF];exact X.fh.f
  have hSk:S.k x=G.F.k x:=by rw [←eF];rfl
  have ksp:=λW (hW:aa [] wc W)=>KA B.bt B.ba lo A.cs.length S x W (hM2.iy.ai hW) hx (by unfold mW;rw [Ν ω];have e:S.u x=-1:=(by rw [←hr,←eF];rfl);simp [e]) (λk hk=>by have:=hfs.tu x hx k hk;omega);have h1:=hM2.h1;have hl2:=hM2.lt;have hbn:w.heap.size∉B.c::B.ba::gr::S.blk A.cs.length:=λhm=>by
   have hl:=HM.out.lt;simp only [ρ] at hm;rcases hm with e|e|e|e
   ·have:=HM.out.cells.lt B.c HM.out.cells.mem;omega
   ·have:=hl B.ba (by simp [BB.blk]);omega
   ·omega
   ·have:=(HM.out.iy.lU e).2;omega
  have hn0:B.n0∉B.c::B.ba::gr::S.blk A.cs.length:=λhm=>by
   have hcn:=HM.out.cn;simp only [ρ] at hm;rcases hm with e|e|e|e
   ·exact hcn.1 e
   ·exact HM.out.d2.2.1 e
   ·exact HM.out.d2.2.2.1 e
   ·exact (HM.out.d3 _ e).1 rfl
  have r1:∀W,aa (B.c::B.ba::gr::S.blk A.cs.length) wc W->W.cell? ⟨B.n0,1,none⟩=some (.pointer (some ⟨B.bt,0,none⟩)):=λW hW=>hW.kept h1 hn0;have r0:∀W,aa (B.c::B.ba::gr::S.blk A.cs.length) wc W->W.cell? ⟨w.heap.size,0,none⟩=some (.int .i64 (x:Int)):=λW hW=>hW.kept hb2 hbn
  have ka:=λ(W:World) (vl:Value) (hM:gL W B F gr cr lo A st (fZ S x) (vs.set h v1) (bH G.R h (l1++l2))) (hvl:jc W (B.c::B.ba::(fZ S x).blk A.cs.length) vl (G.F.k x))=>xV hM (by rw [wT,eF];exact X.fh.f.Nt hx hr) h (by rw [hvs2];exact hq) hvl (by rw [wT,eF,show bH G.R h (l1++l2) h=l1++l2 by simp [bH],←eL];exact t1) (by rw [wT,eF];exact t2) (λz hz=>by rw [show bH G.R h (l1++l2) h=l1++l2 by simp [bH],←eL] at hz;exact t3 z hz) (λz hz=>by rw [show bH G.R h (l1++l2) h=l1++l2 by simp [bH],←eL] at hz;exact t5 z (by rcases hz with hz|hz;exact Α (List.mem_filter.1 hz).1;exact Β hz))
  have pI:=χ hM2;have HB:=χ (show ∀W:World,aa [B.ba] wc W->aN W B.bt B.ba lo A.cs.length (fZ S x)->gL W B F gr cr lo A st (fZ S x) (vs.set h v1) (bH G.R h (l1++l2)) from λW hu hF=>pI.out.dU (hu.mono σ) (pI.out.cells.upd hu (λy hy hm=>by simp at hy;subst hy;exact pI.out.d1.2.2.1 hm)) hF (λg hg=>Α (oN S x _ g hg)))
  have HSUB:=χ (show ∀y,y∈B.c::B.ba::gr::(fZ S x).blk A.cs.length->y∈B.c::B.ba::gr::S.blk A.cs.length from λy hy=>by
   simp only [ρ] at hy ⊢;rcases hy with e|e|e|e
   ·exact Α e
   ·exact Β (Α e)
   ·exact Β (Β (Α e))
   ·exact Β (Β (Β (oN S x _ y e))))
  have Tg:=χ (show ∀y,y∈B.c::B.ba::(fZ S x).blk A.cs.length->y<wc.heap.size from λy hy=>by
   simp only [ρ] at hy;rcases hy with e|e|e
   ·subst e;exact hM2.cells.lt _ hM2.cells.mem
   ·subst e;exact hM2.iy.row.lt
   ·exact (hM2.iy.lU (oN S x _ y e)).2)
  clear hM2 T1 t1 t2 t3 t4 t5 eL hfs X h1 hb2 eF;rw [hSk] at ksp;go_wp2
  go_region_held3 (aa (B.c::B.ba::gr::S.blk A.cs.length) wc) (exact ν)
   (first
    | ((go_at_call 184;(with_reducible refine (ksp _ β).mono ?_));rintro e w3 ⟨v3,rfl,hL3,Sn,hu3⟩;(have QI:aa [B.ba] wc w3:=aa.trans β hu3);(have Y3:aa (B.c::B.ba::gr::S.blk A.cs.length) wc w3:=QI.mono σ);(have lq:=HB.out _ QI Sn);obtain ⟨a3,c3,hv3,hl3,hc3⟩:=(show ∃a c,v3=.slice a (G.F.k x).length c/\True/\True from (by obtain ⟨a,c,e,_⟩:=hL3.open;exact ⟨a,c,e,trivial,trivial⟩));subst hv3;(have ka3:=λW (hW:aa [] w3 W)=>ka W _ (lq.ai hW) (jc.upd (jc.U7 (F:=B.c::B.ba::(fZ S x).blk A.cs.length) hL3 (λg hg=>Ψ (Tg.out g hg) (aa.size (S:=[]) (w:=wc) β))) hW σ)))
    | ((go_at_call 177;(with_reducible refine (ka3 _ β).mono ?_));rintro e w4 ⟨S4,vo,rfl,Wo,xg,jJ,hb4,hx4⟩;(have WU:aa (B.c::B.ba::gr::S.blk A.cs.length) wc w4:=aa.trans ν (jJ.mono HSUB.out))))
  have h04:=xg.h0;have hnF:=HM.out.d1.1;have Nj:w.heap.size∉F:=λhm=>by have:=HM.out.cells.lt _ hm;omega
  have r5:∀W,aa F w4 W->W.cell? ⟨B.n0,0,none⟩=some (.pointer (some ⟨B.c,0,none⟩)):=λW hW=>hW.kept h04 hnF;have r6:∀W,aa F w4 W->W.cell? ⟨w.heap.size,0,none⟩=some (.int .i64 (x:Int)):=λW hW=>hW.kept (r0 _ WU) Nj;have O4:=λW (hW:aa [] w4 W)=>fO (xg.cells.ai hW) x ((ay _ _).2 ⟨hx,hin⟩);have LM:=χ xg;clear xg h04 r0 r1 ka ksp ka3 lq hL3 Sn;go_wp2
  go_region_held3 (aa F w4) (exact ν)
   (first
    | ((go_at_call 134;(with_reducible refine (O4 _ β).mono ?_));rintro e w5 ⟨rfl,QD,cB⟩;(have XR:aa F w4 w5:=aa.trans ν cB)))
  go_wp2;go_ret;obtain ⟨T1,t1,t2,t3,t4,t5,eL,eF,X⟩:=HX.out;have dl:=dK A (x:Int);have dh:=gM A (x:Int);have xQ:=LM.out.dV XR QD (λy hy=>Α hy) dl (by rw [dh]);have eR1:bH G.R h (l1++l2) h=l1++l2:=by simp [bH]
  have eT:(gG G h x).R=bH G.R h (l1++l2):=by unfold gG;rw [eL]
  have eTF:(gG G h x).F=(fZ S x).f:=by rw [wT,eF];rfl
  have e1:(nP A h x G).R=bH (bH G.R h (l1++l2)) h (iQ (bJ A) A.cs.length (fZ S x).f (bH G.R h (l1++l2) h) (G.F.k x)).O:=by unfold nP sN;rw [eT,eTF]
  have e2:(nP A h x G).F=S4.f:=by rw [Wo];unfold nP sN;rw [eT,eTF]
  have e3:uO A h x G=(iQ (bJ A) A.cs.length (fZ S x).f (bH G.R h (l1++l2) h) (G.F.k x)).q:=by unfold uO;rw [eT,eTF]
  have uw:aa (B.blk F gr A.cs.length S vs) w w5:=by
   have m1:∀y,y∈gr::(Value.slice a rl cap).ownBlock.toList->y∈B.blk F gr A.cs.length S vs:=λy hy=>by
    simp only [BB.blk,ρ,τ] at hy ⊢;rcases hy with e|e
    ·exact Β (Β (Β (Α e)))
    ·exact Β (Β (Β (Β (Β (Β (iJ.2 ⟨h,hq,by rw [HV.out];simpa using e⟩))))))
   have m2:∀y,y∈B.c::B.ba::gr::S.blk A.cs.length->y∈B.blk F gr A.cs.length S vs:=λy hy=>by
    simp only [BB.blk,ρ,τ] at hy ⊢;rcases hy with e|e|e|e
    ·exact Β (Β (Β (Β (Α (by rw [e];exact HM.out.cells.mem)))))
    ·exact Β (Β (Α e))
    ·exact Β (Β (Β (Α e)))
    ·exact Β (Β (Β (Β (Β (Α e)))))
   have m3:∀y,y∈F->y∈B.blk F gr A.cs.length S vs:=λy hy=>by simp [BB.blk,hy]
   exact ((hu2.mono m1).trans (WU.mono m2)).trans (XR.mono m3)
  refine ⟨rfl,B.blk F gr (aU A x).cs.length S4 ((vs.set h v1).set h vo),⟨B,F,gr,cr,lo,S4,(vs.set h v1).set h vo,rfl,rfl,by rw [e1,e3];exact xQ,e2.symm⟩,uw,λy hy=>?_⟩;have hsz:=hu2.size;rw [dl] at hy;simp only [BB.blk,ρ,τ] at hy ⊢;rcases hy with e|e|e|e|e|e|e
  ·exact Α (Α e)
  ·exact Α (Β (Α e))
  ·exact Α (Β (Β (Α e)))
  ·exact Α (Β (Β (Β (Α e))))
  ·exact Α (Β (Β (Β (Β (Α e)))))
  ·rcases hb4 y e with h'|h'
   ·exact Α (Β (Β (Β (Β (Β (Α (oN S x _ y h')))))))
   ·right;have:=Y3.size;omega
  ·obtain ⟨k,hk,hk2⟩:=iJ.1 e;rw [Ι,Ι] at hk;rw [rG,rG] at hk2
   by_cases ek:k=h
   ·rw [Δ ⟨ek,by rw [Ι];exact hq⟩] at hk2;right;have:=hx4 y hk2;have:=Y3.size;omega
   ·rw [Γ (λh=>ek h.1),Γ (λh=>ek h.1)] at hk2;exact Α (Β (Β (Β (Β (Β (Β (iJ.2 ⟨k,hk,hk2⟩)))))))
end
section
variable {w:World} {B:BB} {F:List Nat} {gr cr lo:Nat} {A:NS} {st:Nat} {S:CS} {vs:List Value} {G:BG} {R:Nat->List Int}
theorem gL.setSt {w':World} {st':Nat} (h:gL w B F gr cr lo A st S vs R) (hu:aa [B.c] w w') (hC:aB w' B.c F A st'):gL w' B F gr cr lo A st' S vs R:=
 h.dV (hu.mono (λx hx=>by simp at hx;subst hx;exact h.cells.mem)) hC (λx hx=>Α hx) rfl rfl
def BJ (A:NS) (G:BG) (h:Int):Nat:=if bA A h then (G.R h.toNat).length-1 else 0
theorem EM (M:gL w B F gr cr lo A st S vs G.R) (I:Ch A G) (h:Int) :
  Calls Tryz.prog 171 #[.pointer (some ⟨B.n0,0,none⟩),.int .i64 h] w λe w'=>e=.returned (.tuple #[.int .i64 (pK (dM A h)),.bool (dM A h).isSome])/\gL w' B F gr cr lo A (bS st (BJ A G h)) S vs G.R/\aa [B.c] w w':=by
 have hst:=M.cells.mH;cases hh:bA A h with
 | false=>
  have e:dM A h=none:=by
   by_cases h1:0<h
   ·exact (jg h1).2 (KJ M.cells.ok hh)
   ·exact nH h1
  have e2:BJ A G h=0:=by unfold BJ;rw [hh];rfl
  rw [e,e2,fB hst];have kr:=Rm M h hh;have HM:=χ M;clear M I hh e e2
  go_enter Tryz.func171,Tryz.ntmps171
  go_wp2_with ((go_at_call 178;(with_reducible refine (kr).mono ?_);rintro e w9 ⟨rfl,aH⟩;rw [aH];clear aH w9))
  go_ret2;exact ⟨rfl,HM.out,aa.refl _ _⟩
 | true=>
  obtain ⟨q,rfl,hq1,hq⟩:=M.hq hh;have e2:BJ A G (q:Int)=(G.R q).length-1:=by unfold BJ;rw [hh];simp
  obtain ⟨a,cap,hv,hl1,hl2⟩:=M.shape hq;have kr:=Pd M q hh hv;have hsl:jc w [B.c] (vs.getD q undef) (G.R q):=(M.each q hq).sl (λg hg hm=>by simp at hm;subst hm;exact (M.d4 q _ hq hg).2.2.2.2.1 M.cells.mem);rw [hv] at hsl;rw [e2];cases hR:G.R q with
  | nil=>
   rw [IB I hq1 hR];rw [hR] at kr hsl;simp only [List.length_nil] at kr ⊢;rw [fB hst];have HM:=χ M;clear M I hh hR e2 hv hsl
   go_enter Tryz.func171,Tryz.ntmps171
   go_wp2_with ((go_at_call 178;(with_reducible refine (kr).mono ?_);rintro e w9 ⟨rfl,aH⟩;rw [aH];clear aH w9))
   go_ret2;exact ⟨rfl,HM.out,aa.refl _ _⟩
  | cons x t=>
   obtain ⟨m,hb,hm,_⟩:=Pe I hq1 hR;rw [hm];rw [hR] at kr hsl hl1;simp only [Ω] at kr hsl hl1 ⊢;have hin:∀z,z∈x::t->∃y:Nat,z=y/\bR A z=true:=λz hz=>by
    obtain ⟨y,e,_,i,_⟩:=M8 I (h:=q) (z:=z) (by rw [hR];exact hz);exact ⟨y,e,i⟩
   obtain ⟨g,off,rfl,hgl,sZ,hc0⟩:=hsl.head;have yX:=(show jc w [B.c] (.slice (some ⟨g,off,none⟩) (t.length+1) cap) (x::t) from hsl).tail;have hsr:=λW=>uU W (some ⟨g,off,none⟩) (t.length+1) cap ω ω;obtain ⟨a3,yg⟩:=pg (some ⟨g,off,none⟩) (t.length+1) cap;rw [yg] at hsr yX;simp only [Nat.add_sub_cancel] at hsr yX ⊢;have h0:=M.h0;have hn0:B.n0∉[B.c]:=by simp;exact M.cn.1
   have HM:=χ M;have HT:=χ yX;have HI:=χ (ψ hin hb);have hC:=M.cells;have hz:bS st 0=st:=fB hst;clear M I hh hR e2 hv hsl yX hin hb hm yg;generalize htl:t.length=tl at *;have HTL:=χ htl;have hne0:((tl:Int)+1 == 0)=false:=beq_eq_false_iff_ne.2 ω;clear htl
   go_enter Tryz.func171,Tryz.ntmps171
   go_wp2_with ((go_at_call 178;(with_reducible refine (kr).mono ?_);rintro e w9 ⟨rfl,aH⟩;rw [aH];clear aH w9))
   go_loopw [7,22] (λs7 s22 wr=>∃ (j:Nat) (b:Int),j<=tl/\s22=.int .i64 (j:Int)/\s7=.int .i64 b/\j5 (bJ A) b (t.drop j)=j5 (bJ A) x t/\(∃y:Nat,b=y/\bR A b=true)/\aB wr B.c F A (bS st j)/\aa [B.c] w wr) (λ_ s22 _=>tl-(intOf s22).toNat)
   case atStart=>exact ⟨0,x,ω,rfl,rfl,σ,HI.out.1 x σ,by rw [hz];exact hC,aa.refl _ _⟩
   case round=>
    obtain ⟨j,b,hj,rfl,rfl,hbb,hib,hCj,hu⟩:=hrel;rename World=>wr
    by_cases hjt:j<tl
    ·obtain ⟨y,nL⟩:∃y,t[j]?=some y:=⟨t[j]'(by rw [HTL.out];exact hjt),σ⟩;have hd:t.drop j=y::t.drop (j+1):=by
      obtain ⟨hl,e⟩:=List.getElem?_eq_some_iff.1 nL;rw [ϛ hl,e]
     obtain ⟨a4,c4,e4,_,_,h4⟩:=HT.out;have ea:a3=a4:=by injection e4
     subst ea;obtain ⟨g4,o4,rfl,_,hg4,hc4⟩:=h4 j y nL;have Zw:=hu.kept hc4 hg4;obtain ⟨yn,rfl,Zk⟩:=HI.out.1 y (Λ _ (Η nL));obtain ⟨bn,rfl,hbn⟩:=hib;have ka:=gW hCj yn bn Zk hbn;have h05:=hu.kept h0 hn0;have IW:(j:Int)<(tl:Int):=ω;have hw1:IntKind.i64.wrap ((j:Int)+1)=(j:Int)+1:=Μ _ ω;have eah:bJ A (yn:Int) (bn:Int)=decide (dO A yn bn):=by rw [jN,Zk,hbn];simp
     have hnx:∀b':Int,b'=(if bJ A (yn:Int) (bn:Int) then (yn:Int) else (bn:Int))->j5 (bJ A) b' (t.drop (j+1))=j5 (bJ A) x t:=λb' e=>by rw [←hbb,hd,e];rfl
     have HN:=χ (ψ hnx (ψ Zk hbn));have hse:bS (bS st j) 1=bS st (j+1):=iV st j 1;rw [←eah] at ka;clear hCj hbb hd h4 nL hc4 Zk hbn eah hnx e4;cases hab:bJ A (yn:Int) (bn:Int) with
     | true=>
      rw [hab] at ka;have HAB:=χ hab;clear hab
      go_wp2_with ((go_at_call 164;(with_reducible refine (ka).mono ?_));rintro e w2 ⟨rfl,hC2,hu2⟩)
      go_roundw
      case rel=>exact ⟨j+1,yn,ω,by go_num,rfl,HN.out.1 _ (by rw [HAB.out];rfl),⟨yn,rfl,HN.out.2.1⟩,by rw [←hse];exact hC2,hu.trans hu2⟩
      case measure=>simp [intOf];omega
     | false=>
      rw [hab] at ka;have HAB:=χ hab;clear hab
      go_wp2_with ((go_at_call 164;(with_reducible refine (ka).mono ?_));rintro e w2 ⟨rfl,hC2,hu2⟩)
      go_roundw
      case rel=>exact ⟨j+1,bn,ω,by go_num,rfl,HN.out.1 _ (by rw [HAB.out];rfl),⟨bn,rfl,HN.out.2.2⟩,by rw [←hse];exact hC2,hu.trans hu2⟩
      case measure=>simp [intOf];omega
    ·obtain rfl:j=tl:=ω;have hbf:b=(m:Int):=by
      rw [List.drop_of_length_le (by rw [HTL.out];omega)] at hbb;have e:j5 (bJ A) b []=b:=rfl;rw [e,HI.out.2] at hbb;exact hbb
     have HB:=χ hbf;have HC:=χ hCj;clear hbb hib hbf hCj;go_wp2;go_ret2;exact ⟨by rw [HB.out];rfl,HM.out.setSt hu HC.out,hu⟩
end
def Cv (w:World) (p:Nat) (FF:List Nat) (A:NS) (st:Nat) (G:BG):Prop:=Xx w p FF A st G/\Ch A G
theorem PK {A:NS} {G:BG} (I:Ch A G) (ok:A.Ok) {q:Int} {m:Nat} (hm:dM A q=some m):∃k:Nat,q=k/\1<=k/\bA A q=true/\m<A.cs.length/\G.F.u m=-1/\(A.c m).i=k:=by
 have hq:0<q:=by
  apply Ϙ;intro h;rw [nH h] at hm;cases hm
 obtain ⟨k,rfl⟩:∃k:Nat,q=k:=⟨q.toNat,ω⟩;have hf:=(gP hq).1 hm;have hh:bA A (k:Int)=true:=by
  have:=jB ok ((ay A m).2 ⟨hf.1,by rw [hf.2.1];omega⟩);rw [π,hf.2.1] at this;exact this
 cases hR:G.R k with
 | nil=>rw [IB I ω hR] at hm;cases hm
 | cons x t=>
  obtain ⟨m',_,h2,h3,h4,h5⟩:=Pe I (show 1<=k by omega) hR;rw [hm] at h2;cases h2;exact ⟨k,rfl,ω,hh,h3,h4,h5⟩
def Ps (A:NS) (q:Int) (G:BG):Nat:=BJ A G q+(match dM A q with|some m=>uO A q.toNat m G|none=>0)
def MQ (A:NS) (q:Int) (G:BG):BG:=match dM A q with|some m=>nP A q.toNat m G|none=>G
section
variable {w:World} {p:Nat} {FF:List Nat} {A:NS} {st:Nat} {G:BG}
theorem BF (h:Cv w p FF A st G) (q:Int) :
  Calls Tryz.prog 167 #[.pointer (some ⟨p,0,none⟩),.int .i64 q] w λe w'=>e=.returned (.tuple #[.int .i64 (pK (dM A q)),.bool (dM A q).isSome])/\Goes FF w w' (λBD=>Cv w' p BD (pQ A q) (bS st (Ps A q G)) (MQ A q G)):=by
 obtain ⟨⟨B,F,gr,cr,lo,S,vs,rfl,rfl,M,eF⟩,I⟩:=h;have km:=EM M I q;have om:∀y,y∈[B.c]->y∈B.blk F gr A.cs.length S vs:=λy hy=>by
  simp at hy;subst hy;simp [BB.blk,M.cells.mem]
 have hst:=M.cells.mH;cases hm:dM A q with
 | none=>
  rw [hm] at km;simp only [pK,Option.isSome_none] at km ⊢;have e1:Ps A q G=BJ A G q:=by unfold Ps;rw [hm];rfl
  have e2:MQ A q G=G:=by unfold MQ;rw [hm]
  have e3:pQ A q=A:=by unfold pQ;rw [hm]
  rw [e1,e2,e3];have HI:=χ (ψ I (ψ eF om));clear M I hm e1 e2 e3 eF om
  go_enter Tryz.func167,Tryz.ntmps167
  go_wp2_with ((go_at_call 171;(with_reducible refine (km).mono ?_));rintro e w1 ⟨rfl,hM1,hu1⟩)
  go_ret2;exact ⟨rfl,Goes.stay ⟨⟨B,F,gr,cr,lo,S,vs,rfl,rfl,hM1,HI.out.2.1⟩,HI.out.1⟩ (hu1.mono HI.out.2.2)⟩
 | some m=>
  rw [hm] at km;simp only [pK,Option.isSome_some] at km ⊢;obtain ⟨k,rfl,hk1,hh,m1,m2,m3⟩:=PK I M.cells.ok hm;have e1:Ps A (k:Int) G=BJ A G (k:Int)+uO A k m G:=by unfold Ps;rw [hm];simp
  have e2:MQ A (k:Int) G=nP A k m G:=by unfold MQ;rw [hm];simp
  have e3:pQ A (k:Int)=aU A (m:Int):=by unfold pQ;rw [hm]
  rw [e1,e2,e3];obtain ⟨k',hk',_,hkv⟩:=M.hq hh;obtain rfl:k=k':=ω;have X:=I.x m1;have kt:=λW (hM:gL W B F gr cr lo A (bS st (BJ A G (k:Int))) S vs G.R)=>zA hM eF X m1 m2 (by rw [m3];omega) m3 hkv;have T:=(Co X M.cells.ok m1 m2 (by rw [m3];omega) m3).1;have HI:=χ (ψ T om);clear M I hm e1 e2 e3 eF om X T m1 m2 m3 hh hk'
  go_enter Tryz.func167,Tryz.ntmps167
  go_wp2_with (first
   | ((go_at_call 171;(with_reducible refine (km).mono ?_));rintro e w1 ⟨rfl,hM1,hu1⟩;(have kt1:=kt _ hM1);(have hs1:=hu1.size))
   | ((go_at_call 176;(with_reducible refine (kt1).mono ?_));rintro e w2 ⟨rfl,FF2,hK2,hu2,hf2⟩)
   | fail)
  go_ret2;rw [iV] at hK2;refine ⟨rfl,FF2,⟨hK2,HI.out.1⟩,(hu1.mono HI.out.2).trans hu2,λy hy=>?_⟩;rcases hf2 y hy with h'|h'
  ·exact Α h'
  ·exact Β ω
theorem wM {B:BB} {F:List Nat} {gr n:Nat} {S:CS} {vs:List Value}:∀y,y∈F->y∈B.blk F gr n S vs:=λy hy=>by simp [BB.blk,hy]
theorem KY {R:Nat->List Int} {a b:Nat} (h:a≠b) (O X:List Int):bH (bH R a O) b X=bH (bH R b X) a O:=by
 funext k
 unfold bH
 by_cases e:k=b
 ·rw [Δ e,Γ (λe2=>h ω),Δ e]
 ·rw [Γ e]
  by_cases e2:k=a
  ·rw [Δ e2,Δ e2]
  ·rw [Γ e2,Γ e2,Γ e]
theorem BN {w:World} {B:BB} {F F':List Nat} {gr n:Nat} {S S':CS} {vs:List Value} {q:Nat} {vo:Value} (hF:∀y,y∈F'->y∈F) (hb:∀g,g∈S'.blk n->g∈S.blk n\/w.heap.size<=g) (hv:∀g,vo.ownBlock=some g->w.heap.size<=g) :
  ∀y,y∈B.blk F' gr n S' (vs.set q vo)->y∈B.blk F gr n S vs\/w.heap.size<=y:=λy hy=>by
 simp only [BB.blk,ρ,τ] at hy ⊢;rcases hy with e|e|e|e|e|e|e
 ·exact Α (Α e)
 ·exact Α (Β (Α e))
 ·exact Α (Β (Β (Α e)))
 ·exact Α (Β (Β (Β (Α e))))
 ·exact Α (Β (Β (Β (Β (Α (hF y e))))))
 ·rcases hb y e with h'|h'
  ·exact Α (Β (Β (Β (Β (Β (Α h'))))))
  ·exact Β h'
 ·obtain ⟨k,hk,hk2⟩:=iJ.1 e;rw [Ι] at hk;rw [rG] at hk2
  by_cases ek:k=q/\q<vs.length
  ·rw [Δ ek] at hk2;exact Β (hv y hk2)
  ·rw [Γ ek] at hk2;exact Α (Β (Β (Β (Β (Β (Β (iJ.2 ⟨k,hk,hk2⟩)))))))
theorem Sq {w:World} {B:BB} {F:List Nat} {gr cr lo:Nat} {S:CS} {vs:List Value} {R:Nat->List Int} (M:gL w B F gr cr lo A st S vs R):∀y,y∈B.c::B.ba::gr::S.blk A.cs.length->y∈B.blk F gr A.cs.length S vs:=λy hy=>by
 simp only [BB.blk,ρ,τ] at hy ⊢;rcases hy with e|e|e|e
 ·exact Β (Β (Β (Β (Α (by rw [e];exact M.cells.mem)))))
 ·exact Β (Β (Α e))
 ·exact Β (Β (Β (Α e)))
 ·exact Β (Β (Β (Β (Β (Α e)))))
theorem DU (h:Cv w p FF A st G) (q x:Nat) (k s:Int) (hk:-9223372036854775808<=k/\k<=9223372036854775807/\0<=s/\s<=18446744073709551615) (hB:nX A q x=true) :
  Calls Tryz.prog 168 #[.pointer (some ⟨p,0,none⟩),.int .i64 (q:Int),.int .i64 (x:Int),.agg #[.int .i64 k,.int .u64 s]] w λe w'=>e=.returned (.bool true)/\
   Goes FF w w' (λBD=>Cv w' p BD (aG A q x k s) (bS st (Sb (aG A q x k s) q x G)) (MU (aG A q x k s) q x G)):=by
 obtain ⟨⟨B,F,gr,cr,lo,S,vs,rfl,rfl,M,eF⟩,I⟩:=h;have ok:=M.cells.ok;obtain ⟨I2,_,t2,t3,t4,hcs⟩:=VO (h:=q) (x:=x) k s I ok hB;have iN:(aG A q x k s).hs.length=A.hs.length:=by unfold aG;split;rfl;rfl
 have N9:=((dP _ _ _).1 hB).1;obtain ⟨q',e,hq1,Zj⟩:=M.hq N9;obtain rfl:q=q':=ω;have u1:aa [] w (w.alloc (.cells #[.int .i64 k,.int .u64 s] 97)):=(aa.refl _ _).alloc _;have kp:=λW (hW:aa [] (w.alloc (.cells #[.int .i64 k,.int .u64 s] 97)) W)=>lS (M.cells.ai (u1.trans hW)) q x k s hk hB;have h0:=M.h0;have Nj:B.n0∉F:=M.d1.1;have hsz:w.heap.size∉F:=λhm=>by have:=M.cells.lt _ hm;omega
 have r0:∀W,aa F (w.alloc (.cells #[.int .i64 k,.int .u64 s] 97)) W->W.cell? ⟨B.n0,0,none⟩=some (.pointer (some ⟨B.c,0,none⟩)):=λW hW=>hW.kept (u1.was h0) Nj;have r1:∀W,aa F (w.alloc (.cells #[.int .i64 k,.int .u64 s] 97)) W->W.cell? ⟨w.heap.size,0,none⟩=some (.int .i64 k):=λW h=>h.kept σ hsz;have r2:∀W,aa F (w.alloc (.cells #[.int .i64 k,.int .u64 s] 97)) W->W.cell? ⟨w.heap.size,1,none⟩=some (.int .u64 s):=λW h=>h.kept σ hsz;have hrow:=I.rh.row q
 have ka:=λ(W:World) (hM:gL W B F gr cr lo (aG A q x k s) st S vs G.R) (vl:Value) (hvl:jc W (B.c::B.ba::S.blk (aG A q x k s).cs.length) vl [(x:Int)])=>xV hM (by rw [hcs,eF];exact I.fh.f) q Zj hvl (by rw [hcs,eF];exact hrow) (by rw [hcs,eF];exact t2) t3 t4;have HM:=χ M;have HI:=χ (ψ I2 (ψ eF (ψ hcs iN)));clear M I ok I2 t2 t3 t4 hcs iN eF hrow h0 hB;generalize hA':aG A q x k s=A' at *
 go_enter Tryz.func168,Tryz.ntmps168
 go_wp2
 go_region_held3 (aa F (w.alloc (.cells #[.int .i64 k,.int .u64 s] 97))) (exact ν)
  (first
   | ((go_at_call 138;(with_reducible refine (kp _ β).mono ?_));rintro e w1 ⟨rfl,gK,hu1⟩;(have hu2:aa F (w.alloc (.cells #[.int .i64 k,.int .u64 s] 97)) w1:=ν)))
 have uF:aa F w w1:=(u1.mono σ).trans hu2;have hM1:=HM.out.dV uF gK (λy hy=>Α hy) HI.out.2.2.1 HI.out.2.2.2;have hsz1:=uF.size;have hlt1:∀y,y∈B.c::B.ba::S.blk A'.cs.length->y<w1.heap.size:=λy hy=>by
  simp only [ρ] at hy;rcases hy with e|e|e
  ·subst e;exact hM1.cells.lt _ hM1.cells.mem
  ·subst e;exact hM1.iy.row.lt
  ·exact (hM1.iy.lU e).2
 have TB:=λ(W:World) (hW:aa [] w1 W) (vl:Value)=>ka W (hM1.ai hW) vl;have HL:=χ hlt1;clear kp r0 r1 r2 hM1 hlt1 ka
 go_wp2_with (first
  | ((go_at_call 177;(with_reducible refine (TB _ β _ ((aV.lit w1 0 (x:Int) (Nat.zero_le _)).sl (λg hg hm=>by have:=HL.out g hm;simp [Value.ownBlock] at hg;omega))).mono ?_));rintro e w2 ⟨S2,vo,rfl,hS2,hM2,hu3,hb2,hx2⟩)
  | fail)
 go_ret;have eF:=HI.out.2.1;have hcs:=HI.out.2.2.1;have uw:aa (B.blk F gr A.cs.length S vs) w w2:=by
  refine ((uF.mono wM).alloc _).trans (hu3.mono (λy hy=>?_));rw [hcs] at hy;exact Sq HM.out y hy
 refine ⟨rfl,B.blk F gr A'.cs.length S2 (vs.set q vo),⟨⟨B,F,gr,cr,lo,S2,_,rfl,rfl,by unfold Sb MU sN;rw [←eF];exact hM2,by rw [hS2,eF];rfl⟩,HI.out.1⟩,uw,λy hy=>?_⟩;rw [hcs] at hy hb2;exact BN (w:=w) (λ_ h=>h) (λg hg=>(hb2 g hg).imp id (λh=>by simp at h;omega)) (λg hg=>by have:=hx2 g hg;simp at this;omega) y hy
theorem JS (h:Cv w p FF A st G) (a b:Nat) (hB:fQ A a b=true) :
  Calls Tryz.prog 170 #[.pointer (some ⟨p,0,none⟩),.int .i64 (a:Int),.int .i64 (b:Int)] w λe w'=>e=.returned (.bool true)/\
   Goes FF w w' (λBD=>Cv w' p BD (ah A a b) (bS st (Ib (ah A a b) a b G)) (xG (ah A a b) a b G)):=by
 obtain ⟨⟨B,F,gr,cr,lo,S,vs,rfl,rfl,M,eF⟩,I⟩:=h;have ok:=M.cells.ok;obtain ⟨I2,_,t3,t4⟩:=Qg I ok hB;have hcs:=dA A (a:Int) (b:Int);have iN:(ah A (a:Int) (b:Int)).hs.length=A.hs.length:=by unfold ah;split<;>simp
 obtain ⟨j1,j2,j3⟩:=(cO _ _ _).1 hB;obtain ⟨a',e,ha1,hav⟩:=M.hq j1;obtain rfl:a=a':=ω;obtain ⟨b',e',hb1,hbv⟩:=M.hq j2;obtain rfl:b=b':=ω;have hab:a≠b:=λe=>j3 (by rw [e]);have kj:=jQ M.cells a b hB;have h0:=M.h0;obtain ⟨ab,YU,hvb,_⟩:=M.shape hbv;have hrow:=I.rh.row
 have ka:=λ(W:World) (hM:gL W B F gr cr lo (ah A a b) st S vs G.R)=>xV hM (by rw [hcs,eF];exact I.fh.f) a hav (vl:=vs.getD b undef) ((hM.each b hbv).sl (λg hg hm=>by
   have:=hM.d4 b g hbv hg;simp only [ρ] at hm;rcases hm with e|e|e
   ·exact this.2.2.2.2.1 (e▸hM.cells.mem)
   ·exact this.2.2.1 e
   ·exact this.2.2.2.2.2 e)) (by rw [hcs,eF];exact hrow a) (by rw [hcs,eF];exact hrow b) t3 t4
 rw [hvb] at ka;have hvl:=M.Rq;have hbI:(b:Int)<(vs.length:Int):=ω;have hb0:(0:Int)<=(b:Int):=ω;have HM:=χ M;have HI:=χ (ψ I2 (ψ eF (ψ hcs (ψ iN hvb))));clear M I ok I2 t3 t4 hcs iN eF hrow hB j1 j2 j3 e e' hvb;generalize hA':ah A (a:Int) (b:Int)=A' at *;generalize hrb:(G.R b).length=rb at *
 go_enter Tryz.func170,Tryz.ntmps170
 go_wp2_with (first
  | ((go_at_call 141;(with_reducible refine (kj).mono ?_));rintro e w1 ⟨rfl,gK,hu1⟩;(have hM1:=HM.out.dV hu1 gK (λy hy=>Α hy) HI.out.2.2.1 HI.out.2.2.2.1);(have TB:=ka _ hM1);(have h21:=hM1.h2);(have d1:=hM1.JY hbv);rw [HI.out.2.2.2.2] at d1;(have nC:=χ hM1);clear hM1 ka)
  | ((go_at_call 177;(with_reducible refine (TB).mono ?_));rintro e w2 ⟨S2,vo,rfl,hS2,hM2,hu2,hb2,hx2⟩;(have h22:=hM2.h2);rw [Ι] at h22;(have f22:=hM2.Un b);(have d22:=hM2.JY (q:=b) (by rw [Ι];exact hbv)))
  | fail)
 go_ret;have eF:=HI.out.2.1;have hcs:=HI.out.2.2.1;have lq:=hM2.xW b (by rw [Ι];exact hbv) (.slice none 0 0) [] (aV.nil _ _) (λg hg=>by cases hg);have eR:(qz G b).R a=G.R a:=by unfold qz bH;simp only [Γ hab]
 have e1:bH (bH G.R a (iQ (bJ A') A'.cs.length S.f (G.R a) (G.R b)).O) b []=(xG A' a b G).R:=by
  unfold xG sN;rw [eR,KY hab,eF]
  rfl
 rw [e1] at lq;have uw:aa (B.blk F gr A.cs.length S vs) w w2:=by
  refine (hu1.mono wM).trans (hu2.mono (λy hy=>?_));rw [hcs] at hy;exact Sq HM.out y hy
 have hsz:=hu1.size;refine ⟨rfl,B.blk F gr A'.cs.length S2 ((vs.set a vo).set b (.slice none 0 0)),⟨⟨B,F,gr,cr,lo,S2,_,rfl,rfl,by unfold Ib;rw [←eF];exact lq,by rw [hS2,eF];unfold xG sN;rw [eR];rfl⟩,HI.out.1⟩,uw.setCell (Α (by simp [BB.blk])) _,λy hy=>?_⟩;rw [hcs] at hy hb2;rcases BN (w:=w) (λ_ h=>h) (λg hg=>Α hg) (λg hg=>by cases hg) y hy with h'|h'
 ·exact BN (w:=w) (λ_ h=>h) (λg hg=>(hb2 g hg).imp id (λh=>ω)) (λg hg=>by have:=hx2 g hg;omega) y h'
 ·exact Β h'
end
end Go.Proofs.YtnpdakpagnpanaaGreat
namespace Go.Proofs.YtnpdakpagnpanaaGreat
def gX (hp:Nat->Bool) (ct x:Nat):Nat->BG->BG×Nat
 | 0,G=>(G,0)
 | f+1,G=>if G.F.u x=-1 then (G,0) else if hp (G.F.u x).toNat then ((gX hp ct x f (qg G x (G.F.u x).toNat)).1,(gX hp ct x f (qg G x (G.F.u x).toNat)).2+ct) else (G,ct)
theorem x8 {hp:Nat->Bool} {ct x f:Nat} {G:BG} (h:G.F.u x=-1):gX hp ct x f G=(G,0):=by
 cases f with
 | zero=>rfl
 | succ f=>rw [gX,Δ h]
theorem DN {hp:Nat->Bool} {ct x f p:Nat} {G:BG} (h:G.F.u x=p) (hh:hp p=false):gX hp ct x (f+1) G=(G,ct):=by
 rw [gX,Γ ω,h,π,hh];rfl
theorem Aa {hp:Nat->Bool} {ct x f p:Nat} {G:BG} (h:G.F.u x=p) (hh:hp p=true):gX hp ct x (f+1) G=((gX hp ct x f (qg G x p)).1,(gX hp ct x f (qg G x p)).2+ct):=by
 rw [gX,Γ ω,h,π,hh];rfl
section
variable {A:NS} {G:BG} {x:Nat} {hp:Nat->Bool} {ct:Nat}
theorem AA {p:Nat} (B:Ht A G x) (hx:x<A.cs.length) (hu:G.F.u x=p):(G.F.k x).length<((qg G x p).F.k x).length:=by
 have:=B.fh.f.Re hx hu
 show _<((qh G.F x p (G.F.u p)).k x).length
 rw [qO,Δ rfl];exact this
theorem Eu (hx:x<A.cs.length):∀ (f:Nat) {G:BG},Ht A G x->A.cs.length<=f+(G.F.k x).length->Ht A (gX hp ct x f G).1 x/\((gX hp ct x f G).1.F.u x=-1\/∃p:Nat,(gX hp ct x f G).1.F.u x=p/\hp p=false)
 | 0,G,B,hf=>by have:=B.fh.f.len hx;omega
 | f+1,G,B,hf=>by
  rcases B.fh.f.up x hx with h1|⟨p,hp1,h1,h2⟩
  ·rw [x8 h1];exact ⟨B,Α h1⟩
  ·cases hh:hp p with
   | false=>rw [DN h1 hh];exact ⟨B,Β ⟨p,h1,hh⟩⟩
   | true=>
    rw [Aa h1 hh];have:=AA B hx h1;exact Eu hx f (Cy B hx h1) ω
theorem Lu {p h:Nat} (B:Ht A G x) (hx:x<A.cs.length) (hu:G.F.u x=p) (hh:(A.c x).i=h):(qg G x p).R=if G.F.u p=-1 then bH G.R h (setAt (G.R h) p x) else G.R:=by
 obtain ⟨hp1,hm⟩:=B.fh.f.above hx hu;have bC:(A.c x).i=(A.c p).i/\0<(A.c x).i:=B.fh.home x p hx hu
 funext k
 show (G.R k).map (FO x p (G.F.u p))=_
 by_cases e:G.F.u p=-1
 ·rw [Δ e];unfold bH
  by_cases ek:k=h
  ·rw [Δ ek,ek];have Xk:(p:Int)∈G.R h:=(B.rh.mem h p).2 ⟨ω,hp1,e,by show (A.c p).i=_;omega⟩;rw [←wU (B.rh.row h).nodup p x Xk];unfold Jw FO
   exact List.map_congr_left (λz _=>by
    by_cases ez:z=p
    ·rw [Δ ⟨ez,e⟩,Δ ez]
    ·rw [Γ (λh=>ez h.1),Γ ez])
  ·rw [Γ ek];have:∀z,z∈G.R k->FO x p (G.F.u p) z=z:=λz hz=>by
    unfold FO;rw [Γ (λh=>?_)];rw [h.1] at hz;have h4:(A.c p).i=(k:Int):=((B.rh.mem k p).1 hz).2.2.2;omega
   rw [List.map_congr_left this];simp
 ·rw [Γ e];have:∀z,z∈G.R k->FO x p (G.F.u p) z=z:=λz hz=>by
   unfold FO;rw [Γ (λh=>e h.2)]
  rw [List.map_congr_left this];simp
end
end Go.Proofs.YtnpdakpagnpanaaGreat
namespace Go.Proofs.YtnpdakpagnpanaaGreat
open Go Go.RowKit
theorem aV.set {w:World} {base g off n cap:Nat} {xs:List Int} (h:aV w base (.slice (some ⟨g,off,none⟩) n cap) xs) (i:Nat) (hi:i<xs.length) (y:Int):aV (w.setCell ⟨g,off+i,none⟩ (.int .i64 y)) base (.slice (some ⟨g,off,none⟩) n cap) (xs.set i y):=by
 rcases h with ⟨e,_⟩|⟨g',off',cap',cur,e,hb,hg,h1,h2,h3,h4⟩
 ·cases e
 ·cases e;refine Β ⟨g,off,cap,cur.setIfInBounds (off+i) (.int .i64 y),by rw [Ι],hb,?_,by rw [Ι];exact h1,h2,ζ,λj u hj=>?_⟩
  ·simp [World.setCell,Array.getElem?_modify,hg]
  ·have hjl:j<xs.length:=by have:=(List.getElem?_eq_some_iff.1 hj).1;simpa using this
   rw [Array.getElem?_setIfInBounds]
   by_cases e:i=j
   ·subst e;rw [List.getElem?_set_self hi] at hj;cases hj;rw [Δ rfl,Δ ω]
   ·rw [Γ ω];rw [ώ e] at hj;exact h4 j u hj
theorem aV.free {w:World} {base:Nat} {v:Value} {xs:List Int} (h:aV w base v xs) {g:Nat} (hg:v.ownBlock=some g) (j:Nat):w.frozen? ⟨g,j,none⟩=false:=by
 rcases h with ⟨rfl,_⟩|⟨g',off',cap',cur,rfl,hb,hh,h1,h2,h3,h4⟩
 ·cases hg
 ·simp [Value.ownBlock] at hg;subst hg;simp [World.frozen?,hh]
theorem Ls {n:Nat} (S:CS) {x p:Nat} (above:Int) (hx:x<n) (hp:p<n):∀g,g∈(gB S x p above).blk n->g∈S.blk n:=λg hg=>by
 obtain ⟨y,hy,e⟩:=(CS.iY _ n g).1 hg;have e:(if y=x then S.v p else if y=p then S.v x else S.v y).ownBlock=some g:=e;rw [CS.iY]
 split at e
 ·exact ⟨p,hp,e⟩
 ·split at e
  ·exact ⟨x,hx,e⟩
  ·exact ⟨y,hy,e⟩
section
variable {w:World} {B:BB} {F:List Nat} {gr cr lo:Nat} {A:NS} {st:Nat} {S:CS} {vs:List Value} {R:Nat->List Int}
theorem gL.setX {w1:World} (h:gL w B F gr cr lo A st S vs R) (q:Nat) (hq:q<vs.length) (hu1:aa (vs.getD q undef).ownBlock.toList w w1) (X:List Int) (hv:aV w1 0 (vs.getD q undef) X):gL w1 B F gr cr lo A st S vs (bH R q X):=by
 have hK:∀g,g∈(vs.getD q undef).ownBlock.toList->(vs.getD q undef).ownBlock=some g:=λg hg=>by simpa using hg
 have kk:∀g,g∈(vs.getD q undef).ownBlock.toList->g≠B.n0/\g≠B.bt/\g≠B.ba/\g≠gr/\g∉F/\g∉S.blk A.cs.length:=λg hg=>h.d4 q g hq (hK g hg)
 refine ⟨h.head.upd hu1 (λhm=>(kk _ hm).1 rfl),h.cells.upd hu1 (λx hx=>(kk x hx).2.2.2.2.1),
  h.iy.upd hu1 (λhm=>(kk _ hm).2.1 rfl) (λhm=>(kk _ hm).2.2.1 rfl) (λg hg hm=>(kk g hm).2.2.2.2.2 hg),
  au h.rows hu1 (λg hg hm=>by simp [Value.ownBlock] at hg;subst hg;exact (kk _ hm).2.2.2.1 rfl),h.len,λk hk=>?_,h.d1,h.d2,h.d3,h.d4,h.d5⟩
 unfold bH
 by_cases ek:k=q
 ·rw [Δ ek,ek];exact hv
 ·rw [Γ ek];exact (h.each k hk).upd hu1 (λg hg2 hm=>h.d5 k q g hk hq ek hg2 (hK g hm))
end
structure TA (w:World) (K:List Nat) (B:BB) (F:List Nat) (A:NS) (ct:Nat) (hp:Nat->Bool) (f:FuncId) (Qh:Array Value):Prop where
 enters:Enters f
 calls:∀ (W:World) (st above:Nat),aa K w W->W.cell? ⟨B.n0,0,none⟩=some (.pointer (some ⟨B.c,0,none⟩))->B.n0≠B.c->aB W B.c F A st->bR A (above:Int)=true->
  Calls Tryz.prog f (#[.int .i64 (above:Int)]++Qh) W λe w'=>e=.returned (.bool (hp above))/\aB w' B.c F A (bS st ct)/\aa [B.c] W w'
section
variable {w:World} {B:BB} {F:List Nat} {gr cr lo:Nat} {A:NS} {st:Nat} {S:CS} {vs:List Value} {G:BG}
theorem KW (M:gL w B F gr cr lo A st S vs G.R) (eF:S.f=G.F) {x h ct:Nat} {hp:Nat->Bool} {f:FuncId} {Qh:Array Value} (X:Ht A G x) (hx:x<A.cs.length) (hin:0<(A.c x).i) (hh:(A.c x).i=h) (hq:h<vs.length) (H:TA w (B.blk F gr A.cs.length S vs) B F A ct hp f Qh) :
  Calls Tryz.prog 173 #[.pointer (some ⟨B.n0,0,none⟩),.int .i64 (h:Int),.int .i64 (x:Int),.func (Fn.func f) #[] Qh] w λe w'=>e=.returned (.tuple #[])/\
   ∃S',gL w' B F gr cr lo A (bS st (gX hp ct x A.cs.length G).2) S' vs (gX hp ct x A.cs.length G).1.R/\S'.f=(gX hp ct x A.cs.length G).1.F/\aa (B.blk F gr A.cs.length S vs) w w'/\∀g,g∈S'.blk A.cs.length->g∈S.blk A.cs.length:=by
 have ok:=M.cells.ok;have hn:=ok.c1;have hz:=fB M.cells.mH;have hcl:=H.calls;have hen:=H.enters;unfold Enters at hen;have HM:=χ M;have HX:=χ (ψ X eF);have HC:=χ hcl;have hvl:=M.Rq;clear M X eF hcl ok H
 go_enter Tryz.func173,Tryz.ntmps173
 go_wp2
 go_loopg [8,9,10,11] A.cs.length (λfu _ _ _ _ wr=>∃ (c:Nat) (G':BG) (S':CS),gL wr B F gr cr lo A (bS st c) S' vs G'.R/\S'.f=G'.F/\Ht A G' x/\(∀g,g∈S'.blk A.cs.length->g∈S.blk A.cs.length)/\aa (B.blk F gr A.cs.length S vs) w wr/\A.cs.length<=fu+(G'.F.k x).length/\(gX hp ct x fu G').1=(gX hp ct x A.cs.length G).1/\(gX hp ct x fu G').2+c=(gX hp ct x A.cs.length G).2)
 case atStart=>exact ⟨0,G,S,by rw [hz];exact HM.out,HX.out.2,HX.out.1,λg hg=>hg,aa.refl _ _,ω,rfl,rfl⟩
 case round=>
  rename Nat=>fu;obtain ⟨c,G',S',hM,eF,X,hSb,hu,hfu,hl1,hl2⟩:=hrel;rename World=>wr;have hlen:=X.fh.f.len hx;obtain ⟨fv,rfl⟩:∃fv,fu=fv+1:=⟨fu-1,ω⟩;have ku:=uE B.bt B.ba lo A.cs.length S' (x:Int) wr hM.iy;have h1:=hM.h1;have Wn:S'.u x=G'.F.u x:=by rw [←eF];rfl
  have kb:∀y,y∈B.blk F gr A.cs.length S' vs->y∈B.blk F gr A.cs.length S vs:=λy hy=>by
   simp only [BB.blk,ρ,τ] at hy ⊢;rcases hy with e|e|e|e|e|e|e
   ·exact Α e
   ·exact Β (Α e)
   ·exact Β (Β (Α e))
   ·exact Β (Β (Β (Α e)))
   ·exact Β (Β (Β (Β (Α e))))
   ·exact Β (Β (Β (Β (Β (Α (hSb y e))))))
   ·exact Β (Β (Β (Β (Β (Β e)))))
  have HR:=χ (ψ hM (ψ eF (ψ X (ψ hSb (ψ hu (ψ hl1 (ψ hl2 kb)))))));rcases X.fh.f.up x hx with e1|⟨p,hp1,e1,e2⟩
  ·have eu:E8 A.cs.length S' (x:Int)=none:=by unfold E8;rw [Δ ω,π,Wn,Δ e1]
   rw [eu] at ku;have E1:=χ e1;clear hM X hl1 hl2 eu e1 Wn kb hSb hfu
   go_wp2_with ((go_at_call 179;(with_reducible refine (ku).mono ?_);rintro e w9 ⟨rfl,aH⟩;rw [aH];clear aH w9))
   refine bodyPost_ret (v:=.tuple #[]) (by simp [results,Tryz.results173,go_sem]) rfl ?_;obtain ⟨hM,eF,X,hSb,hu,hl1,hl2,kb⟩:=HR.out;rw [x8 E1.out] at hl1 hl2;refine ⟨rfl,S',?_,by rw [←hl1];exact eF,hu,hSb⟩;rw [←hl1,←hl2,show (((G',0):BG×Nat)).2+c=c by simp];exact hM
  ·have eu:E8 A.cs.length S' (x:Int)=some (p:Int):=by unfold E8;rw [Δ ω,π,Wn,e1,Γ ω]
   rw [eu] at ku;simp only [ov,ob,Option.getD_some,Option.isSome_some] at ku;have bC:(A.c x).i=(A.c p).i:=(X.fh.home x p hx e1).1;have hip:bR A (p:Int)=true:=(ay _ _).2 ⟨hp1,ω⟩;have kh:=HC.out wr (bS st c) p hu hM.h0 hM.cn.1 hM.cells hip;rw [iV] at kh;cases VF:hp p with
   | false=>
    rw [VF] at kh;have E1:=χ (ψ e1 VF);clear hM X hl1 hl2 eu e1 Wn kb hSb hfu VF
    go_wp2_with (first
     | (go_at_call 179;(with_reducible refine (ku).mono ?_);rintro e w9 ⟨rfl,aH⟩;rw [aH];clear aH w9)
     | ((with_reducible refine (kh).mono ?_);rintro e w2 ⟨rfl,hC2,hu2⟩))
    refine bodyPost_ret (v:=.tuple #[]) (by simp [results,Tryz.results173,go_sem]) rfl ?_;obtain ⟨hM,eF,X,hSb,hu,hl1,hl2,kb⟩:=HR.out;rw [DN E1.out.1 E1.out.2] at hl1 hl2;refine ⟨rfl,S',?_,by rw [←hl1];exact eF,hu.trans (hu2.mono (λy hy=>by simp at hy;subst hy;exact wM _ HM.out.cells.mem)),hSb⟩;rw [←hl1,←hl2,show (((G',ct):BG×Nat)).2+c=c+ct by simp;omega];exact hM.setSt hu2 hC2
   | true=>
    rw [VF] at kh;have okL:=I6 (S:=S') (by rw [eF];exact X.fh.f) hx hp1 (by rw [Wn];exact e1) (show (x:Int)∈S'.f.k p by rw [eF];exact e2);have WI:S'.u p=G'.F.u p:=by rw [←eF];rfl
    have hfL:=Cy X hx e1;have hmL:=AA X hx e1;have hrR:=Lu X hx e1 hh;have E1:=χ (ψ e1 (ψ VF (ψ hfL (ψ hmL (ψ hrR (ψ hfu WI))))))
    have FIN:=χ (show ∀ (W w3:World),gL W B F gr cr lo A (bS st (c+ct)) S' vs (qg G' x p).R->aa (B.blk F gr A.cs.length S vs) w W->aN w3 B.bt B.ba lo A.cs.length (gB S' x p (S'.u p))->aa (B.ba::S'.blk A.cs.length) W w3->
      ∃ (c2:Nat) (G2:BG) (S2:CS),gL w3 B F gr cr lo A (bS st c2) S2 vs G2.R/\S2.f=G2.F/\Ht A G2 x/\(∀g,g∈S2.blk A.cs.length->g∈S.blk A.cs.length)/\aa (B.blk F gr A.cs.length S vs) w w3/\A.cs.length<=fv+(G2.F.k x).length/\(gX hp ct x fv G2).1=(gX hp ct x A.cs.length G).1/\(gX hp ct x fv G2).2+c2=(gX hp ct x A.cs.length G).2 from λW w3 jV P6 Sn hu3=>by
     have hb3:=Ls S' (S'.u p) hx hp1
     have lq:=jV.dU (hu3.mono (λy hy=>Λ _ hy)) (jV.cells.upd hu3 (λy hy hm=>by
      rcases ρ.1 hy with e|e
      ·subst e;exact jV.d1.2.2.1 hm
      ·exact (jV.d3 y e).2.2 hm)) Sn (λg hg=>Α (hb3 g hg))
     rw [Aa e1 VF] at hl1 hl2;refine ⟨c+ct,qg G' x p,gB S' x p (S'.u p),lq,by rw [UW,eF,WI];rfl,hfL,λg hg=>hSb g (hb3 g hg),P6.trans (hu3.mono (λy hy=>?_)),ω,hl1,by simp only at hl2;omega⟩;rcases ρ.1 hy with e|e
     ·subst e;simp [BB.blk]
     ·have:=hSb y e;simp only [BB.blk,ρ,τ]
      exact Β (Β (Β (Β (Β (Α this))))))
    have kM:=χ (show ∀w2,aB w2 B.c F A (bS st (c+ct))->aa [B.c] wr w2->gL w2 B F gr cr lo A (bS st (c+ct)) S' vs G'.R/\aa (B.blk F gr A.cs.length S vs) w w2 from λw2 hC2 hu2=>⟨hM.setSt hu2 hC2,hu.trans (hu2.mono (λy hy=>by simp at hy;subst hy;exact wM _ HM.out.cells.mem))⟩);have hup:=X.fh.f.up p hp1;have Xk:G'.F.u p=-1->(p:Int)∈G'.R h:=λe=>(X.rh.mem h p).2 ⟨ω,hp1,e,by show (A.c p).i=_;omega⟩;have hnd:=(X.rh.row h).nodup;clear hM X hl1 hl2 eu e1 Wn kb hSb hfu VF hfL hmL hrR e2 hu;rcases hup with e3|⟨q,hq1,e3,_⟩
    ·have eu2:E8 A.cs.length S' (p:Int)=none:=by unfold E8;rw [Δ ω,π,WI,Δ e3]
     have hpm:=Xk e3;obtain ⟨i,hi,hidx,hix⟩:=tY (G'.R h) (p:Int) hpm;have E3:=χ (ψ e3 (ψ hpm hnd));clear e3 Xk WI hpm hnd
     go_wp2_with (first
      | (go_at_call 179;(with_reducible refine (ku).mono ?_);rintro e w9 ⟨rfl,aH⟩;rw [aH];clear aH w9)
      | ((with_reducible refine (kh).mono ?_);rintro e w2 ⟨rfl,hC2,hu2⟩;obtain ⟨hM2,hu3⟩:=kM.out w2 hC2 hu2;(have h2:=hM2.h1);(have Tq:=uE B.bt B.ba lo A.cs.length S' (p:Int) w2 hM2.iy);rw [eu2] at Tq;simp only [ov,ob,Option.getD_none,Option.isSome_none] at Tq;(have pI:=χ hM2);clear hM2)
      | (go_at_call 179;(with_reducible refine (Tq).mono ?_);rintro e w9 ⟨rfl,aH⟩;rw [aH];clear aH w9))
     have hsl:jc w2 [] (vs.getD h undef) (G'.R h):=(pI.out.each h hq).sl (λg _=>σ);have Zq:=λW (hW:aa [] w2 W)=>De W [] (vs.getD h undef) (G'.R h) (p:Int) (hsl.upd hW σ);rw [hidx] at Zq;obtain ⟨a0,cap,hv,hlc,hcp,hcs⟩:=(pI.out.each h hq).shape;obtain ⟨g,off,rfl,hci⟩:=hcs i (p:Int) hix;have hfi:w2.frozen? ⟨g,off+i,none⟩=false:=(pI.out.each h hq).free (by rw [hv];rfl) _;have hR2:=pI.out.h2;have hrc:=pI.out.JY hq;rw [hv] at Zq hrc;have hib0:(0:Int)<=(h:Int):=ω;have zi:(h:Int)<(vs.length:Int):=ω;have Bd:(0:Int)<=(i:Int):=ω;have XE:(i:Int)<((G'.R h).length:Int):=ω
     have hrl:(G'.R h).length<=9223372036854775807:=ω
     have hfin:=χ (show gL (w2.setCell ⟨g,off+i,none⟩ (.int .i64 (x:Int))).drew B F gr cr lo A (bS st (c+ct)) S' vs (bH G'.R h (setAt (G'.R h) (p:Int) (x:Int)))/\aa (B.blk F gr A.cs.length S vs) w (w2.setCell ⟨g,off+i,none⟩ (.int .i64 (x:Int))).drew from by
      have u1:aa (vs.getD h undef).ownBlock.toList w2 (w2.setCell ⟨g,off+i,none⟩ (.int .i64 (x:Int))).drew:=by
       rw [hv];exact ((aa.refl _ _).setCell (Α (by simp [Value.ownBlock])) _).drew
      have o1:aV (w2.setCell ⟨g,off+i,none⟩ (.int .i64 (x:Int))).drew 0 (vs.getD h undef) (setAt (G'.R h) (p:Int) (x:Int)):=by
       have:=pI.out.each h hq;rw [hv] at this ⊢;have o2:=this.set i hi (x:Int);unfold setAt;rw [hidx,π];exact o2.upd ((aa.refl [] _).drew) σ
      refine ⟨pI.out.setX h hq u1 _ o1,hu3.trans (u1.mono (λy hy=>?_))⟩;simp only [BB.blk,ρ,τ]
      exact Β (Β (Β (Β (Β (Β (iJ.2 ⟨h,hq,by simpa using hy⟩)))))))
     clear hi hidx hix hcs hv hsl;generalize hrlq:(G'.R h).length=rl at *
     go_cut [55] (λs55 wx=>gL wx B F gr cr lo A (bS st (c+ct)) S' vs (bH G'.R h (setAt (G'.R h) (p:Int) (x:Int)))/\aa (B.blk F gr A.cs.length S vs) w wx)
     case first=>
      go_region_law
       (first
        | (go_simp;go_at_call 180;(with_reducible refine (Zq _ β).mono ?_);rintro e w9 ⟨rfl,aH⟩;rw [aH];clear aH w9))
      all_goals
       go_wp2
       go_meet
       exact hfin.out
     case rest=>
      obtain ⟨lq,jJ⟩:=hcut;have h3:=lq.h1;have kl:=DY B.bt B.ba lo A.cs.length S' x p (S'.u p) wc lq.iy okL;have JI:=χ lq;clear lq hfin ku kh Tq Zq hR2 hrc hci hfi
      go_wp2_with ((go_at_call 181;(with_reducible refine (kl).mono ?_));rintro e w3 ⟨rfl,Sn,cB⟩)
      go_roundg fv
      case measure=>omega
      case rel=>
       have hR2:=E1.out.2.2.2.2.1;rw [E3.out.1,Δ rfl] at hR2;exact FIN.out wc w3 (by rw [hR2];exact JI.out) jJ Sn cB
    ·have eu2:E8 A.cs.length S' (p:Int)=some (q:Int):=by unfold E8;rw [Δ ω,π,WI,e3,Γ ω]
     have E3:=χ e3;clear e3 Xk WI
     go_wp2_with (first
      | (go_at_call 179;(with_reducible refine (ku).mono ?_);rintro e w9 ⟨rfl,aH⟩;rw [aH];clear aH w9)
      | ((with_reducible refine (kh).mono ?_);rintro e w2 ⟨rfl,hC2,hu2⟩;obtain ⟨hM2,hu3⟩:=kM.out w2 hC2 hu2;(have h2:=hM2.h1);(have Tq:=uE B.bt B.ba lo A.cs.length S' (p:Int) w2 hM2.iy);rw [eu2] at Tq;simp only [ov,ob,Option.getD_some,Option.isSome_some] at Tq;(have kl:=DY B.bt B.ba lo A.cs.length S' x p (S'.u p) w2 hM2.iy okL);(have pI:=χ hM2);clear hM2)
      | (go_at_call 179;(with_reducible refine (Tq).mono ?_);rintro e w9 ⟨rfl,aH⟩;rw [aH];clear aH w9)
      | ((go_at_call 181;(with_reducible refine (kl).mono ?_));rintro e w3 ⟨rfl,Sn,jJ⟩))
     go_roundg fv
     case measure=>omega
     case rel=>
      have hR2:=E1.out.2.2.2.2.1;rw [E3.out,Γ ω] at hR2;exact FIN.out w2 w3 (by rw [hR2];exact pI.out) hu3 Sn jJ
end
theorem FM (W:World) (y:Int):Calls Tryz.prog 175 #[.int .i64 y] W λe w'=>e=.returned (.bool true)/\w'=W:=by
 go_enter Tryz.func175,Tryz.ntmps175
 go_wp2;go_ret;exact ⟨rfl,rfl⟩
theorem Lh (w:World) (K:List Nat) (B:BB) (F:List Nat) (A:NS):TA w K B F A 0 (λ_=>true) 175 #[]:=by
 refine ⟨λ_ _=>by kernel_rfl,λW st above hu h0 hne hC hin=>?_⟩;refine (FM W above).mono ?_;rintro e w' ⟨rfl,rfl⟩;exact ⟨rfl,by rw [fB hC.mH];exact hC,aa.refl _ _⟩
section
variable {w:World} {p:Nat} {FF:List Nat} {A:NS} {st:Nat} {G:BG}
def EE (A:NS) (x:Nat) (G:BG):BG×Nat:=gX (λ_=>true) 0 x A.cs.length G
def XF (A:NS) (x:Nat) (G:BG):BG:=nP A (A.c x).i.toNat x (EE A x G).1
def Yr (A:NS) (x:Nat) (G:BG):Nat:=(EE A x G).2+uO A (A.c x).i.toNat x (EE A x G).1
theorem QV {x:Nat} (I:Ch A G) (hx:x<A.cs.length):Ht A (EE A x G).1 x/\(EE A x G).1.F.u x=-1:=by
 have E:=Eu (hp:=λ_=>true) (ct:=0) hx A.cs.length (I.x hx) ω;refine ⟨E.1,?_⟩;rcases E.2 with h|⟨p,_,h⟩
 ·exact h
 ·cases h
theorem WM (h:Cv w p FF A st G) (x:Nat) (hin:bR A (x:Int)=true) :
  Calls Tryz.prog 166 #[.pointer (some ⟨p,0,none⟩),.int .i64 (x:Int)] w λe w'=>e=.returned (.bool true)/\
   Goes FF w w' (λBD=>Cv w' p BD (aU A x) (bS st (Yr A x G)) (XF A x G)):=by
 obtain ⟨⟨B,F,gr,cr,lo,S,vs,rfl,rfl,M,eF⟩,I⟩:=h;obtain ⟨hx,hhome⟩:=(ay _ _).1 hin;obtain ⟨X1,hr1⟩:=QV I hx;have N9:=jB M.cells.ok hin;rw [π] at N9;obtain ⟨q,hq0,hq1,Zj⟩:=M.hq N9;have T:=(Co X1 M.cells.ok hx hr1 hhome hq0).1;have eq:(A.c x).i.toNat=q:=ω;have kh:=ic M.cells x hin;rw [hq0] at kh;have h0:=M.h0;have kL:=λW (hM:gL W B F gr cr lo A st S vs G.R)=>KW hM eF (I.x hx) hx hhome hq0 Zj (Lh W (B.blk F gr A.cs.length S vs) B F A);have kT:=λW S' (hM:gL W B F gr cr lo A (bS st (EE A x G).2) S' vs (EE A x G).1.R) (e:S'.f=(EE A x G).1.F)=>zA hM e X1 hx hr1 hhome hq0 Zj;have HM:=χ M
 have HI:=χ (ψ T eq);clear M I X1 hr1 N9 T eF eq hin
 go_enter Tryz.func166,Tryz.ntmps166
 go_wp2_with (first
  | ((go_at_call 124;(with_reducible refine (kh).mono ?_));rintro e w1 ⟨rfl,gK,hu1⟩;(have hM1:=HM.out.dV hu1 gK (λy hy=>Α hy) rfl rfl);(have ZO:=kL _ hM1);(have hs1:=hu1.size);(have nC:=χ hM1);clear hM1)
  | ((go_at_call 173;(with_reducible refine (ZO).mono ?_));rintro e w2 ⟨rfl,S2,hM2,hF2,hu2,hb2⟩;(have kT2:=kT _ S2 hM2 hF2);(have hs2:=hu2.size))
  | ((go_at_call 176;(with_reducible refine (kT2).mono ?_));rintro e w3 ⟨rfl,FF3,hK3,hu3,hf3⟩)
  | fail)
 go_ret;have kb:∀y,y∈B.blk F gr A.cs.length S2 vs->y∈B.blk F gr A.cs.length S vs:=λy hy=>by
  simp only [BB.blk,ρ,τ] at hy ⊢;rcases hy with e|e|e|e|e|e|e
  ·exact Α e
  ·exact Β (Α e)
  ·exact Β (Β (Α e))
  ·exact Β (Β (Β (Α e)))
  ·exact Β (Β (Β (Β (Α e))))
  ·exact Β (Β (Β (Β (Β (Α (hb2 y e))))))
  ·exact Β (Β (Β (Β (Β (Β e)))))
 rw [iV] at hK3;refine ⟨rfl,FF3,?_,((hu1.mono wM).trans hu2).trans (hu3.mono kb),λy hy=>?_⟩
 ·unfold Yr XF;rw [HI.out.2];exact ⟨hK3,HI.out.1⟩
 ·rcases hf3 y hy with h'|h'
  ·exact Α (kb y h')
  ·exact Β ω
end
theorem QJ:(Tryz.prog.info? 77).map (λi=>(i.zero,i.size,i.bytes))=some (some (.slice none 0 0),1,24):=by kernel_rfl
theorem TY {A:NS} {G:BG} (I:Ch A G) (ok:A.Ok):G.R A.hs.length=[]:=by
 cases e:G.R A.hs.length with
 | nil=>rfl
 | cons x t=>
  have hx:x∈G.R A.hs.length:=by rw [e];simp
  obtain ⟨y,_,hy,_,hh,_⟩:=M8 I hx;have:=ok.nat y hy;omega
theorem AO (vs:List Value) (v:Value) (k:Nat):(vs++[v]).getD k undef=if k<vs.length then vs.getD k undef else if k=vs.length then v else undef:=by
 simp only [φ]
 by_cases e:k<vs.length
 ·rw [Ρ e,Δ e]
 ·rw [ϊ ω,Γ e]
  by_cases e2:k=vs.length
  ·subst e2;simp
  ·rw [Γ e2,List.getElem?_eq_none ζ];rfl
section
variable {w:World} {p:Nat} {FF:List Nat} {A:NS} {st:Nat} {G:BG}
theorem JH (h:Cv w p FF A st G) :
  Calls Tryz.prog 169 #[.pointer (some ⟨p,0,none⟩)] w λe w'=>e=.returned (.int .i64 (bW A))/\Goes FF w w' (λBD=>Cv w' p BD (aI A) st G):=by
 obtain ⟨⟨B,F,gr,cr,lo,S,vs,rfl,rfl,M,eF⟩,I⟩:=h;have k:=gQ M.cells;have h0:=M.h0;have I2:=Q4 I
 by_cases hl:65536<A.hs.length
 ·have e1:bW A=0:=by unfold bW;rw [Δ hl]
  have e2:aI A=A:=by unfold aI;rw [Δ hl]
  rw [e1,e2] at k;rw [e1,e2];have HM:=χ M;have HI:=χ (ψ I eF);clear M I eF e1 e2 I2
  go_enter Tryz.func169,Tryz.ntmps169
  go_wp2_with ((go_at_call 140;(with_reducible refine (k).mono ?_));rintro e w1 ⟨rfl,F1,hC,hu,hF⟩)
  go_ret;refine ⟨rfl,B.blk F1 gr A.cs.length S vs,⟨⟨B,F1,gr,cr,lo,S,vs,rfl,rfl,HM.out.dV hu hC hF rfl rfl,HI.out.2⟩,HI.out.1⟩,hu.mono wM,λy hy=>?_⟩;simp only [BB.blk,ρ,τ] at hy ⊢;rcases hy with e|e|e|e|e|e|e
  ·exact Α (Α e)
  ·exact Α (Β (Α e))
  ·exact Α (Β (Β (Α e)))
  ·exact Α (Β (Β (Β (Α e))))
  ·rcases hF y e with h'|h'
   ·exact Α (Β (Β (Β (Β (Α h')))))
   ·exact Β h'
  ·exact Α (Β (Β (Β (Β (Β (Α e))))))
  ·exact Α (Β (Β (Β (Β (Β (Β e))))))
 ·have e1:bW A=A.hs.length:=by unfold bW;rw [Γ hl]
  rw [e1] at k;rw [e1];have hcs:(aI A).cs.length=A.cs.length:=by rw [Hw]
  have iN:(aI A).hs.length=A.hs.length+1:=by unfold aI;rw [Γ hl];simp
  have hh0:=M.cells.ok.h0;have hvl:vs.length<=65536:=by rw [M.len];omega
  have hlen:=M.len;have hpos:(0:Int)<(A.hs.length:Int):=ω;have HM:=χ M;have HI:=χ (ψ I2 (ψ eF (ψ (TY I M.cells.ok) hlen)));clear M I e1 I2 eF hlen
  go_enter Tryz.func169,Tryz.ntmps169
  go_wp2_with (first
   | ((go_at_call 140;(with_reducible refine (k).mono ?_));rintro e w1 ⟨rfl,F1,hC,hu,hF⟩;(have d3:=hu.kept HM.out.h2 HM.out.d1.1);(have f3:=hu.aM HM.out.h2 HM.out.d1.1 (HM.out.head.free 2));(have ho1:=au HM.out.rows hu (λg hg=>by simp [Value.ownBlock] at hg;subst hg;exact HM.out.d1.2.2.2));(have g0:B.n0≠gr:=HM.out.d2.2.2.1);(have gl:=Ψ HM.out.EN hu.size))
   | ((at_builtin;refine aW rfl _ _ 183 rfl 0 77 (.slice none 0 0) 1 24 Tryz.underlying183 QJ rfl δ _ _ _ rfl (ho1) [.slice none 0 0] rfl (by simp [Value.oneCell']) (by first|rfl|(rw [Κ];rfl)) μ ω ω ?_;intro v2 w2 ho2 hu2 kZ);(have hu2:aa [gr] w1 w2:=hu2);obtain ⟨Cw,X5,ev,_⟩:=ed ho2 ω;subst ev;(have d4:=hu2.kept d3 ζ);(have f4:=hu2.aM d3 ζ f3)))
  go_ret;have hM:=HM.out;have hlt:=hM.lt;have f:=hM.d1;have q:=hM.d2;have hws:=hu.size;have hw3:aa [B.n0] w2 (w2.setCell ⟨B.n0,2,none⟩ (.slice (some ⟨Cw,0,none⟩) (vs.length+1) X5)):=β;have hg1:Cw=gr\/w1.heap.size<Cw:=by
   rcases kZ with h|h
   ·exact Α (Option.some.inj h)
   ·exact Β (h Cw rfl)
  have gK:=hC.lt;have l0:=hlt B.n0 (by simp [BB.blk]);have l1:=hlt B.bt (by simp [BB.blk]);have l2:=hlt B.ba (by simp [BB.blk]);have l4:=hM.EN;have hnF:∀y,y<w.heap.size->y∉F->y∉F1:=λy hy hn hm=>by rcases hF y hm with h'|h';exact hn h';omega
  have sZ:Cw∉F1:=by
   rcases hg1 with e|e
   ·rw [e];exact hnF gr l4 f.2.2.2
   ·exact λhm=>by have:=gK Cw hm;omega
  have hgn:∀y,y<w.heap.size->y≠gr->y≠Cw:=λy hy hn e=>by
   rcases hg1 with e2|e2
   ·exact hn (e.trans e2)
   ·omega
  have hcs:=hcs;have hv:(vs++[Value.slice none 0 0]).length=vs.length+1:=σ;have hin:=HI.out.2.2.1;have hhd:=((hM.head.upd hu f.1).upd hu2 ζ).set 2 (.slice (some ⟨Cw,0,none⟩) (vs.length+1) X5);have RP:∀j,j<vs.length+1->∀g,((vs++[Value.slice none 0 0]).getD j undef).ownBlock=some g->j<vs.length/\(vs.getD j undef).ownBlock=some g:=λj hj g hg=>by
   rw [AO] at hg
   by_cases e:j<vs.length
   ·rw [Δ e] at hg;exact ⟨e,hg⟩
   ·rw [Γ e,Δ ω] at hg;cases hg
  have YT:gL (w2.setCell ⟨B.n0,2,none⟩ (.slice (some ⟨Cw,0,none⟩) (vs.length+1) X5)) B F1 Cw X5 lo (aI A) st S (vs++[.slice none 0 0]) G.R:=by
   refine ⟨?_,?_,?_,?_,by rw [hv,iN,HI.out.2.2.2],λj hj=>?_,⟨hnF _ l0 f.1,hnF _ l1 f.2.1,hnF _ l2 f.2.2.1,sZ⟩,⟨q.1,q.2.1,hgn _ l0 q.2.2.1,hgn _ l1 q.2.2.2.1,hgn _ l2 q.2.2.2.2⟩,λg hg=>?_,λj g hj hg=>?_,λj k g hj hk hne hg=>?_⟩
   ·rw [hv];refine hhd.ext (λj hj=>?_);rcases (ω:j=0\/j=1\/j=2) with rfl|rfl|rfl<;>rfl
   ·exact (hC.upd hu2 (λy hy=>by simp at hy;rw [hy];exact hnF gr l4 f.2.2.2)).upd hw3 (λy hy=>by simp at hy;rw [hy];exact hnF _ l0 f.1)
   ·rw [hcs];exact ((hM.iy.upd hu f.2.1 f.2.2.1 (λg hg=>(hM.d3 g hg).2.2)).upd hu2 (by simp;exact q.2.2.2.1) (by simp;exact q.2.2.2.2) (λg hg hm=>by simp at hm;exact (hM.d3 g hg).2.1 hm)).upd hw3 (by simp;exact Ne.symm q.1) (by simp;exact Ne.symm q.2.1) (λg hg hm=>by simp at hm;exact (hM.d3 g hg).1 hm)
   ·rw [hv];refine au (lM ho2 (Nat.zero_le _)) hw3 (λg hg hm=>?_);simp [Value.ownBlock] at hg hm;exact hgn _ l0 q.2.2.1 ω
   ·rw [hv] at hj;rw [AO]
    by_cases e:j<vs.length
    ·rw [Δ e];exact (((hM.each j e).upd hu (λg hg=>(hM.d4 j g e hg).2.2.2.2.1)).upd hu2 (λg hg hm=>by simp at hm;exact (hM.d4 j g e hg).2.2.2.1 hm)).upd hw3 (λg hg hm=>by simp at hm;exact (hM.d4 j g e hg).1 hm)
    ·obtain rfl:j=vs.length:=ω;rw [Γ e,Δ rfl,HI.out.2.2.2,hin];exact aV.nil _ _
   ·rw [hcs] at hg;have:=hM.d3 g hg;have hgl:=(hM.iy.lU hg).2;exact ⟨this.1,hgn g hgl this.2.1,hnF g hgl this.2.2⟩
   ·rw [hv] at hj;obtain ⟨e,hg⟩:=RP j hj g hg;have:=hM.d4 j g e hg;have hgl:=hM.vQ e hg;rw [hcs];exact ⟨this.1,this.2.1,this.2.2.1,hgn g hgl this.2.2.2.1,hnF g hgl this.2.2.2.2.1,this.2.2.2.2.2⟩
   ·rw [hv] at hj hk;obtain ⟨e,hg⟩:=RP j hj g hg;intro h2;obtain ⟨e2,h2⟩:=RP k hk g h2;exact hM.d5 j k g e e2 hne hg h2
  refine ⟨rfl,B.blk F1 Cw (aI A).cs.length S (vs++[.slice none 0 0]),⟨⟨B,F1,Cw,X5,lo,S,_,rfl,rfl,YT,HI.out.2.1⟩,HI.out.1⟩,((hu.mono wM).trans (hu2.mono (λy hy=>by simp at hy;subst hy;simp [BB.blk]))).trans (hw3.mono (λy hy=>by simp at hy;subst hy;simp [BB.blk])),λy hy=>?_⟩;rw [hcs] at hy;simp only [BB.blk,ρ,τ] at hy ⊢;rcases hy with e|e|e|e|e|e|e
  ·exact Α (Α e)
  ·exact Α (Β (Α e))
  ·exact Α (Β (Β (Α e)))
  ·rcases hg1 with e2|e2
   ·exact Α (Β (Β (Β (Α (e.trans e2)))))
   ·exact Β ω
  ·rcases hF y e with h'|h'
   ·exact Α (Β (Β (Β (Β (Α h')))))
   ·exact Β h'
  ·exact Α (Β (Β (Β (Β (Β (Α e))))))
  ·obtain ⟨j,hj,hg⟩:=iJ.1 e;rw [hv] at hj;obtain ⟨e3,hg⟩:=RP j hj y hg;exact Α (Β (Β (Β (Β (Β (Β (iJ.2 ⟨j,e3,hg⟩)))))))
end
theorem OM (n:Nat) (w:World) (h:n<=65536) :
  Calls Tryz.prog 60 #[.int .i64 (n:Int)] w λe w'=>∃p FF,e=.returned (.tuple #[.pointer (some ⟨p,0,none⟩),.int .i64 0])/\Cv w' p FF (NS.new n) 0 BG.none/\aa [] w w'/\∀x,x∈FF->w.heap.size<=x:=by
 have k:=lX n w h;have kc:=λW=>Ct n W h
 go_enter Tryz.func60,Tryz.ntmps60
 go_wp2_with (first
  | ((go_at_call 84;(with_reducible refine (k).mono ?_));rintro e w1 ⟨c,F,rfl,hC,hu1,hF⟩)
  | ((go_at_call 86;(with_reducible refine (kc _).mono ?_));rintro e w2 ⟨bt,ba,rfl,WE,hu2,hbt,Js⟩))
 go_ret2;have hn:(NS.new n).cs.length=n:=by simp [NS.new]
 obtain ⟨w3,hw3⟩:∃w3,w3=w2.alloc (.cells #[.slice none 0 0] 77):=⟨_,rfl⟩;have hs3:w3.heap.size=w2.heap.size+1:=by rw [hw3];simp
 have u3:aa [] w2 w3:=by rw [hw3];exact (aa.refl _ _).alloc _
 have o3:w3.ownsRow 0 77 1 (.slice (some ⟨w2.heap.size,0,none⟩) 1 1) 1 [.slice none 0 0]:=by rw [hw3];exact ou w2 [.slice none 0 0] 77 0 1 1 rfl (Nat.zero_le _) μ
 rw [←hw3];have hR:=dL w3 [Value.pointer (some ⟨c,0,none⟩),.pointer (some ⟨bt,0,none⟩),.slice (some ⟨w2.heap.size,0,none⟩) 1 1] 185;rw [hs3] at hR;have u4:aa [] w3 (w3.alloc (.cells #[.pointer (some ⟨c,0,none⟩),.pointer (some ⟨bt,0,none⟩),.slice (some ⟨w2.heap.size,0,none⟩) 1 1] 185)):=(aa.refl _ _).alloc _;have z1:=hu1.size;have z2:=hu2.size;have UB:=hC.lt;have hb1:=WE.head.lt;have hb2:=WE.row.lt;have hFn:∀y,w1.heap.size<=y->y∉F:=λy hy hm=>by have:=UB y hm;omega
 have hno:∀m g,g∉CS.none.blk m:=λm g hg=>by
  obtain ⟨y,_,e⟩:=(CS.iY _ m g).1 hg;cases e
 have hv0:∀h,h < [Value.slice none 0 0].length->[Value.slice none 0 0].getD h undef=Value.slice none 0 0:=λh hh=>by
  have:h=0:=by simp at hh;omega
  subst this;rfl
 have YT:gL (w3.alloc (.cells #[.pointer (some ⟨c,0,none⟩),.pointer (some ⟨bt,0,none⟩),.slice (some ⟨w2.heap.size,0,none⟩) 1 1] 185)) ⟨w2.heap.size+1,c,bt,ba⟩ F w2.heap.size 1 w2.heap.size (NS.new n) 0 CS.none [.slice none 0 0] BG.none.R:=by
  refine ⟨hR,hC.ai (hu2.trans (u3.trans u4)),by rw [hn];exact WE.ai (u3.trans u4),au o3 u4 σ,rfl,λh hh=>by rw [hv0 h hh];exact aV.nil _ _,⟨hFn _ (by simp only;omega),hFn _ (by simp only;omega),hFn _ (by simp only;omega),hFn _ ω⟩,⟨?_,?_,?_,?_,?_⟩,λg hg=>absurd hg (hno _ g),λh g hh hg=>(by rw [hv0 h hh] at hg;cases hg),λh k g hh hk _ hg=>(by rw [hv0 h hh] at hg;cases hg)⟩
  all_goals simp only;omega
 refine ⟨w2.heap.size+1,_,by simp [hs3],⟨⟨⟨w2.heap.size+1,c,bt,ba⟩,F,w2.heap.size,1,w2.heap.size,CS.none,[.slice none 0 0],rfl,rfl,YT,rfl⟩,Vl n⟩,hu1.trans (hu2.trans (u3.trans u4)),λy hy=>?_⟩;simp only [BB.blk,ρ,τ] at hy;rcases hy with e|e|e|e|e|e|e
 ·omega
 ·omega
 ·omega
 ·omega
 ·exact hF y e
 ·exact absurd e (hno _ y)
 ·obtain ⟨j,hj,hg⟩:=iJ.1 e;rw [hv0 j hj] at hg;cases hg
theorem EY (p c:Nat):∀W:World,W.cell? ⟨p,0,none⟩=some (.pointer (some ⟨c,0,none⟩))->(method 409 126 (.pointer (some ⟨p,0,none⟩)) "Has").run Tryz.prog W=.ok (123,.pointer (some ⟨c,0,none⟩)) W:=(by intro W h;unfold method;have hm:∃m,(Array.find? (λx=>x.name == "Has") Tryz.t126.methods)=some m/\m.path.toList=[⟨185,0,true⟩]/\m.func=some (123,true)/\m.path.isEmpty=false:=⟨(Array.find? (λx=>x.name == "Has") Tryz.t126.methods).get!,by kernel_rfl,by kernel_rfl,by kernel_rfl,by kernel_rfl⟩;obtain ⟨m,h1,h2,h3,h4⟩:=hm;go_simp;simp only [follow,Place.get];go_simp;(try unfold receiverAt);(try simp only [Place.get]);(try go_simp))
theorem zw (p c:Nat):∀W:World,W.cell? ⟨p,0,none⟩=some (.pointer (some ⟨c,0,none⟩))->(method 409 126 (.pointer (some ⟨p,0,none⟩)) "Entry").run Tryz.prog W=.ok (121,.pointer (some ⟨c,0,none⟩)) W:=(by intro W h;unfold method;have hm:∃m,(Array.find? (λx=>x.name == "Entry") Tryz.t126.methods)=some m/\m.path.toList=[⟨185,0,true⟩]/\m.func=some (121,true)/\m.path.isEmpty=false:=⟨(Array.find? (λx=>x.name == "Entry") Tryz.t126.methods).get!,by kernel_rfl,by kernel_rfl,by kernel_rfl,by kernel_rfl⟩;obtain ⟨m,h1,h2,h3,h4⟩:=hm;go_simp;simp only [follow,Place.get];go_simp;(try unfold receiverAt);(try simp only [Place.get]);(try go_simp))
theorem ND (p:Nat):∀W:World,(method 409 126 (.pointer (some ⟨p,0,none⟩)) "Make").run Tryz.prog W=.ok (169,.pointer (some ⟨p,0,none⟩)) W:=λ_=>by kernel_rfl
theorem FC (p:Nat):∀W:World,(method 409 126 (.pointer (some ⟨p,0,none⟩)) "Insert").run Tryz.prog W=.ok (168,.pointer (some ⟨p,0,none⟩)) W:=λ_=>by kernel_rfl
theorem Qr (p:Nat):∀W:World,(method 409 126 (.pointer (some ⟨p,0,none⟩)) "Min").run Tryz.prog W=.ok (171,.pointer (some ⟨p,0,none⟩)) W:=λ_=>by kernel_rfl
theorem DJ (p:Nat):∀W:World,(method 409 126 (.pointer (some ⟨p,0,none⟩)) "Extract").run Tryz.prog W=.ok (167,.pointer (some ⟨p,0,none⟩)) W:=λ_=>by kernel_rfl
theorem vN {w w':World} {p:Nat} {F S:List Nat} {A:NS} {st:Nat} {G:BG} (h:Cv w p F A st G) (hu:aa S w w') (hS:∀x,x∈S->x∉F):Cv w' p F A st G:=by
 obtain ⟨⟨B,F1,gr,cr,lo,S1,vs,rfl,rfl,M,eF⟩,I⟩:=h;exact ⟨⟨B,F1,gr,cr,lo,S1,vs,rfl,rfl,M.upd hu hS,eF⟩,I⟩
theorem Xj {w:World} {p:Nat} {F:List Nat} {A:NS} {st:Nat} {G:BG} (h:Cv w p F A st G):∀x,x∈F->x<w.heap.size:=by
 obtain ⟨⟨B,F1,gr,cr,lo,S1,vs,rfl,rfl,M,eF⟩,I⟩:=h;exact M.lt
theorem WZ {w:World} {p:Nat} {F:List Nat} {A:NS} {st:Nat} {G:BG} (h:Cv w p F A st G):A.Ok:=by
 obtain ⟨⟨B,F1,gr,cr,lo,S1,vs,rfl,rfl,M,eF⟩,I⟩:=h;exact M.cells.ok
theorem Pn {w:World} {p:Nat} {F:List Nat} {A:NS} {st:Nat} {G:BG} (h:Cv w p F A st G):∃c F1,w.cell? ⟨p,0,none⟩=some (.pointer (some ⟨c,0,none⟩))/\aB w c F1 A st:=by
 obtain ⟨⟨B,F1,gr,cr,lo,S1,vs,rfl,rfl,M,eF⟩,I⟩:=h;exact ⟨B.c,F1,M.h0,M.cells⟩
def BnQ (w:World) (p:Nat) (F:List Nat) (A:NS):Prop:=∃st G,Cv w p F A st G
noncomputable def ug:NestQ where
 ty:=126
 at_:=BnQ
 upd:=λh hu hS=>by
  obtain ⟨st,G,hL⟩:=h;exact ⟨st,G,vN hL hu hS⟩
 lt:=λh=>by
  obtain ⟨st,G,hL⟩:=h;exact Xj hL
 ok:=λh=>by
  obtain ⟨st,G,hL⟩:=h;exact WZ hL
 make:=λ{w p F A} h=>by
  obtain ⟨st,G,hL⟩:=h;refine aP 169 (λ_ _=>by kernel_rfl) (ND _) (λW hW=>?_);refine (JH (vN hL hW σ)).mono ?_;rintro e w' ⟨rfl,F',hA,hu,hf⟩;exact ⟨rfl,F',⟨_,_,hA⟩,hu,hf⟩
 insert:=λ{w p F A} g y k s hk hB h=>by
  obtain ⟨st,G,hL⟩:=h;refine aP 168 (λ_ _=>by kernel_rfl) (FC _) (λW hW=>?_);refine (DU (vN hL hW σ) g y k s hk hB).mono ?_;rintro e w' ⟨rfl,F',hA,hu,hf⟩;exact ⟨rfl,F',⟨_,_,hA⟩,hu,hf⟩
 min:=λ{w p F A} y hB h=>by
  obtain ⟨st,G,hL⟩:=h;refine aP 171 (λ_ _=>by kernel_rfl) (Qr _) (λW hW=>?_);have mg:=vN hL hW σ;obtain ⟨⟨B,F1,gr,cr,lo,S1,vs,rfl,rfl,M,eF⟩,I⟩:=mg;refine (EM M I (y:Int)).mono ?_;rintro e w' ⟨rfl,hM2,hu⟩;exact ⟨rfl,Goes.stay ⟨_,_,⟨B,F1,gr,cr,lo,S1,vs,rfl,rfl,hM2,eF⟩,I⟩ (hu.mono (λy hy=>by simp at hy;subst hy;exact wM _ M.cells.mem))⟩
 extract:=λ{w p F A} y m hm h=>by
  obtain ⟨st,G,hL⟩:=h;refine aP 167 (λ_ _=>by kernel_rfl) (DJ _) (λW hW=>?_);have mg:=vN hL hW σ;have e2:pQ A (y:Int)=aU A (m:Int):=by unfold pQ;rw [hm]
  have k:=BF mg (y:Int);rw [e2,hm] at k;refine k.mono ?_;rintro e w' ⟨rfl,F',hA,hu,hf⟩;exact ⟨rfl,F',⟨_,_,hA⟩,hu,hf⟩
 has:=λx h=>by
  obtain ⟨st,G,hL⟩:=h;obtain ⟨c,F1,h0,hC⟩:=Pn hL;exact gN 123 (λ_ _=>by kernel_rfl) h0 (EY _ _) (λW hW=>iM (hC.ai hW) x)
 entry:=λ{w p F A} x h=>by
  obtain ⟨st,G,hL⟩:=h;obtain ⟨c,F1,h0,hC⟩:=Pn hL;refine gN 121 (λ_ _=>by kernel_rfl) h0 (zw _ _) (λW hW=>?_);cases hin:bR A x with
  | false=>simpa using jP (hC.ai hW) x hin
  | true=>
   obtain ⟨y,rfl⟩:=oW hin;simpa using iZ (hC.ai hW) y hin
theorem Gn (p:Nat) (w:World):Calls Tryz.prog 59 #[.pointer (some ⟨p,0,none⟩),.int .i64 0] w λe w'=>e=.returned (.tuple #[.iface 126 (.pointer (some ⟨p,0,none⟩)),.int .i64 0])/\w'=w:=by
 go_enter Tryz.func59,Tryz.ntmps59
 go_wp2;go_ret2;exact ⟨rfl,rfl⟩
theorem EF (n:Nat) (hn:n<=65536):nW ug 3 0 n:=by
 intro w;have kn:=λW=>OM n W hn;have km:=Gn;have hty:ug.ty=126:=rfl;have hat:∀w' p FF,Cv w' p FF (NS.new n) 0 BG.none->ug.at_ w' p FF (NS.new n)/\Ef w' p n:=λw' p FF h=>⟨⟨_,_,h⟩,Pn h⟩
 generalize ug=K at *;rw [hty]
 go_enter Tryz.func35,Tryz.ntmps35
 go_wp2_with (first
  | ((go_at_call 60;(with_reducible refine (kn _).mono ?_));rintro e w1 ⟨pn,FF,rfl,hS,hu1,hf⟩)
  | ((go_at_call 59;(with_reducible refine (km _ _).mono ?_));rintro e w2 ⟨rfl,rfl⟩)
  | fail)
 go_ret2;exact ⟨pn,FF,rfl,(hat _ _ _ hS).1,(hat _ _ _ hS).2,aa.trans β hu1,λx hx=>by have:=hf x hx;simp at this;omega⟩
end Go.Proofs.YtnpdakpagnpanaaGreat
