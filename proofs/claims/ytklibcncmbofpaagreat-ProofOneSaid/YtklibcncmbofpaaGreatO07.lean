/-
  Lemmas for ProofOne: Bn, Bn2, Del, Bn3, Bn4, Bn5, BnT, Bn6, Bn7, Bn8, BnW. Conditions: those of each lemma.
-/
import Derived.Lib.SliceRun
import Derived.IntWalk
import Derived.Deep.LoopGhost
import Derived.Test.YtklibcncmbofpaaGreatO03
import Derived.Test.YtklibcncmbofpaaGreatO06
set_option linter.all false
set_option maxHeartbeats 8000000
set_option maxRecDepth 10000
namespace Go.Proofs.YtklibcncmbofpaaGreat
open Go Go.RowKit
theorem Ex (p c:Nat):∀W:World,W.cell? ⟨p,0,none⟩=some (.pointer (some ⟨c,0,none⟩))->(method 429 174 (.pointer (some ⟨p,0,none⟩)) "Ahead").run Tryz.prog W=.ok (174,.pointer (some ⟨c,0,none⟩)) W:=(by intro W h;unfold method;have hm:∃m,(Array.find? (fun x=>x.name == "Ahead") Tryz.t174.methods)=some m/\m.path.toList=[⟨212,0,true⟩]/\m.func=some (174,true)/\m.path.isEmpty=false:=⟨(Array.find? (fun x=>x.name == "Ahead") Tryz.t174.methods).get!,by kernel_rfl,by kernel_rfl,by kernel_rfl,by kernel_rfl⟩;obtain ⟨m,h1,h2,h3,h4⟩:=hm;go_simp;simp only [follow,Place.get];go_simp;(try unfold receiverAt);(try simp only [Place.get]);(try go_simp))
def bnO (A:NS) (p c:Nat) (F:List Nat) (st:Nat):uJ where
 ty:=174
 p:=p
 rd:=p::c::F
 wr:=[c]
 lt:=bR A
 dom:=fun x=>bM A x=true
 at_:=fun w q=>p<w.heap.size/\p∉c::F/\w.cell? ⟨p,0,none⟩=some (.pointer (some ⟨c,0,none⟩))/\az w c F A (bO st q)
 sub:=fun x hx=>by simp at hx;subst hx;simp
 low:=fun {w q} h x hx=>by
  obtain ⟨h1,h2,h3,h4⟩:=h;rcases ρ.1 hx with rfl|hx
  ·exact h1
  ·rcases ρ.1 hx with rfl|hx
   ·exact h4.lt _ h4.mem
   ·exact h4.lt _ hx
 upd:=fun {w w' S q} h hu hS=>by
  obtain ⟨h1,h2,h3,h4⟩:=h;exact ⟨Ψ h1 hu.size,h2,hu.kept h3 (fun hm=>hS _ hm σ),h4.upd hu (fun x hx hm=>hS x hx (by simp [hm]))⟩
 asym:=oF A
 ahead:=fun {w q} x y h hx hy hq=>by
  obtain ⟨h1,h2,h3,h4⟩:=h;obtain ⟨a,rfl⟩:=qy hx;obtain ⟨b,rfl⟩:=qy hy;refine iy 174 (fun _ _=>by kernel_rfl) h3 (Ex p c) (fun W hW=>?_);refine (dU (h4.aj hW) a b hx hy).mono ?_;rintro e w' ⟨rfl,hC,hu⟩;refine ⟨by rw [lI,hx,hy];simp,⟨Ψ h1 (Χ hW.size hu.size),h2,hu.kept (hW.was h3) (fun hm=>h2 (by simp at hm;simp [hm])),by rw [←iM];exact hC⟩,hu⟩
structure BB where
 n0:Nat
 c:Nat
 bt:Nat
 ba:Nat
structure iH (w:World) (B:BB) (F:List Nat) (gr cr lo:Nat) (A:NS) (st:Nat) (S:CS) (vs:List Value) (R:Nat->List Int):Prop where
 head:aI w B.n0 212 3 (fun j=>[Value.pointer (some ⟨B.c,0,none⟩),.pointer (some ⟨B.bt,0,none⟩),.slice (some ⟨gr,0,none⟩) vs.length cr].getD j undef)
 cells:az w B.c F A st
 iY:aR w B.bt B.ba lo A.cs.length S
 rows:w.ownsRow 0 26 1 (.slice (some ⟨gr,0,none⟩) vs.length cr) vs.length vs
 len:vs.length=A.hs.length
 each:∀h,h<vs.length->aW w 0 (vs.getD h undef) (R h)
 d1:B.n0∉F/\B.bt∉F/\B.ba∉F/\gr∉F
 d2:B.n0≠B.bt/\B.n0≠B.ba/\B.n0≠gr/\B.bt≠gr/\B.ba≠gr
 d3:∀g,g∈S.blk A.cs.length->g≠B.n0/\g≠gr/\g∉F
 d4:∀h g,h<vs.length->(vs.getD h undef).ownBlock=some g->g≠B.n0/\g≠B.bt/\g≠B.ba/\g≠gr/\g∉F/\g∉S.blk A.cs.length
 d5:∀h k g,h<vs.length->k<vs.length->h≠k->(vs.getD h undef).ownBlock=some g->(vs.getD k undef).ownBlock≠some g
def ZI (vs:List Value):List Nat:=vs.filterMap Value.ownBlock
theorem jw {vs:List Value} {g:Nat}:g∈ZI vs↔∃h,h<vs.length/\(vs.getD h undef).ownBlock=some g:=by
 unfold ZI;rw [List.mem_filterMap];constructor
 ·rintro ⟨v,hv,e⟩;obtain ⟨i,hi,rfl⟩:=List.getElem_of_mem hv;exact ⟨i,hi,by simpa [φ,hi] using e⟩
 ·rintro ⟨i,hi,e⟩;exact ⟨vs[i],ϙ hi,by simpa [φ,hi] using e⟩
def BB.blk (B:BB) (F:List Nat) (gr n:Nat) (S:CS) (vs:List Value):List Nat:=B.n0::B.bt::B.ba::gr::(F++(S.blk n++ZI vs))
theorem tO (vs:List Value) (h k:Nat) (v:Value):(vs.set h v).getD k undef=if k=h/\h<vs.length then v else vs.getD k undef:=by
 simp only [φ,ύ]
 by_cases e:h=k
 ·subst e
  by_cases hl:h<vs.length
  ·simp [hl]
  ·simp [hl]
 ·rw [Γ e,Γ (fun h'=>e h'.1.symm)]
section
variable {w:World} {B:BB} {F:List Nat} {gr cr lo:Nat} {A:NS} {st:Nat} {S:CS} {vs:List Value} {R:Nat->List Int}
theorem iH.Fx (h:iH w B F gr cr lo A st S vs R):gr<w.heap.size:=(h.rows.lt gr rfl).2
theorem iH.xU (h:iH w B F gr cr lo A st S vs R) {q g:Nat} (hq:q<vs.length) (e:(vs.getD q undef).ownBlock=some g):g<w.heap.size:=((h.each q hq).lt g e).2
theorem iH.lt (h:iH w B F gr cr lo A st S vs R):∀x,x∈B.blk F gr A.cs.length S vs->x<w.heap.size:=by
 intro x hx;have h1:=h.head.lt;have h2:=h.iY.head.lt;have h3:=h.iY.row.lt;have h4:=h.Fx;simp only [BB.blk,ρ,τ] at hx;rcases hx with rfl|rfl|rfl|rfl|hx|hx|hx
 ·exact h1
 ·exact h2
 ·exact h3
 ·exact h4
 ·exact h.cells.lt x hx
 ·exact (h.iY.nN hx).2
 ·obtain ⟨q,hq,e⟩:=jw.1 hx;exact h.xU hq e
theorem iH.h0 (h:iH w B F gr cr lo A st S vs R):w.cell? ⟨B.n0,0,none⟩=some (.pointer (some ⟨B.c,0,none⟩)):=h.head.cellAt 0 ω rfl
theorem iH.h1 (h:iH w B F gr cr lo A st S vs R):w.cell? ⟨B.n0,1,none⟩=some (.pointer (some ⟨B.bt,0,none⟩)):=h.head.cellAt 1 ω rfl
theorem iH.h2 (h:iH w B F gr cr lo A st S vs R):w.cell? ⟨B.n0,2,none⟩=some (.slice (some ⟨gr,0,none⟩) vs.length cr):=h.head.cellAt 2 ω rfl
theorem iH.VC (h:iH w B F gr cr lo A st S vs R) {q:Nat} (hq:q<vs.length):w.cell? ⟨gr,q,none⟩=some (vs.getD q undef):=by
 rw [h.rows.cellAt q ω];simp [φ,hq]
theorem iH.rowf (h:iH w B F gr cr lo A st S vs R) (q:Nat):w.frozen? ⟨gr,q,none⟩=false:=h.rows.frozenAt q
theorem iH.ZH (h:iH w B F gr cr lo A st S vs R):vs.length<=65537:=by rw [h.len];exact h.cells.ok.h1
theorem iH.cn (h:iH w B F gr cr lo A st S vs R):B.n0≠B.c/\gr≠B.c/\B.bt≠B.c/\B.ba≠B.c:=by
 have hm:=h.cells.mem;exact ⟨fun e=>h.d1.1 (e▸hm),fun e=>h.d1.2.2.2 (e▸hm),fun e=>h.d1.2.1 (e▸hm),fun e=>h.d1.2.2.1 (e▸hm)⟩
theorem iH.upd {w':World} {G:List Nat} (h:iH w B F gr cr lo A st S vs R) (hu:aa G w w') (hG:∀x,x∈G->x∉B.blk F gr A.cs.length S vs):iH w' B F gr cr lo A st S vs R:=by
 have k:∀x,x∈B.blk F gr A.cs.length S vs->x∉G:=fun x hx hg=>hG x hg hx;refine ⟨h.head.upd hu (k _ (by simp [BB.blk])),h.cells.upd hu (fun x hx hm=>hG x hx (by simp [BB.blk,hm])),h.iY.upd hu (k _ (by simp [BB.blk])) (k _ (by simp [BB.blk])) (fun g hg=>k _ (by simp [BB.blk,hg])),ay h.rows hu (fun g hg=>by simp [Value.ownBlock] at hg;subst hg;exact k _ (by simp [BB.blk])),h.len,fun q hq=>(h.each q hq).upd hu (fun g hg=>k _ ?_),h.d1,h.d2,h.d3,h.d4,h.d5⟩;simp only [BB.blk,ρ,τ];exact Β (Β (Β (Β (Β (Β (jw.2 ⟨q,hq,hg⟩))))))
theorem iH.aj {w':World} (h:iH w B F gr cr lo A st S vs R) (hu:aa [] w w'):iH w' B F gr cr lo A st S vs R:=h.upd hu σ
theorem iH.bV {w':World} {F':List Nat} {A':NS} {st':Nat} (h:iH w B F gr cr lo A st S vs R) (hu:aa F w w') (hC:az w' B.c F' A' st') (hF:∀x,x∈F'->x∈F\/w.heap.size<=x) (e1:A'.cs.length=A.cs.length) (e2:A'.hs.length=A.hs.length):iH w' B F' gr cr lo A' st' S vs R:=by
 have f:=h.d1;have g:=h.lt;have hf:∀x,x<w.heap.size->x∉F->x∉F':=fun x hx hn hm=>by rcases hF x hm with h'|h';exact hn h';omega
 have l0:=g B.n0 (by simp [BB.blk]);have l1:=g B.bt (by simp [BB.blk]);have l2:=g B.ba (by simp [BB.blk]);have l4:=g gr (by simp [BB.blk])
 refine ⟨h.head.upd hu f.1,hC,by rw [e1];exact h.iY.upd hu f.2.1 f.2.2.1 (fun x hx=>(h.d3 x hx).2.2),ay h.rows hu (fun g hg=>by simp [Value.ownBlock] at hg;subst hg;exact f.2.2.2),by rw [e2];exact h.len,
  fun q hq=>(h.each q hq).upd hu (fun g hg=>(h.d4 q g hq hg).2.2.2.2.1),⟨hf _ l0 f.1,hf _ l1 f.2.1,hf _ l2 f.2.2.1,hf _ l4 f.2.2.2⟩,h.d2,fun x hx=>?_,fun q x hq hx=>?_,h.d5⟩
 ·rw [e1] at hx;have:=h.d3 x hx;exact ⟨this.1,this.2.1,hf x (h.iY.nN hx).2 this.2.2⟩
 ·have:=h.d4 q x hq hx;rw [e1];exact ⟨this.1,this.2.1,this.2.2.1,this.2.2.2.1,hf x (h.xU hq hx) this.2.2.2.2.1,this.2.2.2.2.2⟩
theorem iH.jK {w':World} {S':CS} {st':Nat} (h:iH w B F gr cr lo A st S vs R) (hu:aa (B.c::B.ba::S.blk A.cs.length) w w') (hC:az w' B.c F A st') (hS:aR w' B.bt B.ba lo A.cs.length S') (hb:∀g,g∈S'.blk A.cs.length->g∈S.blk A.cs.length\/w.heap.size<=g):iH w' B F gr cr lo A st' S' vs R:=by
 have hcn:=h.cn;have g:=h.lt;have l0:=g B.n0 (by simp [BB.blk]);have l4:=g gr (by simp [BB.blk]);have k:∀x,x≠B.c->x≠B.ba->x∉S.blk A.cs.length->x∉B.c::B.ba::S.blk A.cs.length:=fun x h1 h2 h3 hm=>by
  simp only [ρ] at hm;rcases hm with hm|hm|hm
  ·exact h1 hm
  ·exact h2 hm
  ·exact h3 hm
 have hrow:∀q x,q<vs.length->(vs.getD q undef).ownBlock=some x->x∉B.c::B.ba::S.blk A.cs.length:=fun q x hq hx=>by
  have:=h.d4 q x hq hx;exact k x (fun e=>this.2.2.2.2.1 (e▸h.cells.mem)) this.2.2.1 this.2.2.2.2.2
 refine ⟨h.head.upd hu (k _ hcn.1 h.d2.2.1 (fun hm=>(h.d3 _ hm).1 rfl)),hC,hS,ay h.rows hu (fun x hx=>by simp [Value.ownBlock] at hx;subst hx;exact k _ hcn.2.1 (Ne.symm h.d2.2.2.2.2) (fun hm=>(h.d3 _ hm).2.1 rfl)),h.len,fun q hq=>(h.each q hq).upd hu (fun x hx=>hrow q x hq hx),h.d1,h.d2,fun x hx=>?_,fun q x hq hx=>?_,h.d5⟩
 ·rcases hb x hx with h'|h'
  ·exact h.d3 x h'
  ·exact ⟨ω,ω,fun hm=>by have:=h.cells.lt x hm;omega⟩
 ·have:=h.d4 q x hq hx;refine ⟨this.1,this.2.1,this.2.2.1,this.2.2.2.1,this.2.2.2.2.1,fun hm=>?_⟩;rcases hb x hm with h'|h'
  ·exact this.2.2.2.2.2 h'
  ·have:=h.xU hq hx;omega
theorem iH.Xg {w1:World} {K:List Nat} (h:iH w B F gr cr lo A st S vs R) (q:Nat) (hq:q<vs.length) (hu1:aa K w w1) (hK:∀g,g∈K->(vs.getD q undef).ownBlock=some g) (v:Value) (X:List Int) (hv:aW w1 0 v X)
  (hg:∀g,v.ownBlock=some g->(g≠B.n0/\g≠B.bt/\g≠B.ba/\g≠gr/\g∉F/\g∉S.blk A.cs.length)/\∀k,k<vs.length->k≠q->(vs.getD k undef).ownBlock≠some g) :
  iH (w1.setCell ⟨gr,q,none⟩ v) B F gr cr lo A st S (vs.set q v) (bX R q X):=by
 have hu:aa [gr] w1 (w1.setCell ⟨gr,q,none⟩ v):=β;have kk:∀g,g∈K->g≠B.n0/\g≠B.bt/\g≠B.ba/\g≠gr/\g∉F/\g∉S.blk A.cs.length:=fun g hg=>h.d4 q g hq (hK g hg);have e:∀k,k<vs.length->(vs.set q v).getD k undef=if k=q then v else vs.getD k undef:=fun k hk=>by
  rw [tO]
  by_cases e:k=q
  ·rw [Δ ⟨e,hq⟩,Δ e]
  ·rw [Γ (fun h=>e h.1),Γ e]
 refine ⟨by rw [Ι];exact (h.head.upd hu1 (fun hm=>(kk _ hm).1 rfl)).upd hu (by simp;exact h.d2.2.2.1),(h.cells.upd hu1 (fun x hx=>(kk x hx).2.2.2.2.1)).upd hu (fun x hx hm=>by simp at hx;subst hx;exact h.d1.2.2.2 hm),
  (h.iY.upd hu1 (fun hm=>(kk _ hm).2.1 rfl) (fun hm=>(kk _ hm).2.2.1 rfl) (fun g hg hm=>(kk g hm).2.2.2.2.2 hg)).upd hu (by simp;exact h.d2.2.2.2.1) (by simp;exact h.d2.2.2.2.2) (fun x hx hm=>by simp at hm;exact (h.d3 x hx).2.1 hm),
  by rw [Ι];exact Wl (ay h.rows hu1 (fun g hg hm=>by simp [Value.ownBlock] at hg;subst hg;exact (kk _ hm).2.2.2.1 rfl)) q v,by rw [Ι];exact h.len,fun k hk=>?_,h.d1,h.d2,h.d3,fun k g hk e2=>?_,fun k j g hk hj hne e2=>?_⟩
 ·rw [Ι] at hk;rw [e k hk];unfold bX
  by_cases ek:k=q
  ·rw [Δ ek,Δ ek];exact hv.upd hu (fun g hg2 hm=>by simp at hm;exact (hg g hg2).1.2.2.2.1 hm)
  ·rw [Γ ek,Γ ek];exact ((h.each k hk).upd hu1 (fun g hg2 hm=>h.d5 k q g hk hq ek hg2 (hK g hm))).upd hu (fun g hg2 hm=>by simp at hm;exact (h.d4 k g hk hg2).2.2.2.1 hm)
 ·rw [Ι] at hk;rw [e k hk] at e2
  split at e2
  ·exact (hg g e2).1
  ·exact h.d4 k g hk e2
 ·rw [Ι] at hk hj;rw [e k hk] at e2;rw [e j hj]
  split at e2
  ·rename_i ek
   rw [Γ (fun ej=>hne ω)];exact (hg g e2).2 j hj (fun ej=>hne ω)
  ·rename_i ek
   split
   ·rename_i ej
    intro e3;exact (hg g e3).2 k hk ek e2
   ·exact h.d5 k j g hk hj hne e2
theorem iH.BV (h:iH w B F gr cr lo A st S vs R) (q:Nat) (hq:q<vs.length) (v:Value) (X:List Int) (hv:aW w 0 v X)
  (hg:∀g,v.ownBlock=some g->(g≠B.n0/\g≠B.bt/\g≠B.ba/\g≠gr/\g∉F/\g∉S.blk A.cs.length)/\∀k,k<vs.length->k≠q->(vs.getD k undef).ownBlock≠some g) :
  iH (w.setCell ⟨gr,q,none⟩ v) B F gr cr lo A st S (vs.set q v) (bX R q X):=h.Xg (K:=[]) q hq (aa.refl _ _) σ v X hv hg
theorem iH.acC {w1:World} (h:iH w B F gr cr lo A st S vs R) (q:Nat) (hq:q<vs.length) (hu:aa (vs.getD q undef).ownBlock.toList w w1) (v:Value) (X:List Int) (hv:aW w1 0 v X) (he:v.ownBlock=(vs.getD q undef).ownBlock) :
  iH (w1.setCell ⟨gr,q,none⟩ v) B F gr cr lo A st S (vs.set q v) (bX R q X):=
 h.Xg q hq hu (fun g hg=>by simpa using hg) v X hv (fun g hg=>⟨h.d4 q g hq (by rw [←he];exact hg),fun k hk hne e=>h.d5 k q g hk hq hne e (by rw [←he];exact hg)⟩)
end
theorem aW.sl {w:World} {base:Nat} {F:List Nat} {v:Value} {xs:List Int} (h:aW w base v xs) (hF:∀g,v.ownBlock=some g->g∉F):fw w F v xs:=by
 obtain ⟨a,cap,rfl,h1,h2,h3⟩:=h.shape;refine ⟨a,cap,rfl,h1,h2,fun j u hj=>?_⟩;obtain ⟨g,off,rfl,hc⟩:=h3 j u hj;exact ⟨g,off,rfl,(h.lt g rfl).2,hF g rfl,hc⟩
section
variable {w:World} {B:BB} {F:List Nat} {gr cr lo:Nat} {A:NS} {st:Nat} {S:CS} {vs:List Value} {R:Nat->List Int}
theorem iH.shape (h:iH w B F gr cr lo A st S vs R) {q:Nat} (hq:q<vs.length):∃a cap,vs.getD q undef=.slice a (R q).length cap/\(R q).length<=cap/\cap<=9223372036854775807:=by
 obtain ⟨a,cap,e,h1,h2,_⟩:=(h.each q hq).shape;exact ⟨a,cap,e,h1,h2⟩
theorem iH.hq (h:iH w B F gr cr lo A st S vs R) {q:Int} (hh:bB A q=true):∃k:Nat,q=k/\1<=k/\k<vs.length:=by
 have:=(aP _ _).1 hh;have e:=h.len;exact ⟨q.toNat,ω,ω,ω⟩
theorem Ru (M:iH w B F gr cr lo A st S vs R) (q:Nat) (hh:bB A q=true) {a:Option Addr} {n cap:Nat} (hv:vs.getD q undef=.slice a n cap) :
  Calls Tryz.prog 187 #[.pointer (some ⟨B.n0,0,none⟩),.int .i64 (q:Int)] w fun e w'=>e=.returned (.slice a n cap)/\w'=w:=by
 have k:=jg M.cells (q:Int);rw [hh] at k;have h0:=M.h0;have h2:=M.h2;obtain ⟨q',e,_,hq⟩:=M.hq hh;obtain rfl:q=q':=ω;have d:=M.VC hq;rw [hv] at d;have Bv:(0:Int)<=(q:Int):=ω;have Io:(q:Int)<(vs.length:Int):=ω;clear M hh hv e
 go_enter Tryz.func187,Tryz.ntmps187
 go_wp2_with ((go_at_call 139;(with_reducible refine (k).mono ?_);rintro e w9 ⟨rfl,aG⟩;rw [aG];clear aG w9))
 go_ret;exact ⟨rfl,rfl⟩
theorem Xa (M:iH w B F gr cr lo A st S vs R) (q:Int) (hh:bB A q=false) :
  Calls Tryz.prog 187 #[.pointer (some ⟨B.n0,0,none⟩),.int .i64 q] w fun e w'=>e=.returned (.slice none 0 0)/\w'=w:=by
 have k:=jg M.cells q;rw [hh] at k;have h0:=M.h0;clear M hh
 go_enter Tryz.func187,Tryz.ntmps187
 go_wp2_with ((go_at_call 139;(with_reducible refine (k).mono ?_);rintro e w9 ⟨rfl,aG⟩;rw [aG];clear aG w9))
 go_ret;exact ⟨rfl,rfl⟩
theorem iH.ord (M:iH w B F gr cr lo A st S vs R):(bnO A B.n0 B.c F st).at_ w 0:=by
 have h:=M.cells.oO;refine ⟨M.head.lt,?_,M.h0,by rw [fT h];exact M.cells⟩;simp only [ρ,not_or];exact ⟨M.cn.1,M.d1.1⟩
theorem iH.apart (M:iH w B F gr cr lo A st S vs R):Apart (bnO A B.n0 B.c F st) B.bt B.ba A.cs.length S:=by
 have hc:=M.cn;refine ⟨?_,?_,fun g hg=>?_⟩
 ·show B.bt∉B.n0::B.c::F
  simp only [ρ,not_or];exact ⟨Ne.symm M.d2.1,hc.2.2.1,M.d1.2.1⟩
 ·show B.ba∉B.n0::B.c::F
  simp only [ρ,not_or];exact ⟨Ne.symm M.d2.2.1,hc.2.2.2,M.d1.2.2.1⟩
 ·show g∉B.n0::B.c::F
  have:=M.d3 g hg;simp only [ρ,not_or];exact ⟨this.1,fun e=>this.2.2 (e▸M.cells.mem),this.2.2⟩
theorem J9 (M:iH w B F gr cr lo A st S vs R) (ok:ou A.cs.length S.f) {va vl:Value} {X L:List Int} (hva:fw w (B.c::B.ba::S.blk A.cs.length) va X) (hvl:fw w (B.c::B.ba::S.blk A.cs.length) vl L)
  (hA:lq A.cs.length S.f X) (hB:lq A.cs.length S.f L) (hd:∀x,x∈X->x∉L) (hin:∀z,z∈X\/z∈L->bM A z=true) :
  Calls Tryz.prog 194 #[.pointer (some ⟨B.bt,0,none⟩),.iface 174 (.pointer (some ⟨B.n0,0,none⟩)),va,vl] w fun e w'=>
   ∃S' vo,e=.returned (.tuple #[vo,.bool true])/\S'.f=(kH (bR A) A.cs.length S.f X L).F/\iH w' B F gr cr lo A (bO st (kH (bR A) A.cs.length S.f X L).q) S' vs R/\aW w' w.heap.size vo (kH (bR A) A.cs.length S.f X L).O/\
    aa (B.c::B.ba::S.blk A.cs.length) w w'/\(∀g,g∈S'.blk A.cs.length->g∈S.blk A.cs.length\/w.heap.size<=g)/\(∀g,vo.ownBlock=some g->g∉S'.blk A.cs.length)/\∃a n cap,vo=.slice a n cap:=by
 refine (NU (bnO A B.n0 B.c F st) B.bt B.ba lo A.cs.length S va vl X L 0 w ⟨M.iY,M.ord,M.apart,M.iY.head.lt,ok⟩ hva hvl hA hB hd (Nat.zero_le _) (fun x hx=>hin x (Α hx)) (fun x hx=>hin x (Β hx))).mono ?_;rintro e w' ⟨S',vo,O,q',rfl,hFL,hTo,hG,hO,hS,hu,hb,hx⟩;obtain ⟨e1,e2,e3⟩:=Yw hG (oF A) M.iY.le hTo;have e1:(kH (bR A) A.cs.length S.f X L).F=S'.f:=e1;have e2:(kH (bR A) A.cs.length S.f X L).O=O:=e2;have e3:(kH (bR A) A.cs.length S.f X L).q=q':=e3;rw [e1,e2,e3];obtain ⟨a,cap,e4,_⟩:=hO.shape;exact ⟨S',vo,rfl,rfl,M.jK hu hFL.l.2.2.2 hFL.f hb,hO,hu,hb,hx,a,_,cap,e4⟩
theorem GQ (M:iH w B F gr cr lo A st S vs R) (ok:ou A.cs.length S.f) (q:Nat) (hq:q<vs.length) {vl:Value} {L:List Int} (hvl:fw w (B.c::B.ba::S.blk A.cs.length) vl L)
  (hA:lq A.cs.length S.f (R q)) (hB:lq A.cs.length S.f L) (hd:∀x,x∈R q->x∉L) (hin:∀z,z∈R q\/z∈L->bM A z=true) :
  Calls Tryz.prog 186 #[.pointer (some ⟨B.n0,0,none⟩),.int .i64 (q:Int),vl] w fun e w'=>
   ∃S' vo,e=.returned (.tuple #[])/\S'.f=(kH (bR A) A.cs.length S.f (R q) L).F/\iH w' B F gr cr lo A (bO st (kH (bR A) A.cs.length S.f (R q) L).q) S' (vs.set q vo) (bX R q (kH (bR A) A.cs.length S.f (R q) L).O)/\
    aa (B.c::B.ba::gr::S.blk A.cs.length) w w'/\(∀g,g∈S'.blk A.cs.length->g∈S.blk A.cs.length\/w.heap.size<=g)/\(∀g,vo.ownBlock=some g->w.heap.size<=g):=by
 have hrow:fw w (B.c::B.ba::S.blk A.cs.length) (vs.getD q undef) (R q):=(M.each q hq).sl (fun g hg hm=>by
  have:=M.d4 q g hq hg;simp only [ρ] at hm;rcases hm with e|e|e
  ·exact this.2.2.2.2.1 (e▸M.cells.mem)
  ·exact this.2.2.1 e
  ·exact this.2.2.2.2.2 e)
 have kc:=fun W (hW:aa [] w W)=>J9 (M.aj hW) ok (hrow.upd hW σ) (hvl.upd hW σ) hA hB hd hin;obtain ⟨a,cap,hv,_⟩:=M.shape hq;obtain ⟨a2,cap2,hv2,_⟩:=hvl;subst hv2;rw [hv] at kc;have h1:=M.h1;have h2:=M.h2;have d:=M.VC hq;rw [hv] at d;have df:=M.rowf q;have hcn:=M.cn;have nn:∀x,x≠B.c->x≠B.ba->x∉S.blk A.cs.length->x∉B.c::B.ba::S.blk A.cs.length:=fun x h1 h2 h3 hm=>by
  simp only [ρ] at hm;rcases hm with hm|hm|hm
  ·exact h1 hm
  ·exact h2 hm
  ·exact h3 hm
 have n0:B.n0∉B.c::B.ba::S.blk A.cs.length:=nn _ hcn.1 M.d2.2.1 (fun hm=>(M.d3 _ hm).1 rfl);have ng:gr∉B.c::B.ba::S.blk A.cs.length:=nn _ hcn.2.1 (Ne.symm M.d2.2.2.2.2) (fun hm=>(M.d3 _ hm).2.1 rfl);have r1:∀W,aa (B.c::B.ba::S.blk A.cs.length) w W->W.cell? ⟨B.n0,1,none⟩=some (.pointer (some ⟨B.bt,0,none⟩)):=fun W hW=>hW.kept h1 n0;have r2:∀W,aa (B.c::B.ba::S.blk A.cs.length) w W->W.cell? ⟨B.n0,2,none⟩=some (.slice (some ⟨gr,0,none⟩) vs.length cr):=fun W hW=>hW.kept h2 n0
 have r3:∀W,aa (B.c::B.ba::S.blk A.cs.length) w W->W.cell? ⟨gr,q,none⟩=some (.slice a (R q).length cap)/\W.frozen? ⟨gr,q,none⟩=false:=fun W hW=>⟨hW.kept d ng,hW.aK d ng df⟩
 have Bv:(0:Int)<=(q:Int):=ω;have Io:(q:Int)<(vs.length:Int):=ω;have hgl:=M.Fx;have HM:=χ M;have hvl2:=M.ZH;clear M hrow hA hB hd hin hv hcn nn;generalize hC:kH (bR A) A.cs.length S.f (R q) L=C at *;generalize hrl:(R q).length=rl at *;generalize hll:L.length=ll at *;clear hC hrl hll
 go_enter Tryz.func186,Tryz.ntmps186
 go_wp2
 go_region_law
  (first
   | (go_simp;go_at_call 194;(with_reducible refine (kc _ β).mono ?_);rintro e w5 ⟨S5,vo,rfl,hS5,wT,BD,xQ,hb5,hx5,a5,n5,c5,rfl⟩;(have bP:aa (B.c::B.ba::S.blk A.cs.length) w w5:=aa.trans β xQ);(have q1:=r1 _ bP);(have q2:=r2 _ bP);obtain ⟨q3,q4⟩:=r3 _ bP))
 all_goals
  go_wp2;go_end0;refine ⟨S5,_,rfl,hS5,wT.BV q hq _ C.O (BD.mono (Nat.zero_le _)) (fun g hg=>?_),(bP.mono (fun y hy=>?_)).setCell (Α σ) _,fun g hg=>?_,fun g hg=>?_⟩
  ·have hgs:=(BD.lt g hg).1;have ll:=HM.out.lt;have hw:w.heap.size<=g:=hgs;refine ⟨⟨?_,?_,?_,?_,fun hm=>?_,hx5 g hg⟩,fun k hk hne e=>?_⟩
   ·have:=ll B.n0 (by simp [BB.blk]);omega
   ·have:=ll B.bt (by simp [BB.blk]);omega
   ·have:=ll B.ba (by simp [BB.blk]);omega
   ·omega
   ·have:=HM.out.cells.lt g hm;omega
   ·have:=HM.out.xU hk e;omega
  ·simp only [ρ] at hy ⊢;rcases hy with hy|hy|hy
   ·exact Α hy
   ·exact Β (Α hy)
   ·exact Β (Β (Β hy))
  ·exact hb5 g hg
  ·exact (BD.lt g hg).1
end
theorem aW.row {w:World} {base:Nat} {v:Value} {xs:List Int} (h:aW w base v xs) (hne:xs≠[]):∃g off cap m f,v=.slice (some ⟨g,off,none⟩) xs.length cap/\base<=g/\aI w g 3 m f/\xs.length<=cap/\cap<=9223372036854775807/\off+cap<=m/\∀j u,xs[j]?=some u->f (off+j)=.int .i64 u:=by
 rcases h with ⟨_,e⟩|⟨g,off,cap,cur,rfl,hb,hg,h1,h2,h3,h4⟩
 ·exact absurd e hne
 ·refine ⟨g,off,cap,cur.size,fun j=>cur.getD j undef,rfl,hb,⟨cur,hg,rfl,fun j hj=>by simp [hj]⟩,h1,h2,h3,fun j u hj=>?_⟩;have:=h4 j u hj;simp [Array.getD_eq_getD_getElem?,this]
theorem aI.off {w:World} {base g off cap m:Nat} {f:Nat->Value} {ys:List Int} (h:aI w g 3 m f) (hb:base<=g) (h1:ys.length<=cap) (h2:cap<=9223372036854775807) (h3:off+cap<=m) (h4:∀j u,ys[j]?=some u->f (off+j)=.int .i64 u):aW w base (.slice (some ⟨g,off,none⟩) ys.length cap) ys:=by
 obtain ⟨arr,a1,a2,a3⟩:=h;refine Β ⟨g,off,cap,arr,rfl,hb,a1,h1,h2,ω,fun j u hj=>?_⟩;have hjl:j<ys.length:=(List.getElem?_eq_some_iff.1 hj).1;rw [a3 (off+j) ω,h4 j u hj]
theorem Dt (w:World) (b:Nat) (x y:Int) (h:w.cell? ⟨b,0,none⟩=some (.int .i64 x)) :
  Calls Tryz.prog 192 #[.int .i64 y,.pointer (some ⟨b,0,none⟩)] w fun e w'=>e=.returned (.bool (x == y))/\w'=w:=by
 go_enter Tryz.func192,Tryz.ntmps192
 go_wp2;go_ret;exact ⟨rfl,rfl⟩
theorem JU (w:World) (F:List Nat) (b:Nat) (v:Value) (l1 l2:List Int) (x:Int) (h:fw w F v (l1++x::l2)) (hn:x∉l1) (hb:w.cell? ⟨b,0,none⟩=some (.int .i64 x)) :
  Calls Tryz.prog 197 #[v,.func (Fn.func 192) #[] #[.pointer (some ⟨b,0,none⟩)]] w fun e w'=>e=.returned (.int .i64 (l1.length:Int))/\w'=w:=by
 obtain ⟨a,cap,rfl,hlc,hcp,hp⟩:=h;have HP:=χ hp;clear hp;have hg:∀q,q<l1.length->(l1++x::l2)[q]?=l1[q]?:=fun q hq=>Ρ hq;have hx:(l1++x::l2)[l1.length]?=some x:=by rw [ϊ (Θ _)];simp
 have hl:l1.length<(l1++x::l2).length:=σ;generalize l1++x::l2=xs at *;generalize hxl:xs.length=len at *;have HN:=χ (ψ hn (ψ hg hx));have kc:=fun y=>Dt w b x y hb;clear hn hg hx hb hxl;generalize hk:l1.length=k at *;have HK:=χ hk;clear hk
 go_enter Tryz.func197,Tryz.ntmps197
 go_wp2
 go_loop [8] (fun i=>∃q:Nat,q<=k/\i=.int .i64 (q:Int)) (fun i=>k+1-(intOf i).toNat)
 case atStart=>exact ⟨0,ω,rfl⟩
 case round=>
  obtain ⟨q,hq,rfl⟩:=hrel;have hql:(q:Int)<(len:Int):=ω
  by_cases hqk:q<k
  ·obtain ⟨y,pW⟩:∃y,l1[q]?=some y:=⟨l1[q]'(by rw [HK.out];exact hqk),σ⟩;obtain ⟨gb,off,rfl,_,_,hc⟩:=HP.out q y (by rw [HN.out.2.1 q hqk];exact pW);have k1:=kc y;have hxy:(x == y)=false:=by
    have:x≠y:=fun e=>HN.out.1 (by rw [e];exact Η pW);simpa using this
   rw [hxy] at k1;clear pW kc
   go_wp2_with ((go_at_call 192;(with_reducible refine (k1).mono ?_);rintro e w9 ⟨rfl,aG⟩;rw [aG];clear aG w9))
   go_round
   case rel=>exact ⟨q+1,ω,by go_num⟩
   case measure=>simp [intOf];omega
  ·obtain rfl:q=k:=ω;obtain ⟨gb,off,rfl,_,_,hc⟩:=HP.out q x HN.out.2.2;have k1:=kc x;rw [show (x == x)=true by simp] at k1;clear kc
   go_wp2_with ((go_at_call 192;(with_reducible refine (k1).mono ?_);rintro e w9 ⟨rfl,aG⟩;rw [aG];clear aG w9))
   go_ret;exact ⟨rfl,rfl⟩
theorem QG (w:World):(zeroValue 3).run Tryz.prog w=.ok (.int .i64 0) w:=by kernel_rfl
theorem Qx (w:World) (b base:Nat) (v:Value) (l1 l2:List Int) (x:Int) (h:aW w base v (l1++x::l2)) (hn1:x∉l1) (hn2:x∉l2) (hb:w.cell? ⟨b,0,none⟩=some (.int .i64 x)) (hbv:v.ownBlock≠some b) (hlen:(l1++x::l2).length<=1000000) :
  Calls Tryz.prog 191 #[v,.func (Fn.func 192) #[] #[.pointer (some ⟨b,0,none⟩)]] w fun e w'=>∃v',e=.returned v'/\aW w' base v' (l1++l2)/\v'.ownBlock=v.ownBlock/\aa v.ownBlock.toList w w'/\∃a n c,v'=.slice a n c:=by
 have ki:=JU w [] b v l1 l2 x (by
  obtain ⟨a,cap,rfl,h1,h2,h3⟩:=h.shape;refine ⟨a,cap,rfl,h1,h2,fun j u hj=>?_⟩;obtain ⟨g,off,rfl,hc⟩:=h3 j u hj
  exact ⟨g,off,rfl,(h.lt g rfl).2,σ,hc⟩) hn1 hb
 obtain ⟨g,off,cap,m,f,rfl,hbg,hR,hlc,hcp,hcm,hf⟩:=h.row σ;have hbg2:b≠g:=fun e=>hbv (by rw [e];rfl);have hx1:∀j,j<l1.length->(l1++x::l2)[j]?=l1[j]?:=fun j hj=>Ρ hj;have hx2:∀j,l1.length<j->(l1++x::l2)[j]?=l2[j-(l1.length+1)]?:=fun j hj=>by
  rw [ϊ ω,show j-l1.length=(j-(l1.length+1))+1 by omega,List.getElem?_cons_succ]
 have hln:(l1++x::l2).length=l1.length+l2.length+1:=ζ;simp only [hln] at hlc hlen ki ⊢;have hy1:∀j,j<l1.length->(l1++l2)[j]?=l1[j]?:=fun j hj=>Ρ hj;have hy2:∀j,l1.length<=j->(l1++l2)[j]?=l2[j-l1.length]?:=fun j hj=>ϊ hj;have hyl:(l1++l2).length=l1.length+l2.length:=σ;have HF:=χ (ψ hf (ψ hx1 (ψ hx2 (ψ hy1 (ψ hy2 hyl)))));have HR:=χ hR;have HN:=χ hn2;clear h hf hx1 hx2 hy1 hy2 hyl hn1 hn2 hR;have hlt:g<w.heap.size:=HR.out.lt;generalize hk:l1.length=k at *;generalize hl:l2.length=l at *;have HK:=χ (ψ hk hl);have hkm1:((k:Int) == -1)=false:=beq_eq_false_iff_ne.2 ω
 have hwr0:IntKind.i64.wrap ((k:Int)+1)=((k+1:Nat):Int):=by rw [Μ _ ω];omega
 clear hk hl hln hlen hbv
 go_enter Tryz.func191,Tryz.ntmps191
 go_wp2_with ((go_at_call 197;(with_reducible refine (ki).mono ?_);rintro e w9 ⟨rfl,aG⟩;rw [aG];clear aG w9))
 clear ki
 go_loopw [5,6,7] (fun s5 s6 _ wr=>∃ (j:Nat) (fj:Nat->Value),s5=.int .i64 ((k+j:Nat):Int)/\s6=.int .i64 ((k+j+1:Nat):Int)/\j<=l/\aI wr g 3 m fj/\(∀q,q<off+k->fj q=f q)/\(∀q u,q<j->l2[q]?=some u->fj (off+k+q)=.int .i64 u)/\(∀q,off+k+j<=q->fj q=f q)/\aa [g] w wr) (fun _ s6 _ _=>k+l+1-(intOf s6).toNat)
 case atStart=>exact ⟨0,f,σ,σ,ω,HR.out,fun q hq=>rfl,fun q u hq=>ω,fun q hq=>rfl,aa.refl _ _⟩
 case round=>
  obtain ⟨j,fj,rfl,rfl,hj,hRj,hf1,hf2,hf3,hu⟩:=hrel;rename World=>wr;have HJ:=χ (ψ hf1 (ψ hf2 hf3));have HRj:=χ hRj;have HJR:=χ hRj;have hbc:=hu.kept hb (by simp;exact hbg2)
  by_cases hjl:j<l
  ·obtain ⟨y,pW⟩:∃y,l2[j]?=some y:=⟨l2[j]'(by rw [HK.out.2];exact hjl),σ⟩;have c0:=hRj.cellAt (off+(k+j+1)) ω ((hf3 _ ω).trans (HF.out.1 (k+j+1) y (by rw [HF.out.2.2.1 _ ω,show k+j+1-(k+1)=j by omega];exact pW)));have c1:=hRj.cell (off+(k+j)) ω;have f1:=hRj.free (off+(k+j));have hxy:(x == y)=false:=by
    have:x≠y:=fun e=>HN.out (by rw [e];exact Η pW);simpa using this
   have kc:=Dt wr b x y hbc;rw [hxy] at kc;have hi1:((k+j+1:Nat):Int)<((k+l+1:Nat):Int):=ω;have hi2:((k+j:Nat):Int)<((k+l+1:Nat):Int):=ω;have hw1:IntKind.i64.wrap (((k+j:Nat):Int)+1)=((k+(j+1):Nat):Int):=by rw [Μ _ ω];omega
   have hw2:IntKind.i64.wrap (((k+j+1:Nat):Int)+1)=((k+(j+1)+1:Nat):Int):=by rw [Μ _ ω];omega
   have HY:=χ pW;clear hf1 hf2 hf3 hRj pW;generalize hA:k+j+1=ja at *;generalize hB:k+j=jb at *;generalize hL:k+l+1=jl at *
   go_wp2_with ((go_at_call 192;(with_reducible refine (kc).mono ?_);rintro e w9 ⟨rfl,aG⟩;rw [aG];clear aG w9))
   go_roundw
   case rel=>
    refine ⟨j+1,_,by go_num,by go_num,ω,HRj.out.set (off+jb) _,fun q hq=>?_,fun q u hq hqu=>?_,fun q hq=>?_,hu.setCell (Α σ) _⟩
    ·rw [Γ ω];exact HJ.out.1 q hq
    ·by_cases e:q=j
     ·subst e;rw [Δ ω];rw [HY.out] at hqu;cases hqu;rfl
     ·rw [Γ ω];exact HJ.out.2.1 q u ω hqu
    ·rw [Γ ω];exact HJ.out.2.2 q ω
   case measure=>simp [intOf];omega
  ·obtain rfl:j=l:=ω;have c1:=hRj.cell (off+(k+j)) ω;have f1:=hRj.free (off+(k+j));have hcl:∀ty,(Builtin.clear_ #[26] ty #[.slice (some ⟨g,off+(k+j),none⟩) 1 (cap-(k+j))]).run Tryz.prog wr=.ok (.tuple #[]) (wr.setCell ⟨g,off+(k+j),none⟩ (.int .i64 0)):=fun ty=>by
    have:=Lib.run_clear_slice wr 26 3 ty (.int .i64 0) Tryz.underlying26 QG rfl rfl g (off+(k+j)) 1 (cap-(k+j)) ω (fun t ht=>by rw [show off+(k+j)+t=off+(k+j) by omega,c1];rfl) (fun t ht=>by rw [show off+(k+j)+t=off+(k+j) by omega];exact f1);rw [this]
    rfl
   have HCM:=χ hcm;have hi3:¬ ((k+j+1:Nat):Int)<((k+j+1:Nat):Int):=ω;have hJB:=χ (show k+j=k+j from rfl);clear hf1 hf2 hf3 hRj c1 hcm hbc hb;generalize hB:k+j=jb at *;go_wp2;go_ret;have hR2:=HJR.out.set (off+jb) (.int .i64 0);have hk1:=HK.out.1;have hk2:=HK.out.2;have hlen:(l1++l2).length=jb:=by have:=HF.out.2.2.2.2.2;omega
   have hO:=hR2.off (base:=base) (ys:=l1++l2) (off:=off) (cap:=cap) hbg ω hcp HCM.out (fun q u hq=>by
    have hql:q<(l1++l2).length:=(List.getElem?_eq_some_iff.1 hq).1;rw [Γ ω]
    by_cases e:q<k
    ·rw [HJ.out.1 (off+q) ω];exact HF.out.1 q u (by rw [HF.out.2.1 q ω];rw [HF.out.2.2.2.1 q ω] at hq;exact hq)
    ·have h3:=HF.out.2.2.2.2.1 q ω;have h5:l2[q-k]?=some u:=by rw [←hq,h3]
     have:=HJ.out.2.1 (q-k) u ω h5;rw [show off+k+(q-k)=off+q by omega] at this
     exact this)
   rw [hlen] at hO;exact ⟨_,rfl,hO,rfl,hu.setCell (Α σ) _,_,_,_,rfl⟩
def BnAt (w:World) (p:Nat) (FF:List Nat) (A:NS) (st:Nat) (G:BG):Prop:=∃B F gr cr lo S vs,p=B.n0/\FF=B.blk F gr A.cs.length S vs/\iH w B F gr cr lo A st S vs G.R/\S.f=G.F
theorem Uj {l:List Int} {x:Int} (hn:l.Nodup) (hx:x∈l):∃l1 l2,l=l1++x::l2/\x∉l1/\x∉l2/\l.filter (fun z=>z != x)=l1++l2:=by
 obtain ⟨l1,l2,rfl⟩:=List.append_of_mem hx;rw [θ,Ζ] at hn;have h1:x∉l1:=fun h=>hn.2.2 x h x σ rfl;have h2:x∉l2:=hn.2.1.1;refine ⟨l1,l2,rfl,h1,h2,?_⟩;have f:∀l:List Int,x∉l->l.filter (fun z=>z != x)=l:=fun l hl=>by
  rw [List.filter_eq_self];intro a ha;simp;intro e;subst e;exact hl ha
 rw [List.filter_append,List.filter_cons_of_neg σ,f l1 h1,f l2 h2]
section
variable {w:World} {B:BB} {F:List Nat} {gr cr lo:Nat} {A:NS} {st:Nat} {S:CS} {vs:List Value} {G:BG}
theorem NT (M:iH w B F gr cr lo A st S vs G.R) (eF:S.f=G.F) {x h:Nat} (X:Fq A G x) (hx:x<A.cs.length) (hr:G.F.u x=-1) (hin:0<(A.c x).i) (hh:(A.c x).i=h) (hq:h<vs.length) :
  Calls Tryz.prog 185 #[.pointer (some ⟨B.n0,0,none⟩),.int .i64 (h:Int),.int .i64 (x:Int)] w fun e w'=>e=.returned (.bool true)/\
   Goes (B.blk F gr A.cs.length S vs) w w' (fun FF=>BnAt w' B.n0 FF (aY A x) (bO st (yz A h x G)) (qX A h x G)):=by
 have ok:=M.cells.ok;obtain ⟨T1,T2,mx,t1,t2,t3,t4,t5⟩:=LC X ok hx hr hin hh;have nd:=(X.rh.row h).nodup;obtain ⟨l1,l2,eR,n1,n2,eL⟩:=Uj nd mx;have hrl:(G.R h).length<=65536:=Χ (rG A.cs.length _ nd (fun z hz=>⟨((X.rh.row h).1 z hz).1,((X.rh.row h).1 z hz).2.1⟩)) ok.c1;obtain ⟨w0,hw0⟩:∃w0,w0=w.alloc (.cells #[.int .i64 (x:Int)] 3):=⟨_,rfl⟩;have hs0:w.heap.size<w0.heap.size:=by rw [hw0];simp
 have u0:aa [] w w0:=by rw [hw0];exact (aa.refl _ _).alloc _
 have hb0:w0.cell? ⟨w.heap.size,0,none⟩=some (.int .i64 (x:Int)):=by rw [hw0];simp
 have hlt:=M.lt;have hbx:∀g,(vs.getD h undef).ownBlock=some g->g≠w.heap.size:=fun g hg e=>by have:=M.xU hq hg;omega
 have kd:=fun W (hW:aa [] w0 W)=>Qx W w.heap.size 0 (vs.getD h undef) l1 l2 x (by rw [←eR];exact (M.each h hq).upd (u0.trans hW) σ) n1 n2 (hW.was hb0) (fun e=>hbx _ e rfl) (by rw [←eR];omega);obtain ⟨a,cap,hv,_⟩:=M.shape hq;have h2:=M.h2;have d:=M.VC hq;rw [hv] at d;have df:=M.rowf h;have n0:B.n0∉(vs.getD h undef).ownBlock.toList:=fun hm=>(M.d4 h _ hq (by simpa using hm)).1 rfl;have ng:gr∉(vs.getD h undef).ownBlock.toList:=fun hm=>(M.d4 h _ hq (by simpa using hm)).2.2.2.1 rfl;have nb:w.heap.size∉(vs.getD h undef).ownBlock.toList:=fun hm=>hbx _ (by simpa using hm) rfl
 have r2:∀W,aa (vs.getD h undef).ownBlock.toList w0 W->W.cell? ⟨B.n0,2,none⟩=some (.slice (some ⟨gr,0,none⟩) vs.length cr):=fun W hW=>hW.kept (u0.was h2) n0;have r3:∀W,aa (vs.getD h undef).ownBlock.toList w0 W->W.cell? ⟨gr,h,none⟩=some (.slice a (G.R h).length cap)/\W.frozen? ⟨gr,h,none⟩=false:=fun W hW=>⟨hW.kept (u0.was d) ng,hW.aK (u0.was d) ng (u0.aK d σ df)⟩
 have r4:∀W,aa (vs.getD h undef).ownBlock.toList w0 W->W.cell? ⟨w.heap.size,0,none⟩=some (.int .i64 (x:Int)):=fun W hW=>hW.kept hb0 nb;have Bv:(0:Int)<=(h:Int):=ω;have Io:(h:Int)<(vs.length:Int):=ω;have hgl:=M.Fx;have hn0l:=hlt B.n0 (by simp [BB.blk]);have HM:=χ M;have HX:=χ (ψ T1 (ψ t1 (ψ t2 (ψ t3 (ψ t4 (ψ t5 (ψ eL (ψ eF X))))))));have hvl2:=M.ZH;rw [hv] at kd r2 r3 r4;clear M X T1 T2 mx t1 t2 t3 t4 t5 nd eL hbx ok h2 d df n0 ng nb n1 n2 eF hlt;have HV:=χ hv;clear eR hrl;generalize (G.R h).length=rl at *
 go_enter Tryz.func185,Tryz.ntmps185
 go_wp2;rw [←hw0];clear hw0 hb0
 go_cut [20] (fun s20 wx=>∃v1,iH wx B F gr cr lo A st S (vs.set h v1) (bX G.R h (l1++l2))/\wx.cell? ⟨w.heap.size,0,none⟩=some (.int .i64 (x:Int))/\aa (gr::(Value.slice a rl cap).ownBlock.toList) w wx/\v1.ownBlock=(Value.slice a rl cap).ownBlock)
 case first=>
  have p2:=r2 _ (aa.refl _ _);obtain ⟨p3,p4⟩:=r3 _ (aa.refl _ _)
  go_region_law
   (first
    | (go_simp;go_at_call 191;(with_reducible refine (kd _ β).mono ?_);rintro e w1 ⟨v1,rfl,sV,hb1,hu1a,a1,n1,c1,rfl⟩;(have hu1:aa (Value.slice a rl cap).ownBlock.toList w0 w1:=aa.trans β hu1a);(have q2:=r2 _ hu1);obtain ⟨q3,q4⟩:=r3 _ hu1;(have q5:=r4 _ hu1)))
  all_goals
   go_wp2
   go_meet
   have hu2:aa (Value.slice a rl cap).ownBlock.toList w w1:=(u0.mono σ).trans hu1;exact ⟨_,HM.out.acC h hq (by rw [hv];exact hu2) _ _ sV (by rw [hv];exact hb1),γ,(hu2.mono (by simp +contextual)).setCell (Α σ) _,hb1⟩
 case rest=>
  obtain ⟨v1,hM2,hb2,hu2,ho2⟩:=hcut;obtain ⟨T1,t1,t2,t3,t4,t5,eL,eF,X⟩:=HX.out;have hvs2:(vs.set h v1).length=vs.length:=Ι;have hfs:ou A.cs.length S.f:=by rw [eF];exact X.fh.f
  have hSk:S.k x=G.F.k x:=by rw [←eF];rfl
  have ksp:=fun W (hW:aa [] wc W)=>Ph B.bt B.ba lo A.cs.length S x W (hM2.iY.aj hW) hx (by unfold oz;rw [Ν ω];have e:S.u x=-1:=(by rw [←hr,←eF];rfl);simp [e]) (fun k hk=>by have:=hfs.wK x hx k hk;omega);have h1:=hM2.h1;have hl2:=hM2.lt;have hbn:w.heap.size∉B.c::B.ba::gr::S.blk A.cs.length:=fun hm=>by
   have hl:=HM.out.lt;simp only [ρ] at hm;rcases hm with e|e|e|e
   ·have:=HM.out.cells.lt B.c HM.out.cells.mem;omega
   ·have:=hl B.ba (by simp [BB.blk]);omega
   ·omega
   ·have:=(HM.out.iY.nN e).2;omega
  have hn0:B.n0∉B.c::B.ba::gr::S.blk A.cs.length:=fun hm=>by
   have hcn:=HM.out.cn;simp only [ρ] at hm;rcases hm with e|e|e|e
   ·exact hcn.1 e
   ·exact HM.out.d2.2.1 e
   ·exact HM.out.d2.2.2.1 e
   ·exact (HM.out.d3 _ e).1 rfl
  have r1:∀W,aa (B.c::B.ba::gr::S.blk A.cs.length) wc W->W.cell? ⟨B.n0,1,none⟩=some (.pointer (some ⟨B.bt,0,none⟩)):=fun W hW=>hW.kept h1 hn0;have r0:∀W,aa (B.c::B.ba::gr::S.blk A.cs.length) wc W->W.cell? ⟨w.heap.size,0,none⟩=some (.int .i64 (x:Int)):=fun W hW=>hW.kept hb2 hbn
  have ka:=fun (W:World) (vl:Value) (hM:iH W B F gr cr lo A st (gL S x) (vs.set h v1) (bX G.R h (l1++l2))) (hvl:fw W (B.c::B.ba::(gL S x).blk A.cs.length) vl (G.F.k x))=>GQ hM (by rw [y5,eF];exact X.fh.f.RF hx hr) h (by rw [hvs2];exact hq) hvl (by rw [y5,eF,show bX G.R h (l1++l2) h=l1++l2 by simp [bX],←eL];exact t1) (by rw [y5,eF];exact t2) (fun z hz=>by rw [show bX G.R h (l1++l2) h=l1++l2 by simp [bX],←eL] at hz;exact t3 z hz) (fun z hz=>by rw [show bX G.R h (l1++l2) h=l1++l2 by simp [bX],←eL] at hz;exact t5 z (by rcases hz with hz|hz;exact Α (List.mem_filter.1 hz).1;exact Β hz))
  have nE:=χ hM2;have HB:=χ (show ∀W:World,aa [B.ba] wc W->aR W B.bt B.ba lo A.cs.length (gL S x)->iH W B F gr cr lo A st (gL S x) (vs.set h v1) (bX G.R h (l1++l2)) from fun W hu hF=>nE.out.jK (hu.mono σ) (nE.out.cells.upd hu (fun y hy hm=>by simp at hy;subst hy;exact nE.out.d1.2.2.1 hm)) hF (fun g hg=>Α (qB S x _ g hg)))
  have HSUB:=χ (show ∀y,y∈B.c::B.ba::gr::(gL S x).blk A.cs.length->y∈B.c::B.ba::gr::S.blk A.cs.length from fun y hy=>by
   simp only [ρ] at hy ⊢;rcases hy with e|e|e|e
   ·exact Α e
   ·exact Β (Α e)
   ·exact Β (Β (Α e))
   ·exact Β (Β (Β (qB S x _ y e))))
  have Xm:=χ (show ∀y,y∈B.c::B.ba::(gL S x).blk A.cs.length->y<wc.heap.size from fun y hy=>by
   simp only [ρ] at hy;rcases hy with e|e|e
   ·subst e;exact hM2.cells.lt _ hM2.cells.mem
   ·subst e;exact hM2.iY.row.lt
   ·exact (hM2.iY.nN (qB S x _ y e)).2)
  clear hM2 T1 t1 t2 t3 t4 t5 eL hfs X h1 hb2 eF;rw [hSk] at ksp;go_wp2
  go_region_held3 (aa (B.c::B.ba::gr::S.blk A.cs.length) wc) (exact ν)
   (first
    | ((go_at_call 193;(with_reducible refine (ksp _ β).mono ?_));rintro e w3 ⟨v3,rfl,hL3,XM,hu3⟩;(have Xf:aa [B.ba] wc w3:=aa.trans β hu3);(have hu3b:aa (B.c::B.ba::gr::S.blk A.cs.length) wc w3:=Xf.mono σ);(have jG:=HB.out _ Xf XM);obtain ⟨a3,c3,hv3,hl3,hc3⟩:=(show ∃a c,v3=.slice a (G.F.k x).length c/\True/\True from (by obtain ⟨a,c,e,_⟩:=hL3.open;exact ⟨a,c,e,trivial,trivial⟩));subst hv3;(have ka3:=fun W (hW:aa [] w3 W)=>ka W _ (jG.aj hW) (fw.upd (fw.YO (F:=B.c::B.ba::(gL S x).blk A.cs.length) hL3 (fun g hg=>Ψ (Xm.out g hg) (aa.size (S:=[]) (w:=wc) β))) hW σ)))
    | ((go_at_call 186;(with_reducible refine (ka3 _ β).mono ?_));rintro e w4 ⟨S4,vo,rfl,hS4,si,fP,hb4,hx4⟩;(have Yq:aa (B.c::B.ba::gr::S.blk A.cs.length) wc w4:=aa.trans ν (fP.mono HSUB.out))))
  have h04:=si.h0;have hnF:=HM.out.d1.1;have uM:w.heap.size∉F:=fun hm=>by have:=HM.out.cells.lt _ hm;omega
  have r5:∀W,aa F w4 W->W.cell? ⟨B.n0,0,none⟩=some (.pointer (some ⟨B.c,0,none⟩)):=fun W hW=>hW.kept h04 hnF;have r6:∀W,aa F w4 W->W.cell? ⟨w.heap.size,0,none⟩=some (.int .i64 (x:Int)):=fun W hW=>hW.kept (r0 _ Yq) uM;have Xx:=fun W (hW:aa [] w4 W)=>gM (si.cells.aj hW) x ((ae _ _).2 ⟨hx,hin⟩);have PN:=χ si;clear si h04 r0 r1 ka ksp ka3 jG hL3 XM;go_wp2
  go_region_held3 (aa F w4) (exact ν)
   (first
    | ((go_at_call 151;(with_reducible refine (Xx _ β).mono ?_));rintro e w5 ⟨rfl,UE,bP⟩;(have Kw:aa F w4 w5:=aa.trans ν bP)))
  go_wp2;go_ret;obtain ⟨T1,t1,t2,t3,t4,t5,eL,eF,X⟩:=HX.out;have dl:=eO A (x:Int);have dh:=iL A (x:Int);have wT:=PN.out.bV Kw UE (fun y hy=>Α hy) dl (by rw [dh]);have eR1:bX G.R h (l1++l2) h=l1++l2:=by simp [bX]
  have eT:(ig G h x).R=bX G.R h (l1++l2):=by unfold ig;rw [eL]
  have eTF:(ig G h x).F=(gL S x).f:=by rw [y5,eF];rfl
  have e1:(qX A h x G).R=bX (bX G.R h (l1++l2)) h (kH (bR A) A.cs.length (gL S x).f (bX G.R h (l1++l2) h) (G.F.k x)).O:=by unfold qX yI;rw [eT,eTF]
  have e2:(qX A h x G).F=S4.f:=by rw [hS4];unfold qX yI;rw [eT,eTF]
  have e3:yz A h x G=(kH (bR A) A.cs.length (gL S x).f (bX G.R h (l1++l2) h) (G.F.k x)).q:=by unfold yz;rw [eT,eTF]
  have uw:aa (B.blk F gr A.cs.length S vs) w w5:=by
   have m1:∀y,y∈gr::(Value.slice a rl cap).ownBlock.toList->y∈B.blk F gr A.cs.length S vs:=fun y hy=>by
    simp only [BB.blk,ρ,τ] at hy ⊢;rcases hy with e|e
    ·exact Β (Β (Β (Α e)))
    ·exact Β (Β (Β (Β (Β (Β (jw.2 ⟨h,hq,by rw [HV.out];simpa using e⟩))))))
   have m2:∀y,y∈B.c::B.ba::gr::S.blk A.cs.length->y∈B.blk F gr A.cs.length S vs:=fun y hy=>by
    simp only [BB.blk,ρ,τ] at hy ⊢;rcases hy with e|e|e|e
    ·exact Β (Β (Β (Β (Α (by rw [e];exact HM.out.cells.mem)))))
    ·exact Β (Β (Α e))
    ·exact Β (Β (Β (Α e)))
    ·exact Β (Β (Β (Β (Β (Α e)))))
   have m3:∀y,y∈F->y∈B.blk F gr A.cs.length S vs:=fun y hy=>by simp [BB.blk,hy]
   exact ((hu2.mono m1).trans (Yq.mono m2)).trans (Kw.mono m3)
  refine ⟨rfl,B.blk F gr (aY A x).cs.length S4 ((vs.set h v1).set h vo),⟨B,F,gr,cr,lo,S4,(vs.set h v1).set h vo,rfl,rfl,by rw [e1,e3];exact wT,e2.symm⟩,uw,fun y hy=>?_⟩;have hsz:=hu2.size;rw [dl] at hy;simp only [BB.blk,ρ,τ] at hy ⊢;rcases hy with e|e|e|e|e|e|e
  ·exact Α (Α e)
  ·exact Α (Β (Α e))
  ·exact Α (Β (Β (Α e)))
  ·exact Α (Β (Β (Β (Α e))))
  ·exact Α (Β (Β (Β (Β (Α e)))))
  ·rcases hb4 y e with h'|h'
   ·exact Α (Β (Β (Β (Β (Β (Α (qB S x _ y h')))))))
   ·right;have:=hu3b.size;omega
  ·obtain ⟨k,hk,hk2⟩:=jw.1 e;rw [Ι,Ι] at hk;rw [tO,tO] at hk2
   by_cases ek:k=h
   ·rw [Δ ⟨ek,by rw [Ι];exact hq⟩] at hk2;right;have:=hx4 y hk2;have:=hu3b.size;omega
   ·rw [Γ (fun h=>ek h.1),Γ (fun h=>ek h.1)] at hk2;exact Α (Β (Β (Β (Β (Β (Β (jw.2 ⟨k,hk,hk2⟩)))))))
end
section
variable {w:World} {B:BB} {F:List Nat} {gr cr lo:Nat} {A:NS} {st:Nat} {S:CS} {vs:List Value} {G:BG} {R:Nat->List Int}
theorem iH.setSt {w':World} {st':Nat} (h:iH w B F gr cr lo A st S vs R) (hu:aa [B.c] w w') (hC:az w' B.c F A st'):iH w' B F gr cr lo A st' S vs R:=
 h.bV (hu.mono (fun x hx=>by simp at hx;subst hx;exact h.cells.mem)) hC (fun x hx=>Α hx) rfl rfl
def Ez (A:NS) (G:BG) (h:Int):Nat:=if bB A h then (G.R h.toNat).length-1 else 0
theorem GG (M:iH w B F gr cr lo A st S vs G.R) (I:Cq A G) (h:Int) :
  Calls Tryz.prog 181 #[.pointer (some ⟨B.n0,0,none⟩),.int .i64 h] w fun e w'=>e=.returned (.tuple #[.int .i64 (oU (dD A h)),.bool (dD A h).isSome])/\iH w' B F gr cr lo A (bO st (Ez A G h)) S vs G.R/\aa [B.c] w w':=by
 have hst:=M.cells.oO;cases hh:bB A h with
 | false=>
  have e:dD A h=none:=by
   by_cases h1:0<h
   ·exact (jD h1).2 (Pw M.cells.ok hh)
   ·exact pV h1
  have e2:Ez A G h=0:=by unfold Ez;rw [hh];rfl
  rw [e,e2,fT hst];have kr:=Xa M h hh;have HM:=χ M;clear M I hh e e2
  go_enter Tryz.func181,Tryz.ntmps181
  go_wp2_with ((go_at_call 187;(with_reducible refine (kr).mono ?_);rintro e w9 ⟨rfl,aG⟩;rw [aG];clear aG w9))
  go_ret2;exact ⟨rfl,HM.out,aa.refl _ _⟩
 | true=>
  obtain ⟨q,rfl,hq1,hq⟩:=M.hq hh;have e2:Ez A G (q:Int)=(G.R q).length-1:=by unfold Ez;rw [hh];simp
  obtain ⟨a,cap,hv,hl1,hl2⟩:=M.shape hq;have kr:=Ru M q hh hv;have hsl:fw w [B.c] (vs.getD q undef) (G.R q):=(M.each q hq).sl (fun g hg hm=>by simp at hm;subst hm;exact (M.d4 q _ hq hg).2.2.2.2.1 M.cells.mem);rw [hv] at hsl;rw [e2];cases hR:G.R q with
  | nil=>
   rw [LG I hq1 hR];rw [hR] at kr hsl;simp only [List.length_nil] at kr ⊢;rw [fT hst];have HM:=χ M;clear M I hh hR e2 hv hsl
   go_enter Tryz.func181,Tryz.ntmps181
   go_wp2_with ((go_at_call 187;(with_reducible refine (kr).mono ?_);rintro e w9 ⟨rfl,aG⟩;rw [aG];clear aG w9))
   go_ret2;exact ⟨rfl,HM.out,aa.refl _ _⟩
  | cons x t=>
   obtain ⟨m,hb,hm,_⟩:=QB I hq1 hR;rw [hm];rw [hR] at kr hsl hl1;simp only [Ω] at kr hsl hl1 ⊢;have hin:∀z,z∈x::t->∃y:Nat,z=y/\bM A z=true:=fun z hz=>by
    obtain ⟨y,e,_,i,_⟩:=Rw I (h:=q) (z:=z) (by rw [hR];exact hz);exact ⟨y,e,i⟩
   obtain ⟨g,off,rfl,hgl,E9,hc0⟩:=hsl.head;have Ff:=(show fw w [B.c] (.slice (some ⟨g,off,none⟩) (t.length+1) cap) (x::t) from hsl).tail;have hsr:=fun W=>wL W (some ⟨g,off,none⟩) (t.length+1) cap ω ω;obtain ⟨a3,Bd⟩:=qh (some ⟨g,off,none⟩) (t.length+1) cap;rw [Bd] at hsr Ff;simp only [Nat.add_sub_cancel] at hsr Ff ⊢;have h0:=M.h0;have hn0:B.n0∉[B.c]:=by simp;exact M.cn.1
   have HM:=χ M;have HT:=χ Ff;have HI:=χ (ψ hin hb);have hC:=M.cells;have hz:bO st 0=st:=fT hst;clear M I hh hR e2 hv hsl Ff hin hb hm Bd;generalize htl:t.length=tl at *;have PO:=χ htl;have hne0:((tl:Int)+1 == 0)=false:=beq_eq_false_iff_ne.2 ω;clear htl
   go_enter Tryz.func181,Tryz.ntmps181
   go_wp2_with ((go_at_call 187;(with_reducible refine (kr).mono ?_);rintro e w9 ⟨rfl,aG⟩;rw [aG];clear aG w9))
   go_loopw [7,22] (fun s7 s22 wr=>∃ (j:Nat) (b:Int),j<=tl/\s22=.int .i64 (j:Int)/\s7=.int .i64 b/\mG (bR A) b (t.drop j)=mG (bR A) x t/\(∃y:Nat,b=y/\bM A b=true)/\az wr B.c F A (bO st j)/\aa [B.c] w wr) (fun _ s22 _=>tl-(intOf s22).toNat)
   case atStart=>exact ⟨0,x,ω,rfl,rfl,σ,HI.out.1 x σ,by rw [hz];exact hC,aa.refl _ _⟩
   case round=>
    obtain ⟨j,b,hj,rfl,rfl,hbb,hib,hCj,hu⟩:=hrel;rename World=>wr
    by_cases hjt:j<tl
    ·obtain ⟨y,pW⟩:∃y,t[j]?=some y:=⟨t[j]'(by rw [PO.out];exact hjt),σ⟩;have hd:t.drop j=y::t.drop (j+1):=by
      obtain ⟨hl,e⟩:=List.getElem?_eq_some_iff.1 pW;rw [ϝ hl,e]
     obtain ⟨a4,c4,e4,_,_,h4⟩:=HT.out;have ea:a3=a4:=by injection e4
     subst ea;obtain ⟨g4,o4,rfl,_,hg4,hc4⟩:=h4 j y pW;have hc5:=hu.kept hc4 hg4;obtain ⟨yn,rfl,hiy⟩:=HI.out.1 y (Λ _ (Η pW));obtain ⟨bn,rfl,hbn⟩:=hib;have ka:=dU hCj yn bn hiy hbn;have h05:=hu.kept h0 hn0;have hjI:(j:Int)<(tl:Int):=ω;have hw1:IntKind.i64.wrap ((j:Int)+1)=(j:Int)+1:=Μ _ ω;have eah:bR A (yn:Int) (bn:Int)=decide (bU A yn bn):=by rw [lI,hiy,hbn];simp
     have hnx:∀b':Int,b'=(if bR A (yn:Int) (bn:Int) then (yn:Int) else (bn:Int))->mG (bR A) b' (t.drop (j+1))=mG (bR A) x t:=fun b' e=>by rw [←hbb,hd,e];rfl
     have HN:=χ (ψ hnx (ψ hiy hbn));have hse:bO (bO st j) 1=bO st (j+1):=iM st j 1;rw [←eah] at ka;clear hCj hbb hd h4 pW hc4 hiy hbn eah hnx e4;cases hab:bR A (yn:Int) (bn:Int) with
     | true=>
      rw [hab] at ka;have HAB:=χ hab;clear hab
      go_wp2_with ((go_at_call 174;(with_reducible refine (ka).mono ?_));rintro e w2 ⟨rfl,hC2,hu2⟩)
      go_roundw
      case rel=>exact ⟨j+1,yn,ω,by go_num,rfl,HN.out.1 _ (by rw [HAB.out];rfl),⟨yn,rfl,HN.out.2.1⟩,by rw [←hse];exact hC2,hu.trans hu2⟩
      case measure=>simp [intOf];omega
     | false=>
      rw [hab] at ka;have HAB:=χ hab;clear hab
      go_wp2_with ((go_at_call 174;(with_reducible refine (ka).mono ?_));rintro e w2 ⟨rfl,hC2,hu2⟩)
      go_roundw
      case rel=>exact ⟨j+1,bn,ω,by go_num,rfl,HN.out.1 _ (by rw [HAB.out];rfl),⟨bn,rfl,HN.out.2.2⟩,by rw [←hse];exact hC2,hu.trans hu2⟩
      case measure=>simp [intOf];omega
    ·obtain rfl:j=tl:=ω;have hbf:b=(m:Int):=by
      rw [List.drop_of_length_le (by rw [PO.out];omega)] at hbb;have e:mG (bR A) b []=b:=rfl;rw [e,HI.out.2] at hbb;exact hbb
     have HB:=χ hbf;have HC:=χ hCj;clear hbb hib hbf hCj;go_wp2;go_ret2;exact ⟨by rw [HB.out];rfl,HM.out.setSt hu HC.out,hu⟩
end
def IL (w:World) (p:Nat) (FF:List Nat) (A:NS) (st:Nat) (G:BG):Prop:=BnAt w p FF A st G/\Cq A G
theorem QJ {A:NS} {G:BG} (I:Cq A G) (ok:A.Ok) {q:Int} {m:Nat} (hm:dD A q=some m):∃k:Nat,q=k/\1<=k/\bB A q=true/\m<A.cs.length/\G.F.u m=-1/\(A.c m).i=k:=by
 have hq:0<q:=by
  apply Ϛ;intro h;rw [pV h] at hm;cases hm
 obtain ⟨k,rfl⟩:∃k:Nat,q=k:=⟨q.toNat,ω⟩;have hf:=(iE hq).1 hm;have hh:bB A (k:Int)=true:=by
  have:=iK ok ((ae A m).2 ⟨hf.1,by rw [hf.2.1];omega⟩);rw [π,hf.2.1] at this;exact this
 cases hR:G.R k with
 | nil=>rw [LG I ω hR] at hm;cases hm
 | cons x t=>
  obtain ⟨m',_,h2,h3,h4,h5⟩:=QB I (show 1<=k by omega) hR;rw [hm] at h2;cases h2;exact ⟨k,rfl,ω,hh,h3,h4,h5⟩
def TQ (A:NS) (q:Int) (G:BG):Nat:=Ez A G q+(match dD A q with|some m=>yz A q.toNat m G|none=>0)
def Qi (A:NS) (q:Int) (G:BG):BG:=match dD A q with|some m=>qX A q.toNat m G|none=>G
section
variable {w:World} {p:Nat} {FF:List Nat} {A:NS} {st:Nat} {G:BG}
theorem EH (h:IL w p FF A st G) (q:Int) :
  Calls Tryz.prog 177 #[.pointer (some ⟨p,0,none⟩),.int .i64 q] w fun e w'=>e=.returned (.tuple #[.int .i64 (oU (dD A q)),.bool (dD A q).isSome])/\Goes FF w w' (fun Jc=>IL w' p Jc (uH A q) (bO st (TQ A q G)) (Qi A q G)):=by
 obtain ⟨⟨B,F,gr,cr,lo,S,vs,rfl,rfl,M,eF⟩,I⟩:=h;have km:=GG M I q;have qg:∀y,y∈[B.c]->y∈B.blk F gr A.cs.length S vs:=fun y hy=>by
  simp at hy;subst hy;simp [BB.blk,M.cells.mem]
 have hst:=M.cells.oO;cases hm:dD A q with
 | none=>
  rw [hm] at km;simp only [oU,Option.isSome_none] at km ⊢;have e1:TQ A q G=Ez A G q:=by unfold TQ;rw [hm];rfl
  have e2:Qi A q G=G:=by unfold Qi;rw [hm]
  have e3:uH A q=A:=by unfold uH;rw [hm]
  rw [e1,e2,e3];have HI:=χ (ψ I (ψ eF qg));clear M I hm e1 e2 e3 eF qg
  go_enter Tryz.func177,Tryz.ntmps177
  go_wp2_with ((go_at_call 181;(with_reducible refine (km).mono ?_));rintro e w1 ⟨rfl,hM1,hu1⟩)
  go_ret2;exact ⟨rfl,Goes.stay ⟨⟨B,F,gr,cr,lo,S,vs,rfl,rfl,hM1,HI.out.2.1⟩,HI.out.1⟩ (hu1.mono HI.out.2.2)⟩
 | some m=>
  rw [hm] at km;simp only [oU,Option.isSome_some] at km ⊢;obtain ⟨k,rfl,hk1,hh,m1,m2,m3⟩:=QJ I M.cells.ok hm;have e1:TQ A (k:Int) G=Ez A G (k:Int)+yz A k m G:=by unfold TQ;rw [hm];simp
  have e2:Qi A (k:Int) G=qX A k m G:=by unfold Qi;rw [hm];simp
  have e3:uH A (k:Int)=aY A (m:Int):=by unfold uH;rw [hm]
  rw [e1,e2,e3];obtain ⟨k',hk',_,hkv⟩:=M.hq hh;obtain rfl:k=k':=ω;have X:=I.x m1;have kt:=fun W (hM:iH W B F gr cr lo A (bO st (Ez A G (k:Int))) S vs G.R)=>NT hM eF X m1 m2 (by rw [m3];omega) m3 hkv;have T:=(LC X M.cells.ok m1 m2 (by rw [m3];omega) m3).1;have HI:=χ (ψ T qg);clear M I hm e1 e2 e3 eF qg X T m1 m2 m3 hh hk'
  go_enter Tryz.func177,Tryz.ntmps177
  go_wp2_with (first
   | ((go_at_call 181;(with_reducible refine (km).mono ?_));rintro e w1 ⟨rfl,hM1,hu1⟩;(have kt1:=kt _ hM1);(have hs1:=hu1.size))
   | ((go_at_call 185;(with_reducible refine (kt1).mono ?_));rintro e w2 ⟨rfl,FF2,hK2,hu2,hf2⟩)
   | fail)
  go_ret2;rw [iM] at hK2;refine ⟨rfl,FF2,⟨hK2,HI.out.1⟩,(hu1.mono HI.out.2).trans hu2,fun y hy=>?_⟩;rcases hf2 y hy with h'|h'
  ·exact Α h'
  ·exact Β ω
theorem yl {B:BB} {F:List Nat} {gr n:Nat} {S:CS} {vs:List Value}:∀y,y∈F->y∈B.blk F gr n S vs:=fun y hy=>by simp [BB.blk,hy]
theorem VZ {w:World} {B:BB} {F F':List Nat} {gr n:Nat} {S S':CS} {vs:List Value} {q:Nat} {vo:Value} (hF:∀y,y∈F'->y∈F) (hb:∀g,g∈S'.blk n->g∈S.blk n\/w.heap.size<=g) (hv:∀g,vo.ownBlock=some g->w.heap.size<=g) :
  ∀y,y∈B.blk F' gr n S' (vs.set q vo)->y∈B.blk F gr n S vs\/w.heap.size<=y:=fun y hy=>by
 simp only [BB.blk,ρ,τ] at hy ⊢;rcases hy with e|e|e|e|e|e|e
 ·exact Α (Α e)
 ·exact Α (Β (Α e))
 ·exact Α (Β (Β (Α e)))
 ·exact Α (Β (Β (Β (Α e))))
 ·exact Α (Β (Β (Β (Β (Α (hF y e))))))
 ·rcases hb y e with h'|h'
  ·exact Α (Β (Β (Β (Β (Β (Α h'))))))
  ·exact Β h'
 ·obtain ⟨k,hk,hk2⟩:=jw.1 e;rw [Ι] at hk;rw [tO] at hk2
  by_cases ek:k=q/\q<vs.length
  ·rw [Δ ek] at hk2;exact Β (hv y hk2)
  ·rw [Γ ek] at hk2;exact Α (Β (Β (Β (Β (Β (Β (jw.2 ⟨k,hk,hk2⟩)))))))
theorem aaN {w:World} {B:BB} {F:List Nat} {gr cr lo:Nat} {S:CS} {vs:List Value} {R:Nat->List Int} (M:iH w B F gr cr lo A st S vs R):∀y,y∈B.c::B.ba::gr::S.blk A.cs.length->y∈B.blk F gr A.cs.length S vs:=fun y hy=>by
 simp only [BB.blk,ρ,τ] at hy ⊢;rcases hy with e|e|e|e
 ·exact Β (Β (Β (Β (Α (by rw [e];exact M.cells.mem)))))
 ·exact Β (Β (Α e))
 ·exact Β (Β (Β (Α e)))
 ·exact Β (Β (Β (Β (Β (Α e)))))
theorem Ii (h:IL w p FF A st G) (q x:Nat) (k s:Int) (hk:-9223372036854775808<=k/\k<=9223372036854775807/\0<=s/\s<=18446744073709551615) (hB:nY A q x=true) :
  Calls Tryz.prog 178 #[.pointer (some ⟨p,0,none⟩),.int .i64 (q:Int),.int .i64 (x:Int),.agg #[.int .i64 k,.int .u64 s]] w fun e w'=>e=.returned (.bool true)/\
   Goes FF w w' (fun Jc=>IL w' p Jc (aH A q x k s) (bO st (Wh (aH A q x k s) q x G)) (QV (aH A q x k s) q x G)):=by
 obtain ⟨⟨B,F,gr,cr,lo,S,vs,rfl,rfl,M,eF⟩,I⟩:=h;have ok:=M.cells.ok;obtain ⟨I2,_,t2,t3,t4,hcs⟩:=YJ (h:=q) (x:=x) k s I ok hB;have lC:(aH A q x k s).hs.length=A.hs.length:=by unfold aH;split;rfl;rfl
 have TC:=((dV _ _ _).1 hB).1;obtain ⟨q',e,hq1,hqv⟩:=M.hq TC;obtain rfl:q=q':=ω;have u1:aa [] w (w.alloc (.cells #[.int .i64 k,.int .u64 s] 129)):=(aa.refl _ _).alloc _;have kp:=fun W (hW:aa [] (w.alloc (.cells #[.int .i64 k,.int .u64 s] 129)) W)=>nM (M.cells.aj (u1.trans hW)) q x k s hk hB;have h0:=M.h0;have uM:B.n0∉F:=M.d1.1;have hsz:w.heap.size∉F:=fun hm=>by have:=M.cells.lt _ hm;omega
 have r0:∀W,aa F (w.alloc (.cells #[.int .i64 k,.int .u64 s] 129)) W->W.cell? ⟨B.n0,0,none⟩=some (.pointer (some ⟨B.c,0,none⟩)):=fun W hW=>hW.kept (u1.was h0) uM;have r1:∀W,aa F (w.alloc (.cells #[.int .i64 k,.int .u64 s] 129)) W->W.cell? ⟨w.heap.size,0,none⟩=some (.int .i64 k):=fun W h=>h.kept σ hsz;have r2:∀W,aa F (w.alloc (.cells #[.int .i64 k,.int .u64 s] 129)) W->W.cell? ⟨w.heap.size,1,none⟩=some (.int .u64 s):=fun W h=>h.kept σ hsz;have hrow:=I.rh.row q
 have ka:=fun (W:World) (hM:iH W B F gr cr lo (aH A q x k s) st S vs G.R) (vl:Value) (hvl:fw W (B.c::B.ba::S.blk (aH A q x k s).cs.length) vl [(x:Int)])=>GQ hM (by rw [hcs,eF];exact I.fh.f) q hqv hvl (by rw [hcs,eF];exact hrow) (by rw [hcs,eF];exact t2) t3 t4;have HM:=χ M;have HI:=χ (ψ I2 (ψ eF (ψ hcs lC)));clear M I ok I2 t2 t3 t4 hcs lC eF hrow h0 hB;generalize hA':aH A q x k s=A' at *
 go_enter Tryz.func178,Tryz.ntmps178
 go_wp2
 go_region_held3 (aa F (w.alloc (.cells #[.int .i64 k,.int .u64 s] 129))) (exact ν)
  (first
   | ((go_at_call 154;(with_reducible refine (kp _ β).mono ?_));rintro e w1 ⟨rfl,jc,hu1⟩;(have hu2:aa F (w.alloc (.cells #[.int .i64 k,.int .u64 s] 129)) w1:=ν)))
 have uF:aa F w w1:=(u1.mono σ).trans hu2;have hM1:=HM.out.bV uF jc (fun y hy=>Α hy) HI.out.2.2.1 HI.out.2.2.2;have hsz1:=uF.size;have hlt1:∀y,y∈B.c::B.ba::S.blk A'.cs.length->y<w1.heap.size:=fun y hy=>by
  simp only [ρ] at hy;rcases hy with e|e|e
  ·subst e;exact hM1.cells.lt _ hM1.cells.mem
  ·subst e;exact hM1.iY.row.lt
  ·exact (hM1.iY.nN e).2
 have ka1:=fun (W:World) (hW:aa [] w1 W) (vl:Value)=>ka W (hM1.aj hW) vl;have HL:=χ hlt1;clear kp r0 r1 r2 hM1 hlt1 ka
 go_wp2_with (first
  | ((go_at_call 186;(with_reducible refine (ka1 _ β _ ((aW.lit w1 0 (x:Int) (Nat.zero_le _)).sl (fun g hg hm=>by have:=HL.out g hm;simp [Value.ownBlock] at hg;omega))).mono ?_));rintro e w2 ⟨S2,vo,rfl,hS2,hM2,hu3,hb2,hx2⟩)
  | fail)
 go_ret;have eF:=HI.out.2.1;have hcs:=HI.out.2.2.1;have uw:aa (B.blk F gr A.cs.length S vs) w w2:=by
  refine ((uF.mono yl).alloc _).trans (hu3.mono (fun y hy=>?_));rw [hcs] at hy;exact aaN HM.out y hy
 refine ⟨rfl,B.blk F gr A'.cs.length S2 (vs.set q vo),⟨⟨B,F,gr,cr,lo,S2,_,rfl,rfl,by unfold Wh QV yI;rw [←eF];exact hM2,by rw [hS2,eF];rfl⟩,HI.out.1⟩,uw,fun y hy=>?_⟩;rw [hcs] at hy hb2;exact VZ (w:=w) (fun _ h=>h) (fun g hg=>(hb2 g hg).imp id (fun h=>by simp at h;omega)) (fun g hg=>by have:=hx2 g hg;simp at this;omega) y hy
end
end Go.Proofs.YtklibcncmbofpaaGreat
namespace Go.Proofs.YtklibcncmbofpaaGreat
def iI (hp:Nat->Bool) (ct x:Nat):Nat->BG->BG×Nat
 | 0,G=>(G,0)
 | f+1,G=>if G.F.u x=-1 then (G,0) else if hp (G.F.u x).toNat then ((iI hp ct x f (qW G x (G.F.u x).toNat)).1,(iI hp ct x f (qW G x (G.F.u x).toNat)).2+ct) else (G,ct)
theorem uZ {hp:Nat->Bool} {ct x f:Nat} {G:BG} (h:G.F.u x=-1):iI hp ct x f G=(G,0):=by
 cases f with
 | zero=>rfl
 | succ f=>rw [iI,Δ h]
theorem AL {hp:Nat->Bool} {ct x f p:Nat} {G:BG} (h:G.F.u x=p) (hh:hp p=false):iI hp ct x (f+1) G=(G,ct):=by
 rw [iI,Γ ω,h,π,hh];rfl
theorem xM {hp:Nat->Bool} {ct x f p:Nat} {G:BG} (h:G.F.u x=p) (hh:hp p=true):iI hp ct x (f+1) G=((iI hp ct x f (qW G x p)).1,(iI hp ct x f (qW G x p)).2+ct):=by
 rw [iI,Γ ω,h,π,hh];rfl
section
variable {A:NS} {G:BG} {x:Nat} {hp:Nat->Bool} {ct:Nat}
theorem Df {p:Nat} (B:Fq A G x) (hx:x<A.cs.length) (hu:G.F.u x=p):(G.F.k x).length<((qW G x p).F.k x).length:=by
 have:=B.fh.f.O4 hx hu
 show _<((sF G.F x p (G.F.u p)).k x).length
 rw [sW,Δ rfl];exact this
theorem Il (hx:x<A.cs.length):∀ (f:Nat) {G:BG},Fq A G x->A.cs.length<=f+(G.F.k x).length->Fq A (iI hp ct x f G).1 x/\((iI hp ct x f G).1.F.u x=-1\/∃p:Nat,(iI hp ct x f G).1.F.u x=p/\hp p=false)
 | 0,G,B,hf=>by have:=B.fh.f.len hx;omega
 | f+1,G,B,hf=>by
  rcases B.fh.f.up x hx with h1|⟨p,hp1,h1,h2⟩
  ·rw [uZ h1];exact ⟨B,Α h1⟩
  ·cases hh:hp p with
   | false=>rw [AL h1 hh];exact ⟨B,Β ⟨p,h1,hh⟩⟩
   | true=>
    rw [xM h1 hh];have:=Df B hx h1;exact Il hx f (zH B hx h1) ω
theorem Au (hx:x<A.cs.length) (hl:∀p:Nat,p<A.cs.length->hp p=true->bU A x p):∀ (f:Nat) {G:BG},Fq A G x->(∀c:Nat,c<A.cs.length->G.F.u c=x->bU A x c)->∀c:Nat,c<A.cs.length->(iI hp ct x f G).1.F.u c=x->bU A x c
 | 0,G,B,hk=>hk
 | f+1,G,B,hk=>by
  rcases B.fh.f.up x hx with h1|⟨p,hp1,h1,h2⟩
  ·rw [uZ h1];exact hk
  ·cases hh:hp p with
   | false=>rw [AL h1 hh];exact hk
   | true=>
    rw [xM h1 hh];exact Au hx hl f (zH B hx h1) (Ni B hx h1 hk (hl p hp1 hh))
theorem Nj {p h:Nat} (B:Fq A G x) (hx:x<A.cs.length) (hu:G.F.u x=p) (hh:(A.c x).i=h):(qW G x p).R=if G.F.u p=-1 then bX G.R h (setAt (G.R h) p x) else G.R:=by
 obtain ⟨hp1,hm⟩:=B.fh.f.above hx hu;have bH:(A.c x).i=(A.c p).i/\0<(A.c x).i:=B.fh.home x p hx hu
 funext k
 show (G.R k).map (JH x p (G.F.u p))=_
 by_cases e:G.F.u p=-1
 ·rw [Δ e];unfold bX
  by_cases ek:k=h
  ·rw [Δ ek,ek];have hpR:(p:Int)∈G.R h:=(B.rh.mem h p).2 ⟨ω,hp1,e,by show (A.c p).i=_;omega⟩;rw [←yJ (B.rh.row h).nodup p x hpR];unfold PH JH
   exact List.map_congr_left (fun z _=>by
    by_cases ez:z=p
    ·rw [Δ ⟨ez,e⟩,Δ ez]
    ·rw [Γ (fun h=>ez h.1),Γ ez])
  ·rw [Γ ek];have:∀z,z∈G.R k->JH x p (G.F.u p) z=z:=fun z hz=>by
    unfold JH;rw [Γ (fun h=>?_)];rw [h.1] at hz;have h4:(A.c p).i=(k:Int):=((B.rh.mem k p).1 hz).2.2.2;omega
   rw [List.map_congr_left this];simp
 ·rw [Γ e];have:∀z,z∈G.R k->JH x p (G.F.u p) z=z:=fun z hz=>by
   unfold JH;rw [Γ (fun h=>e h.2)]
  rw [List.map_congr_left this];simp
end
end Go.Proofs.YtklibcncmbofpaaGreat
namespace Go.Proofs.YtklibcncmbofpaaGreat
open Go Go.RowKit
theorem aW.set {w:World} {base g off n cap:Nat} {xs:List Int} (h:aW w base (.slice (some ⟨g,off,none⟩) n cap) xs) (i:Nat) (hi:i<xs.length) (y:Int):aW (w.setCell ⟨g,off+i,none⟩ (.int .i64 y)) base (.slice (some ⟨g,off,none⟩) n cap) (xs.set i y):=by
 rcases h with ⟨e,_⟩|⟨g',off',cap',cur,e,hb,hg,h1,h2,h3,h4⟩
 ·cases e
 ·cases e;refine Β ⟨g,off,cap,cur.setIfInBounds (off+i) (.int .i64 y),by rw [Ι],hb,?_,by rw [Ι];exact h1,h2,ζ,fun j u hj=>?_⟩
  ·simp [World.setCell,Array.getElem?_modify,hg]
  ·have hjl:j<xs.length:=by have:=(List.getElem?_eq_some_iff.1 hj).1;simpa using this
   rw [Array.getElem?_setIfInBounds]
   by_cases e:i=j
   ·subst e;rw [ώ hi] at hj;cases hj;rw [Δ rfl,Δ ω]
   ·rw [Γ ω];rw [Ϗ e] at hj;exact h4 j u hj
theorem aW.free {w:World} {base:Nat} {v:Value} {xs:List Int} (h:aW w base v xs) {g:Nat} (hg:v.ownBlock=some g) (j:Nat):w.frozen? ⟨g,j,none⟩=false:=by
 rcases h with ⟨rfl,_⟩|⟨g',off',cap',cur,rfl,hb,hh,h1,h2,h3,h4⟩
 ·cases hg
 ·simp [Value.ownBlock] at hg;subst hg;simp [World.frozen?,hh]
theorem Ny {n:Nat} (S:CS) {x p:Nat} (above:Int) (hx:x<n) (hp:p<n):∀g,g∈(gU S x p above).blk n->g∈S.blk n:=fun g hg=>by
 obtain ⟨y,hy,e⟩:=(CS.jN _ n g).1 hg;have e:(if y=x then S.v p else if y=p then S.v x else S.v y).ownBlock=some g:=e;rw [CS.jN]
 split at e
 ·exact ⟨p,hp,e⟩
 ·split at e
  ·exact ⟨x,hx,e⟩
  ·exact ⟨y,hy,e⟩
section
variable {w:World} {B:BB} {F:List Nat} {gr cr lo:Nat} {A:NS} {st:Nat} {S:CS} {vs:List Value} {R:Nat->List Int}
theorem iH.setX {w1:World} (h:iH w B F gr cr lo A st S vs R) (q:Nat) (hq:q<vs.length) (hu1:aa (vs.getD q undef).ownBlock.toList w w1) (X:List Int) (hv:aW w1 0 (vs.getD q undef) X):iH w1 B F gr cr lo A st S vs (bX R q X):=by
 have hK:∀g,g∈(vs.getD q undef).ownBlock.toList->(vs.getD q undef).ownBlock=some g:=fun g hg=>by simpa using hg
 have kk:∀g,g∈(vs.getD q undef).ownBlock.toList->g≠B.n0/\g≠B.bt/\g≠B.ba/\g≠gr/\g∉F/\g∉S.blk A.cs.length:=fun g hg=>h.d4 q g hq (hK g hg)
 refine ⟨h.head.upd hu1 (fun hm=>(kk _ hm).1 rfl),h.cells.upd hu1 (fun x hx=>(kk x hx).2.2.2.2.1),
  h.iY.upd hu1 (fun hm=>(kk _ hm).2.1 rfl) (fun hm=>(kk _ hm).2.2.1 rfl) (fun g hg hm=>(kk g hm).2.2.2.2.2 hg),
  ay h.rows hu1 (fun g hg hm=>by simp [Value.ownBlock] at hg;subst hg;exact (kk _ hm).2.2.2.1 rfl),h.len,fun k hk=>?_,h.d1,h.d2,h.d3,h.d4,h.d5⟩
 unfold bX
 by_cases ek:k=q
 ·rw [Δ ek,ek];exact hv
 ·rw [Γ ek];exact (h.each k hk).upd hu1 (fun g hg2 hm=>h.d5 k q g hk hq ek hg2 (hK g hm))
end
structure XK (w:World) (K:List Nat) (B:BB) (F:List Nat) (A:NS) (ct:Nat) (hp:Nat->Bool) (f:FuncId) (rq:Array Value):Prop where
 enters:Enters f
 calls:∀ (W:World) (st above:Nat),aa K w W->W.cell? ⟨B.n0,0,none⟩=some (.pointer (some ⟨B.c,0,none⟩))->B.n0≠B.c->az W B.c F A st->bM A (above:Int)=true->
  Calls Tryz.prog f (#[.int .i64 (above:Int)]++rq) W fun e w'=>e=.returned (.bool (hp above))/\az w' B.c F A (bO st ct)/\aa [B.c] W w'
section
variable {w:World} {B:BB} {F:List Nat} {gr cr lo:Nat} {A:NS} {st:Nat} {S:CS} {vs:List Value} {G:BG}
theorem PI (M:iH w B F gr cr lo A st S vs G.R) (eF:S.f=G.F) {x h ct:Nat} {hp:Nat->Bool} {f:FuncId} {rq:Array Value} (X:Fq A G x) (hx:x<A.cs.length) (hin:0<(A.c x).i) (hh:(A.c x).i=h) (hq:h<vs.length) (H:XK w (B.blk F gr A.cs.length S vs) B F A ct hp f rq) :
  Calls Tryz.prog 183 #[.pointer (some ⟨B.n0,0,none⟩),.int .i64 (h:Int),.int .i64 (x:Int),.func (Fn.func f) #[] rq] w fun e w'=>e=.returned (.tuple #[])/\
   ∃S',iH w' B F gr cr lo A (bO st (iI hp ct x A.cs.length G).2) S' vs (iI hp ct x A.cs.length G).1.R/\S'.f=(iI hp ct x A.cs.length G).1.F/\aa (B.blk F gr A.cs.length S vs) w w'/\∀g,g∈S'.blk A.cs.length->g∈S.blk A.cs.length:=by
 have ok:=M.cells.ok;have hn:=ok.c1;have hz:=fT M.cells.oO;have hcl:=H.calls;have hen:=H.enters;unfold Enters at hen;have HM:=χ M;have HX:=χ (ψ X eF);have HC:=χ hcl;have hvl:=M.ZH;clear M X eF hcl ok H
 go_enter Tryz.func183,Tryz.ntmps183
 go_wp2
 go_loopg [8,9,10,11] A.cs.length (fun fu _ _ _ _ wr=>∃ (c:Nat) (G':BG) (S':CS),iH wr B F gr cr lo A (bO st c) S' vs G'.R/\S'.f=G'.F/\Fq A G' x/\(∀g,g∈S'.blk A.cs.length->g∈S.blk A.cs.length)/\aa (B.blk F gr A.cs.length S vs) w wr/\A.cs.length<=fu+(G'.F.k x).length/\(iI hp ct x fu G').1=(iI hp ct x A.cs.length G).1/\(iI hp ct x fu G').2+c=(iI hp ct x A.cs.length G).2)
 case atStart=>exact ⟨0,G,S,by rw [hz];exact HM.out,HX.out.2,HX.out.1,fun g hg=>hg,aa.refl _ _,ω,rfl,rfl⟩
 case round=>
  rename Nat=>fu;obtain ⟨c,G',S',hM,eF,X,hSb,hu,hfu,hl1,hl2⟩:=hrel;rename World=>wr;have hlen:=X.fh.f.len hx;obtain ⟨fv,rfl⟩:∃fv,fu=fv+1:=⟨fu-1,ω⟩;have ku:=wM B.bt B.ba lo A.cs.length S' (x:Int) wr hM.iY;have h1:=hM.h1;have eux:S'.u x=G'.F.u x:=by rw [←eF];rfl
  have kb:∀y,y∈B.blk F gr A.cs.length S' vs->y∈B.blk F gr A.cs.length S vs:=fun y hy=>by
   simp only [BB.blk,ρ,τ] at hy ⊢;rcases hy with e|e|e|e|e|e|e
   ·exact Α e
   ·exact Β (Α e)
   ·exact Β (Β (Α e))
   ·exact Β (Β (Β (Α e)))
   ·exact Β (Β (Β (Β (Α e))))
   ·exact Β (Β (Β (Β (Β (Α (hSb y e))))))
   ·exact Β (Β (Β (Β (Β (Β e)))))
  have HR:=χ (ψ hM (ψ eF (ψ X (ψ hSb (ψ hu (ψ hl1 (ψ hl2 kb)))))));rcases X.fh.f.up x hx with e1|⟨p,hp1,e1,e2⟩
  ·have eu:IJ A.cs.length S' (x:Int)=none:=by unfold IJ;rw [Δ ω,π,eux,Δ e1]
   rw [eu] at ku;have E1:=χ e1;clear hM X hl1 hl2 eu e1 eux kb hSb hfu
   go_wp2_with ((go_at_call 188;(with_reducible refine (ku).mono ?_);rintro e w9 ⟨rfl,aG⟩;rw [aG];clear aG w9))
   refine bodyPost_ret (v:=.tuple #[]) (by simp [results,Tryz.results183,go_sem]) rfl ?_;obtain ⟨hM,eF,X,hSb,hu,hl1,hl2,kb⟩:=HR.out;rw [uZ E1.out] at hl1 hl2;refine ⟨rfl,S',?_,by rw [←hl1];exact eF,hu,hSb⟩;rw [←hl1,←hl2,show (((G',0):BG×Nat)).2+c=c by simp];exact hM
  ·have eu:IJ A.cs.length S' (x:Int)=some (p:Int):=by unfold IJ;rw [Δ ω,π,eux,e1,Γ ω]
   rw [eu] at ku;simp only [ov,ob,Option.getD_some,Option.isSome_some] at ku;have bH:(A.c x).i=(A.c p).i:=(X.fh.home x p hx e1).1;have hip:bM A (p:Int)=true:=(ae _ _).2 ⟨hp1,ω⟩;have kh:=HC.out wr (bO st c) p hu hM.h0 hM.cn.1 hM.cells hip;rw [iM] at kh;cases ZR:hp p with
   | false=>
    rw [ZR] at kh;have E1:=χ (ψ e1 ZR);clear hM X hl1 hl2 eu e1 eux kb hSb hfu ZR
    go_wp2_with (first
     | (go_at_call 188;(with_reducible refine (ku).mono ?_);rintro e w9 ⟨rfl,aG⟩;rw [aG];clear aG w9)
     | ((with_reducible refine (kh).mono ?_);rintro e w2 ⟨rfl,hC2,hu2⟩))
    refine bodyPost_ret (v:=.tuple #[]) (by simp [results,Tryz.results183,go_sem]) rfl ?_;obtain ⟨hM,eF,X,hSb,hu,hl1,hl2,kb⟩:=HR.out;rw [AL E1.out.1 E1.out.2] at hl1 hl2;refine ⟨rfl,S',?_,by rw [←hl1];exact eF,hu.trans (hu2.mono (fun y hy=>by simp at hy;subst hy;exact yl _ HM.out.cells.mem)),hSb⟩;rw [←hl1,←hl2,show (((G',ct):BG×Nat)).2+c=c+ct by simp;omega];exact hM.setSt hu2 hC2
   | true=>
    rw [ZR] at kh;have okL:=Mv (S:=S') (by rw [eF];exact X.fh.f) hx hp1 (by rw [eux];exact e1) (show (x:Int)∈S'.f.k p by rw [eF];exact e2);have eup:S'.u p=G'.F.u p:=by rw [←eF];rfl
    have hfL:=zH X hx e1;have hmL:=Df X hx e1;have hrR:=Nj X hx e1 hh;have E1:=χ (ψ e1 (ψ ZR (ψ hfL (ψ hmL (ψ hrR (ψ hfu eup))))))
    have FIN:=χ (show ∀ (W w3:World),iH W B F gr cr lo A (bO st (c+ct)) S' vs (qW G' x p).R->aa (B.blk F gr A.cs.length S vs) w W->aR w3 B.bt B.ba lo A.cs.length (gU S' x p (S'.u p))->aa (B.ba::S'.blk A.cs.length) W w3->
      ∃ (c2:Nat) (G2:BG) (S2:CS),iH w3 B F gr cr lo A (bO st c2) S2 vs G2.R/\S2.f=G2.F/\Fq A G2 x/\(∀g,g∈S2.blk A.cs.length->g∈S.blk A.cs.length)/\aa (B.blk F gr A.cs.length S vs) w w3/\A.cs.length<=fv+(G2.F.k x).length/\(iI hp ct x fv G2).1=(iI hp ct x A.cs.length G).1/\(iI hp ct x fv G2).2+c2=(iI hp ct x A.cs.length G).2 from fun W w3 lT UL XM hu3=>by
     have hb3:=Ny S' (S'.u p) hx hp1
     have jG:=lT.jK (hu3.mono (fun y hy=>Λ _ hy)) (lT.cells.upd hu3 (fun y hy hm=>by
      rcases ρ.1 hy with e|e
      ·subst e;exact lT.d1.2.2.1 hm
      ·exact (lT.d3 y e).2.2 hm)) XM (fun g hg=>Α (hb3 g hg))
     rw [xM e1 ZR] at hl1 hl2;refine ⟨c+ct,qW G' x p,gU S' x p (S'.u p),jG,by rw [Zp,eF,eup];rfl,hfL,fun g hg=>hSb g (hb3 g hg),UL.trans (hu3.mono (fun y hy=>?_)),ω,hl1,by simp only at hl2;omega⟩;rcases ρ.1 hy with e|e
     ·subst e;simp [BB.blk]
     ·have:=hSb y e;simp only [BB.blk,ρ,τ]
      exact Β (Β (Β (Β (Β (Α this))))))
    have kM:=χ (show ∀w2,az w2 B.c F A (bO st (c+ct))->aa [B.c] wr w2->iH w2 B F gr cr lo A (bO st (c+ct)) S' vs G'.R/\aa (B.blk F gr A.cs.length S vs) w w2 from fun w2 hC2 hu2=>⟨hM.setSt hu2 hC2,hu.trans (hu2.mono (fun y hy=>by simp at hy;subst hy;exact yl _ HM.out.cells.mem))⟩);have hup:=X.fh.f.up p hp1;have hpR:G'.F.u p=-1->(p:Int)∈G'.R h:=fun e=>(X.rh.mem h p).2 ⟨ω,hp1,e,by show (A.c p).i=_;omega⟩;have hnd:=(X.rh.row h).nodup;clear hM X hl1 hl2 eu e1 eux kb hSb hfu ZR hfL hmL hrR e2 hu;rcases hup with e3|⟨q,hq1,e3,_⟩
    ·have eu2:IJ A.cs.length S' (p:Int)=none:=by unfold IJ;rw [Δ ω,π,eup,Δ e3]
     have hpm:=hpR e3;obtain ⟨i,hi,hidx,hix⟩:=wh (G'.R h) (p:Int) hpm;have E3:=χ (ψ e3 (ψ hpm hnd));clear e3 hpR eup hpm hnd
     go_wp2_with (first
      | (go_at_call 188;(with_reducible refine (ku).mono ?_);rintro e w9 ⟨rfl,aG⟩;rw [aG];clear aG w9)
      | ((with_reducible refine (kh).mono ?_);rintro e w2 ⟨rfl,hC2,hu2⟩;obtain ⟨hM2,hu3⟩:=kM.out w2 hC2 hu2;(have h2:=hM2.h1);(have XF:=wM B.bt B.ba lo A.cs.length S' (p:Int) w2 hM2.iY);rw [eu2] at XF;simp only [ov,ob,Option.getD_none,Option.isSome_none] at XF;(have nE:=χ hM2);clear hM2)
      | (go_at_call 188;(with_reducible refine (XF).mono ?_);rintro e w9 ⟨rfl,aG⟩;rw [aG];clear aG w9))
     have hsl:fw w2 [] (vs.getD h undef) (G'.R h):=(nE.out.each h hq).sl (fun g _=>σ);have kix:=fun W (hW:aa [] w2 W)=>G8 W [] (vs.getD h undef) (G'.R h) (p:Int) (hsl.upd hW σ);rw [hidx] at kix;obtain ⟨a0,cap,hv,hlc,hcp,hcs⟩:=(nE.out.each h hq).shape;obtain ⟨g,off,rfl,hci⟩:=hcs i (p:Int) hix;have hfi:w2.frozen? ⟨g,off+i,none⟩=false:=(nE.out.each h hq).free (by rw [hv];rfl) _;have hR2:=nE.out.h2;have hrc:=nE.out.VC hq;rw [hv] at kix hrc;have hib0:(0:Int)<=(h:Int):=ω;have Bv:(h:Int)<(vs.length:Int):=ω;have Io:(0:Int)<=(i:Int):=ω;have hib3:(i:Int)<((G'.R h).length:Int):=ω
     have hrl:(G'.R h).length<=9223372036854775807:=ω
     have hfin:=χ (show iH (w2.setCell ⟨g,off+i,none⟩ (.int .i64 (x:Int))).drew B F gr cr lo A (bO st (c+ct)) S' vs (bX G'.R h (setAt (G'.R h) (p:Int) (x:Int)))/\aa (B.blk F gr A.cs.length S vs) w (w2.setCell ⟨g,off+i,none⟩ (.int .i64 (x:Int))).drew from by
      have u1:aa (vs.getD h undef).ownBlock.toList w2 (w2.setCell ⟨g,off+i,none⟩ (.int .i64 (x:Int))).drew:=by
       rw [hv];exact ((aa.refl _ _).setCell (Α (by simp [Value.ownBlock])) _).drew
      have o1:aW (w2.setCell ⟨g,off+i,none⟩ (.int .i64 (x:Int))).drew 0 (vs.getD h undef) (setAt (G'.R h) (p:Int) (x:Int)):=by
       have:=nE.out.each h hq;rw [hv] at this ⊢;have o2:=this.set i hi (x:Int);unfold setAt;rw [hidx,π];exact o2.upd ((aa.refl [] _).drew) σ
      refine ⟨nE.out.setX h hq u1 _ o1,hu3.trans (u1.mono (fun y hy=>?_))⟩;simp only [BB.blk,ρ,τ]
      exact Β (Β (Β (Β (Β (Β (jw.2 ⟨h,hq,by simpa using hy⟩)))))))
     clear hi hidx hix hcs hv hsl;generalize hrlq:(G'.R h).length=rl at *
     go_cut [55] (fun s55 wx=>iH wx B F gr cr lo A (bO st (c+ct)) S' vs (bX G'.R h (setAt (G'.R h) (p:Int) (x:Int)))/\aa (B.blk F gr A.cs.length S vs) w wx)
     case first=>
      go_region_law
       (first
        | (go_simp;go_at_call 189;(with_reducible refine (kix _ β).mono ?_);rintro e w9 ⟨rfl,aG⟩;rw [aG];clear aG w9))
      all_goals
       go_wp2
       go_meet
       exact hfin.out
     case rest=>
      obtain ⟨jG,fP⟩:=hcut;have h3:=jG.h1;have kl:=GX B.bt B.ba lo A.cs.length S' x p (S'.u p) wc jG.iY okL;have I5:=χ jG;clear jG hfin ku kh XF kix hR2 hrc hci hfi
      go_wp2_with ((go_at_call 190;(with_reducible refine (kl).mono ?_));rintro e w3 ⟨rfl,XM,bP⟩)
      go_roundg fv
      case measure=>omega
      case rel=>
       have hR2:=E1.out.2.2.2.2.1;rw [E3.out.1,Δ rfl] at hR2;exact FIN.out wc w3 (by rw [hR2];exact I5.out) fP XM bP
    ·have eu2:IJ A.cs.length S' (p:Int)=some (q:Int):=by unfold IJ;rw [Δ ω,π,eup,e3,Γ ω]
     have E3:=χ e3;clear e3 hpR eup
     go_wp2_with (first
      | (go_at_call 188;(with_reducible refine (ku).mono ?_);rintro e w9 ⟨rfl,aG⟩;rw [aG];clear aG w9)
      | ((with_reducible refine (kh).mono ?_);rintro e w2 ⟨rfl,hC2,hu2⟩;obtain ⟨hM2,hu3⟩:=kM.out w2 hC2 hu2;(have h2:=hM2.h1);(have XF:=wM B.bt B.ba lo A.cs.length S' (p:Int) w2 hM2.iY);rw [eu2] at XF;simp only [ov,ob,Option.getD_some,Option.isSome_some] at XF;(have kl:=GX B.bt B.ba lo A.cs.length S' x p (S'.u p) w2 hM2.iY okL);(have nE:=χ hM2);clear hM2)
      | (go_at_call 188;(with_reducible refine (XF).mono ?_);rintro e w9 ⟨rfl,aG⟩;rw [aG];clear aG w9)
      | ((go_at_call 190;(with_reducible refine (kl).mono ?_));rintro e w3 ⟨rfl,XM,fP⟩))
     go_roundg fv
     case measure=>omega
     case rel=>
      have hR2:=E1.out.2.2.2.2.1;rw [E3.out,Γ ω] at hR2;exact FIN.out w2 w3 (by rw [hR2];exact nE.out) hu3 XM fP
end
theorem Ow (W:World) (n0 c b3 b4:Nat) (F:List Nat) (A:NS) (st x y:Nat) (h3:W.cell? ⟨b3,0,none⟩=some (.pointer (some ⟨n0,0,none⟩))) (h4:W.cell? ⟨b4,0,none⟩=some (.int .i64 (x:Int))) (h0:W.cell? ⟨n0,0,none⟩=some (.pointer (some ⟨c,0,none⟩)))
  (hC:az W c F A st) (hx:bM A (x:Int)=true) (hy:bM A (y:Int)=true) (e3:b3≠c) (e4:b4≠c) (e0:n0≠c) :
  Calls Tryz.prog 184 #[.int .i64 (y:Int),.pointer (some ⟨b3,0,none⟩),.pointer (some ⟨b4,0,none⟩)] W fun e w'=>e=.returned (.bool (decide (bU A x y)))/\az w' c F A (bO st 1)/\aa [c] W w':=by
 have ka:=fun W' (hW:aa [] W W')=>dU (hC.aj hW) x y hx hy;have r3:∀W',aa [c] W W'->W'.cell? ⟨b3,0,none⟩=some (.pointer (some ⟨n0,0,none⟩)):=fun W' hW=>hW.kept h3 (by simpa using e3);have r4:∀W',aa [c] W W'->W'.cell? ⟨b4,0,none⟩=some (.int .i64 (x:Int)):=fun W' hW=>hW.kept h4 (by simpa using e4);have r0:∀W',aa [c] W W'->W'.cell? ⟨n0,0,none⟩=some (.pointer (some ⟨c,0,none⟩)):=fun W' hW=>hW.kept h0 (by simpa using e0);clear hC hx hy h3 h4 h0;generalize decide (bU A x y)=b at *
 go_enter Tryz.func184,Tryz.ntmps184
 go_wp2
 go_region_held3 (aa [c] W) (exact ν)
  (first
   | ((go_at_call 174;(with_reducible refine (ka _ β).mono ?_));rintro e w1 ⟨rfl,jc,hu1⟩;(have hu2:aa [c] W w1:=aa.trans ν hu1)))
 go_wp2;go_ret;exact ⟨rfl,jc.aj β,ν⟩
theorem Jo (w:World) (K:List Nat) (B:BB) (F:List Nat) (A:NS) (b3 b4 x:Nat) (h3:w.cell? ⟨b3,0,none⟩=some (.pointer (some ⟨B.n0,0,none⟩))) (h4:w.cell? ⟨b4,0,none⟩=some (.int .i64 (x:Int))) (hx:bM A (x:Int)=true) (k3:b3∉K) (k4:b4∉K) (hc:B.c∈K) :
  XK w K B F A 1 (fun y=>decide (bU A x y)) 184 #[.pointer (some ⟨b3,0,none⟩),.pointer (some ⟨b4,0,none⟩)]:=by
 refine ⟨fun _ _=>by kernel_rfl,fun W st above hu h0 hne hC hin=>?_⟩;exact Ow W B.n0 B.c b3 b4 F A st x above (hu.kept h3 k3) (hu.kept h4 k4) h0 hC hx hin (fun e=>k3 (e▸hc)) (fun e=>k4 (e▸hc)) hne
section
variable {w:World} {p:Nat} {FF:List Nat} {A:NS} {st:Nat} {G:BG}
def Kc (A':NS) (x:Nat) (G:BG):BG×Nat:=iI (fun y=>decide (bU A' x y)) 1 x A'.cs.length G
theorem YK {x:Nat} {k s:Int} (I:Cq A G) (hB:iT A x k s=true) (hx:x<A.cs.length):Cq (ak A x k s) (Kc (ak A x k s) x G).1:=by
 obtain ⟨X,hk⟩:=CU I hB hx;have hn:=dY A x k s;have hx':x<(ak A x k s).cs.length:=by rw [hn];exact hx
 have E:=Il (hp:=fun y=>decide (bU (ak A x k s) x y)) (ct:=1) hx' (ak A x k s).cs.length X ω;have K:=Au (hp:=fun y=>decide (bU (ak A x k s) x y)) (ct:=1) hx' (fun p _ h=>ϡ h) (ak A x k s).cs.length X (by rw [hn];exact hk);refine E.1.done hx' K (fun p hp=>?_);rcases E.2 with h|⟨p',h1,h2⟩
 ·have hp:(Kc (ak A x k s) x G).1.F.u x=p:=hp;have h:(Kc (ak A x k s) x G).1.F.u x=-1:=h;omega
 ·have hp:(Kc (ak A x k s) x G).1.F.u x=p:=hp;have h1:(Kc (ak A x k s) x G).1.F.u x=p':=h1;obtain rfl:p=p':=ω;have hne:x≠p:=fun e=>by
   subst e;exact E.1.fh.f.self hx' (E.1.fh.f.above hx' h1).2
  exact (iP hne).resolve_left (of_decide_eq_false h2)
theorem Tv (h:IL w p FF A st G) (x:Nat) (k s:Int) (hk:-9223372036854775808<=k/\k<=9223372036854775807/\0<=s/\s<=18446744073709551615) (hB:iT A x k s=true) :
  Calls Tryz.prog 175 #[.pointer (some ⟨p,0,none⟩),.int .i64 (x:Int),.agg #[.int .i64 k,.int .u64 s]] w fun e w'=>e=.returned (.bool true)/\
   Goes FF w w' (fun Jc=>IL w' p Jc (ak A x k s) (bO st (Kc (ak A x k s) x G).2) (Kc (ak A x k s) x G).1):=by
 obtain ⟨⟨B,F,gr,cr,lo,S,vs,rfl,rfl,M,eF⟩,I⟩:=h;have hin:=qN hB;obtain ⟨hx,hhome⟩:=(ae _ _).1 hin;obtain ⟨X, -⟩:=CU I hB hx;have I2:=YK I hB hx;have hcs:=dY A (x:Int) k s;have lC:=kZ A (x:Int) k s;have hix:=iw hB hx x;have hin2:bM (ak A x k s) (x:Int)=true:=(ae _ _).2 ⟨ω,ω⟩;have TC:=iK M.cells.ok hin;rw [π] at TC;obtain ⟨q,hq0,hq1,hqv⟩:=M.hq TC;obtain ⟨w3,hw3⟩:∃w3,w3=((w.alloc (.cells #[.pointer (some ⟨B.n0,0,none⟩)] 174)).alloc (.cells #[.int .i64 (x:Int)] 3)).alloc (.cells #[.int .i64 k,.int .u64 s] 129):=⟨_,rfl⟩;have u3:aa [] w w3:=by rw [hw3];exact β
 have s3:w3.heap.size=w.heap.size+3:=by rw [hw3];simp
 have b3:w3.cell? ⟨w.heap.size,0,none⟩=some (.pointer (some ⟨B.n0,0,none⟩)):=by rw [hw3];go_simp
 have b4:w3.cell? ⟨w.heap.size+1,0,none⟩=some (.int .i64 (x:Int)):=by rw [hw3];go_simp
 have b5:w3.cell? ⟨w.heap.size+1+1,0,none⟩=some (.int .i64 k):=by rw [hw3];go_simp
 have b6:w3.cell? ⟨w.heap.size+1+1,1,none⟩=some (.int .u64 s):=by rw [hw3];go_simp
 have nF:∀j,w.heap.size+j∉F:=fun j hm=>by have:=M.cells.lt _ hm;omega
 have kl:=fun W (hW:aa [] w3 W)=>gX (M.cells.aj (u3.trans hW)) x k s hk hB;have h0:=u3.was M.h0;have uM:=M.d1.1;have r0:∀W,aa F w3 W->W.cell? ⟨B.n0,0,none⟩=some (.pointer (some ⟨B.c,0,none⟩)):=fun W hW=>hW.kept h0 uM;have r3:∀W,aa F w3 W->W.cell? ⟨w.heap.size,0,none⟩=some (.pointer (some ⟨B.n0,0,none⟩)):=fun W hW=>hW.kept b3 (nF 0);have r4:∀W,aa F w3 W->W.cell? ⟨w.heap.size+1,0,none⟩=some (.int .i64 (x:Int)):=fun W hW=>hW.kept b4 (nF 1);have r5:∀W,aa F w3 W->W.cell? ⟨w.heap.size+1+1,0,none⟩=some (.int .i64 k):=fun W hW=>hW.kept b5 (nF 2)
 have r6:∀W,aa F w3 W->W.cell? ⟨w.heap.size+1+1,1,none⟩=some (.int .u64 s):=fun W hW=>hW.kept b6 (nF 2);have HM:=χ M;have HI:=χ (ψ X (ψ I2 (ψ eF (ψ hcs (ψ lC hin2)))));have HW:=χ hw3;clear M I X I2 eF hcs lC hin TC h0 b3 b4 b5 b6 hB nF hw3;generalize hA':ak A (x:Int) k s=A' at *;rw [hq0] at hix
 go_enter Tryz.func175,Tryz.ntmps175
 go_wp2;rw [←HW.out]
 go_region_held3 (aa F w3) (exact ν)
  (first
   | ((go_at_call 147;(with_reducible refine (kl _ β).mono ?_));rintro e w4 ⟨rfl,QR,fP⟩;(have Yq:aa F w3 w4:=aa.trans ν fP)))
 have kh:=fun W (hW:aa [] w4 W)=>dG (QR.aj hW) x HI.out.2.2.2.2.2;rw [hix] at kh;go_wp2
 go_region_held3 (aa F w3) (exact ν)
  (first
   | ((go_at_call 140;(with_reducible refine (kh _ β).mono ?_));rintro e w5 ⟨rfl,UE,bP⟩;(have Kw:aa F w3 w5:=aa.trans ν bP)))
 have wT:=(HM.out.aj u3).bV Kw UE (fun y hy=>Α hy) HI.out.2.2.2.1 (by rw [HI.out.2.2.2.2.1]);have g3:=r3 w5 Kw;have g4:=r4 w5 Kw;have hlt:=HM.out.lt;have hcs:=HI.out.2.2.2.1;have hKK:∀j,w.heap.size+j∉B.blk F gr A'.cs.length S vs:=fun j hm=>by rw [hcs] at hm;have:=hlt _ hm;omega
 have H5:=fun (W:World) (hW:aa [] w5 W)=>Jo W (B.blk F gr A'.cs.length S vs) B F A' w.heap.size (w.heap.size+1) x (hW.was g3) (hW.was g4) HI.out.2.2.2.2.2 (hKK 0) (hKK 1) (yl _ HM.out.cells.mem);have kL:=fun W (hW:aa [] w5 W)=>PI (wT.aj hW) HI.out.2.2.1 HI.out.1 ω (by rw [hix];omega) hix hqv (H5 W hW);have vv:=χ wT;clear wT UE QR kh kl r0 r5 r6 hlt hKK r3 r4
 go_wp2_with (first
  | ((go_at_call 183;(with_reducible refine (kL _ β).mono ?_));rintro e w6 ⟨rfl,S6,tH,hF6,gN,hb6⟩)
  | fail)
 go_ret;have hcs:=HI.out.2.2.2.1;have uw:aa (B.blk F gr A.cs.length S vs) w w6:=by
  rw [hcs] at gN;exact ((u3.mono σ).trans (Kw.mono yl)).trans (aa.trans ν gN)
 refine ⟨rfl,B.blk F gr A'.cs.length S6 vs,⟨⟨B,F,gr,cr,lo,S6,vs,rfl,rfl,tH,hF6⟩,HI.out.2.1⟩,uw,fun y hy=>Α ?_⟩;rw [hcs] at hy hb6;simp only [BB.blk,ρ,τ] at hy ⊢;rcases hy with e|e|e|e|e|e|e
 ·exact Α e
 ·exact Β (Α e)
 ·exact Β (Β (Α e))
 ·exact Β (Β (Β (Α e)))
 ·exact Β (Β (Β (Β (Α e))))
 ·exact Β (Β (Β (Β (Β (Α (hb6 y e))))))
 ·exact Β (Β (Β (Β (Β (Β e)))))
end
theorem WY:(Tryz.prog.info? 26).map (fun i=>(i.zero,i.size,i.bytes))=some (some (.slice none 0 0),1,24):=by kernel_rfl
theorem Zj {A:NS} {G:BG} (I:Cq A G) (ok:A.Ok):G.R A.hs.length=[]:=by
 cases e:G.R A.hs.length with
 | nil=>rfl
 | cons x t=>
  have hx:x∈G.R A.hs.length:=by rw [e];simp
  obtain ⟨y,_,hy,_,hh,_⟩:=Rw I hx;have:=ok.nat y hy;omega
theorem Cn (vs:List Value) (v:Value) (k:Nat):(vs++[v]).getD k undef=if k<vs.length then vs.getD k undef else if k=vs.length then v else undef:=by
 simp only [φ]
 by_cases e:k<vs.length
 ·rw [Ρ e,Δ e]
 ·rw [ϊ ω,Γ e]
  by_cases e2:k=vs.length
  ·subst e2;simp
  ·rw [Γ e2,List.getElem?_eq_none ζ];rfl
section
variable {w:World} {p:Nat} {FF:List Nat} {A:NS} {st:Nat} {G:BG}
theorem NP (h:IL w p FF A st G) :
  Calls Tryz.prog 179 #[.pointer (some ⟨p,0,none⟩)] w fun e w'=>e=.returned (.int .i64 (bW A))/\Goes FF w w' (fun Jc=>IL w' p Jc (aL A) st G):=by
 obtain ⟨⟨B,F,gr,cr,lo,S,vs,rfl,rfl,M,eF⟩,I⟩:=h;have k:=iD M.cells;have h0:=M.h0;have I2:=Wo I
 by_cases hl:65536<A.hs.length
 ·have e1:bW A=0:=by unfold bW;rw [Δ hl]
  have e2:aL A=A:=by unfold aL;rw [Δ hl]
  rw [e1,e2] at k;rw [e1,e2];have HM:=χ M;have HI:=χ (ψ I eF);clear M I eF e1 e2 I2
  go_enter Tryz.func179,Tryz.ntmps179
  go_wp2_with ((go_at_call 156;(with_reducible refine (k).mono ?_));rintro e w1 ⟨rfl,F1,hC,hu,hF⟩)
  go_ret;refine ⟨rfl,B.blk F1 gr A.cs.length S vs,⟨⟨B,F1,gr,cr,lo,S,vs,rfl,rfl,HM.out.bV hu hC hF rfl rfl,HI.out.2⟩,HI.out.1⟩,hu.mono yl,fun y hy=>?_⟩;simp only [BB.blk,ρ,τ] at hy ⊢;rcases hy with e|e|e|e|e|e|e
  ·exact Α (Α e)
  ·exact Α (Β (Α e))
  ·exact Α (Β (Β (Α e)))
  ·exact Α (Β (Β (Β (Α e))))
  ·rcases hF y e with h'|h'
   ·exact Α (Β (Β (Β (Β (Α h')))))
   ·exact Β h'
  ·exact Α (Β (Β (Β (Β (Β (Α e))))))
  ·exact Α (Β (Β (Β (Β (Β (Β e))))))
 ·have e1:bW A=A.hs.length:=by unfold bW;rw [Γ hl]
  rw [e1] at k;rw [e1];have hcs:(aL A).cs.length=A.cs.length:=by rw [MH]
  have lC:(aL A).hs.length=A.hs.length+1:=by unfold aL;rw [Γ hl];simp
  have hh0:=M.cells.ok.h0;have hvl:vs.length<=65536:=by rw [M.len];omega
  have hlen:=M.len;have hpos:(0:Int)<(A.hs.length:Int):=ω;have HM:=χ M;have HI:=χ (ψ I2 (ψ eF (ψ (Zj I M.cells.ok) hlen)));clear M I e1 I2 eF hlen
  go_enter Tryz.func179,Tryz.ntmps179
  go_wp2_with (first
   | ((go_at_call 156;(with_reducible refine (k).mono ?_));rintro e w1 ⟨rfl,F1,hC,hu,hF⟩;(have d3:=hu.kept HM.out.h2 HM.out.d1.1);(have f3:=hu.aK HM.out.h2 HM.out.d1.1 (HM.out.head.free 2));(have ho1:=ay HM.out.rows hu (fun g hg=>by simp [Value.ownBlock] at hg;subst hg;exact HM.out.d1.2.2.2));(have g0:B.n0≠gr:=HM.out.d2.2.2.1);(have gl:=Ψ HM.out.Fx hu.size))
   | ((at_builtin;refine aQ rfl _ _ 51 rfl 0 26 (.slice none 0 0) 1 24 Tryz.underlying51 WY rfl δ _ _ _ rfl (ho1) [.slice none 0 0] rfl (by simp [Value.oneCell']) (by first|rfl|(rw [Κ];rfl)) μ ω ω ?_;intro v2 w2 ho2 hu2 lZ);(have hu2:aa [gr] w1 w2:=hu2);obtain ⟨Fj,cr1,ev,_⟩:=fQ ho2 ω;subst ev;(have d4:=hu2.kept d3 ζ);(have f4:=hu2.aK d3 ζ f3)))
  go_ret;have hM:=HM.out;have hlt:=hM.lt;have f:=hM.d1;have q:=hM.d2;have hws:=hu.size;have hw3:aa [B.n0] w2 (w2.setCell ⟨B.n0,2,none⟩ (.slice (some ⟨Fj,0,none⟩) (vs.length+1) cr1)):=β;have hg1:Fj=gr\/w1.heap.size<Fj:=by
   rcases lZ with h|h
   ·exact Α (Option.some.inj h)
   ·exact Β (h Fj rfl)
  have jc:=hC.lt;have l0:=hlt B.n0 (by simp [BB.blk]);have l1:=hlt B.bt (by simp [BB.blk]);have l2:=hlt B.ba (by simp [BB.blk]);have l4:=hM.Fx;have hnF:∀y,y<w.heap.size->y∉F->y∉F1:=fun y hy hn hm=>by rcases hF y hm with h'|h';exact hn h';omega
  have E9:Fj∉F1:=by
   rcases hg1 with e|e
   ·rw [e];exact hnF gr l4 f.2.2.2
   ·exact fun hm=>by have:=jc Fj hm;omega
  have hgn:∀y,y<w.heap.size->y≠gr->y≠Fj:=fun y hy hn e=>by
   rcases hg1 with e2|e2
   ·exact hn (e.trans e2)
   ·omega
  have hcs:=hcs;have hv:(vs++[Value.slice none 0 0]).length=vs.length+1:=σ;have hin:=HI.out.2.2.1;have hhd:=((hM.head.upd hu f.1).upd hu2 ζ).set 2 (.slice (some ⟨Fj,0,none⟩) (vs.length+1) cr1);have WK:∀j,j<vs.length+1->∀g,((vs++[Value.slice none 0 0]).getD j undef).ownBlock=some g->j<vs.length/\(vs.getD j undef).ownBlock=some g:=fun j hj g hg=>by
   rw [Cn] at hg
   by_cases e:j<vs.length
   ·rw [Δ e] at hg;exact ⟨e,hg⟩
   ·rw [Γ e,Δ ω] at hg;cases hg
  have hBM:iH (w2.setCell ⟨B.n0,2,none⟩ (.slice (some ⟨Fj,0,none⟩) (vs.length+1) cr1)) B F1 Fj cr1 lo (aL A) st S (vs++[.slice none 0 0]) G.R:=by
   refine ⟨?_,?_,?_,?_,by rw [hv,lC,HI.out.2.2.2],fun j hj=>?_,⟨hnF _ l0 f.1,hnF _ l1 f.2.1,hnF _ l2 f.2.2.1,E9⟩,⟨q.1,q.2.1,hgn _ l0 q.2.2.1,hgn _ l1 q.2.2.2.1,hgn _ l2 q.2.2.2.2⟩,fun g hg=>?_,fun j g hj hg=>?_,fun j k g hj hk hne hg=>?_⟩
   ·rw [hv];refine hhd.ext (fun j hj=>?_);rcases (ω:j=0\/j=1\/j=2) with rfl|rfl|rfl<;>rfl
   ·exact (hC.upd hu2 (fun y hy=>by simp at hy;rw [hy];exact hnF gr l4 f.2.2.2)).upd hw3 (fun y hy=>by simp at hy;rw [hy];exact hnF _ l0 f.1)
   ·rw [hcs];exact ((hM.iY.upd hu f.2.1 f.2.2.1 (fun g hg=>(hM.d3 g hg).2.2)).upd hu2 (by simp;exact q.2.2.2.1) (by simp;exact q.2.2.2.2) (fun g hg hm=>by simp at hm;exact (hM.d3 g hg).2.1 hm)).upd hw3 (by simp;exact Ne.symm q.1) (by simp;exact Ne.symm q.2.1) (fun g hg hm=>by simp at hm;exact (hM.d3 g hg).1 hm)
   ·rw [hv];refine ay (jE ho2 (Nat.zero_le _)) hw3 (fun g hg hm=>?_);simp [Value.ownBlock] at hg hm;exact hgn _ l0 q.2.2.1 ω
   ·rw [hv] at hj;rw [Cn]
    by_cases e:j<vs.length
    ·rw [Δ e];exact (((hM.each j e).upd hu (fun g hg=>(hM.d4 j g e hg).2.2.2.2.1)).upd hu2 (fun g hg hm=>by simp at hm;exact (hM.d4 j g e hg).2.2.2.1 hm)).upd hw3 (fun g hg hm=>by simp at hm;exact (hM.d4 j g e hg).1 hm)
    ·obtain rfl:j=vs.length:=ω;rw [Γ e,Δ rfl,HI.out.2.2.2,hin];exact aW.nil _ _
   ·rw [hcs] at hg;have:=hM.d3 g hg;have hgl:=(hM.iY.nN hg).2;exact ⟨this.1,hgn g hgl this.2.1,hnF g hgl this.2.2⟩
   ·rw [hv] at hj;obtain ⟨e,hg⟩:=WK j hj g hg;have:=hM.d4 j g e hg;have hgl:=hM.xU e hg;rw [hcs];exact ⟨this.1,this.2.1,this.2.2.1,hgn g hgl this.2.2.2.1,hnF g hgl this.2.2.2.2.1,this.2.2.2.2.2⟩
   ·rw [hv] at hj hk;obtain ⟨e,hg⟩:=WK j hj g hg;intro h2;obtain ⟨e2,h2⟩:=WK k hk g h2;exact hM.d5 j k g e e2 hne hg h2
  refine ⟨rfl,B.blk F1 Fj (aL A).cs.length S (vs++[.slice none 0 0]),⟨⟨B,F1,Fj,cr1,lo,S,_,rfl,rfl,hBM,HI.out.2.1⟩,HI.out.1⟩,((hu.mono yl).trans (hu2.mono (fun y hy=>by simp at hy;subst hy;simp [BB.blk]))).trans (hw3.mono (fun y hy=>by simp at hy;subst hy;simp [BB.blk])),fun y hy=>?_⟩;rw [hcs] at hy;simp only [BB.blk,ρ,τ] at hy ⊢;rcases hy with e|e|e|e|e|e|e
  ·exact Α (Α e)
  ·exact Α (Β (Α e))
  ·exact Α (Β (Β (Α e)))
  ·rcases hg1 with e2|e2
   ·exact Α (Β (Β (Β (Α (e.trans e2)))))
   ·exact Β ω
  ·rcases hF y e with h'|h'
   ·exact Α (Β (Β (Β (Β (Α h')))))
   ·exact Β h'
  ·exact Α (Β (Β (Β (Β (Β (Α e))))))
  ·obtain ⟨j,hj,hg⟩:=jw.1 e;rw [hv] at hj;obtain ⟨e3,hg⟩:=WK j hj y hg;exact Α (Β (Β (Β (Β (Β (Β (jw.2 ⟨j,e3,hg⟩)))))))
end
theorem QY (n:Nat) (w:World) (h:n<=65536) :
  Calls Tryz.prog 94 #[.int .i64 (n:Int)] w fun e w'=>∃p FF,e=.returned (.tuple #[.pointer (some ⟨p,0,none⟩),.int .i64 0])/\IL w' p FF (NS.new n) 0 BG.none/\aa [] w w'/\∀x,x∈FF->w.heap.size<=x:=by
 have k:=nP n w h;have kc:=fun W=>Dw n W h
 go_enter Tryz.func94,Tryz.ntmps94
 go_wp2_with (first
  | ((go_at_call 107;(with_reducible refine (k).mono ?_));rintro e w1 ⟨c,F,rfl,hC,hu1,hF⟩)
  | ((go_at_call 109;(with_reducible refine (kc _).mono ?_));rintro e w2 ⟨bt,ba,rfl,hFo,hu2,hbt,IM⟩))
 go_ret2;have hn:(NS.new n).cs.length=n:=by simp [NS.new]
 obtain ⟨w3,hw3⟩:∃w3,w3=w2.alloc (.cells #[.slice none 0 0] 26):=⟨_,rfl⟩;have hs3:w3.heap.size=w2.heap.size+1:=by rw [hw3];simp
 have u3:aa [] w2 w3:=by rw [hw3];exact (aa.refl _ _).alloc _
 have o3:w3.ownsRow 0 26 1 (.slice (some ⟨w2.heap.size,0,none⟩) 1 1) 1 [.slice none 0 0]:=by rw [hw3];exact mQ w2 [.slice none 0 0] 26 0 1 1 rfl (Nat.zero_le _) μ
 rw [←hw3];have hR:=dH w3 [Value.pointer (some ⟨c,0,none⟩),.pointer (some ⟨bt,0,none⟩),.slice (some ⟨w2.heap.size,0,none⟩) 1 1] 212;rw [hs3] at hR;have u4:aa [] w3 (w3.alloc (.cells #[.pointer (some ⟨c,0,none⟩),.pointer (some ⟨bt,0,none⟩),.slice (some ⟨w2.heap.size,0,none⟩) 1 1] 212)):=(aa.refl _ _).alloc _;have z1:=hu1.size;have z2:=hu2.size;have LH:=hC.lt;have hb1:=hFo.head.lt;have hb2:=hFo.row.lt;have hFn:∀y,w1.heap.size<=y->y∉F:=fun y hy hm=>by have:=LH y hm;omega
 have hno:∀m g,g∉CS.none.blk m:=fun m g hg=>by
  obtain ⟨y,_,e⟩:=(CS.jN _ m g).1 hg;cases e
 have hv0:∀h,h < [Value.slice none 0 0].length->[Value.slice none 0 0].getD h undef=Value.slice none 0 0:=fun h hh=>by
  have:h=0:=by simp at hh;omega
  subst this;rfl
 have hBM:iH (w3.alloc (.cells #[.pointer (some ⟨c,0,none⟩),.pointer (some ⟨bt,0,none⟩),.slice (some ⟨w2.heap.size,0,none⟩) 1 1] 212)) ⟨w2.heap.size+1,c,bt,ba⟩ F w2.heap.size 1 w2.heap.size (NS.new n) 0 CS.none [.slice none 0 0] BG.none.R:=by
  refine ⟨hR,hC.aj (hu2.trans (u3.trans u4)),by rw [hn];exact hFo.aj (u3.trans u4),ay o3 u4 σ,rfl,fun h hh=>by rw [hv0 h hh];exact aW.nil _ _,⟨hFn _ (by simp only;omega),hFn _ (by simp only;omega),hFn _ (by simp only;omega),hFn _ ω⟩,⟨?_,?_,?_,?_,?_⟩,fun g hg=>absurd hg (hno _ g),fun h g hh hg=>(by rw [hv0 h hh] at hg;cases hg),fun h k g hh hk _ hg=>(by rw [hv0 h hh] at hg;cases hg)⟩
  all_goals simp only;omega
 refine ⟨w2.heap.size+1,_,by simp [hs3],⟨⟨⟨w2.heap.size+1,c,bt,ba⟩,F,w2.heap.size,1,w2.heap.size,CS.none,[.slice none 0 0],rfl,rfl,hBM,rfl⟩,ZB n⟩,hu1.trans (hu2.trans (u3.trans u4)),fun y hy=>?_⟩;simp only [BB.blk,ρ,τ] at hy;rcases hy with e|e|e|e|e|e|e
 ·omega
 ·omega
 ·omega
 ·omega
 ·exact hF y e
 ·exact absurd e (hno _ y)
 ·obtain ⟨j,hj,hg⟩:=jw.1 e;rw [hv0 j hj] at hg;cases hg
theorem FK (p c:Nat):∀W:World,W.cell? ⟨p,0,none⟩=some (.pointer (some ⟨c,0,none⟩))->(method 429 174 (.pointer (some ⟨p,0,none⟩)) "Has").run Tryz.prog W=.ok (139,.pointer (some ⟨c,0,none⟩)) W:=(by intro W h;unfold method;have hm:∃m,(Array.find? (fun x=>x.name == "Has") Tryz.t174.methods)=some m/\m.path.toList=[⟨212,0,true⟩]/\m.func=some (139,true)/\m.path.isEmpty=false:=⟨(Array.find? (fun x=>x.name == "Has") Tryz.t174.methods).get!,by kernel_rfl,by kernel_rfl,by kernel_rfl,by kernel_rfl⟩;obtain ⟨m,h1,h2,h3,h4⟩:=hm;go_simp;simp only [follow,Place.get];go_simp;(try unfold receiverAt);(try simp only [Place.get]);(try go_simp))
theorem Bu (p c:Nat):∀W:World,W.cell? ⟨p,0,none⟩=some (.pointer (some ⟨c,0,none⟩))->(method 429 174 (.pointer (some ⟨p,0,none⟩)) "Entry").run Tryz.prog W=.ok (137,.pointer (some ⟨c,0,none⟩)) W:=(by intro W h;unfold method;have hm:∃m,(Array.find? (fun x=>x.name == "Entry") Tryz.t174.methods)=some m/\m.path.toList=[⟨212,0,true⟩]/\m.func=some (137,true)/\m.path.isEmpty=false:=⟨(Array.find? (fun x=>x.name == "Entry") Tryz.t174.methods).get!,by kernel_rfl,by kernel_rfl,by kernel_rfl,by kernel_rfl⟩;obtain ⟨m,h1,h2,h3,h4⟩:=hm;go_simp;simp only [follow,Place.get];go_simp;(try unfold receiverAt);(try simp only [Place.get]);(try go_simp))
theorem Rn (p:Nat):∀W:World,(method 429 174 (.pointer (some ⟨p,0,none⟩)) "Make").run Tryz.prog W=.ok (179,.pointer (some ⟨p,0,none⟩)) W:=fun _=>by kernel_rfl
theorem JO (p:Nat):∀W:World,(method 429 174 (.pointer (some ⟨p,0,none⟩)) "Insert").run Tryz.prog W=.ok (178,.pointer (some ⟨p,0,none⟩)) W:=fun _=>by kernel_rfl
theorem WZ (p:Nat):∀W:World,(method 429 174 (.pointer (some ⟨p,0,none⟩)) "Min").run Tryz.prog W=.ok (181,.pointer (some ⟨p,0,none⟩)) W:=fun _=>by kernel_rfl
theorem Hm (p:Nat):∀W:World,(method 429 174 (.pointer (some ⟨p,0,none⟩)) "Extract").run Tryz.prog W=.ok (177,.pointer (some ⟨p,0,none⟩)) W:=fun _=>by kernel_rfl
theorem EB (p:Nat):∀W:World,(method 429 174 (.pointer (some ⟨p,0,none⟩)) "Decrease").run Tryz.prog W=.ok (175,.pointer (some ⟨p,0,none⟩)) W:=fun _=>by kernel_rfl
theorem xW {w w':World} {p:Nat} {F S:List Nat} {A:NS} {st:Nat} {G:BG} (h:IL w p F A st G) (hu:aa S w w') (hS:∀x,x∈S->x∉F):IL w' p F A st G:=by
 obtain ⟨⟨B,F1,gr,cr,lo,S1,vs,rfl,rfl,M,eF⟩,I⟩:=h;exact ⟨⟨B,F1,gr,cr,lo,S1,vs,rfl,rfl,M.upd hu hS,eF⟩,I⟩
theorem abG {w:World} {p:Nat} {F:List Nat} {A:NS} {st:Nat} {G:BG} (h:IL w p F A st G):∀x,x∈F->x<w.heap.size:=by
 obtain ⟨⟨B,F1,gr,cr,lo,S1,vs,rfl,rfl,M,eF⟩,I⟩:=h;exact M.lt
theorem acx {w:World} {p:Nat} {F:List Nat} {A:NS} {st:Nat} {G:BG} (h:IL w p F A st G):A.Ok:=by
 obtain ⟨⟨B,F1,gr,cr,lo,S1,vs,rfl,rfl,M,eF⟩,I⟩:=h;exact M.cells.ok
theorem XE {w:World} {p:Nat} {F:List Nat} {A:NS} {st:Nat} {G:BG} (h:IL w p F A st G):∃c F1,w.cell? ⟨p,0,none⟩=some (.pointer (some ⟨c,0,none⟩))/\az w c F1 A st:=by
 obtain ⟨⟨B,F1,gr,cr,lo,S1,vs,rfl,rfl,M,eF⟩,I⟩:=h;exact ⟨B.c,F1,M.h0,M.cells⟩
def BnQ (w:World) (p:Nat) (F:List Nat) (A:NS):Prop:=∃st G,IL w p F A st G
noncomputable def yS:gB where
 ty:=174
 at_:=BnQ
 upd:=fun h hu hS=>by
  obtain ⟨st,G,hL⟩:=h;exact ⟨st,G,xW hL hu hS⟩
 lt:=fun h=>by
  obtain ⟨st,G,hL⟩:=h;exact abG hL
 ok:=fun h=>by
  obtain ⟨st,G,hL⟩:=h;exact acx hL
 make:=fun {w p F A} h=>by
  obtain ⟨st,G,hL⟩:=h;refine aS 179 (fun _ _=>by kernel_rfl) (Rn _) (fun W hW=>?_);refine (NP (xW hL hW σ)).mono ?_;rintro e w' ⟨rfl,F',hA,hu,hf⟩;exact ⟨rfl,F',⟨_,_,hA⟩,hu,hf⟩
 insert:=fun {w p F A} g y k s hk hB h=>by
  obtain ⟨st,G,hL⟩:=h;refine aS 178 (fun _ _=>by kernel_rfl) (JO _) (fun W hW=>?_);refine (Ii (xW hL hW σ) g y k s hk hB).mono ?_;rintro e w' ⟨rfl,F',hA,hu,hf⟩;exact ⟨rfl,F',⟨_,_,hA⟩,hu,hf⟩
 min:=fun {w p F A} y hB h=>by
  obtain ⟨st,G,hL⟩:=h;refine aS 181 (fun _ _=>by kernel_rfl) (WZ _) (fun W hW=>?_);have lU:=xW hL hW σ;obtain ⟨⟨B,F1,gr,cr,lo,S1,vs,rfl,rfl,M,eF⟩,I⟩:=lU;refine (GG M I (y:Int)).mono ?_;rintro e w' ⟨rfl,hM2,hu⟩;exact ⟨rfl,Goes.stay ⟨_,_,⟨B,F1,gr,cr,lo,S1,vs,rfl,rfl,hM2,eF⟩,I⟩ (hu.mono (fun y hy=>by simp at hy;subst hy;exact yl _ M.cells.mem))⟩
 extract:=fun {w p F A} y m hm h=>by
  obtain ⟨st,G,hL⟩:=h;refine aS 177 (fun _ _=>by kernel_rfl) (Hm _) (fun W hW=>?_);have lU:=xW hL hW σ;have e2:uH A (y:Int)=aY A (m:Int):=by unfold uH;rw [hm]
  have k:=EH lU (y:Int);rw [e2,hm] at k;refine k.mono ?_;rintro e w' ⟨rfl,F',hA,hu,hf⟩;exact ⟨rfl,F',⟨_,_,hA⟩,hu,hf⟩
 lW:=fun {w p F A} y k s hk hB h=>by
  obtain ⟨st,G,hL⟩:=h;refine aS 175 (fun _ _=>by kernel_rfl) (EB _) (fun W hW=>?_);have lU:=xW hL hW σ;refine (Tv lU y k s hk hB).mono ?_;rintro e w' ⟨rfl,F',hA,hu,hf⟩;exact ⟨rfl,F',⟨_,_,hA⟩,hu,hf⟩
 has:=fun x h=>by
  obtain ⟨st,G,hL⟩:=h;obtain ⟨c,F1,h0,hC⟩:=XE hL;exact iy 139 (fun _ _=>by kernel_rfl) h0 (FK _ _) (fun W hW=>jg (hC.aj hW) x)
 entry:=fun {w p F A} x h=>by
  obtain ⟨st,G,hL⟩:=h;obtain ⟨c,F1,h0,hC⟩:=XE hL;refine iy 137 (fun _ _=>by kernel_rfl) h0 (Bu _ _) (fun W hW=>?_);cases hin:bM A x with
  | false=>simpa using lG (hC.aj hW) x hin
  | true=>
   obtain ⟨y,rfl⟩:=qy hin;simpa using jX (hC.aj hW) y hin
theorem I7 (p:Nat) (w:World):Calls Tryz.prog 93 #[.pointer (some ⟨p,0,none⟩),.int .i64 0] w fun e w'=>e=.returned (.tuple #[.iface 174 (.pointer (some ⟨p,0,none⟩)),.int .i64 0])/\w'=w:=by
 go_enter Tryz.func93,Tryz.ntmps93
 go_wp2;go_ret2;exact ⟨rfl,rfl⟩
theorem RD (n:Nat) (hn:n<=65536):om yS 3 0 n:=by
 intro w;have kn:=fun W=>QY n W hn;have km:=I7;have hty:yS.ty=174:=rfl;have hat:∀w' p FF,IL w' p FF (NS.new n) 0 BG.none->yS.at_ w' p FF (NS.new n):=fun w' p FF h=>⟨_,_,h⟩
 generalize yS=K at *;rw [hty]
 go_enter Tryz.func81,Tryz.ntmps81
 go_wp2_with (first
  | ((go_at_call 94;(with_reducible refine (kn _).mono ?_));rintro e w1 ⟨pn,FF,rfl,hS,hu1,hf⟩)
  | ((go_at_call 93;(with_reducible refine (km _ _).mono ?_));rintro e w2 ⟨rfl,rfl⟩)
  | fail)
 go_ret2;exact ⟨pn,FF,rfl,hat _ _ _ hS,aa.trans β hu1,fun x hx=>by have:=hf x hx;simp at this;omega⟩
end Go.Proofs.YtklibcncmbofpaaGreat
