/-
  Lemmas for PqSorts: Srt, QnR, Fam. Conditions: those of each lemma.
-/
import Derived.Test.YtnpdakpagnpanaaGreatA02
set_option linter.all false
set_option maxHeartbeats 8000000
set_option maxRecDepth 10000
namespace Go.Proofs.YtnpdakpagnpanaaGreat
open Go Go.RowKit
def MH (ks:Nat->Int) (x y:Nat):Prop:=ks x<ks y\/(ks x=ks y/\x<y)
theorem K4 {ks:Nat->Int} {x y z:Nat} (h:MH ks x y) (h':MH ks y z):MH ks x z:=by unfold MH at *;omega
def F9 (ks:Nat->Int) (i:Nat):List Nat->List Nat
 | []=>[i]
 | x::l=>if ks i<ks x then i::x::l else x::F9 ks i l
def iI (ks:Nat->Int):Nat->List Nat
 | 0=>[]
 | n+1=>F9 ks n (iI ks n)
theorem vH (ks:Nat->Int) (i:Nat):∀l:List Nat,(F9 ks i l).Perm (i::l)
 | []=>ό _
 | x::l=>by
  unfold F9
  split
  ·exact ό _
  ·exact ((vH ks i l).cons x).trans (List.Perm.swap i x l)
theorem oI (ks:Nat->Int):∀n,(iI ks n).Perm (List.range n)
 | 0=>ό _
 | n+1=>by
  rw [List.range_succ];exact ((vH ks n _).trans ((oI ks n).cons n)).trans (Φ (l₁:=[n]))
theorem og {ks:Nat->Int} {n x:Nat}:x∈iI ks n↔x<n:=by rw [(oI ks n).mem_iff,List.mem_range]
theorem Lb (ks:Nat->Int) (n:Nat):(iI ks n).length=n:=by rw [(oI ks n).length_eq,List.length_range]
theorem Cz (ks:Nat->Int) (n:Nat):(iI ks n).Nodup:=(oI ks n).nodup_iff.2 List.nodup_range
theorem wG {ks:Nat->Int} {i:Nat}:∀ {l:List Nat},l.Pairwise (MH ks)->(∀x,x∈l->x<i)->(F9 ks i l).Pairwise (MH ks)
 | [],_,_=>by unfold F9;simp
 | x::l,h,hl=>by
  rw [ϖ] at h;unfold F9
  split
  ·rename_i hk
   rw [ϖ,ϖ];refine ⟨λy hy=>?_,h.1,h.2⟩;rcases ρ.1 hy with e|e
   ·subst e;exact Α hk
   ·exact K4 (Α hk) (h.1 y e)
  ·rename_i hk
   rw [ϖ];refine ⟨λy hy=>?_,wG h.2 (λy hy=>hl y (Λ _ hy))⟩;rcases ρ.1 ((vH ks i l).mem_iff.1 hy) with e|e
   ·subst e;have:=hl x σ;unfold MH;omega
   ·exact h.1 y e
theorem oZ (ks:Nat->Int):∀n,(iI ks n).Pairwise (MH ks)
 | 0=>List.Pairwise.nil
 | n+1=>wG (oZ ks n) (λx hx=>og.1 hx)
structure Xw (n:Nat) (ks:Nat->Int) (R:AR) (A:NS) (t:Nat):Prop where
 ok:R.Ok
 Sl:A.Ok
 lA:A.cs.length=n
 lR:R.sl.length=n
 link:∀x:Nat,R.v x=bR A (x:Int)
 has:bA A 1=true
 lv:∀x,R.v x=true↔x∈(iI ks n).drop t
 cl:∀x,x∈(iI ks n).drop t->R.g x=1/\A.c x=⟨1,ks x,(x:Int)+1⟩
theorem Xw.step {n:Nat} {ks:Nat->Int} {R:AR} {A:NS} {t:Nat} (h:Xw n ks R A t) (ht:t<n):∃x:Nat,(iI ks n)[t]?=some x/\x<n/\dM A 1=some x/\R.g x=1/\(A.c x).k=ks x/\Xw n ks (ji R x) (aU A (x:Int)) (t+1):=by
 have hl:t<(iI ks n).length:=by rw [Lb];exact ht
 obtain ⟨x,hx⟩:∃x,(iI ks n)[t]=x:=⟨_,rfl⟩;have hd:(iI ks n).drop t=x::(iI ks n).drop (t+1):=by rw [ϛ hl,hx]
 have hs:=(oZ ks n).sublist (List.drop_sublist t _);have hn:=(Cz ks n).sublist (List.drop_sublist t _);rw [hd,ϖ] at hs;rw [hd,Ζ] at hn;have hxm:x∈(iI ks n).drop t:=by rw [hd];simp
 have sD:x<n:=og.1 (List.mem_of_mem_drop hxm);have hv:R.v x=true:=(h.lv x).2 hxm;have hin:bR A (x:Int)=true:=by rw [←h.link];exact hv
 have hc:=h.cl x hxm;have hmin:dM A 1=some x:=by
  refine (gP ω).2 ⟨((ay _ _).1 hin).1,by rw [hc.2],λy hy hyi=>?_⟩;have hyv:R.v y=true:=by
   rw [h.link];exact (ay _ _).2 ⟨hy,by rw [hyi];omega⟩
  have hym:=(h.lv y).1 hyv;have hcy:=h.cl y hym;rw [hd] at hym;rcases ρ.1 hym with e|e
  ·exact Α e
  ·have:=hs.1 y e;refine Β ?_;unfold dO;rw [hc.2,hcy.2];unfold MH at this;simp only;omega
 have eg:∀y,(ji R x).g y=R.g y:=λy=>by
  show (R.put x (R.g x,false)).g y=_
  rw [AR.wI]
  split
  ·rename_i e;rw [e.1]
  ·rfl
 refine ⟨x,by rw [ε hl,hx],sD,hmin,hc.1,by rw [hc.2],(xk h.ok hv).1,EO h.Sl _,by rw [dK];exact h.lA,by rw [Am];exact h.lR,λy=>by rw [Gy hv,Ig hin,h.link],by rw [show bA (aU A (x:Int)) 1=bA A 1 from by unfold bA;rw [gM]];exact h.has,λy=>?_,λy hy=>?_⟩
 ·rw [Gy hv];simp only [Τ,Bool.not_eq_true',decide_eq_false_iff_not];rw [h.lv,hd,ρ];constructor
  ·rintro ⟨h1|h1,h2⟩
   ·exact absurd h1 h2
   ·exact h1
  ·exact λh1=>⟨Β h1,λe=>hn.1 (by rw [←e];exact h1)⟩
 ·have hym:y∈(iI ks n).drop t:=by rw [hd];exact Λ _ hy
  have hne:y≠x:=λe=>hn.1 (by rw [←e];exact hy);have hcy:=h.cl y hym;have Wz:=sS hin y;rw [Γ hne] at Wz;exact ⟨by rw [eg];exact hcy.1,by rw [Wz];exact hcy.2⟩
structure uC extends NestQ where
 xL:∀ {w:World} {p:Nat} {F:List Nat} {A:NS} (a b:Nat),fQ A a b=true->at_ w p F A->Ke ty p "Meld" w (λv=>#[v,.int .i64 (a:Int),.int .i64 (b:Int)]) λw e w'=>e=.returned (.bool true)/\Goes F w w' (λF'=>at_ w' p F' (ah A a b))
structure Yh where
 at_:World->Nat->List Nat->List Nat->Prop
 upd:∀ {w w':World} {p:Nat} {G S L:List Nat},at_ w p G L->aa S w w'->(∀z,z∈S->z∉G)->at_ w' p G L
 lt:∀ {w:World} {p:Nat} {G L:List Nat},at_ w p G L->∀z,z∈G->z<w.heap.size
def sj (o:Option Nat):Value:=.pointer (o.map λb=>⟨b,0,none⟩)
def jH (f:Nat->Option Nat) (m:Nat):List Value:=(List.range m).map λh=>sj (f h)
theorem vJ (f:Nat->Option Nat) (m:Nat):(jH f m).length=m:=by unfold jH;simp
theorem vR {f:Nat->Option Nat} {m j:Nat} (h:j<m):(jH f m)[j]?=some (sj (f j)):=by unfold jH;simp [h]
theorem Ho (f:Nat->Option Nat) (m:Nat) (o:Option Nat):jH f m++[sj o]=jH (λh=>if h=m then o else f h) (m+1):=by
 unfold jH;rw [List.range_succ,List.map_append]
 congr 1
 ·apply List.map_congr_left;intro a ha;have:=List.mem_range.1 ha
  show sj (f a)=sj (if a=m then o else f a)
  rw [Γ ω]
 ·simp
def dU {α:Type} (f:Nat->α) (h:Nat) (x:α):Nat->α:=λk=>if k=h then x else f k
theorem bg {α:Type} (f:Nat->α) (h:Nat) (x:α):dU f h x h=x:=by unfold dU;rw [Δ rfl]
theorem aL {α:Type} (f:Nat->α) {h k:Nat} (x:α) (e:k≠h):dU f h x k=f k:=by unfold dU;rw [Γ e]
structure pR (K:Yh) (ety:TypeId) (w:World) (gr cr m:Nat) (has:Nat->Bool) (Z:List Nat) (ptr:Nat->Option Nat) (G L:Nat->List Nat):Prop where
 rows:w.ownsRow 0 ety 1 (.slice (some ⟨gr,0,none⟩) m cr) m (jH ptr m)
 row:∀h,has h=true->∃rp,ptr h=some rp/\K.at_ w rp (G h) (L h)
 qK:∀h,has h=true->∀z,z∈G h->z∈Z
 Kj:∀h k,has h=true->has k=true->h≠k->∀z,z∈G h->z∉G k
 CL:∀z,z∈Z->z<w.heap.size
 Cx:gr∉Z
section
variable {K:Yh} {ety:TypeId} {w w':World} {gr cr m:Nat} {has:Nat->Bool} {Z:List Nat} {ptr:Nat->Option Nat} {G L:Nat->List Nat}
theorem pR.lt (h:pR K ety w gr cr m has Z ptr G L):gr<w.heap.size:=(h.rows.lt gr rfl).2
theorem pR.upd {S:List Nat} (h:pR K ety w gr cr m has Z ptr G L) (hu:aa S w w') (hS:∀z,z∈S->z≠gr/\z∉Z):pR K ety w' gr cr m has Z ptr G L:=
 ⟨au h.rows hu (λk hk hm=>by cases hk;exact (hS _ hm).1 rfl),λg hg=>by
  obtain ⟨rp,e,hr⟩:=h.row g hg
  exact ⟨rp,e,K.upd hr hu (λz hz hm=>(hS z hz).2 (h.qK g hg z hm))⟩,h.qK,h.Kj,λz hz=>Ψ (h.CL z hz) hu.size,h.Cx⟩
theorem pR.cell (h:pR K ety w gr cr m has Z ptr G L) {g rp:Nat} (hg:g<m) (hp:ptr g=some rp):w.cell? ⟨gr,g,none⟩=some (.pointer (some ⟨rp,0,none⟩)):=by
 rw [h.rows.cellAt g ω,vR hg,hp];rfl
theorem pR.one {S G' L':List Nat} {g rp:Nat} (h:pR K ety w gr cr m has Z ptr G L) (hg:has g=true) (hp:ptr g=some rp) (hu:aa S w w') (hS:∀z,z∈S->z∈G g\/(z≠gr/\z∉Z)) (hr:K.at_ w' rp G' L') (hG:∀z,z∈G'->z∈G g\/w.heap.size<=z) :
  pR K ety w' gr cr m has (Z++G') ptr (dU G g G') (dU L g L'):=by
 have hgl:=h.lt;have hgr:∀z,z∈S->z≠gr:=λz hz e=>by
  rcases hS z hz with h1|h1
  ·exact h.Cx (by rw [←e];exact h.qK g hg z h1)
  ·exact h1.1 e
 have hoth:∀k,has k=true->k≠g->∀z,z∈S->z∉G k:=λk hk hne z hz hm=>by
  rcases hS z hz with h1|h1
  ·exact h.Kj g k hg hk (λe=>hne e.symm) z h1 hm
  ·exact h1.2 (h.qK k hk z hm)
 refine ⟨au h.rows hu (λk hk hm=>by cases hk;exact hgr _ hm rfl),λk hk=>?_,λk hk z hz=>?_,λk j hk hj hne z hz=>?_,λz hz=>?_,λhm=>?_⟩
 ·by_cases e:k=g
  ·subst e;rw [bg,bg];exact ⟨rp,hp,hr⟩
  ·rw [aL _ _ e,aL _ _ e];obtain ⟨q,e2,hq⟩:=h.row k hk;exact ⟨q,e2,K.upd hq hu (hoth k hk e)⟩
 ·by_cases e:k=g
  ·subst e;rw [bg] at hz;exact τ.2 (Β hz)
  ·rw [aL _ _ e] at hz;exact τ.2 (Α (h.qK k hk z hz))
 ·by_cases e:k=g
  ·subst e;rw [bg] at hz;rw [aL _ _ (λe=>hne e.symm)];rcases hG z hz with h1|h1
   ·exact h.Kj k j hk hj hne z h1
   ·exact λhm=>by have:=h.CL z (h.qK j hj z hm);omega
  ·rw [aL _ _ e] at hz
   by_cases e2:j=g
   ·subst e2;rw [bg];intro hm;rcases hG z hm with h1|h1
    ·exact h.Kj k j hk hj hne z hz h1
    ·have:=h.CL z (h.qK k hk z hz);omega
   ·rw [aL _ _ e2];exact h.Kj k j hk hj hne z hz
 ·rcases τ.1 hz with h1|h1
  ·exact Ψ (h.CL z h1) hu.size
  ·exact K.lt hr z h1
 ·rcases τ.1 hm with h1|h1
  ·exact h.Cx h1
  ·rcases hG gr h1 with h2|h2
   ·exact h.Cx (h.qK g hg gr h2)
   ·omega
theorem pR.snoc {S G' L':List Nat} {rp WJ Zu:Nat} (h:pR K ety w gr cr m has Z ptr G L) (hm:has m=false) (hu:aa S w w') (hS:∀z,z∈S->z∉Z) (hr:K.at_ w' rp G' L') (hG:∀z,z∈G'->w.heap.size<=z) (hg1:WJ∉Z) (hg2:WJ∉G')
  (hrow:w'.ownsRow 0 ety 1 (.slice (some ⟨WJ,0,none⟩) (m+1) Zu) (m+1) (jH ptr m++[sj (some rp)])) :
  pR K ety w' WJ Zu (m+1) (λh=>has h || h == m) (Z++G') (dU ptr m (some rp)) (dU G m G') (dU L m L'):=by
 have hcase:∀k,(has k || k == m)=true->k=m\/(k≠m/\has k=true):=λk hk=>by
  by_cases e:k=m
  ·exact Α e
  ·right;simp [e] at hk;exact ⟨e,hk⟩
 refine ⟨by rw [Ho] at hrow;exact hrow,λk hk=>?_,λk hk z hz=>?_,λk j hk hj hne z hz=>?_,λz hz=>?_,λhmm=>?_⟩
 ·rcases hcase k hk with rfl|⟨e,hk'⟩
  ·rw [bg,bg,bg];exact ⟨rp,rfl,hr⟩
  ·rw [aL _ _ e,aL _ _ e,aL _ _ e];obtain ⟨q,e2,hq⟩:=h.row k hk';exact ⟨q,e2,K.upd hq hu (λz hz hm=>hS z hz (h.qK k hk' z hm))⟩
 ·rcases hcase k hk with rfl|⟨e,hk'⟩
  ·rw [bg] at hz;exact τ.2 (Β hz)
  ·rw [aL _ _ e] at hz;exact τ.2 (Α (h.qK k hk' z hz))
 ·rcases hcase k hk with rfl|⟨e,hk'⟩
  ·rcases hcase j hj with rfl|⟨e2,hj'⟩
   ·exact absurd rfl hne
   ·rw [bg] at hz;rw [aL _ _ e2];exact λhm=>by have:=h.CL z (h.qK j hj' z hm);have:=hG z hz;omega
  ·rw [aL _ _ e] at hz;rcases hcase j hj with rfl|⟨e2,hj'⟩
   ·rw [bg];exact λhm=>by have:=h.CL z (h.qK k hk' z hz);have:=hG z hm;omega
   ·rw [aL _ _ e2];exact h.Kj k j hk' hj' hne z hz
 ·rcases τ.1 hz with h1|h1
  ·exact Ψ (h.CL z h1) hu.size
  ·exact K.lt hr z h1
 ·rcases τ.1 hmm with h1|h1
  ·exact hg1 h1
  ·exact hg2 h1
end
end Go.Proofs.YtnpdakpagnpanaaGreat
