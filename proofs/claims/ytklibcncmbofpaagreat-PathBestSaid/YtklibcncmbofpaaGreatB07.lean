/-
  Lemmas for PathBest: Grg, PrP4, PrW, PrI. Conditions: those of each lemma.
-/
import Derived.Lib.SmallJoins
import Derived.Test.YtklibcncmbofpaaGreatB04
set_option linter.all false
set_option maxHeartbeats 8000000
set_option maxRecDepth 10000
namespace Go.Proofs.YtklibcncmbofpaaGreat
open Go Go.RowKit
theorem Gi {α:Type} (P:α->Bool) (l:List α) (k:Nat) (x:α) (hx:l[k]?=some x) (h:(l.take k).all P=true):(l.take (k+1)).all P=P x:=by
 rw [List.take_add_one,hx];simp [h]
theorem vH {α:Type} (P:α->Bool) (l:List α) (x:α) (hx:x∈l) (h:P x=false):l.all P=false:=by
 cases e:l.all P with
 | false=>rfl
 | true=>rw [List.all_eq_true.1 e x hx] at h;cases h
theorem gY {N:Int} {E:List Ed} (h:fU N E=true) {e:Ed} (he:e∈E):0<=e.f/\e.f<N/\0<=e.t/\e.t<N:=by
 unfold fU at h;simp only [Bool.and_eq_true] at h;have:=List.all_eq_true.1 h.2 e he;unfold lW qj at this;simp only [Bool.and_eq_true,decide_eq_true_eq] at this;omega
theorem nS {N:Int} {E:List Ed} (h:fU N E=true):0<=N/\N<=4096/\E.length<=65536:=by
 unfold fU at h;simp only [Bool.and_eq_true,decide_eq_true_eq] at h;omega
theorem JA (w:World) (N:Int) (va:Value) (E:List Ed) (hE:Bi w va E) :
  Calls Tryz.prog 56 #[.agg #[.int .i64 N,va]] w fun r w'=>r=.returned (.bool (fU N E))/\aa [] w w':=by
 obtain ⟨a,cap,rfl,hcap⟩:=hE.shape;have HE:=χ hE;have hl:E.length<=9223372036854775807:=by obtain ⟨_,_,_,_,h,_⟩:=hE;exact h
 clear hE;have u0:aa [] w (w.alloc (.cells #[.int .i64 N,.slice a E.length cap] 57)):=(aa.refl _ _).alloc _;have HK:=χ (show fU N E=(decide (0<=N) && decide (N<=4096) && decide (E.length<=65536) && E.all (lW N)) from rfl);generalize hn:E.length=n at *;have HN:=χ hn;clear hn
 go_enter Tryz.func56,Tryz.ntmps56
 go_wp2
 go_loopw [4,8] (fun _ i wr=>∃k:Nat,k<=n/\i=.int .i64 (k:Int)/\(E.take k).all (lW N)=true/\aa [] (w.alloc (.cells #[.int .i64 N,.slice a n cap] 57)) wr) (fun _ i _=>n-(intOf i).toNat)
 case atStart=>exact ⟨0,ω,rfl,σ,aa.refl _ _⟩
 case round=>
  obtain ⟨k,hk,rfl,hall,hu⟩:=hrel;rename World=>wr;have q0:wr.cell? ⟨w.heap.size,0,none⟩=some (.int .i64 N):=hu.was σ;have q1:wr.cell? ⟨w.heap.size,1,none⟩=some (.slice a n cap):=hu.was σ;have hsz:w.heap.size<wr.heap.size:=by have:=hu.size;simp at this;omega
  by_cases hkn:k<n
  ·have LP:k<E.length:=by rw [HN.out];exact hkn
   have hx:E[k]?=some (E.getD k default):=by simp [φ,LP]
   have hmem:E.getD k default∈E:=List.mem_of_getElem? hx;obtain ⟨g,off,rfl,hg,c0,c1,c2⟩:=(HE.out.upd (u0.trans hu)).at k LP;generalize E.getD k default=e at *;have HT:=χ (Gi (lW N) E k _ hx hall);have HM:=χ hmem;have hwr:IntKind.i64.wrap ((k:Int)+1)=(k:Int)+1:=IntWalk.i64_in _ ω;obtain ⟨ef,et,ew⟩:=e;dsimp only at c0 c1 c2;clear hx hmem hall HE;have hend:lW N ⟨ef,et,ew⟩=(qj N ef && qj N et):=rfl
   by_cases b0:ef<0
   ·have hf:Hid (fU N E=false):=χ (by rw [HK.out,vH (lW N) E _ HM.out (by rw [hend];unfold qj;rw [decide_eq_false ω];rfl)];simp);clear hend;go_wp2;go_ret;exact ⟨by rw [hf.out];rfl,by have:=u0.trans hu;exact β⟩
   ·by_cases b1:ef≥N
    ·have hf:Hid (fU N E=false):=χ (by rw [HK.out,vH (lW N) E _ HM.out (by rw [hend];unfold qj;rw [decide_eq_false (ω:¬ef<N)];simp)];simp);clear hend;go_wp2;go_ret;exact ⟨by rw [hf.out];rfl,by have:=u0.trans hu;exact β⟩
    ·by_cases b2:et<0
     ·have hf:Hid (fU N E=false):=χ (by rw [HK.out,vH (lW N) E _ HM.out (by rw [hend];unfold qj;rw [decide_eq_false (ω:¬0<=et)];simp)];simp);clear hend;go_wp2;go_ret;exact ⟨by rw [hf.out];rfl,by have:=u0.trans hu;exact β⟩
     ·by_cases b3:et≥N
      ·have hf:Hid (fU N E=false):=χ (by rw [HK.out,vH (lW N) E _ HM.out (by rw [hend];unfold qj;rw [decide_eq_false (ω:¬et<N)];simp)];simp);clear hend;go_wp2;go_ret;exact ⟨by rw [hf.out];rfl,by have:=u0.trans hu;exact β⟩
      ·have ht:Hid (lW N ⟨ef,et,ew⟩=true):=χ (by rw [hend];unfold qj;simp;omega);clear hend;go_wp2;exact ⟨⟨k+1,ω,by go_num,by rw [HT.out,ht.out],β⟩,by simp [intOf];omega⟩
  ·obtain rfl:k=n:=ω;have hfin:E.all (lW N)=true:=by rw [←hall,←HN.out,List.take_length]
   have hr:Hid (fU N E=(decide (0<=N) && decide (N<=4096) && decide (k<=65536))):=χ (by rw [HK.out,hfin,Bool.and_true]);clear hall hfin
   by_cases b0:N≥0
   ·by_cases b1:N<=4096
    ·go_wp2;go_ret;exact ⟨bf (by rw [hr.out];first|(simp [b0,b1];done)|(simp [b0,b1];omega)),by have:=u0.trans hu;exact β⟩
    ·go_wp2;go_ret;exact ⟨bf (by rw [hr.out];first|(simp [b0,b1];done)|(simp [b0,b1];omega)),by have:=u0.trans hu;exact β⟩
   ·go_wp2;go_ret;exact ⟨bf (by rw [hr.out,decide_eq_false (ω:¬0<=N)];first|rfl|(simp;done)|(simp;omega)),by have:=u0.trans hu;exact β⟩
end Go.Proofs.YtklibcncmbofpaaGreat
namespace Go.Proofs.YtklibcncmbofpaaGreat
section
variable {E:List En} {by':Nat->Int} {s N:Nat} {mk:Nat->Nat}
def abI (E:List En) (by':Nat->Int) (s x:Nat):Prop:=∃k,r9 E by' k x=s
end
end Go.Proofs.YtklibcncmbofpaaGreat
namespace Go.Proofs.YtklibcncmbofpaaGreat
open Go Go.RowKit
def XI (x:Int):Bool:=decide (0<=x) && decide (x≠9223372036854775807)
def Cz (D:List Int) (e:Ed):Bool:=decide (D.getD e.f.toNat 0≠9223372036854775807) && decide (e.w<=9223372036854775807-D.getD e.f.toNat 0) && decide (D.getD e.t.toNat 0 > D.getD e.f.toNat 0+e.w)
def Tz (D:List Int) (E:List Ed):Bool:=!(E.any (Cz D))
set_option maxRecDepth 100000 in
open Go.ChangeShapes Go.ChangeAt Go.WideShapes in
theorem Gw {H:Type} {enc:TypeId×Value->H} {P:Program} {W:World} {T E:TypeId} {v:Value} {y:DataW H×List MemPlace} {m:Nat} {base:Nat} {sp:Nat->Bool}
  (hT:P.underlying T=some (.slice E)) (hE:P.underlying E=some (.int .i64)) (hc:P.cellsOf E=1) (hf:DataW.trod enc P W base sp true m T [v]=some y) :
  ∃zs,iw W [] v zs/\∀n,n∈zs->-9223372036854775808<=n/\n<=9223372036854775807:=by
 rcases open_ints hT hE hc hf with ⟨hcs,_⟩|⟨x,l,c,zs,hcs,_,hl,hm,hz,_,hcell,hwz⟩
 ·simp at hcs;subst hcs;exact ⟨[],⟨none,0,rfl,σ,ω,fun j u h=>by simp at h⟩,fun n hn=>by cases hn⟩
 ·simp at hcs;subst hcs;have hlz:l<=zs.length:=by rw [hz];split<;>omega
  have ht:(zs.take l).length=l:=ζ;refine ⟨zs.take l,⟨some x,c,by rw [ht],by rw [ht];omega,by unfold maxLen at hm;omega,fun j u hj=>?_⟩,fun n hn=>?_⟩
  ·have hjl:j<l:=by have:=(List.getElem?_eq_some_iff.1 hj).1;rwa [ht] at this
   obtain ⟨b,off,rfl,hcc⟩:=ints_at hcell ω;have hcj:=hcc j ω;refine ⟨b,off,rfl,World.block_lt_of_cell? W _ hcj,σ,?_⟩;rw [List.getElem?_take,if_pos hjl] at hj;rw [hcj];have:zs.getD j 0=u:=by rw [φ,hj];rfl
   first|rw [this]|(rw [hj];rfl)|(simp [hj])
  ·have hw:=hwz n (List.mem_of_mem_take hn);simp [Lit.wf,IntKind.min,IntKind.max,IntKind.signed,IntKind.bits] at hw;omega
def Li (w:World) (v:Value) (N:Int) (E:List Ed) (va:Value):Prop:=v=.agg #[.int .i64 N,va]/\Bi w va E/\∀e,e∈E->-9223372036854775808<=e.w/\e.w<=9223372036854775807
set_option maxRecDepth 100000 in
open Go.Joins in
theorem BA {H:Type} {enc:TypeId×Value->H} {W:World} {v:Value} {d:DataW H} {p:List MemPlace} {base:Nat} {sp:Nat->Bool}
  (ho:Value.okWide Tryz.prog W .any base 57 v) (h:DataW.Trod enc Tryz.prog W 0 sp true 57 v d p):∃N E va,Li W v N E va:=by
 obtain ⟨c0,c1,y0,y1,m,rfl,_,_,hy0,hy1⟩:=open_agg2 Tryz.underlying57 (by kernel_rfl) (show Tryz.prog.cellsOf 57=2 by kernel_rfl) ho h;obtain ⟨N,e0,_,wa⟩:=DataW.trod_int Tryz.underlying3 hy0;obtain ⟨E,hE,hb⟩:=Gn hy1;simp at e0;subst e0;exact ⟨N,E,_,rfl,hE,hb⟩
end Go.Proofs.YtklibcncmbofpaaGreat
