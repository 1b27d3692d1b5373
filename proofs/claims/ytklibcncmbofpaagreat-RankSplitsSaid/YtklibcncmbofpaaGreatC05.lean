/-
  Lemmas for RankSplits: RkO, RkMs, RkI. Conditions: those of each lemma.
-/
import Derived.Lib.SmallJoins
import Derived.Test.YtklibcncmbofpaaGreatC03
import Derived.Test.YtklibcncmbofpaaGreatC04
set_option linter.all false
set_option maxHeartbeats 8000000
set_option maxRecDepth 10000
namespace Go.Proofs.YtklibcncmbofpaaGreat
open Go Go.RowKit
def Js (A:NS):Nat->NS
 | 0=>A
 | k+1=>aC (Js A k)
theorem tN {K:dV} (kd d:Int) (n heaps:Nat) (w:World) (hc:xY kd d=0) (hi:n<=65536) (hh:heaps<=65536) (ko:lG K kd d n) :
  Calls Tryz.prog 39 #[.agg #[.int .i64 kd,.int .i64 d],.int .i64 (n:Int),.int .i64 (heaps:Int)] w fun e w'=>∃p F,e=.returned (.tuple #[.pointer (some ⟨p,0,none⟩),.int .i64 0])/\dK K w' p F kd d (AR.new n 4294967295) (Js (NS.new n) heaps) 0/\aa [] w w'/\∀x,x∈F->w.heap.size<=x:=by
 have kc:=fun W=>wo kd d W;have kp:∀W:World,Calls Tryz.prog 64 #[.agg #[.int .i64 kd,.int .i64 d],.int .i64 (n:Int),.int .u32 4294967295] W fun e w'=>∃p F,e=.returned (.tuple #[.pointer (some ⟨p,0,none⟩),.int .i64 0])/\dK K w' p F kd d (AR.new n 4294967295) (NS.new n) 0/\aa [] W w'/\∀x,x∈F->W.heap.size<=x:=fun W=>Mh n 4294967295 W hi ω hc ko;rw [hc] at kc;have hib:decide ((n:Int) > 65536)=false:=ζ;have U4:¬ (n:Int) > 65536:=ω;clear hc ko
 go_enter Tryz.func39,Tryz.ntmps39
 go_wp2_with (first
  | ((go_at_call 50;(with_reducible refine (kc _).mono ?_));rintro e w1 ⟨rfl,hu1⟩;(have q0:w1.cell? ⟨w.heap.size,0,none⟩=some (.int .i64 kd):=hu1.was γ);(have q1:w1.cell? ⟨w.heap.size,1,none⟩=some (.int .i64 d):=hu1.was γ);(have hw1:aa [] w w1:=aa.trans β hu1))
  | ((go_at_call 64;(with_reducible refine (kp _).mono ?_));rintro e w2 ⟨p,F,rfl,hP,hu2,hF⟩)
  | fail)
 have s1:=hw1.size;have HI:=χ (show ∃F',dK K w2 p F' kd d (AR.new n 4294967295) (Js (NS.new n) 0) 0/\aa [] w w2/\∀x,x∈F'->w.heap.size<=x from ⟨F,hP,hw1.trans hu2,fun x hx=>by have:=hF x hx;omega⟩);clear hP hF hu2 hu1 hw1 q0 q1 kp kc
 go_loopw [25] (fun i wr=>∃ (j:Nat) (F':List Nat),j<=heaps/\i=.int .i64 (j:Int)/\dK K wr p F' kd d (AR.new n 4294967295) (Js (NS.new n) j) 0/\aa [] w wr/\∀x,x∈F'->w.heap.size<=x) (fun i _=>heaps-(intOf i).toNat)
 case atStart=>
  obtain ⟨F',h1,h2,h3⟩:=HI.out;exact ⟨0,F',Nat.zero_le _,rfl,h1,h2,h3⟩
 case round=>
  obtain ⟨j,F',hj,rfl,hP,hu,hF⟩:=hrel;rename World=>wr
  by_cases hjn:j<heaps
  ·have J3:decide ((j:Int)<(heaps:Int))=true:=ζ;have kn:=Ch hP;have HR:=χ (ψ hu hF);clear hP hu hF
   go_wp2_with (first
    | ((go_at_call 65;(with_reducible refine (kn).mono ?_));rintro e w3 ⟨rfl,F2,hP2,hu2,hF2⟩)
    | fail)
   go_roundw
   case rel=>
    obtain ⟨hu,hF⟩:=HR.out;have hs:=hu.size;exact ⟨j+1,F2,ω,by go_num,hP2,hu.joined hu2 (fun x hx=>Β (hF x hx)),fun x hx=>by rcases hF2 x hx with h|h;exact hF x h;omega⟩
   case measure=>simp [intOf];omega
  ·obtain rfl:j=heaps:=ω;have J3:decide ((j:Int)<(j:Int))=false:=σ;have HR:=χ (ψ hP (ψ hu hF));clear hP hu hF;go_wp2;go_ret2;obtain ⟨hP,hu,hF⟩:=HR.out;exact ⟨p,F',rfl,hP,hu,hF⟩
def PlC (w:World) (a:Option Addr) (n:Nat) (L:List Pl):Prop:=L.length=n/\∀j p,L[j]?=some p->∃g,a=some ⟨g,0,none⟩/\g<w.heap.size/\w.cell? ⟨g,j*2,none⟩=some (.int .i64 (p.1:Int))/\w.cell? ⟨g,j*2+1,none⟩=some (.int .i64 (p.2:Int))
theorem PlC.fQ {w:World} {base n c:Nat} {e:TypeId} {a:Option Addr} {L:List Pl} (h:w.ownsRow base e 2 (.slice a n c) n (vg L)):PlC w a n L:=by
 have hl:L.length=n:=by have:=h.1;rw [uC] at this;omega
 refine ⟨hl,fun j p hj=>?_⟩;have hjl:=(List.getElem?_eq_some_iff.1 hj).1;obtain ⟨g,cap,e,hb,_⟩:=dH h ω
 injection e with e1 e2 e3
 subst e1;obtain ⟨h1,h2⟩:=wZ L j p hj;exact ⟨g,rfl,(h.lt g rfl).2,by rw [h.cellAt (j*2) ω];exact h1,by rw [h.cellAt (j*2+1) ω];exact h2⟩
def WC (w:World) (v:Value) (ks:List Int):Prop:=fO w [] v ks/\∀x,x∈ks->-9223372036854775808<=x/\x<=9223372036854775807
theorem Wp {x:Int} (h:(Lit.int .i64 x).wf=true):-9223372036854775808<=x/\x<=9223372036854775807:=by
 simp [Lit.wf,IntKind.min,IntKind.max,IntKind.signed,IntKind.bits] at h;omega
set_option maxRecDepth 100000 in
open Go.ChangeShapes Go.ChangeAt Go.WideShapes in
theorem BX {H:Type} {enc:TypeId×Value->H} {W:World} {v:Value} {d:DataW H} {p:List MemPlace} {base:Nat} {sp:Nat->Bool}
  (ho:Value.okWide Tryz.prog W .any base 24 v) (h:DataW.Trod enc Tryz.prog W 0 sp true 24 v d p):∃zs,WC W v zs:=by
 have hT:=Tryz.underlying24;have hE:=Tryz.underlying2;have hc:Tryz.prog.cellsOf 2=1:=by kernel_rfl
 obtain ⟨a,len,cap,rfl⟩:=okWide_slice hT ho;obtain ⟨fuel,hf⟩:=h;rcases open_ints hT hE hc hf with ⟨hcs,_⟩|⟨x,l,c,zs,hcs,_,hl,hm,hz,_,hcell,hwz⟩
 ·simp [Value.cells] at hcs;obtain ⟨rfl,rfl,rfl⟩:=hcs;exact ⟨[],⟨none,0,rfl,σ,ω,fun j u hj=>by simp at hj⟩,fun x hx=>by cases hx⟩
 ·simp [Value.cells] at hcs;obtain ⟨rfl,rfl,rfl⟩:=hcs;have hlz:len<=zs.length:=by rw [hz];split<;>omega
  have ht:(zs.take len).length=len:=ζ;refine ⟨zs.take len,⟨some x,cap,by rw [ht],by rw [ht];omega,by unfold maxLen at hm;omega,fun j u hj=>?_⟩,fun n hn=>Wp (hwz n (List.mem_of_mem_take hn))⟩;have hjl:j<len:=by have:=(List.getElem?_eq_some_iff.1 hj).1;rwa [ht] at this
  obtain ⟨b,off,rfl,hcc⟩:=ints_at hcell ω;have hcj:=hcc j ω;refine ⟨b,off,rfl,Ε W _ hcj,σ,?_⟩;rw [List.getElem?_take,Δ hjl] at hj;rw [hcj];have:zs.getD j 0=u:=by rw [φ,hj];rfl
  first|rw [this]|(rw [hj];rfl)|(simp [hj])
end Go.Proofs.YtklibcncmbofpaaGreat
