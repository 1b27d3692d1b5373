/-
  Lemmas for RankSorts: RkO, RkI, RkJ. Conditions: those of each lemma.
-/
import Derived.Lib.SmallJoins
import Derived.Test.YtklibcncmbofpaaGreatP07
set_option maxHeartbeats 8000000
set_option maxRecDepth 10000
set_option linter.unusedVariables false
set_option linter.unusedSimpArgs false
namespace Go.Proofs.YtklibcncmbofpaaGreat
open Go Go.RowKit
def Jz (A:NS):Nat→NS
 | 0=>A
 | k+1=>aG (Jz A k)
theorem xn (kd d:Int) (items heaps:Int) (w:World) (hc:kX kd d≠0) :
  Calls Tryz.prog 39 #[.agg #[.int .i64 kd,.int .i64 d],.int .i64 items,.int .i64 heaps] w fun e w'=>e=.returned (.tuple #[.pointer none,.int .i64 (kX kd d)])∧aa [] w w':=by
 have kc:=fun W=>qB kd d W
 have hcb:(kX kd d != 0)=true:=by simpa using hc
 generalize kX kd d=v at *
 go_enter Tryz.func39,Tryz.ntmps39
 go_wp2_with (first
  | ((go_at_call 50;(with_reducible refine (kc _).mono ?_));rintro e w1 ⟨rfl,hu1⟩)
  | fail)
 go_ret2;exact ⟨rfl,aa.trans β hu1⟩
theorem rC {K:fJ} (kd d:Int) (n heaps:Nat) (w:World) (hc:kX kd d=0) (hi:n≤65536) (hh:heaps≤65536) (ko:jX K kd d n) :
  Calls Tryz.prog 39 #[.agg #[.int .i64 kd,.int .i64 d],.int .i64 (n:Int),.int .i64 (heaps:Int)] w fun e w'=>∃p F,e=.returned (.tuple #[.pointer (some ⟨p,0,none⟩),.int .i64 0])∧fG K w' p F kd d (AR.new n 4294967295) (Jz (NS.new n) heaps) 0∧aa [] w w'∧∀x,x∈F→w.heap.size≤x:=by
 have kc:=fun W=>qB kd d W
 have kp:∀W:World,Calls Tryz.prog 64 #[.agg #[.int .i64 kd,.int .i64 d],.int .i64 (n:Int),.int .u32 4294967295] W fun e w'=>∃p F,e=.returned (.tuple #[.pointer (some ⟨p,0,none⟩),.int .i64 0])∧fG K w' p F kd d (AR.new n 4294967295) (NS.new n) 0∧aa [] W w'∧∀x,x∈F→W.heap.size≤x:=fun W=>Ja n 4294967295 W hi ω hc ko
 rw [hc] at kc;have hib:decide ((n:Int) > 65536)=false:=ζ;have hnI:¬ (n:Int) > 65536:=ω;clear hc ko
 go_enter Tryz.func39,Tryz.ntmps39
 go_wp2_with (first
  | ((go_at_call 50;(with_reducible refine (kc _).mono ?_));rintro e w1 ⟨rfl,hu1⟩;(have q0:w1.cell? ⟨w.heap.size,0,none⟩=some (.int .i64 kd):=hu1.was γ);(have q1:w1.cell? ⟨w.heap.size,1,none⟩=some (.int .i64 d):=hu1.was γ);(have hw1:aa [] w w1:=aa.trans β hu1))
  | ((go_at_call 64;(with_reducible refine (kp _).mono ?_));rintro e w2 ⟨p,F,rfl,hP,hu2,hF⟩)
  | fail)
 have s1:=hw1.size;have HI:=χ (show ∃F',fG K w2 p F' kd d (AR.new n 4294967295) (Jz (NS.new n) 0) 0∧aa [] w w2∧∀x,x∈F'→w.heap.size≤x from ⟨F,hP,hw1.trans hu2,fun x hx=>by have:=hF x hx;omega⟩)
 clear hP hF hu2 hu1 hw1 q0 q1 kp kc
 go_loopw [25] (fun i wr=>∃ (j:Nat) (F':List Nat),j≤heaps∧i=.int .i64 (j:Int)∧fG K wr p F' kd d (AR.new n 4294967295) (Jz (NS.new n) j) 0∧aa [] w wr∧∀x,x∈F'→w.heap.size≤x) (fun i _=>heaps-(intOf i).toNat)
 case atStart=>
  obtain ⟨F',h1,h2,h3⟩:=HI.out;exact ⟨0,F',Nat.zero_le _,rfl,h1,h2,h3⟩
 case round=>
  obtain ⟨j,F',hj,rfl,hP,hu,hF⟩:=hrel;rename World=>wr
  by_cases hjn:j<heaps
  ·have hjI:decide ((j:Int)<(heaps:Int))=true:=ζ;have kn:=Au hP;have HR:=χ (ψ hu hF);clear hP hu hF
   go_wp2_with (first
    | ((go_at_call 65;(with_reducible refine (kn).mono ?_));rintro e w3 ⟨rfl,F2,hP2,hu2,hF2⟩)
    | fail)
   go_roundw
   case rel=>
    obtain ⟨hu,hF⟩:=HR.out;have hs:=hu.size;exact ⟨j+1,F2,ω,by go_num,hP2,hu.joined hu2 (fun x hx=>Or.inr (hF x hx)),fun x hx=>by rcases hF2 x hx with h|h;exact hF x h;omega⟩
   case measure=>simp [intOf];omega
  ·obtain rfl:j=heaps:=ω;have hjI:decide ((j:Int)<(j:Int))=false:=σ;have HR:=χ (ψ hP (ψ hu hF));clear hP hu hF;go_wp2;go_ret2;obtain ⟨hP,hu,hF⟩:=HR.out;exact ⟨p,F',rfl,hP,hu,hF⟩
def OM (w:World) (v:Value) (ks:List Int):Prop:=fI w [] v ks∧∀x,x∈ks→-9223372036854775808≤x∧x≤9223372036854775807
theorem JA {x:Int} (h:(Lit.int .i64 x).wf=true):-9223372036854775808≤x∧x≤9223372036854775807:=by
 simp [Lit.wf,IntKind.min,IntKind.max,IntKind.signed,IntKind.bits] at h;omega
set_option maxRecDepth 100000 in
open Go.ChangeShapes Go.ChangeAt Go.WideShapes in
theorem nV {H:Type} {enc:TypeId×Value→H} {W:World} {v:Value} {d:DataW H} {p:List MemPlace} {base:Nat} {sp:Nat→Bool}
  (ho:Value.okWide Tryz.prog W .any base 24 v) (h:DataW.Trod enc Tryz.prog W 0 sp true 24 v d p):∃zs,OM W v zs:=by
 have hT:=Tryz.underlying24;have hE:=Tryz.underlying2;have hc:Tryz.prog.cellsOf 2=1:=by kernel_rfl
 obtain ⟨a,len,cap,rfl⟩:=okWide_slice hT ho;obtain ⟨fuel,hf⟩:=h;rcases open_ints hT hE hc hf with ⟨hcs,_⟩|⟨x,l,c,zs,hcs,_,hl,hm,hz,_,hcell,hwz⟩
 ·simp [Value.cells] at hcs;obtain ⟨rfl,rfl,rfl⟩:=hcs;exact ⟨[],⟨none,0,rfl,σ,ω,fun j u hj=>by simp at hj⟩,fun x hx=>by cases hx⟩
 ·simp [Value.cells] at hcs;obtain ⟨rfl,rfl,rfl⟩:=hcs;have hlz:len≤zs.length:=by rw [hz];split<;>omega
  have ht:(zs.take len).length=len:=ζ;refine ⟨zs.take len,⟨some x,cap,by rw [ht],by rw [ht];omega,by unfold maxLen at hm;omega,fun j u hj=>?_⟩,fun n hn=>JA (hwz n (List.mem_of_mem_take hn))⟩
  have hjl:j<len:=by have:=(List.getElem?_eq_some_iff.1 hj).1;rwa [ht] at this
  obtain ⟨b,off,rfl,hcc⟩:=ints_at hcell ω;have hcj:=hcc j ω;refine ⟨b,off,rfl,World.block_lt_of_cell? W _ hcj,σ,?_⟩;rw [List.getElem?_take,if_pos hjl] at hj;rw [hcj];have:zs.getD j 0=u:=by rw [φ,hj];rfl
  first|rw [this]|(rw [hj];rfl)|(simp [hj])
theorem Pp {α:Type} (l:List α) (h:l.length=4):∃a b c d,l=[a,b,c,d]:=by
 match l,h with
 | [a,b,c,d],_=>exact ⟨a,b,c,d,rfl⟩
set_option maxRecDepth 100000 in
open Go.ChangeShapes Go.ChangeAt Go.WideShapes Go.Joins in
theorem si {H:Type} {enc:TypeId×Value→H} {W:World} {c0 c1:Value} {y:DataW H×List MemPlace} {m base:Nat} {sp:Nat→Bool} {held:Bool}
  (hf:DataW.trod enc Tryz.prog W base sp held m 23 [c0,c1]=some y):∃a b,c0=.int .i64 a∧c1=.int .i64 b:=by
 obtain ⟨y0,y1,n,hx,_,h0,h1⟩:=trod_struct2 Tryz.underlying23 hf;have hc:Tryz.prog.cellsOf 3=1:=by kernel_rfl
 have h0':DataW.trod enc Tryz.prog W base sp held n 3 [c0]=some y0:=by simpa [hc] using h0
 have h1':DataW.trod enc Tryz.prog W base sp held n 3 [c1]=some y1:=by simpa [hc] using h1
 obtain ⟨a,e0,_,_⟩:=DataW.trod_int Tryz.underlying3 h0';obtain ⟨b,e1,_,_⟩:=DataW.trod_int Tryz.underlying3 h1';simp at e0 e1;exact ⟨a,b,e0,e1⟩
set_option maxRecDepth 100000 in
open Go.ChangeShapes Go.ChangeAt Go.WideShapes in
theorem AP {H:Type} {enc:TypeId×Value→H} {W:World} {v:Value} {d:DataW H} {p:List MemPlace} {base:Nat} {sp:Nat→Bool}
  (ho:Value.okWide Tryz.prog W .any base 39 v) (h:DataW.Trod enc Tryz.prog W 0 sp true 39 v d p):∃k1 d1 k2 d2,v=.agg #[.int .i64 k1,.int .i64 d1,.int .i64 k2,.int .i64 d2]:=by
 obtain ⟨cs,rfl,hsz,_⟩:∃cs,v=.agg cs∧cs.size=Tryz.prog.cellsOf 39∧Row.okWide Tryz.prog W .any base 39 cs:=by
  simpa [Value.okWide,Tryz.underlying39] using ho
 have hc2:Tryz.prog.cellsOf 39=4:=by kernel_rfl
 have hc1:Tryz.prog.cellsOf 23=2:=by kernel_rfl
 rw [hc2] at hsz;obtain ⟨l⟩:=cs;obtain ⟨c0,c1,c2,c3,rfl⟩:=Pp l hsz;obtain ⟨fuel,hf⟩:=h;obtain ⟨xs,m,_,_,_,hl,hel⟩:=DataW.trod_array Tryz.underlying39 hf
 match xs,hl with
 | [x0,x1],_=>
  have f0:=hel 0 ω;have f1:=hel 1 ω;rw [hc1] at f0 f1;obtain ⟨a,b,rfl,rfl⟩:=si (show DataW.trod enc Tryz.prog W 0 sp true m 23 [c0,c1]=some x0 from f0)
  obtain ⟨a',b',rfl,rfl⟩:=si (show DataW.trod enc Tryz.prog W 0 sp true m 23 [c2,c3]=some x1 from f1)
  exact ⟨_,_,_,_,rfl⟩
end Go.Proofs.YtklibcncmbofpaaGreat
