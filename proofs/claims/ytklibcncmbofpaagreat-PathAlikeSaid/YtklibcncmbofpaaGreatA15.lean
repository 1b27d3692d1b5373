/-
  Lemmas for PathAlike: RkJ. Conditions: those of each lemma.
-/
import Derived.Lib.SmallJoins
import Derived.Test.YtklibcncmbofpaaGreatA01
set_option linter.all false
set_option maxHeartbeats 8000000
set_option maxRecDepth 10000
namespace Go.Proofs.YtklibcncmbofpaaGreat
open Go Go.RowKit
theorem aai {α:Type} (l:List α) (h:l.length=4):∃a b c d,l=[a,b,c,d]:=by
 match l,h with
 | [a,b,c,d],_=>exact ⟨a,b,c,d,rfl⟩
set_option maxRecDepth 100000 in
open Go.ChangeShapes Go.ChangeAt Go.WideShapes Go.Joins in
theorem vP {H:Type} {enc:TypeId×Value->H} {W:World} {c0 c1:Value} {y:DataW H×List MemPlace} {m base:Nat} {sp:Nat->Bool} {held:Bool}
  (hf:DataW.trod enc Tryz.prog W base sp held m 23 [c0,c1]=some y):∃a b,c0=.int .i64 a/\c1=.int .i64 b:=by
 obtain ⟨y0,y1,n,hx,_,h0,h1⟩:=trod_struct2 Tryz.underlying23 hf;have hc:Tryz.prog.cellsOf 3=1:=by kernel_rfl
 have h0':DataW.trod enc Tryz.prog W base sp held n 3 [c0]=some y0:=by simpa [hc] using h0
 have h1':DataW.trod enc Tryz.prog W base sp held n 3 [c1]=some y1:=by simpa [hc] using h1
 obtain ⟨a,e0,_,_⟩:=DataW.trod_int Tryz.underlying3 h0';obtain ⟨b,e1,_,_⟩:=DataW.trod_int Tryz.underlying3 h1';simp at e0 e1;exact ⟨a,b,e0,e1⟩
set_option maxRecDepth 100000 in
open Go.ChangeShapes Go.ChangeAt Go.WideShapes in
theorem EJ {H:Type} {enc:TypeId×Value->H} {W:World} {v:Value} {d:DataW H} {p:List MemPlace} {base:Nat} {sp:Nat->Bool}
  (ho:Value.okWide Tryz.prog W .any base 39 v) (h:DataW.Trod enc Tryz.prog W 0 sp true 39 v d p):∃k1 d1 k2 d2,v=.agg #[.int .i64 k1,.int .i64 d1,.int .i64 k2,.int .i64 d2]:=by
 obtain ⟨cs,rfl,hsz,_⟩:∃cs,v=.agg cs/\cs.size=Tryz.prog.cellsOf 39/\Row.okWide Tryz.prog W .any base 39 cs:=by
  simpa [Value.okWide,Tryz.underlying39] using ho
 have hc2:Tryz.prog.cellsOf 39=4:=by kernel_rfl
 have hc1:Tryz.prog.cellsOf 23=2:=by kernel_rfl
 rw [hc2] at hsz;obtain ⟨l⟩:=cs;obtain ⟨c0,c1,c2,c3,rfl⟩:=aai l hsz;obtain ⟨fuel,hf⟩:=h;obtain ⟨xs,m,_,_,_,hl,hel⟩:=DataW.trod_array Tryz.underlying39 hf
 match xs,hl with
 | [x0,x1],_=>
  have f0:=hel 0 ω;have f1:=hel 1 ω;rw [hc1] at f0 f1;obtain ⟨a,b,rfl,rfl⟩:=vP (show DataW.trod enc Tryz.prog W 0 sp true m 23 [c0,c1]=some x0 from f0);obtain ⟨a',b',rfl,rfl⟩:=vP (show DataW.trod enc Tryz.prog W 0 sp true m 23 [c2,c3]=some x1 from f1);exact ⟨_,_,_,_,rfl⟩
end Go.Proofs.YtklibcncmbofpaaGreat
