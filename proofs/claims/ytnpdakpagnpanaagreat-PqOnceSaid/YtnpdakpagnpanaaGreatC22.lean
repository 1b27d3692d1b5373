/-
  Lemmas for PqAlike: PqM. Conditions: those of each lemma.
-/
import Derived.Test.YtnpdakpagnpanaaGreatC19
set_option linter.all false
set_option maxHeartbeats 8000000
set_option maxRecDepth 10000
namespace Go.Proofs.YtnpdakpagnpanaaGreat
open Tryz
open Go Go.RowKit
theorem EU{ops:Array Oper}{rest:List Oper}{o:Oper}{a:Act}{w:World}{Q:Exit->Act->World->Prop}(hgd:o.guard=none)(s x:Operand)
  (ho:o.op=.call { callee:=.builtin .append,args:=#[s,x],argTypes:=#[77,77] })
  (base:Nat) (v:Value) (n:Nat) (l:List Int) (hs:a.eval s=v) (hown:w.ownsRow base 3 1 v n (bz l))
  (gn:Nat) (p:Int) (hx:a.eval x=.slice (some ⟨gn,0,none⟩) 1 1) (h0:w.cell? ⟨gn,0,none⟩=some (.int .i64 p)) (hn:n<=1000000) (hbase:base<=w.heap.size)
  (h:∀v' w',w'.ownsRow base 3 1 v' (n+1) (bz (l++[p]))->ae v.ownBlock.toList w w'->(v'.ownBlock=v.ownBlock\/v'.ownBlock=some w.heap.size)->wpList prog ops Q rest (a.put o.dst v') w') :
  wpList prog ops Q (o::rest) a w:=
 qD hgd s x 77 ho base 3 (.int .i64 0) 1 8 underlying77 gI rfl δ v n (bz l) hs hown gn (bz [p]) hx rfl
  (λj u hj=>by match j,hj with|0,hj=>(simp[bz] at hj;subst hj;exact h0)) (Du _) μ ω hbase (λv' w' h1 h2 h3=>h v' w' (by rw[dO];exact h1) h2 h3)
structure sO(K:jZ)(w0 w:World)(p:Nat)(F:List Nat)(kd d:Int)(S:St)(v1 v2 v3:Value)(l1 l2:List Hd)(l3:List Int):Prop where
 a:fw K w p F kd d S
 o1:w.ownsRow w0.heap.size 46 2 v1 l1.length (Ci l1)
 o2:w.ownsRow w0.heap.size 46 2 v2 l2.length (Ci l2)
 o3:w.ownsRow w0.heap.size 3 1 v3 l3.length (bz l3)
 upd:ae [] w0 w
 fa:∀x,x∈F->w0.heap.size<=x
 s1:∀k,v1.ownBlock=some k->k∉F/\v2.ownBlock≠some k/\v3.ownBlock≠some k
 s2:∀k,v2.ownBlock=some k->k∉F/\v3.ownBlock≠some k
 s3:∀k,v3.ownBlock=some k->k∉F
section
variable{K:jZ}{w0 w:World}{p:Nat}{F:List Nat}{kd d:Int}{S:St}{v1 v2 v3:Value}{l1 l2:List Hd}{l3:List Int}
theorem sO.ag{w':World}(h:sO K w0 w p F kd d S v1 v2 v3 l1 l2 l3)(hu:ae [] w w'):sO K w0 w' p F kd d S v1 v2 v3 l1 l2 l3:=
 ⟨aP.ag h.a hu,ak h.o1 hu σ,ak h.o2 hu σ,ak h.o3 hu σ,h.upd.trans hu,h.fa,h.s1,h.s2,h.s3⟩
theorem sO.hds(h:sO K w0 w p F kd d S v1 v2 v3 l1 l2 l3):Dk w [] v1 l1:=Dk.iA h.o1 σ
theorem sO.gen(h:sO K w0 w p F kd d S v1 v2 v3 l1 l2 l3)(hon:zF S l1 l2 l3):∀p,p∈l1->0<=p.2/\p.2<=4294967295:=λp hp=>by
 obtain⟨x,g,rfl,h1,h2⟩:=hon.fe p hp;have h3:=(fw.ok h.a).2.1.gm x;have h4:=(fw.ok h.a).2.1.QQ;dsimp only;omega
theorem sO.go(h:sO K w0 w p F kd d S v1 v2 v3 l1 l2 l3){w':World}{F':List Nat}{S':St}(hP:fw K w' p F' kd d S')(hu:ae F w w')(hf:∀x,x∈F'->x∈F\/w.heap.size<=x):sO K w0 w' p F' kd d S' v1 v2 v3 l1 l2 l3:=by
 have hs:=h.upd.size;have b1:=λk hk=>(h.o1.lt k hk).2;have b2:=λk hk=>(h.o2.lt k hk).2;have b3:=λk hk=>(h.o3.lt k hk).2;refine⟨hP,ak h.o1 hu (λk hk=>(h.s1 k hk).1),ak h.o2 hu (λk hk=>(h.s2 k hk).1),ak h.o3 hu (λk hk=>h.s3 k hk),h.upd.joined hu (λx hx=>Β (h.fa x hx)),λx hx=>?_,λk hk=>⟨λhm=>?_,(h.s1 k hk).2⟩,λk hk=>⟨λhm=>?_,(h.s2 k hk).2⟩,λk hk hm=>?_⟩
 ·rcases hf x hx with e|e
  ·exact h.fa x e
  ·omega
 ·rcases hf k hm with e|e
  ·exact(h.s1 k hk).1 e
  ·have:=b1 k hk;omega
 ·rcases hf k hm with e|e
  ·exact(h.s2 k hk).1 e
  ·have:=b2 k hk;omega
 ·rcases hf k hm with e|e
  ·exact h.s3 k hk e
  ·have:=b3 k hk;omega
theorem sO.ael(h:sO K w0 w p F kd d S v1 v2 v3 l1 l2 l3){w':World}{v':Value}{q:Hd}(ho:w'.ownsRow w0.heap.size 46 2 v' (l1.length+1) (Ci (l1++[q])))(hu:ae v1.ownBlock.toList w w')(hb:v'.ownBlock=v1.ownBlock\/v'.ownBlock=some w.heap.size):sO K w0 w' p F kd d S v' v2 v3 (l1++[q]) l2 l3:=by
 have hla:=aP.lt h.a;have hv:∀x,x∈v1.ownBlock.toList->v1.ownBlock=some x:=λx hx=>by simpa using hx
 refine⟨aP.upd h.a hu (λx hx=>(h.s1 x (hv x hx)).1),by simpa using ho,ak h.o2 hu (λk hk hm=>(h.s1 k (hv k hm)).2.1 hk),ak h.o3 hu (λk hk hm=>(h.s1 k (hv k hm)).2.2 hk),h.upd.joined hu (λx hx=>Β (h.o1.lt x (hv x hx)).1),h.fa,λk hk=>?_,h.s2,h.s3⟩;rcases hb with e|e
 ·exact h.s1 k (e▸hk)
 ·rw[e] at hk;cases hk;exact⟨λhm=>absurd (hla _ hm) (Ϝ _),λe2=>absurd (h.o2.lt _ e2).2 (Ϝ _),λe2=>absurd (h.o3.lt _ e2).2 (Ϝ _)⟩
theorem sO.YI(h:sO K w0 w p F kd d S v1 v2 v3 l1 l2 l3){w':World}{v':Value}{q:Hd}(ho:w'.ownsRow w0.heap.size 46 2 v' (l2.length+1) (Ci (l2++[q])))(hu:ae v2.ownBlock.toList w w')(hb:v'.ownBlock=v2.ownBlock\/v'.ownBlock=some w.heap.size):sO K w0 w' p F kd d S v1 v' v3 l1 (l2++[q]) l3:=by
 have hla:=aP.lt h.a;have hv:∀x,x∈v2.ownBlock.toList->v2.ownBlock=some x:=λx hx=>by simpa using hx
 refine⟨aP.upd h.a hu (λx hx=>(h.s2 x (hv x hx)).1),ak h.o1 hu (λk hk hm=>(h.s1 k hk).2.1 (hv k hm)),by simpa using ho,ak h.o3 hu (λk hk hm=>(h.s2 k (hv k hm)).2 hk),h.upd.joined hu (λx hx=>Β (h.o2.lt x (hv x hx)).1),h.fa,λk hk=>⟨(h.s1 k hk).1,λe2=>?_,(h.s1 k hk).2.2⟩,λk hk=>?_,h.s3⟩
 ·rcases hb with e|e
  ·exact(h.s1 k hk).2.1 (e▸e2)
  ·rw[e] at e2;cases e2;exact absurd (h.o1.lt _ hk).2 (Ϝ _)
 ·rcases hb with e|e
  ·exact h.s2 k (e▸hk)
  ·rw[e] at hk;cases hk;exact⟨λhm=>absurd (hla _ hm) (Ϝ _),λe2=>absurd (h.o3.lt _ e2).2 (Ϝ _)⟩
theorem sO.acd(h:sO K w0 w p F kd d S v1 v2 v3 l1 l2 l3){w':World}{v':Value}{q:Int}(ho:w'.ownsRow w0.heap.size 3 1 v' (l3.length+1) (bz (l3++[q])))(hu:ae v3.ownBlock.toList w w')(hb:v'.ownBlock=v3.ownBlock\/v'.ownBlock=some w.heap.size):sO K w0 w' p F kd d S v1 v2 v' l1 l2 (l3++[q]):=by
 have hla:=aP.lt h.a;have hv:∀x,x∈v3.ownBlock.toList->v3.ownBlock=some x:=λx hx=>by simpa using hx
 refine⟨aP.upd h.a hu (λx hx=>h.s3 x (hv x hx)),ak h.o1 hu (λk hk hm=>(h.s1 k hk).2.2 (hv k hm)),ak h.o2 hu (λk hk hm=>(h.s2 k hk).2 (hv k hm)),by simpa using ho,h.upd.joined hu (λx hx=>Β (h.o3.lt x (hv x hx)).1),h.fa,λk hk=>⟨(h.s1 k hk).1,(h.s1 k hk).2.1,λe2=>?_⟩,λk hk=>⟨(h.s2 k hk).1,λe2=>?_⟩,λk hk=>?_⟩
 ·rcases hb with e|e
  ·exact(h.s1 k hk).2.2 (e▸e2)
  ·rw[e] at e2;cases e2;exact absurd (h.o1.lt _ hk).2 (Ϝ _)
 ·rcases hb with e|e
  ·exact(h.s2 k hk).2 (e▸e2)
  ·rw[e] at e2;cases e2;exact absurd (h.o2.lt _ hk).2 (Ϝ _)
 ·rcases hb with e|e
  ·exact h.s3 k (e▸hk)
  ·rw[e] at hk;cases hk;exact λhm=>absurd (hla _ hm) (Ϝ _)
end
end Go.Proofs.YtnpdakpagnpanaaGreat
