/-
  Lemmas for PqOpens: OpV, RefN, RefN2, RefN5. Conditions: those of each lemma.
-/
import Derived.Test.YtnpdakpagnpanaaGreatD10
set_option linter.all false
set_option maxHeartbeats 8000000
set_option maxRecDepth 10000
namespace Go.Proofs.YtnpdakpagnpanaaGreat
open Go Go.RowKit
theorem Dt (p c:Nat):∀W:World,W.cell? ⟨p,0,none⟩=some (.pointer (some ⟨c,0,none⟩))->(method 409 122 (.pointer (some ⟨p,0,none⟩)) "Steps").run Tryz.prog W=.ok (130,.pointer (some ⟨c,0,none⟩)) W:=(by intro W h;unfold method;have hm:∃m,(Array.find? (λx=>x.name == "Steps") Tryz.t122.methods)=some m/\m.path.toList=[⟨179,0,true⟩,⟨226,0,true⟩]/\m.func=some (130,true)/\m.path.isEmpty=false:=⟨(Array.find? (λx=>x.name == "Steps") Tryz.t122.methods).get!,by kernel_rfl,by kernel_rfl,by kernel_rfl,by kernel_rfl⟩;obtain ⟨m,h1,h2,h3,h4⟩:=hm;go_simp;simp only [follow,Place.get];go_simp;(try unfold receiverAt);(try simp only [Place.get]);(try go_simp))
theorem Db (p c:Nat):∀W:World,W.cell? ⟨p,0,none⟩=some (.pointer (some ⟨c,0,none⟩))->(method 409 126 (.pointer (some ⟨p,0,none⟩)) "Steps").run Tryz.prog W=.ok (130,.pointer (some ⟨c,0,none⟩)) W:=(by intro W h;unfold method;have hm:∃m,(Array.find? (λx=>x.name == "Steps") Tryz.t126.methods)=some m/\m.path.toList=[⟨185,0,true⟩,⟨226,0,true⟩]/\m.func=some (130,true)/\m.path.isEmpty=false:=⟨(Array.find? (λx=>x.name == "Steps") Tryz.t126.methods).get!,by kernel_rfl,by kernel_rfl,by kernel_rfl,by kernel_rfl⟩;obtain ⟨m,h1,h2,h3,h4⟩:=hm;go_simp;simp only [follow,Place.get];go_simp;(try unfold receiverAt);(try simp only [Place.get]);(try go_simp))
theorem Cj (p c:Nat):∀W:World,W.cell? ⟨p,0,none⟩=some (.pointer (some ⟨c,0,none⟩))->(method 409 130 (.pointer (some ⟨p,0,none⟩)) "Steps").run Tryz.prog W=.ok (130,.pointer (some ⟨c,0,none⟩)) W:=(by intro W h;unfold method;have hm:∃m,(Array.find? (λx=>x.name == "Steps") Tryz.t130.methods)=some m/\m.path.toList=[⟨188,0,true⟩,⟨226,0,true⟩]/\m.func=some (130,true)/\m.path.isEmpty=false:=⟨(Array.find? (λx=>x.name == "Steps") Tryz.t130.methods).get!,by kernel_rfl,by kernel_rfl,by kernel_rfl,by kernel_rfl⟩;obtain ⟨m,h1,h2,h3,h4⟩:=hm;go_simp;simp only [follow,Place.get];go_simp;(try unfold receiverAt);(try simp only [Place.get]);(try go_simp))
theorem BZ (p c:Nat):∀W:World,W.cell? ⟨p,0,none⟩=some (.pointer (some ⟨c,0,none⟩))->(method 409 134 (.pointer (some ⟨p,0,none⟩)) "Steps").run Tryz.prog W=.ok (130,.pointer (some ⟨c,0,none⟩)) W:=(by intro W h;unfold method;have hm:∃m,(Array.find? (λx=>x.name == "Steps") Tryz.t134.methods)=some m/\m.path.toList=[⟨196,0,true⟩,⟨226,0,true⟩]/\m.func=some (130,true)/\m.path.isEmpty=false:=⟨(Array.find? (λx=>x.name == "Steps") Tryz.t134.methods).get!,by kernel_rfl,by kernel_rfl,by kernel_rfl,by kernel_rfl⟩;obtain ⟨m,h1,h2,h3,h4⟩:=hm;go_simp;simp only [follow,Place.get];go_simp;(try unfold receiverAt);(try simp only [Place.get]);(try go_simp))
theorem CY (p c:Nat):∀W:World,W.cell? ⟨p,0,none⟩=some (.pointer (some ⟨c,0,none⟩))->(method 409 138 (.pointer (some ⟨p,0,none⟩)) "Steps").run Tryz.prog W=.ok (130,.pointer (some ⟨c,0,none⟩)) W:=(by intro W h;unfold method;have hm:∃m,(Array.find? (λx=>x.name == "Steps") Tryz.t138.methods)=some m/\m.path.toList=[⟨204,0,true⟩,⟨226,0,true⟩]/\m.func=some (130,true)/\m.path.isEmpty=false:=⟨(Array.find? (λx=>x.name == "Steps") Tryz.t138.methods).get!,by kernel_rfl,by kernel_rfl,by kernel_rfl,by kernel_rfl⟩;obtain ⟨m,h1,h2,h3,h4⟩:=hm;go_simp;simp only [follow,Place.get];go_simp;(try unfold receiverAt);(try simp only [Place.get]);(try go_simp))
theorem BK (p c:Nat):∀W:World,W.cell? ⟨p,0,none⟩=some (.pointer (some ⟨c,0,none⟩))->(method 409 142 (.pointer (some ⟨p,0,none⟩)) "Steps").run Tryz.prog W=.ok (130,.pointer (some ⟨c,0,none⟩)) W:=(by intro W h;unfold method;have hm:∃m,(Array.find? (λx=>x.name == "Steps") Tryz.t142.methods)=some m/\m.path.toList=[⟨207,0,true⟩,⟨226,0,true⟩]/\m.func=some (130,true)/\m.path.isEmpty=false:=⟨(Array.find? (λx=>x.name == "Steps") Tryz.t142.methods).get!,by kernel_rfl,by kernel_rfl,by kernel_rfl,by kernel_rfl⟩;obtain ⟨m,h1,h2,h3,h4⟩:=hm;go_simp;simp only [follow,Place.get];go_simp;(try unfold receiverAt);(try simp only [Place.get]);(try go_simp))
theorem Cn (p c:Nat):∀W:World,W.cell? ⟨p,0,none⟩=some (.pointer (some ⟨c,0,none⟩))->(method 409 146 (.pointer (some ⟨p,0,none⟩)) "Steps").run Tryz.prog W=.ok (130,.pointer (some ⟨c,0,none⟩)) W:=(by intro W h;unfold method;have hm:∃m,(Array.find? (λx=>x.name == "Steps") Tryz.t146.methods)=some m/\m.path.toList=[⟨210,0,true⟩,⟨226,0,true⟩]/\m.func=some (130,true)/\m.path.isEmpty=false:=⟨(Array.find? (λx=>x.name == "Steps") Tryz.t146.methods).get!,by kernel_rfl,by kernel_rfl,by kernel_rfl,by kernel_rfl⟩;obtain ⟨m,h1,h2,h3,h4⟩:=hm;go_simp;simp only [follow,Place.get];go_simp;(try unfold receiverAt);(try simp only [Place.get]);(try go_simp))
theorem uG (kd d:Int) (n:Nat) (hc:jE kd d=0) (hn:n<=65536):∃K:bV,fP K kd d n/\Gf K:=by
 have h1:=ql hc
 by_cases hk:kd=1\/kd=2
 ·obtain ⟨m,hm⟩:∃m:Nat,arity kd d=(m:Int):=by
   refine ⟨(arity kd d).toNat,?_⟩;unfold arity;rcases hk with e|e
   ·rw [Δ e];rfl
   ·rw [Γ ω];have:=h1.2.2.1 e;omega
  exact ⟨_,sW kd d n m hc hk hm hn,λp c W h=>Dt p c W h⟩
 ·have hd:d=0:=h1.2.2.2 ω;subst hd;have h7:kd=3\/kd=4\/kd=5\/kd=6\/kd=7\/kd=8:=ω;rcases h7 with rfl|rfl|rfl|rfl|rfl|rfl
  ·exact ⟨_,sH n hn,λp c W h=>Db p c W h⟩
  ·exact ⟨_,tq n hn,λp c W h=>Cj p c W h⟩
  ·exact ⟨_,tN n hn,λp c W h=>BZ p c W h⟩
  ·exact ⟨_,tu n hn,λp c W h=>CY p c W h⟩
  ·exact ⟨_,sF n hn,λp c W h=>BK p c W h⟩
  ·exact ⟨_,rT n hn,λp c W h=>Cn p c W h⟩
structure Jh (w:World) (F:List Nat) (gh oh ch gc oc cc:Nat) (A:NS):Prop where
 hcap:A.hs.length<=ch/\ch<=9223372036854775807
 ccap:A.cs.length<=cc/\cc<=9223372036854775807
 lt:gh<w.heap.size/\gc<w.heap.size
 far:gh∉F/\gc∉F
 h:∀j,j<A.hs.length->w.cell? ⟨gh,oh+j,none⟩=some (.bool (A.hs.getD j false))
 c0:∀x,x<A.cs.length->w.cell? ⟨gc,oc+x*3,none⟩=some (.int .i64 (A.c x).i)
 c1:∀x,x<A.cs.length->w.cell? ⟨gc,oc+x*3+1,none⟩=some (.int .i64 (A.c x).k)
 c2:∀x,x<A.cs.length->w.cell? ⟨gc,oc+x*3+2,none⟩=some (.int .u64 (A.c x).s)
def Et (gh oh ch gc oc cc:Nat) (A:NS):Value:=.agg #[.slice (some ⟨gh,oh,none⟩) A.hs.length ch,.slice (some ⟨gc,oc,none⟩) A.cs.length cc]
def H7 (w:World) (F:List Nat) (v:Value) (A:NS):Prop:=∃gh oh ch gc oc cc,v=Et gh oh ch gc oc cc A/\Jh w F gh oh ch gc oc cc A
theorem tH:(Tryz.prog.info? 115).map (λi=>(i.zero,i.size,i.bytes))=some (some (.agg #[.int .i64 0,.int .i64 0,.int .u64 0]),3,24):=by kernel_rfl
section
variable {w:World} {F:List Nat} {v:Value} {A:NS}
theorem su (n j:Nat) (hj:j<n*3):(madeCells (Value.agg #[Value.int .i64 0,.int .i64 0,.int .u64 0]).cells (n*3)).toList.getD j undef=if j % 3=0 then .int .i64 0 else if j % 3=1 then .int .i64 0 else .int .u64 0:=by
 show (madeCells #[Value.int .i64 0,.int .i64 0,.int .u64 0] (n*3)).toList.getD j undef=_
 rw [φ,ε (by simp [size_madeCells];omega)];simp only [Option.getD_some,madeCells,Array.getElem_toList,Array.getElem_map,Array.getElem_range];rcases (ω:j % 3=0\/j % 3=1\/j % 3=2) with e|e|e<;>simp [e]
theorem zO (n:Nat) (w:World) (F:List Nat) (hF:∀x,x∈F->x<w.heap.size) (hn:n<=65536) :
  Calls Tryz.prog 37 #[.int .i64 (n:Int)] w λe w'=>∃v',e=.returned v'/\H7 w' F v' (NS.new n)/\aa [] w w':=by
 go_enter Tryz.func37,Tryz.ntmps37
 go_wp2_with (at_make;refine wpList_make_row rfl _ 34 rfl 115 (.agg #[.int .i64 0,.int .i64 0,.int .u64 0]) 3 24 Tryz.underlying34 tH n rfl ω μ ?_;intro w2 hr2 hu2;(have p0:w2.cell? ⟨w.heap.size,0,none⟩=some (.slice none 0 0):=hu2.was γ);(have p1:w2.cell? ⟨w.heap.size,1,none⟩=some (.slice none 0 0):=hu2.was γ);(have p2:w2.frozen? ⟨w.heap.size,0,none⟩=false:=hu2.aF (v:=.slice none 0 0) γ σ γ);(have p3:w2.frozen? ⟨w.heap.size,1,none⟩=false:=hu2.aF (v:=.slice none 0 0) γ σ γ))
 have hsz:=hu2.size;have hlt:=hr2.lt;have hs1:(NS.new n).cs.length=n:=by simp [NS.new]
 have hwb:aa [] w w2:=aa.trans β hu2;have hu:aa [] w ((w2.setCell ⟨w.heap.size,0,none⟩ (.slice (some ⟨w.heap.size+1,0,none⟩) 1 1)).setCell ⟨w.heap.size,1,none⟩ (.slice (some ⟨w.heap.size+1+1,0,none⟩) n n)):=β;have hu3:aa [w.heap.size] w2 ((w2.setCell ⟨w.heap.size,0,none⟩ (.slice (some ⟨w.heap.size+1,0,none⟩) 1 1)).setCell ⟨w.heap.size,1,none⟩ (.slice (some ⟨w.heap.size+1+1,0,none⟩) n n)):=β;have hc0:w2.cell? ⟨w.heap.size+1,0,none⟩=some (.bool false):=hu2.was γ;simp at hsz hlt;simp only [Κ] at hr2
 have hrow:∀j,j<n*3->w2.cell? ⟨w.heap.size+1+1,j,none⟩=some (if j % 3=0 then .int .i64 0 else if j % 3=1 then .int .i64 0 else .int .u64 0):=λj hj=>by
  rw [hr2.cell j hj];exact congrArg some (su n j hj)
 refine bodyPost_ret (v:=.agg #[.slice (some ⟨w.heap.size+1,0,none⟩) 1 1,.slice (some ⟨w.heap.size+1+1,0,none⟩) n n]) (by simp [results,Tryz.results37,go_sem,p0,p1]) rfl ⟨_,rfl,⟨w.heap.size+1,0,1,w.heap.size+1+1,0,n,?_,?_⟩,hu⟩
 ·unfold Et;rw [hs1];rfl
 ·have cw:∀j,j<n*3->((w2.setCell ⟨w.heap.size,0,none⟩ (.slice (some ⟨w.heap.size+1,0,none⟩) 1 1)).setCell ⟨w.heap.size,1,none⟩ (.slice (some ⟨w.heap.size+1+1,0,none⟩) n n)).cell? ⟨w.heap.size+1+1,j,none⟩=some (if j % 3=0 then .int .i64 0 else if j % 3=1 then .int .i64 0 else .int .u64 0):=λj hj=>hu3.kept (hrow j hj) ι;refine ⟨⟨Θ _,by show (1:Nat)<=_;omega⟩,⟨by rw [hs1];exact Θ _,ω⟩,⟨Ψ ω hu3.size,Ψ ω hu3.size⟩,⟨λm=>by have:=hF _ m;omega,λm=>by have:=hF _ m;omega⟩,λj hj=>?_,λx hx=>?_,λx hx=>?_,λx hx=>?_⟩
  ·have hj0:j=0:=by simp [NS.new] at hj;exact hj
   subst hj0;exact hu3.kept hc0 ι
  ·rw [hs1] at hx;rw [NS.iW,Nat.zero_add,cw (x*3) ω,Δ ω];rfl
  ·rw [hs1] at hx;rw [NS.iW,Nat.zero_add,cw (x*3+1) ω,Γ ω,Δ ω];rfl
  ·rw [hs1] at hx;rw [NS.iW,Nat.zero_add,cw (x*3+2) ω,Γ ω,Γ ω];rfl
end
end Go.Proofs.YtnpdakpagnpanaaGreat
