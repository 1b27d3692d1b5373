/-
  Lemmas for ProofHolds: PrW, PrI. Conditions: those of each lemma.
-/
import Derived.Lib.SmallJoins
import Derived.Test.YtklibcncmbofpaaGreatR03
set_option linter.all false
set_option maxHeartbeats 8000000
set_option maxRecDepth 10000
namespace Go.Proofs.YtklibcncmbofpaaGreat
open Go Go.RowKit
def xh(x:Int):Bool:=decide (0<=x) && decide (x≠9223372036854775807)
theorem Ul(x:Int)(w:World):Calls Tryz.prog 63 #[.int .i64 x] w fun e w'=>e=.returned (.bool (xh x))/\w'=w:=by
 unfold xh
 by_cases h:x≥0
 ·by_cases h2:x=9223372036854775807
  ·subst h2
   go_enter Tryz.func63,Tryz.ntmps63
   go_wp2;go_ret;exact⟨aT σ,rfl⟩
  ·have h2b:(x != 9223372036854775807)=true:=by simpa using h2
   go_enter Tryz.func63,Tryz.ntmps63
   go_wp2;go_ret;exact⟨aT (by simp[h2];omega),rfl⟩
 ·go_enter Tryz.func63,Tryz.ntmps63
  go_wp2;go_ret;exact⟨aT ζ,rfl⟩
theorem VK(x:Int)(w:World):Calls Tryz.prog 60 #[.int .i64 x] w fun e w'=>e=.returned (.bool (decide (x<0)))/\aa [] w w':=by
 go_enter Tryz.func60,Tryz.ntmps60
 go_wp2;go_ret;exact⟨aT rfl,aa.refl _ _⟩
def uZ(D:List Int)(e:Ed):Bool:=decide (D.getD e.f.toNat 0≠9223372036854775807) && decide (e.w<=9223372036854775807-D.getD e.f.toNat 0) && decide (D.getD e.t.toNat 0 > D.getD e.f.toNat 0+e.w)
theorem TP(W:World)(e:Ed)(B cap:Nat)(a:Option Addr)(D:List Int)(hB:W.cell? ⟨B,0,none⟩=some (.slice a D.length cap))(hD:gI W [] (.slice a D.length cap) D)
  (hf:0<=e.f/\e.f<D.length) (ht:0<=e.t/\e.t<D.length) (hw:0<=e.w/\e.w<=9223372036854775807) (hb:∀x,x∈D->0<=x/\x<=9223372036854775807) :
  Calls Tryz.prog 79 #[e.val,.pointer (some ⟨B,0,none⟩)] W fun r w'=>r=.returned (.bool (uZ D e))/\aa [] W w':=by
 obtain⟨ef,et,ew⟩:=e;dsimp only at hf ht hw;obtain⟨f,rfl⟩:∃f:Nat,ef=f:=⟨ef.toNat,ω⟩;obtain⟨t,rfl⟩:∃t:Nat,et=t:=⟨et.toNat,ω⟩;have hf':f<D.length:=ω;have ht':t<D.length:=ω;unfold uZ Ed.val;dsimp only;rw[π,π];obtain⟨_,_,he,hc1,hc2,hcell⟩:=hD;have x1:D[f]?=some (D.getD f 0):=by simp[φ,hf']
 have x2:D[t]?=some (D.getD t 0):=by simp[φ,ht']
 cases he;obtain⟨g,off,rfl,hg,_,c1⟩:=hcell f _ x1;obtain⟨g2,UQ,he2,_,_,c2⟩:=hcell t _ x2;cases he2;have b1:=hb _ (List.mem_of_getElem? x1);have b2:=hb _ (List.mem_of_getElem? x2);clear hcell x1 x2 hb;have hBl:=World.block_lt_of_cell? W _ hB;dsimp only at hBl;generalize D.getD f 0=d1 at *;generalize D.getD t 0=d2 at *;generalize D.length=n at *
 by_cases h1:d1=9223372036854775807
 ·subst h1
  go_enter Tryz.func79,Tryz.ntmps79
  go_wp2
  go_quiet (fail)
  go_wp2;go_ret;exact⟨aT σ,β⟩
 ·have h1b:(d1 != 9223372036854775807)=true:=by simpa using h1
  by_cases h2:ew<=9223372036854775807-d1
  ·have hs1:IntKind.i64.wrap (9223372036854775807-d1)=9223372036854775807-d1:=IntWalk.i64_in _ ω;have hs2:IntKind.i64.wrap (d1+ew)=d1+ew:=IntWalk.i64_in _ ω
   go_enter Tryz.func79,Tryz.ntmps79
   go_wp2
   go_quiet (fail)
   go_wp2;go_ret;exact⟨aT (by simp[h1,h2]),β⟩
  ·have hs1:IntKind.i64.wrap (9223372036854775807-d1)=9223372036854775807-d1:=IntWalk.i64_in _ ω;have h2b:decide (ew<=9223372036854775807-d1)=false:=by simpa using h2
   go_enter Tryz.func79,Tryz.ntmps79
   go_wp2
   go_quiet (fail)
   go_wp2;go_ret;exact⟨aT (by simp[h1];intro hh;omega),β⟩
def CE(D:List Int)(E:List Ed):Bool:=!(E.any (uZ D))
theorem QY(w:World)(N:Int)(va vd:Value)(E:List Ed)(D:List Int)(hE:vY w va E)(hD:gI w [] vd D)(hr:gG N E=true)(hN:(D.length:Int)=N)
  (hw:∀e,e∈E->0<=e.w/\e.w<=9223372036854775807) (hb:∀x,x∈D->0<=x/\x<=9223372036854775807) :
  Calls Tryz.prog 61 #[.agg #[.int .i64 N,va],vd] w fun r w'=>r=.returned (.bool (CE D E))/\aa [] w w':=by
 obtain⟨a,cap,rfl,hcap⟩:=hE.shape;obtain⟨a2,cap2,rfl,hc1,hc2,hcell⟩:=hD;have hDD:gI w [] (.slice a2 D.length cap2) D:=⟨a2,cap2,rfl,hc1,hc2,hcell⟩;have u0:aa [] w ((w.alloc (.cells #[.int .i64 N,.slice a E.length cap] 57)).alloc (.cells #[.slice a2 D.length cap2] 24)):=((aa.refl _ _).alloc _).alloc _;have kc:=Gb _ (.slice a E.length cap) E (uZ D) 79 #[.pointer (some ⟨(w.alloc (.cells #[.int .i64 N,.slice a E.length cap] 57)).heap.size,0,none⟩)] (hE.upd u0) (fun _ _=>by kernel_rfl)
  (fun W e hW he=>TP W e _ cap2 a2 D (hW.was σ) (gI.fresh hDD (u0.trans hW) (fun x hx=>by simp at hx)) (by have:=fe hr he;omega) (by have:=fe hr he;omega) (hw e he) hb)
 rw[World.size_alloc]at kc;unfold CE;generalize E.any (uZ D)=bb at *;clear hE hcell hDD hr hw hb hN;generalize E.length=n at *;generalize D.length=m at *
 go_enter Tryz.func61,Tryz.ntmps61
 go_wp2_with (first
  | ((go_at_call 78;(with_reducible refine(kc).mono ?_));rintro e w1 ⟨rfl,hu1⟩)
  | fail)
 go_ret;exact⟨aT σ,u0.trans hu1⟩
def Me(w:World)(v:Value)(N:Int)(E:List Ed)(va:Value):Prop:=v=.agg #[.int .i64 N,va]/\vY w va E/\∀e,e∈E->-9223372036854775808<=e.w/\e.w<=9223372036854775807
set_option maxRecDepth 100000 in
open Go.Joins in
theorem BS{H:Type}{enc:TypeId×Value->H}{W:World}{v:Value}{d:DataW H}{p:List MemPlace}{base:Nat}{sp:Nat->Bool}
  (ho:Value.okWide Tryz.prog W .any base 57 v) (h:DataW.Trod enc Tryz.prog W 0 sp true 57 v d p):∃N E va,Me W v N E va:=by
 obtain⟨c0,c1,y0,y1,m,rfl,_,_,hy0,hy1⟩:=open_agg2 Tryz.underlying57 (by kernel_rfl) (show Tryz.prog.cellsOf 57=2 by kernel_rfl) ho h;obtain⟨N,e0,_,wa⟩:=DataW.trod_int Tryz.underlying3 hy0;obtain⟨E,hE,hb⟩:=G6 hy1;simp at e0;subst e0;exact⟨N,E,_,rfl,hE,hb⟩
end Go.Proofs.YtklibcncmbofpaaGreat
