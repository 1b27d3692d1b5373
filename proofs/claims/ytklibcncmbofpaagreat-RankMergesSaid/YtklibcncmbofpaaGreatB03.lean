/-
  Lemmas for RankMerges: RkMs, RkO. Conditions: those of each lemma.
-/
import Derived.Test.YtklibcncmbofpaaGreatB02
set_option linter.all false
set_option maxHeartbeats 8000000
set_option maxRecDepth 10000
namespace Go.Proofs.YtklibcncmbofpaaGreat
open Go Go.RowKit
def Sg (w:World) (a:Option Addr) (n:Nat) (L:List Pl):Prop:=L.length=n/\∀j p,L[j]?=some p->∃g,a=some ⟨g,0,none⟩/\g<w.heap.size/\w.cell? ⟨g,j*2,none⟩=some (.int .i64 (p.1:Int))/\w.cell? ⟨g,j*2+1,none⟩=some (.int .i64 (p.2:Int))
theorem Sg.fE {w:World} {base n c:Nat} {e:TypeId} {a:Option Addr} {L:List Pl} (h:w.ownsRow base e 2 (.slice a n c) n (rD L)):Sg w a n L:=by
 have hl:L.length=n:=by have:=h.1;rw [qI] at this;omega
 refine ⟨hl,fun j p hj=>?_⟩;have hjl:=(List.getElem?_eq_some_iff.1 hj).1;obtain ⟨g,cap,e,hb,_⟩:=dM h ω
 injection e with e1 e2 e3
 subst e1;obtain ⟨h1,h2⟩:=uO L j p hj;exact ⟨g,rfl,(h.lt g rfl).2,by rw [h.cellAt (j*2) ω];exact h1,by rw [h.cellAt (j*2+1) ω];exact h2⟩
theorem Sg.upd {w w':World} {n:Nat} {a:Option Addr} {L:List Pl} (h:Sg w a n L) (hu:aa [] w w'):Sg w' a n L:=
 ⟨h.1,fun j p hj=>by
  obtain ⟨g,h1,h2,h3,h4⟩:=h.2 j p hj
  exact ⟨g,h1,Ψ h2 hu.size,hu.was h3,hu.was h4⟩⟩
theorem QM (w:World) (a a':Option Addr) (n c c':Nat) (L:List Pl) (h:Sg w a n L) (h':Sg w a' n L) (hn:n<=1000000) :
  Calls Tryz.prog 25 #[.slice a n c,.slice a' n c'] w fun e w'=>e=.returned (.bool true)/\aa [] w w':=by
 have HC:Hid (∀j,j<n->∃g g' x y,a=some ⟨g,0,none⟩/\a'=some ⟨g',0,none⟩/\w.cell? ⟨g,j*2,none⟩=some (.int .i64 x)/\w.cell? ⟨g,j*2+1,none⟩=some (.int .i64 y)/\w.cell? ⟨g',j*2,none⟩=some (.int .i64 x)/\w.cell? ⟨g',j*2+1,none⟩=some (.int .i64 y)):=fun j hj=>by
  obtain ⟨g,h1,_,h3,h4⟩:=h.2 j _ (ε (by have:=h.1;omega));obtain ⟨g',h1',_,h3',h4'⟩:=h'.2 j _ (ε (by have:=h.1;omega));exact ⟨g,g',_,_,h1,h1',h3,h4,h3',h4'⟩
 clear h h';have hnn:((n:Int) != (n:Int))=false:=σ
 go_enter Tryz.func25,Tryz.ntmps25
 go_wp2
 go_loopw [5,13] (fun v5 v13 wr=>∃j:Nat,j<=n/\v13=.int .i64 (j:Int)/\aa [] w wr) (fun _ v13 _=>n-(intOf v13).toNat)
 case atStart=>exact ⟨0,Nat.zero_le _,rfl,aa.refl _ _⟩
 case round=>
  obtain ⟨j,hj,rfl,hu⟩:=hrel;rename World=>wr
  by_cases hjn:j<n
  ·have FD:(j:Int)<(n:Int):=ω;have hjD:decide ((j:Int)<(n:Int))=true:=ζ;have hwj:IntKind.i64.wrap ((j:Int)+1)=(j:Int)+1:=Μ _ ω;obtain ⟨g,g',x,y,rfl,rfl,c0,c1,c2,c3⟩:=HC.out j hjn;have d0:=hu.was c0;have d1:=hu.was c1;have d2:=hu.was c2;have d3:=hu.was c3;have hx:(x != x)=false:=σ;have hy:(y != y)=false:=σ;have HU:=χ hu;clear hu c0 c1 c2 c3
   go_upto_region 6 with (fail)
   go_quiet (fail)
   go_wp2
   go_roundw
   case rel=>exact ⟨j+1,hjn,by go_num,by have:=HU.out;exact β⟩
   case measure=>simp [intOf];omega
  ·obtain rfl:j=n:=ω;have FD:¬ (j:Int)<(j:Int):=ω;have hjD:decide ((j:Int)<(j:Int))=false:=σ;go_wp2;go_ret;exact ⟨rfl,hu⟩
def Jg (A:NS):Nat->NS
 | 0=>A
 | k+1=>aD (Jg A k)
theorem GV (kd d:Int) (items heaps:Int) (w:World) (hc:rV kd d≠0) :
  Calls Tryz.prog 39 #[.agg #[.int .i64 kd,.int .i64 d],.int .i64 items,.int .i64 heaps] w fun e w'=>e=.returned (.tuple #[.pointer none,.int .i64 (rV kd d)])/\aa [] w w':=by
 have kc:=fun W=>qF kd d W;have hcb:(rV kd d != 0)=true:=by simpa using hc
 generalize rV kd d=v at *
 go_enter Tryz.func39,Tryz.ntmps39
 go_wp2_with (first
  | ((go_at_call 50;(with_reducible refine (kc _).mono ?_));rintro e w1 ⟨rfl,hu1⟩)
  | fail)
 go_ret2;exact ⟨rfl,aa.trans β hu1⟩
theorem oU {K:dI} (kd d:Int) (n heaps:Nat) (w:World) (hc:rV kd d=0) (hi:n<=65536) (hh:heaps<=65536) (ko:j4 K kd d n) :
  Calls Tryz.prog 39 #[.agg #[.int .i64 kd,.int .i64 d],.int .i64 (n:Int),.int .i64 (heaps:Int)] w fun e w'=>∃p F,e=.returned (.tuple #[.pointer (some ⟨p,0,none⟩),.int .i64 0])/\dJ K w' p F kd d (AR.new n 4294967295) (Jg (NS.new n) heaps) 0/\aa [] w w'/\∀x,x∈F->w.heap.size<=x:=by
 have kc:=fun W=>qF kd d W;have kp:∀W:World,Calls Tryz.prog 64 #[.agg #[.int .i64 kd,.int .i64 d],.int .i64 (n:Int),.int .u32 4294967295] W fun e w'=>∃p F,e=.returned (.tuple #[.pointer (some ⟨p,0,none⟩),.int .i64 0])/\dJ K w' p F kd d (AR.new n 4294967295) (NS.new n) 0/\aa [] W w'/\∀x,x∈F->W.heap.size<=x:=fun W=>J3 n 4294967295 W hi ω hc ko;rw [hc] at kc;have hib:decide ((n:Int) > 65536)=false:=ζ;have Yz:¬ (n:Int) > 65536:=ω;clear hc ko
 go_enter Tryz.func39,Tryz.ntmps39
 go_wp2_with (first
  | ((go_at_call 50;(with_reducible refine (kc _).mono ?_));rintro e w1 ⟨rfl,hu1⟩;(have q0:w1.cell? ⟨w.heap.size,0,none⟩=some (.int .i64 kd):=hu1.was γ);(have q1:w1.cell? ⟨w.heap.size,1,none⟩=some (.int .i64 d):=hu1.was γ);(have hw1:aa [] w w1:=aa.trans β hu1))
  | ((go_at_call 64;(with_reducible refine (kp _).mono ?_));rintro e w2 ⟨p,F,rfl,hP,hu2,hF⟩)
  | fail)
 have s1:=hw1.size;have HI:=χ (show ∃F',dJ K w2 p F' kd d (AR.new n 4294967295) (Jg (NS.new n) 0) 0/\aa [] w w2/\∀x,x∈F'->w.heap.size<=x from ⟨F,hP,hw1.trans hu2,fun x hx=>by have:=hF x hx;omega⟩);clear hP hF hu2 hu1 hw1 q0 q1 kp kc
 go_loopw [25] (fun i wr=>∃ (j:Nat) (F':List Nat),j<=heaps/\i=.int .i64 (j:Int)/\dJ K wr p F' kd d (AR.new n 4294967295) (Jg (NS.new n) j) 0/\aa [] w wr/\∀x,x∈F'->w.heap.size<=x) (fun i _=>heaps-(intOf i).toNat)
 case atStart=>
  obtain ⟨F',h1,h2,h3⟩:=HI.out;exact ⟨0,F',Nat.zero_le _,rfl,h1,h2,h3⟩
 case round=>
  obtain ⟨j,F',hj,rfl,hP,hu,hF⟩:=hrel;rename World=>wr
  by_cases hjn:j<heaps
  ·have FD:decide ((j:Int)<(heaps:Int))=true:=ζ;have kn:=Cj hP;have HR:=χ (ψ hu hF);clear hP hu hF
   go_wp2_with (first
    | ((go_at_call 65;(with_reducible refine (kn).mono ?_));rintro e w3 ⟨rfl,F2,hP2,hu2,hF2⟩)
    | fail)
   go_roundw
   case rel=>
    obtain ⟨hu,hF⟩:=HR.out;have hs:=hu.size;exact ⟨j+1,F2,ω,by go_num,hP2,hu.joined hu2 (fun x hx=>Β (hF x hx)),fun x hx=>by rcases hF2 x hx with h|h;exact hF x h;omega⟩
   case measure=>simp [intOf];omega
  ·obtain rfl:j=heaps:=ω;have FD:decide ((j:Int)<(j:Int))=false:=σ;have HR:=χ (ψ hP (ψ hu hF));clear hP hu hF;go_wp2;go_ret2;obtain ⟨hP,hu,hF⟩:=HR.out;exact ⟨p,F',rfl,hP,hu,hF⟩
end Go.Proofs.YtklibcncmbofpaaGreat
