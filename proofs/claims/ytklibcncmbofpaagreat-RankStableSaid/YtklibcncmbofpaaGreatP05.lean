/-
  Lemmas for RankSorts: Cells4, Cells5, Ord, Enters, Mth, NestB, Qn, MapH, SameW. Conditions: those of each lemma.
-/
import Derived.DeepKeys4
import Derived.Test.YtklibcncmbofpaaGreatP04
set_option maxHeartbeats 8000000
set_option maxRecDepth 10000
set_option linter.unusedVariables false
set_option linter.unusedSimpArgs false
namespace Go.Proofs.YtklibcncmbofpaaGreat
open Go Go.RowKit
theorem En {A A':NS} (h:∀q,cu A' q=cu A q):gY A'=gY A:=by
 funext q;unfold gY;rw [h q]
theorem fE {w:World} {c st:Nat} {F:List Nat} {A:NS} (h:az w c F A st) (i:Nat) (k s:Int) (hk:-9223372036854775808≤k∧k≤9223372036854775807∧0≤s∧s≤18446744073709551615) (hB:iy A i k s=true) :
  Calls Tryz.prog 147 #[.pointer (some ⟨c,0,none⟩),.int .i64 (i:Int),.agg #[.int .i64 k,.int .u64 s]] w fun e w'=>e=.returned (.bool true)∧az w' c F (ak A i k s) st∧aa F w w':=by
 have hu0:aa [] w (w.alloc (.cells #[.int .i64 k,.int .u64 s] 129)):=(aa.refl _ _).alloc _;have k3:=fun W (hW:aa [] (w.alloc (.cells #[.int .i64 k,.int .u64 s] 129)) W)=>nQ (h.aj (hu0.trans hW)) i
 have hB0:=χ hB;unfold iy at hB;simp only [Bool.and_eq_true,Bool.not_eq_true',π] at hB;obtain ⟨e,hl⟩:=hB;rw [e] at k3;obtain ⟨hi,hx2⟩:=(af _ _).1 e;obtain ⟨ca,nm,mb,g,cap,l,rt,dp,raw,h,rfl⟩:=h;have ee:1≤(raw i).i∧(raw i).i<l.length∧A.c i=⟨rt (raw i).i.toNat,(raw i).k,(raw i).s⟩:=by
  rcases h.rel i hi with ⟨h1,h2⟩|h3
  ·rw [h2] at hx2;exact absurd hx2 δ
  ·exact h3
 rw [ee.2.2] at hl;have c1:=h.c1;have d1:=h.row.cellAt (i*3+1) ω (vM raw i);have d2:=h.row.cellAt (i*3+2) ω (vG raw i);have f1:=h.row.free (i*3+1);have f2:=h.row.free (i*3+2);have hA:=h.ok.c1;have kl:=fun W=>Hw (raw i).k (raw i).s k s W
 rw [hl] at kl;have R3:Hid (∀w2:World,aa [] (w.alloc (.cells #[.int .i64 k,.int .u64 s] 129)) w2→az ((w2.setCell ⟨ca,i*3+1,none⟩ (.int .i64 k)).setCell ⟨ca,i*3+2,none⟩ (.int .u64 s)) c [c,ca,nm,mb,g] (ak A i k s) st∧aa [c,ca,nm,mb,g] w ((w2.setCell ⟨ca,i*3+1,none⟩ (.int .i64 k)).setCell ⟨ca,i*3+2,none⟩ (.int .u64 s))):=fun w2 hw2=>by
  have hs:=h.sep;have hm:=h.upd (hu0.trans hw2) σ;have hu4:aa [ca,mb] w2 ((w2.setCell ⟨ca,i*3+1,none⟩ (.int .i64 k)).setCell ⟨ca,i*3+2,none⟩ (.int .u64 s)):=β;have hu5:aa [ca] w2 ((w2.setCell ⟨ca,i*3+1,none⟩ (.int .i64 k)).setCell ⟨ca,i*3+2,none⟩ (.int .u64 s)):=β;have e2:ak A (i:Int) k s=gD A i ⟨(A.c i).i,k,s⟩:=by unfold ak;rw [if_pos hB0.out];simp
  refine ⟨⟨ca,nm,mb,g,cap,l,rt,dp,fun y=>if y=i then ⟨(raw i).i,k,s⟩ else raw y,?_,rfl⟩,((hu0.trans hw2).mono σ).trans (hu4.mono ι)⟩
  rw [e2];refine hm.turn hu4 (PQ hm.row k s) ?_ (by rw [←e2];exact Mq h.ok _ _ _ hk) (dI _ _ _) rfl (vX h.rel hi (Or.inr ⟨ee.1,ee.2.1,by rw [ee.2.2]⟩))
  rw [En (A:=A) (A':=gD A i ⟨(A.c i).i,k,s⟩) (fun q=>by have:=kG A i ⟨(A.c i).i,k,s⟩ q hi;simp only at this;omega)]
  exact hm.many.upd hu5 ι
 generalize (raw i).k=k0 at *
 generalize (raw i).s=s0 at *
 have hlt:ca<w.heap.size:=h.row.lt;have r1:∀W,aa [] (w.alloc (.cells #[.int .i64 k,.int .u64 s] 129)) W→W.cell? ⟨c,1,none⟩=some (.slice (some ⟨ca,0,none⟩) A.cs.length A.cs.length):=fun W hW=>(hu0.trans hW).was c1
 have r2:∀W,aa [] (w.alloc (.cells #[.int .i64 k,.int .u64 s] 129)) W→W.cell? ⟨ca,i*3+1,none⟩=some (.int .i64 k0):=fun W hW=>(hu0.trans hW).was d1
 have r3:∀W,aa [] (w.alloc (.cells #[.int .i64 k,.int .u64 s] 129)) W→W.cell? ⟨ca,i*3+2,none⟩=some (.int .u64 s0):=fun W hW=>(hu0.trans hW).was d2
 have r4:∀W,aa [] (w.alloc (.cells #[.int .i64 k,.int .u64 s] 129)) W→W.cell? ⟨w.heap.size,0,none⟩=some (.int .i64 k):=fun W h=>h.was σ
 have r5:∀W,aa [] (w.alloc (.cells #[.int .i64 k,.int .u64 s] 129)) W→W.cell? ⟨w.heap.size,1,none⟩=some (.int .u64 s):=fun W h=>h.was σ
 have g1:∀W,aa [] (w.alloc (.cells #[.int .i64 k,.int .u64 s] 129)) W→W.frozen? ⟨ca,i*3+1,none⟩=false:=fun W hW=>by rw [(hu0.trans hW).frozen hlt σ];exact f1
 have g2:∀W,aa [] (w.alloc (.cells #[.int .i64 k,.int .u64 s] 129)) W→W.frozen? ⟨ca,i*3+2,none⟩=false:=fun W hW=>by rw [(hu0.trans hW).frozen hlt σ];exact f2
 clear h hl ee c1 d1 d2 f1 f2 e hx2
 go_enter Tryz.func147,Tryz.ntmps147
 go_wp2
 go_region_held3 (aa [] (w.alloc (.cells #[.int .i64 k,.int .u64 s] 129))) (repeat (first|assumption|exact aa.refl _ _|refine aa.drew ?_|refine aa.alloc ?_ _|(apply aa.trans;rotate_left;assumption)))
  (first
   | (go_at_call 149;(with_reducible refine (k3 _ β).mono ?_);rintro e w9 ⟨rfl,hw9⟩;rw [hw9];clear hw9 w9)
   | (go_at_call 158;(with_reducible refine (kl _).mono ?_);rintro e w1 ⟨rfl,hu1⟩;(have hu2:aa [] (w.alloc (.cells #[.int .i64 k,.int .u64 s] 129)) w1:=η)))
 have q1:=r1 _ hu2;have q2:=r2 _ hu2;have q3:=r3 _ hu2;have q4:=r4 _ hu2;have q5:=r5 _ hu2;have q6:=g1 _ hu2;have q7:=g2 _ hu2;clear r1 r2 r3 r4 r5 g1 g2 k3 kl;have HQ:=χ hu2;clear hu2 hu0 hu1;go_wp2
 go_region
 go_wp2;go_ret;exact ⟨rfl,((R3.out w1 HQ.out).1).aj ((aa.refl _ _).drew),(R3.out w1 HQ.out).2.drew⟩
def bC (st k:Nat):Nat:=min (st+k) 4611686018427387904
theorem dW {st:Nat} (h:st≤4611686018427387904):bC st 0=st:=by unfold bC;omega
theorem gz (st a b:Nat):bC (bC st a) b=bC st (a+b):=by unfold bC;omega
theorem DX (p:Addr) (s:Nat) (w:World) (h1:s≤4611686018427387904) (hc:w.cell? p=some (.int .i64 (s:Int))) (hf:w.frozen? p=false) :
  Calls Tryz.prog 182 #[.pointer (some p),.int .i64 1] w fun e w'=>e=.returned (.tuple #[])∧w'=w.setCell p (.int .i64 (bC s 1:Nat)):=by
 by_cases h:s=4611686018427387904
 ·have e:bC s 1=4611686018427387904:=by unfold bC;omega
  rw [e];have h':4611686018427387904-(s:Int)<1:=ω;clear e h
  go_enter Tryz.func182,Tryz.ntmps182
  go_wp2;go_end0;exact ⟨rfl,rfl⟩
 ·have e:((bC s 1:Nat):Int)=(s:Int)+1:=by unfold bC;omega
  rw [e];have h':¬4611686018427387904-(s:Int)<1:=ω;clear e h
  go_enter Tryz.func182,Tryz.ntmps182
  go_wp2;go_end0;exact ⟨rfl,rfl⟩
theorem CM.count {w:World} {c ca nm mb g cap:Nat} {l:List Int} {rt dp:Nat→Nat} {raw:Nat→Cl} {A:NS} {st:Nat} (h:CM w c ca nm mb g cap l rt dp raw A st) (k:Nat):CM (w.setCell ⟨c,0,none⟩ (.int .i64 (bC st k:Nat))) c ca nm mb g cap l rt dp raw A (bC st k):=by
 have hu:aa [c] w (w.setCell ⟨c,0,none⟩ (.int .i64 (bC st k:Nat))):=β;have s:=h.sep;refine ⟨(h.head.set 0 _).ext (fun j hj=>?_),h.row.upd hu ι,h.NC.upd hu ι ι,h.many.upd hu ι,h.Lx,h.ok,by unfold bC;omega,h.rel,h.hlen,h.has,s⟩
 rcases (ω:j=0∨j=1∨j=2∨j=3) with rfl|rfl|rfl|rfl<;>simp
theorem Ko (A:NS) (a b:Nat):(decide (yl (A.c a).k (A.c a).s (A.c b).k (A.c b).s<0) || (decide (yl (A.c a).k (A.c a).s (A.c b).k (A.c b).s=0) && decide (a<b)))=decide (bH A a b):=by
 rw [Bool.eq_iff_iff,decide_eq_true_iff];simp only [Bool.or_eq_true,Bool.and_eq_true,decide_eq_true_eq];unfold yl sV bH
 by_cases h:(A.c a).k=(A.c b).k
 ·rw [if_pos h]
  by_cases h1:(A.c a).s<(A.c b).s
  ·rw [if_pos h1];omega
  ·rw [if_neg h1];split<;>omega
 ·rw [if_neg h]
  by_cases h1:(A.c a).k<(A.c b).k
  ·rw [if_pos h1];omega
  ·rw [if_neg h1];split<;>omega
theorem dC {w:World} {c st:Nat} {F:List Nat} {A:NS} (h:az w c F A st) (a b:Nat) (ha:bD A a=true) (hb:bD A b=true) :
  Calls Tryz.prog 174 #[.pointer (some ⟨c,0,none⟩),.int .i64 (a:Int),.int .i64 (b:Int)] w fun e w'=>e=.returned (.bool (decide (bH A a b)))∧az w' c F A (bC st 1)∧aa [c] w w':=by
 have k1:=nQ h a;have k2:=nQ h b;rw [ha] at k1;rw [hb] at k2;obtain ⟨ha1,ha2⟩:=(af _ _).1 ha;obtain ⟨hb1,hb2⟩:=(af _ _).1 hb;have hA:=h.ok.c1;obtain ⟨ca,nm,mb,g,cap,l,rt,dp,raw,h,rfl⟩:=h;have e1:A.c a=⟨rt (raw a).i.toNat,(raw a).k,(raw a).s⟩:=by
  rcases h.rel a ha1 with ⟨h1,h2⟩|h3
  ·rw [h2] at ha2;exact absurd ha2 δ
  ·exact h3.2.2
 have e2:A.c b=⟨rt (raw b).i.toNat,(raw b).k,(raw b).s⟩:=by
  rcases h.rel b hb1 with ⟨h1,h2⟩|h3
  ·rw [h2] at hb2;exact absurd hb2 δ
  ·exact h3.2.2
 have hres:=Ko A a b;rw [e1,e2] at hres;simp only at hres;have c0:=h.c0;have c1:=h.c1;have f0:=h.head.free 0;have d1:=h.row.cellAt (a*3+1) ω (vM raw a);have d2:=h.row.cellAt (a*3+2) ω (vG raw a);have d3:=h.row.cellAt (b*3+1) ω (vM raw b);have d4:=h.row.cellAt (b*3+2) ω (vG raw b);have s:=h.sep;have hst:=h.mE;have kc:=DX ⟨c,0,none⟩ st w hst c0 f0;have kk:=fun W=>uU (raw a).k (raw a).s (raw b).k (raw b).s W
 generalize hz:yl (raw a).k (raw a).s (raw b).k (raw b).s=z at *
 generalize (raw a).k=ka at *
 generalize (raw a).s=sa at *
 generalize (raw b).k=kb at *
 generalize (raw b).s=sb at *
 have hcaw:=h.row.lt;have hcw:=h.head.lt;have H1:=χ (h.count 1);have HR:=χ hres;generalize hn:bC st 1=st1 at *
 have u0:aa [c] w (w.setCell ⟨c,0,none⟩ (.int .i64 (st1:Int))):=β;have r1:∀W,aa [] (w.setCell ⟨c,0,none⟩ (.int .i64 (st1:Int))) W→W.cell? ⟨c,1,none⟩=some (.slice (some ⟨ca,0,none⟩) A.cs.length A.cs.length):=fun W hW=>hW.was H1.out.c1
 have r2:∀W,aa [] (w.setCell ⟨c,0,none⟩ (.int .i64 (st1:Int))) W→W.cell? ⟨ca,a*3+1,none⟩=some (.int .i64 ka):=fun W hW=>hW.was ((u0.cell hcaw ι).trans d1)
 have r3:∀W,aa [] (w.setCell ⟨c,0,none⟩ (.int .i64 (st1:Int))) W→W.cell? ⟨ca,a*3+2,none⟩=some (.int .u64 sa):=fun W hW=>hW.was ((u0.cell hcaw ι).trans d2)
 have r4:∀W,aa [] (w.setCell ⟨c,0,none⟩ (.int .i64 (st1:Int))) W→W.cell? ⟨ca,b*3+1,none⟩=some (.int .i64 kb):=fun W hW=>hW.was ((u0.cell hcaw ι).trans d3)
 have r5:∀W,aa [] (w.setCell ⟨c,0,none⟩ (.int .i64 (st1:Int))) W→W.cell? ⟨ca,b*3+2,none⟩=some (.int .u64 sb):=fun W hW=>hW.was ((u0.cell hcaw ι).trans d4)
 clear h ha hb ha2 hb2 e1 e2 hres d1 d2 d3 d4 hz hn u0
 by_cases hz1:z<0
 ·have hd:decide (bH A a b)=true:=by rw [←HR.out,decide_eq_true hz1];rfl
  rw [hd];clear hd
  go_enter Tryz.func174,Tryz.ntmps174
  go_wp2_with (first|(go_at_call 149;(with_reducible refine (k1).mono ?_);rintro e w9 ⟨rfl,hw9⟩;rw [hw9];clear hw9 w9)|(go_at_call 149;(with_reducible refine (k2).mono ?_);rintro e w9 ⟨rfl,hw9⟩;rw [hw9];clear hw9 w9)|(go_at_call 182;(with_reducible refine (kc).mono ?_);rintro e w9 ⟨rfl,hw9⟩;rw [hw9];clear hw9 w9))
  go_region_held3 (aa [] (w.setCell ⟨c,0,none⟩ (.int .i64 (st1:Int)))) (repeat (first|assumption|exact aa.refl _ _|refine aa.drew ?_|refine aa.alloc ?_ _|(apply aa.trans;rotate_left;assumption)))
   ((go_at_call 164;(with_reducible refine (kk _).mono ?_);rintro e w1 ⟨rfl,hu1⟩;(have hu2:aa [] (w.setCell ⟨c,0,none⟩ (.int .i64 (st1:Int))) w1:=η)))
  go_wp2;go_ret;exact ⟨rfl,⟨ca,nm,mb,g,cap,l,rt,dp,raw,H1.out.upd hu2 σ,rfl⟩,((aa.refl [c] w).setCell (Or.inl σ) _).then hu2⟩
 ·by_cases hz2:z=0
  ·have hd:decide (bH A a b)=decide ((a:Int)<(b:Int)):=by rw [←HR.out,decide_eq_false hz1,decide_eq_true hz2];simp
   rw [hd];subst hz2;clear hd
   go_enter Tryz.func174,Tryz.ntmps174
   go_wp2_with (first|(go_at_call 149;(with_reducible refine (k1).mono ?_);rintro e w9 ⟨rfl,hw9⟩;rw [hw9];clear hw9 w9)|(go_at_call 149;(with_reducible refine (k2).mono ?_);rintro e w9 ⟨rfl,hw9⟩;rw [hw9];clear hw9 w9)|(go_at_call 182;(with_reducible refine (kc).mono ?_);rintro e w9 ⟨rfl,hw9⟩;rw [hw9];clear hw9 w9))
   go_region_held3 (aa [] (w.setCell ⟨c,0,none⟩ (.int .i64 (st1:Int)))) (repeat (first|assumption|exact aa.refl _ _|refine aa.drew ?_|refine aa.alloc ?_ _|(apply aa.trans;rotate_left;assumption)))
    ((go_at_call 164;(with_reducible refine (kk _).mono ?_);rintro e w1 ⟨rfl,hu1⟩;(have hu2:aa [] (w.setCell ⟨c,0,none⟩ (.int .i64 (st1:Int))) w1:=η)))
   go_wp2;go_ret;exact ⟨aV σ,⟨ca,nm,mb,g,cap,l,rt,dp,raw,H1.out.upd hu2 σ,rfl⟩,((aa.refl [c] w).setCell (Or.inl σ) _).then hu2⟩
  ·have hz3:(z == 0)=false:=by simpa using hz2
   have hd:decide (bH A a b)=false:=by rw [←HR.out,decide_eq_false hz1,decide_eq_false hz2];rfl
   rw [hd];clear hd hz2
   go_enter Tryz.func174,Tryz.ntmps174
   go_wp2_with (first|(go_at_call 149;(with_reducible refine (k1).mono ?_);rintro e w9 ⟨rfl,hw9⟩;rw [hw9];clear hw9 w9)|(go_at_call 149;(with_reducible refine (k2).mono ?_);rintro e w9 ⟨rfl,hw9⟩;rw [hw9];clear hw9 w9)|(go_at_call 182;(with_reducible refine (kc).mono ?_);rintro e w9 ⟨rfl,hw9⟩;rw [hw9];clear hw9 w9))
   go_region_held3 (aa [] (w.setCell ⟨c,0,none⟩ (.int .i64 (st1:Int)))) (repeat (first|assumption|exact aa.refl _ _|refine aa.drew ?_|refine aa.alloc ?_ _|(apply aa.trans;rotate_left;assumption)))
    ((go_at_call 164;(with_reducible refine (kk _).mono ?_);rintro e w1 ⟨rfl,hu1⟩;(have hu2:aa [] (w.setCell ⟨c,0,none⟩ (.int .i64 (st1:Int))) w1:=η)))
   go_wp2;go_ret;exact ⟨aV ζ,⟨ca,nm,mb,g,cap,l,rt,dp,raw,H1.out.upd hu2 σ,rfl⟩,((aa.refl [c] w).setCell (Or.inl σ) _).then hu2⟩
theorem oH.make {l:List Int} {rt dp:Nat→Nat} (h:oH l rt dp) (hl:l.length≤65536):oH (l++[(l.length:Int)]) (fun i=>if i=l.length then i else rt i) dp:=by
 have h1:=h.len;have g1:∀i,i<l.length→(l++[(l.length:Int)]).getD i 0=l.getD i 0:=fun i hi=>by simp [φ,List.getElem?_append_left hi]
 have g2:(l++[(l.length:Int)]).getD l.length 0=l.length:=by simp [φ]
 refine ⟨σ,ζ,fun i a b=>?_,fun i a b=>?_,fun i a b=>?_,fun i a b=>?_⟩
 all_goals
  simp only [List.length_append,List.length_cons,List.length_nil] at b ⊢;rcases (ω:i<l.length∨i=l.length) with hi|hi
 ·rw [g1 i hi];have:=h.tH i a hi;omega
 ·rw [hi,g2];omega
 ·have:=h.tH i a hi;rw [g1 i hi,if_neg (show ¬ (l.getD i 0).toNat=l.length by omega),if_neg ω];exact h.up i a hi
 ·rw [hi,g2];simp
 ·rw [g1 i hi,if_neg (show ¬i=l.length by omega)];exact h.top i a hi
 ·intro _;rw [if_pos hi]
 ·rw [g1 i hi];exact h.low i a hi
 ·rw [hi,g2];intro hn;exact absurd rfl hn
theorem fT {w:World} {c st:Nat} {F:List Nat} {A:NS} (h:az w c F A st) :
  Calls Tryz.prog 156 #[.pointer (some ⟨c,0,none⟩)] w fun e w'=>e=.returned (.int .i64 (bS A))∧Goes F w w' (fun F'=>az w' c F' (aG A) st):=by
 have hC:=h;obtain ⟨ca,nm,mb,g,cap,l,rt,dp,raw,h,rfl⟩:=h;have c2:=h.c2;have hlen:=h.hlen;have hl1:=h.Lx.len;have hl2:=h.Lx.Jq;have hs:=h.sep;unfold bS aG
 by_cases hfull:l.length=65537
 ·have k:=LA nm g cap l w h.NC hfull;rw [if_pos ω,if_pos ω];have HC:=χ hC;clear h hC hlen hfull
  go_enter Tryz.func156,Tryz.ntmps156
  go_wp2_with (go_at_call 163;(with_reducible refine (k).mono ?_);rintro e w1 ⟨rfl,hu⟩)
  go_ret;exact ⟨rfl,Goes.stay (HC.out.aj hu) (hu.mono σ)⟩
 ·have k:=Ic nm g cap l w h.NC hl1 ω;rw [if_neg ω,if_neg ω,hlen];have H:=χ h;have HL:=χ hlen;clear h hC hlen
  go_enter Tryz.func156,Tryz.ntmps156
  go_wp2_with (go_at_call 163;(with_reducible refine (k).mono ?_);rintro e w1 ⟨g',cap',rfl,hN,hu,hg⟩)
  go_ret;have h:=H.out;have hc:=h.head.lt;have hca:=h.row.lt;have hmb:=h.many.lt;have hsep:c≠g'∧ca≠g'∧mb≠g':=by rcases hg with rfl|hg;exact ⟨ω,ω,ω⟩;exact ⟨ω,ω,ω⟩
  have hok:(NS.mk (A.hs++[true]) A.cs).Ok:=by
   have:=sW h.ok;unfold aG at this;rwa [if_neg (by have:=HL.out;omega)] at this
  refine ⟨rfl,[c,ca,nm,mb,g'],⟨ca,nm,mb,g',cap',l++[(l.length:Int)],fun i=>if i=l.length then i else rt i,dp,raw,?_,rfl⟩,hu.mono ι,fun x hx=>by simp at hx ⊢;omega⟩
  refine ⟨h.head.upd hu ι,h.row.upd hu ι,hN,h.many.upd hu ι,h.Lx.make ω,hok,h.mE,fun x hx=>?_,by simp [HL.out],fun i h1 h2=>?_,ω⟩
  ·rcases h.rel x hx with h'|⟨h3,h4,h5⟩
   ·exact Or.inl h'
   ·refine Or.inr ⟨h3,ζ,?_⟩;rw [if_neg ω];exact h5
  ·simp only [List.length_append,List.length_cons,List.length_nil] at h2;have hLo:=HL.out;rcases (ω:i<l.length∨i=l.length) with hi|hi
   ·have:=h.has i h1 hi;simp only [φ] at this ⊢;rw [List.getElem?_append_left ω,List.getElem?_append_left hi];exact this
   ·subst hi;simp only [φ];rw [←hLo,List.getElem?_append_right (Nat.le_refl _),List.getElem?_append_right ω];simp [hLo]
theorem ED (n j:Nat) (hj:j<n*3):(madeCells #[Value.int .i64 0,.int .i64 0,.int .u64 0] (n*3)).toList.getD j undef=if j % 3=0 then .int .i64 0 else if j % 3=1 then .int .i64 0 else .int .u64 0:=by
 rw [φ,List.getElem?_eq_getElem (by simp [size_madeCells];omega)]
 simp only [Option.getD_some,madeCells,Array.getElem_toList,Array.getElem_map,Array.getElem_range];rcases (ω:j % 3=0∨j % 3=1∨j % 3=2) with e|e|e<;>simp [e]
theorem Kv:(Tryz.prog.info? 281).map (fun i=>(i.zero,i.size,i.bytes))=some (some (.agg #[.int .i64 0,.int .i64 0,.int .u64 0]),3,24):=by kernel_rfl
theorem kY (n:Nat) (w:World) (h:n≤65536) :
  Calls Tryz.prog 107 #[.int .i64 (n:Int)] w fun e w'=>∃c F,e=.returned (.tuple #[.pointer (some ⟨c,0,none⟩),.int .i64 0])∧az w' c F (NS.new n) 0∧aa [] w w'∧∀x,x∈F→w.heap.size≤x:=by
 have hmm:=@run_makeMap Tryz.prog
 go_enter Tryz.func107,Tryz.ntmps107
 go_wp2_with (first
  | ((go_at_call 114;(with_reducible refine (Ku _).mono ?_));rintro e w1 ⟨nm,g,rfl,hN,hu1,hb1,hb2⟩)
  | (at_make;refine wpList_make_row rfl _ 241 rfl 281 (.agg #[.int .i64 0,.int .i64 0,.int .u64 0]) 3 24 Tryz.underlying241 Kv n rfl ω μ ?_;intro w2 hr2 hu2))
 go_ret2;have hu3:aa [] w2 ((w2.alloc (.map #[] 0)).alloc (.cells #[.int .i64 0,.slice (some ⟨w1.heap.size,0,none⟩) n n,.pointer (some ⟨nm,0,none⟩),.map (some w2.heap.size)] 245)):=β;have hh:=dm (w2.alloc (.map #[] 0)) [.int .i64 0,.slice (some ⟨w1.heap.size,0,none⟩) n n,.pointer (some ⟨nm,0,none⟩),.map (some w2.heap.size)] 245;rw [World.size_alloc] at hh;have l1:=hN.lt;have l2:=hu2.size;have l3:=hr2.lt;have l4:=hu1.size;have hcs:(NS.new n).cs.length=n:=by simp [NS.new]
 refine ⟨w2.heap.size+1,[w2.heap.size+1,w1.heap.size,nm,w2.heap.size,g],rfl,⟨w1.heap.size,nm,w2.heap.size,g,1,[0],fun i=>i,fun _=>0,fun _=>Cl.z,?_,rfl⟩,(hu1.trans hu2).trans hu3,fun x hx=>by simp at hx;omega⟩
 refine ⟨?_,?_,(hN.upd hu2 σ σ).upd hu3 σ σ,((dZ.made w2).upd ((aa.refl [] _).alloc _) σ).ext (fun k=>?_),?_,NS.pM n h,ω,fun x _=>Or.inl ⟨rfl,NS.uZ n x⟩,rfl,fun i h1 h2=>by simp at h2;omega,ω⟩
 ·rw [hcs];exact hh
 ·rw [hcs];refine (hr2.upd hu3 σ).ext (fun j hj=>?_)
  have hz:(Value.agg #[.int .i64 0,.int .i64 0,.int .u64 0]).cells=#[.int .i64 0,.int .i64 0,.int .u64 0]:=rfl;rw [hz];unfold iK Cl.z;have:=ED n j hj;rw [this]
 ·unfold gY;have:cu (NS.new n) k=0:=by
   rcases Nat.eq_zero_or_pos (cu (NS.new n) k) with h'|h'
   ·exact h'
   ·obtain ⟨x,_,h1,h2⟩:=dG.1 h';rw [NS.uZ] at h1;have:(0:Int)=k:=h1;omega
  rw [this];rfl
 ·exact ⟨σ,σ,fun i h1 h2=>by simp at h2;omega,fun i h1 h2=>by simp at h2;omega,fun i h1 h2=>by simp at h2;omega,fun i h1 h2=>by simp at h2;omega⟩
theorem j3 {A:NS} {h:Int} {m:Nat} (hm:bL A h=some m):0<h∧m<A.cs.length∧(A.c m).i=h∧bD A m=true:=by
 by_cases hh:0<h
 ·have h1:=(dM hh).1 hm;exact ⟨hh,h1.1,h1.2.1,(af _ _).2 ⟨h1.1,by rw [h1.2.1];exact hh⟩⟩
 ·rw [mX hh] at hm;cases hm
theorem fH {A:NS} {h:Int}:bL A h=none↔cu A h=0:=by
 by_cases hh:0<h
 ·exact iB hh
 ·rw [mX hh,JS hh];simp
def lenOf:Value→Nat | .slice _ l _=>l|_=>0
def bz (l:List Nat):List Int:=l.map (fun (x:Nat)=>(x:Int))
def Enters (f:FuncId):Prop:=∀ (args:Array Value) (W:World),(callFunc f args).run Tryz.prog W=.ok (.enter f args) W
def qM (A:NS) (h:Int):NS:=match bL A h with|some m=>aL A m|none=>A
def Hf (ty:TypeId) (p:Nat) (name:String) (w:World) (mk:Value→Array Value) (Q:World→Ending→World→Prop):Prop:=
 ∃f v,Enters f∧∀W,aa [] w W→(method 429 ty (.pointer (some ⟨p,0,none⟩)) name).run Tryz.prog W=.ok (f,v) W∧Calls Tryz.prog f (mk v) W (Q W)
theorem Hf.now {ty:TypeId} {p:Nat} {name:String} {w:World} {mk:Value→Array Value} {Q:World→Ending→World→Prop} (h:Hf ty p name w mk Q) :
  ∃f v,Enters f∧(method 429 ty (.pointer (some ⟨p,0,none⟩)) name).run Tryz.prog w=.ok (f,v) w∧Calls Tryz.prog f (mk v) w (Q w):=by
 obtain ⟨f,v,he,h⟩:=h;exact ⟨f,v,he,h w (aa.refl _ _)⟩
theorem nJ {A:NS} {x:Int} (hB:bD A x=true):∃y:Nat,x=y:=⟨x.toNat,by have:=(vU _ _).1 hB;omega⟩
theorem pK {A:NS} {x k s:Int} (hB:iy A x k s=true):bD A x=true:=by
 unfold iy at hB;simp only [Bool.and_eq_true] at hB;exact hB.1
theorem aN {ty:TypeId} {p:Nat} {name:String} {w:World} {mk:Value→Array Value} {Q:World→Ending→World→Prop} (f:FuncId) (he:Enters f) (hm:∀W,(method 429 ty (.pointer (some ⟨p,0,none⟩)) name).run Tryz.prog W=.ok (f,.pointer (some ⟨p,0,none⟩)) W)
  (hc:∀W,aa [] w W→Calls Tryz.prog f (mk (.pointer (some ⟨p,0,none⟩))) W (Q W)):Hf ty p name w mk Q:=⟨f,_,he,fun W hW=>⟨hm W,hc W hW⟩⟩
theorem fK {ty:TypeId} {p c:Nat} {name:String} {w:World} {mk:Value→Array Value} {Q:World→Ending→World→Prop} (f:FuncId) (he:Enters f) (h0:w.cell? ⟨p,0,none⟩=some (.pointer (some ⟨c,0,none⟩)))
  (hm:∀W,W.cell? ⟨p,0,none⟩=some (.pointer (some ⟨c,0,none⟩))→(method 429 ty (.pointer (some ⟨p,0,none⟩)) name).run Tryz.prog W=.ok (f,.pointer (some ⟨c,0,none⟩)) W)
  (hc:∀W,aa [] w W→Calls Tryz.prog f (mk (.pointer (some ⟨c,0,none⟩))) W (Q W)):Hf ty p name w mk Q:=⟨f,_,he,fun W hW=>⟨hm W (hW.was h0),hc W hW⟩⟩
structure fJ where
 ty:TypeId
 at_:World→Nat→List Nat→NS→Prop
 upd:∀ {w w':World} {p:Nat} {F S:List Nat} {A:NS},at_ w p F A→aa S w w'→(∀x,x∈S→x∉F)→at_ w' p F A
 lt:∀ {w:World} {p:Nat} {F:List Nat} {A:NS},at_ w p F A→∀x,x∈F→x<w.heap.size
 ok:∀ {w:World} {p:Nat} {F:List Nat} {A:NS},at_ w p F A→A.Ok
 make:∀ {w:World} {p:Nat} {F:List Nat} {A:NS},at_ w p F A→Hf ty p "Make" w (fun v=>#[v]) fun w e w'=>e=.returned (.int .i64 (bS A))∧Goes F w w' (fun F'=>at_ w' p F' (aG A))
 insert:∀ {w:World} {p:Nat} {F:List Nat} {A:NS} (h x:Nat) (k s:Int),(-9223372036854775808≤k∧k≤9223372036854775807∧0≤s∧s≤18446744073709551615)→jy A h x=true→at_ w p F A→Hf ty p "Insert" w (fun v=>#[v,.int .i64 (h:Int),.int .i64 (x:Int),.agg #[.int .i64 k,.int .u64 s]]) fun w e w'=>e=.returned (.bool true)∧Goes F w w' (fun F'=>at_ w' p F' (aB A h x k s))
 min:∀ {w:World} {p:Nat} {F:List Nat} {A:NS} (h:Nat),aY A h=true→at_ w p F A→Hf ty p "Min" w (fun v=>#[v,.int .i64 (h:Int)]) fun w e w'=>e=.returned (.tuple #[.int .i64 (oD (bL A h)),.bool (bL A h).isSome])∧Goes F w w' (fun F'=>at_ w' p F' A)
 extract:∀ {w:World} {p:Nat} {F:List Nat} {A:NS} (h m:Nat),bL A h=some m→at_ w p F A→Hf ty p "Extract" w (fun v=>#[v,.int .i64 (h:Int)]) fun w e w'=>e=.returned (.tuple #[.int .i64 (m:Int),.bool true])∧Goes F w w' (fun F'=>at_ w' p F' (aL A m))
 lQ:∀ {w:World} {p:Nat} {F:List Nat} {A:NS} (x:Nat) (k s:Int),(-9223372036854775808≤k∧k≤9223372036854775807∧0≤s∧s≤18446744073709551615)→iy A x k s=true→at_ w p F A→Hf ty p "Decrease" w (fun v=>#[v,.int .i64 (x:Int),.agg #[.int .i64 k,.int .u64 s]]) fun w e w'=>e=.returned (.bool true)∧Goes F w w' (fun F'=>at_ w' p F' (ak A x k s))
 has:∀ {w:World} {p:Nat} {F:List Nat} {A:NS} (x:Int),at_ w p F A→Hf ty p "Has" w (fun v=>#[v,.int .i64 x]) fun w e w'=>e=.returned (.bool (aY A x))∧w'=w
 entry:∀ {w:World} {p:Nat} {F:List Nat} {A:NS} (x:Int),at_ w p F A→Hf ty p "Entry" w (fun v=>#[v,.int .i64 x]) fun w e w'=>e=.returned (.tuple #[.agg #[.int .i64 (if bD A x then (A.c x.toNat).k else 0),.int .u64 (if bD A x then (A.c x.toNat).s else 0)],.bool (bD A x)])∧aa [] w w'
end Go.Proofs.YtklibcncmbofpaaGreat
namespace Go.Proofs.YtklibcncmbofpaaGreat
open Go Go.RowKit Go.Maps
theorem Pd:laidOutB Tryz.prog=true:=by kernel_rfl
theorem zT:Keyed Tryz.prog 85:=Keyed.of_law (Go.deep_law_laid Pd (m:=3) ω (of_decide_eq_true (by kernel_rfl)) (by kernel_rfl) (by rw [Tryz.underlying85]))
def hV (x g:Int):Value:=.agg #[.int .i64 x,.int .u32 g]
theorem Ph {x g:Int} (hx:-9223372036854775808≤x∧x≤9223372036854775807) (hg:0≤g∧g≤4294967295):∃l,keyOf Tryz.prog 85 (hV x g)=some l:=by
 have h1:Tryz.prog.keyType 85=true:=by kernel_rfl
 have h2:(hV x g).formed Tryz.prog 85=true:=by
  unfold hV Value.formed;simp only [Tryz.underlying85];rw [show Tryz.prog.cellsOf 85=2 by kernel_rfl]
  rfl
 have c0:Tryz.prog.cellsOf 3=1:=by kernel_rfl
 have c1:Tryz.prog.cellsOf 83=1:=by kernel_rfl
 have c2:Tryz.prog.cellsOf 85=2:=by kernel_rfl
 have w0:(Lit.int .i64 x).wf=true:=WalkArith.wf_i64 hx;have w1:(Lit.int .u32 g).wf=true:=by simp [Lit.wf,IntKind.min,IntKind.max,IntKind.signed,IntKind.bits];omega
 have key:∀n,Tryz.prog.keyLits (n+1+1) 85 [.int .i64 x,.int .u32 g]=some [.int .i64 x,.int .u32 g]:=fun n=>by
  simp [Program.keyLits,Tryz.underlying85,Tryz.underlying3,Tryz.underlying83,c0,c1,c2,w0,w1]
 have hpos:0<Tryz.prog.types.size:=of_decide_eq_true (by kernel_rfl)
 obtain ⟨n,hn⟩:∃n,Tryz.prog.types.size+1=n+1+1:=⟨Tryz.prog.types.size-1,ω⟩
 refine ⟨.string (keyBytes [.int .i64 x,.int .u32 g]),?_⟩;unfold keyOf;rw [Tryz.underlying85];simp only [];rw [if_pos (by rw [h1,h2];rfl),hn,show (hV x g).cells.toList=[.int .i64 x,.int .u32 g] from rfl,key]
 rfl
theorem NT {x g x' g':Int} (h:hV x g=hV x' g'):x=x'∧g=g':=by
 unfold hV at h;simp only [Value.agg.injEq] at h;have h2:=congrArg Array.toList h;simp at h2;exact h2
def lg (w:World) (b c:Nat) (f:Int→Int→Option Int):Prop:=
 ∃D:DataW Unit,w.ownsMap Tryz.prog 85 (plainElem Tryz.prog 3) b c D∧∀x g z kl,f x g=some z→keyOf Tryz.prog 85 (hV x g)=some kl→∀d,D.atKey kl d=.lit (.int .i64 z)
theorem lg.upd {w w':World} {S:List Nat} {b c:Nat} {f:Int→Int→Option Int} (h:lg w b c f) (hu:aa S w w') (hn:b∉S):lg w' b c f:=by
 obtain ⟨D,h1,h3⟩:=h;have hl:=h1.lt;obtain ⟨es,clock,h1,h2⟩:=h1;exact ⟨D,⟨es,clock,(hu.block b hl hn).trans h1,h2⟩,h3⟩
theorem lg.lt {w:World} {b c:Nat} {f:Int→Int→Option Int} (h:lg w b c f):b<w.heap.size:=by
 obtain ⟨D,h1,_⟩:=h;exact h1.lt
theorem lg.made (w:World):lg (w.alloc (.map #[] 0)) w.heap.size 0 (fun _ _=>none):=
 ⟨.map [],World.ownsMap_made w _ _ _,fun x g z kl hz=>by cases hz⟩
theorem lg.look {w:World} {b c:Nat} {f:Int→Int→Option Int} (h:lg w b c f) {x g z:Int} (hz:f x g=some z) (hx:-9223372036854775808≤x∧x≤9223372036854775807) (hg:0≤g∧g≤4294967295) :
  (Instr.lookup 82 (.map (some b)) (hV x g) false).run Tryz.prog w=.ok (.int .i64 z) w:=by
 obtain ⟨D,h1,h3⟩:=h;obtain ⟨kl,hk⟩:=Ph hx hg;obtain ⟨c',hrun,hat,_⟩:=h1.lookup_int zT Tryz.underlying82 Tryz.underlying3 (A7 w) hk;rw [hrun];rw [h3 x g z kl hz hk] at hat;have:z=c':=by simpa using hat
 rw [this]
theorem lg.store {w:World} {b c:Nat} {f:Int→Int→Option Int} (h:lg w b c f) (hc:c<9223372036854775807) (x g z:Int) (hx:-9223372036854775808≤x∧x≤9223372036854775807) (hg:0≤g∧g≤4294967295) (hz:-9223372036854775808≤z∧z≤9223372036854775807) :
  ∃w',(Instr.mapUpdate 82 (.map (some b)) (hV x g) (.int .i64 z)).run Tryz.prog w=.ok () w'∧lg w' b (c+1) (fun y e=>if y=x∧e=g then some z else f y e)∧aa [b] w w':=by
 obtain ⟨D,h1,h3⟩:=h;obtain ⟨kl,hk⟩:=Ph hx hg;obtain ⟨w',hrun,ho,ht⟩:=h1.store zT Tryz.underlying82 μ hk (plainElem_int Tryz.underlying3 (a:=z) (WalkArith.wf_i64 hz));have hD:=h1.isMap;refine ⟨w',hrun,⟨_,ho,fun y e u kl2 hf hk2 d=>?_⟩,mq ht⟩
 replace hf:(if y=x∧e=g then some z else f y e)=some u:=hf
 by_cases e1:y=x∧e=g
 ·rw [if_pos e1] at hf;obtain ⟨rfl,rfl⟩:=e1;rw [hk] at hk2;cases hk2;cases hf;exact atKey_put_same hD (zT.key hk) _ _
 ·rw [if_neg e1] at hf;have hne:kl2≠kl:=fun e2=>e1 (NT (zT.inj (by rw [hk2,e2]) hk))
  rw [atKey_put_other hne];exact h3 y e u kl2 hf hk2 d
theorem MI {w:World} {o:Oper} {a:Act} {K:Act→World→Prop} {Q:Exit→Act→World→Prop} (m x v:Operand) (hop:o.op=Op.mapUpdate 82 m x v)
  (b c:Nat) (f:Int→Int→Option Int) (hm:a.eval m=.map (some b)) (h:lg w b c f) (hc:c<9223372036854775807) (k g z:Int) (hx:a.eval x=hV k g) (hv:a.eval v=.int .i64 z) (hk:-9223372036854775808≤k∧k≤9223372036854775807) (hg:0≤g∧g≤4294967295) (hz:-9223372036854775808≤z∧z≤9223372036854775807)
  (hK:∀w',lg w' b (c+1) (fun y e=>if y=k∧e=g then some z else f y e)→aa [b] w w'→K (a.put o.dst undef) w'):Oper.wp Tryz.prog o a w K Q:=by
 obtain ⟨w',hrun,r1,r2⟩:=h.store hc k g z hk hg hz;unfold Oper.wp;simp [execOp,hop,hm,hx,hv,hrun,Result.andThen];exact hK w' r1 r2
end Go.Proofs.YtklibcncmbofpaaGreat
namespace Go.Proofs.YtklibcncmbofpaaGreat
theorem BJ {a b:List Int} (h:a.length≠b.length):a≠b:=fun e=>h (by rw [e])
theorem ML {a b:List Int} (hl:a.length=b.length) (h:∀k,k<a.length→a.getD k 0=b.getD k 0):a=b:=by
 apply List.ext_getElem hl;intro i h1 h2;have:=h i h1;simpa [φ,h1,h2] using this
end Go.Proofs.YtklibcncmbofpaaGreat
