/-
  Lemmas for PathBest: Cells4, Cells5, Ord, Enters, Mth, NestB, Qn, MapH, SameW, SameSl, Fam, Cells3. Conditions: those of each lemma.
-/
import Derived.DeepKeys4
import Derived.Test.YtklibcncmbofpaaGreatB02
set_option linter.all false
set_option maxHeartbeats 8000000
set_option maxRecDepth 10000
namespace Go.Proofs.YtklibcncmbofpaaGreat
open Go Go.RowKit
theorem KJ {A A':NS} (h:∀q,dZ A' q=dZ A q):jF A'=jF A:=by
 funext q;unfold jF;rw [h q]
theorem iP {w:World} {c st:Nat} {F:List Nat} {A:NS} (h:aG w c F A st) (i:Nat) (k s:Int) (hk:-9223372036854775808<=k/\k<=9223372036854775807/\0<=s/\s<=18446744073709551615) (hB:jo A i k s=true) :
  Calls Tryz.prog 147 #[.pointer (some ⟨c,0,none⟩),.int .i64 (i:Int),.agg #[.int .i64 k,.int .u64 s]] w fun e w'=>e=.returned (.bool true)/\aG w' c F (aB A i k s) st/\aa F w w':=by
 have hu0:aa [] w (w.alloc (.cells #[.int .i64 k,.int .u64 s] 129)):=(aa.refl _ _).alloc _;have k3:=fun W (hW:aa [] (w.alloc (.cells #[.int .i64 k,.int .u64 s] 129)) W)=>qJ (h.aA (hu0.trans hW)) i;have hB0:=χ hB;unfold jo at hB;simp only [Bool.and_eq_true,Bool.not_eq_true',π] at hB;obtain ⟨e,hl⟩:=hB;rw [e] at k3;obtain ⟨hi,hx2⟩:=(ai _ _).1 e;obtain ⟨ca,nm,mb,g,cap,l,rt,dp,raw,h,rfl⟩:=h;have ee:1<=(raw i).i/\(raw i).i<l.length/\A.c i=⟨rt (raw i).i.toNat,(raw i).k,(raw i).s⟩:=by
  rcases h.rel i hi with ⟨h1,h2⟩|h3
  ·rw [h2] at hx2;exact absurd hx2 δ
  ·exact h3
 rw [ee.2.2] at hl;have c1:=h.c1;have d1:=h.row.cellAt (i*3+1) ω (yR raw i);have d2:=h.row.cellAt (i*3+2) ω (yT raw i);have f1:=h.row.free (i*3+1);have f2:=h.row.free (i*3+2);have hA:=h.ok.c1;have kl:=fun W=>NM (raw i).k (raw i).s k s W;rw [hl] at kl;have R3:Hid (∀w2:World,aa [] (w.alloc (.cells #[.int .i64 k,.int .u64 s] 129)) w2->aG ((w2.setCell ⟨ca,i*3+1,none⟩ (.int .i64 k)).setCell ⟨ca,i*3+2,none⟩ (.int .u64 s)) c [c,ca,nm,mb,g] (aB A i k s) st/\aa [c,ca,nm,mb,g] w ((w2.setCell ⟨ca,i*3+1,none⟩ (.int .i64 k)).setCell ⟨ca,i*3+2,none⟩ (.int .u64 s))):=fun w2 hw2=>by
  have hs:=h.sep;have hm:=h.upd (hu0.trans hw2) σ;have iC:aa [ca,mb] w2 ((w2.setCell ⟨ca,i*3+1,none⟩ (.int .i64 k)).setCell ⟨ca,i*3+2,none⟩ (.int .u64 s)):=β;have cu:aa [ca] w2 ((w2.setCell ⟨ca,i*3+1,none⟩ (.int .i64 k)).setCell ⟨ca,i*3+2,none⟩ (.int .u64 s)):=β;have e2:aB A (i:Int) k s=jh A i ⟨(A.c i).i,k,s⟩:=by unfold aB;rw [if_pos hB0.out];simp
  refine ⟨⟨ca,nm,mb,g,cap,l,rt,dp,fun y=>if y=i then ⟨(raw i).i,k,s⟩ else raw y,?_,rfl⟩,((hu0.trans hw2).mono σ).trans (iC.mono ι)⟩;rw [e2];refine hm.turn iC (row2 hm.row k s) ?_ (by rw [←e2];exact Lv h.ok _ _ _ hk) (fO _ _ _) rfl (zM h.rel hi (Or.inr ⟨ee.1,ee.2.1,by rw [ee.2.2]⟩));rw [KJ (A:=A) (A':=jh A i ⟨(A.c i).i,k,s⟩) (fun q=>by have:=nL A i ⟨(A.c i).i,k,s⟩ q hi;simp only at this;omega)];exact hm.many.upd cu ι
 generalize (raw i).k=k0 at *;generalize (raw i).s=s0 at *;have hlt:ca<w.heap.size:=h.row.lt;have r1:∀W,aa [] (w.alloc (.cells #[.int .i64 k,.int .u64 s] 129)) W->W.cell? ⟨c,1,none⟩=some (.slice (some ⟨ca,0,none⟩) A.cs.length A.cs.length):=fun W hW=>(hu0.trans hW).was c1;have r2:∀W,aa [] (w.alloc (.cells #[.int .i64 k,.int .u64 s] 129)) W->W.cell? ⟨ca,i*3+1,none⟩=some (.int .i64 k0):=fun W hW=>(hu0.trans hW).was d1;have r3:∀W,aa [] (w.alloc (.cells #[.int .i64 k,.int .u64 s] 129)) W->W.cell? ⟨ca,i*3+2,none⟩=some (.int .u64 s0):=fun W hW=>(hu0.trans hW).was d2
 have r4:∀W,aa [] (w.alloc (.cells #[.int .i64 k,.int .u64 s] 129)) W->W.cell? ⟨w.heap.size,0,none⟩=some (.int .i64 k):=fun W h=>h.was σ;have r5:∀W,aa [] (w.alloc (.cells #[.int .i64 k,.int .u64 s] 129)) W->W.cell? ⟨w.heap.size,1,none⟩=some (.int .u64 s):=fun W h=>h.was σ;have g1:∀W,aa [] (w.alloc (.cells #[.int .i64 k,.int .u64 s] 129)) W->W.frozen? ⟨ca,i*3+1,none⟩=false:=fun W hW=>by rw [(hu0.trans hW).frozen hlt σ];exact f1
 have g2:∀W,aa [] (w.alloc (.cells #[.int .i64 k,.int .u64 s] 129)) W->W.frozen? ⟨ca,i*3+2,none⟩=false:=fun W hW=>by rw [(hu0.trans hW).frozen hlt σ];exact f2
 clear h hl ee c1 d1 d2 f1 f2 e hx2
 go_enter Tryz.func147,Tryz.ntmps147
 go_wp2
 go_region_held3 (aa [] (w.alloc (.cells #[.int .i64 k,.int .u64 s] 129))) (exact η)
  (first
   | (go_at_call 149;(with_reducible refine (k3 _ β).mono ?_);rintro e w9 ⟨rfl,aM⟩;rw [aM];clear aM w9)
   | (go_at_call 158;(with_reducible refine (kl _).mono ?_);rintro e w1 ⟨rfl,hu1⟩;(have hu2:aa [] (w.alloc (.cells #[.int .i64 k,.int .u64 s] 129)) w1:=η)))
 have q1:=r1 _ hu2;have q2:=r2 _ hu2;have q3:=r3 _ hu2;have q4:=r4 _ hu2;have q5:=r5 _ hu2;have q6:=g1 _ hu2;have q7:=g2 _ hu2;clear r1 r2 r3 r4 r5 g1 g2 k3 kl;have HQ:=χ hu2;clear hu2 hu0 hu1;go_wp2
 go_region
 go_wp2;go_ret;exact ⟨rfl,((R3.out w1 HQ.out).1).aA ((aa.refl _ _).drew),(R3.out w1 HQ.out).2.drew⟩
def bZ (st k:Nat):Nat:=min (st+k) 4611686018427387904
theorem gL {st:Nat} (h:st<=4611686018427387904):bZ st 0=st:=by unfold bZ;omega
theorem jg (st a b:Nat):bZ (bZ st a) b=bZ st (a+b):=by unfold bZ;omega
theorem Ju (p:Addr) (s:Nat) (w:World) (h1:s<=4611686018427387904) (hc:w.cell? p=some (.int .i64 (s:Int))) (hf:w.frozen? p=false) :
  Calls Tryz.prog 182 #[.pointer (some p),.int .i64 1] w fun e w'=>e=.returned (.tuple #[])/\w'=w.setCell p (.int .i64 (bZ s 1:Nat)):=by
 by_cases h:s=4611686018427387904
 ·have e:bZ s 1=4611686018427387904:=by unfold bZ;omega
  rw [e];have h':4611686018427387904-(s:Int)<1:=ω;clear e h
  go_enter Tryz.func182,Tryz.ntmps182
  go_wp2;go_end0;exact ⟨rfl,rfl⟩
 ·have e:((bZ s 1:Nat):Int)=(s:Int)+1:=by unfold bZ;omega
  rw [e];have h':¬4611686018427387904-(s:Int)<1:=ω;clear e h
  go_enter Tryz.func182,Tryz.ntmps182
  go_wp2;go_end0;exact ⟨rfl,rfl⟩
theorem CM.count {w:World} {c ca nm mb g cap:Nat} {l:List Int} {rt dp:Nat->Nat} {raw:Nat->Cl} {A:NS} {st:Nat} (h:CM w c ca nm mb g cap l rt dp raw A st) (k:Nat):CM (w.setCell ⟨c,0,none⟩ (.int .i64 (bZ st k:Nat))) c ca nm mb g cap l rt dp raw A (bZ st k):=by
 have hu:aa [c] w (w.setCell ⟨c,0,none⟩ (.int .i64 (bZ st k:Nat))):=β;have s:=h.sep;refine ⟨(h.head.set 0 _).ext (fun j hj=>?_),h.row.upd hu ι,h.WN.upd hu ι ι,h.many.upd hu ι,h.Qc,h.ok,by unfold bZ;omega,h.rel,h.hlen,h.has,s⟩;rcases (ω:j=0\/j=1\/j=2\/j=3) with rfl|rfl|rfl|rfl<;>simp
theorem Ti (A:NS) (a b:Nat):(decide (BI (A.c a).k (A.c a).s (A.c b).k (A.c b).s<0) || (decide (BI (A.c a).k (A.c a).s (A.c b).k (A.c b).s=0) && decide (a<b)))=decide (cZ A a b):=by
 rw [Bool.eq_iff_iff,decide_eq_true_iff];simp only [Bool.or_eq_true,Bool.and_eq_true,decide_eq_true_eq];unfold BI wU cZ
 by_cases h:(A.c a).k=(A.c b).k
 ·rw [if_pos h]
  by_cases h1:(A.c a).s<(A.c b).s
  ·rw [if_pos h1];omega
  ·rw [if_neg h1];split<;>omega
 ·rw [if_neg h]
  by_cases h1:(A.c a).k<(A.c b).k
  ·rw [if_pos h1];omega
  ·rw [if_neg h1];split<;>omega
theorem fF {w:World} {c st:Nat} {F:List Nat} {A:NS} (h:aG w c F A st) (a b:Nat) (ha:bX A a=true) (hb:bX A b=true) :
  Calls Tryz.prog 174 #[.pointer (some ⟨c,0,none⟩),.int .i64 (a:Int),.int .i64 (b:Int)] w fun e w'=>e=.returned (.bool (decide (cZ A a b)))/\aG w' c F A (bZ st 1)/\aa [c] w w':=by
 have k1:=qJ h a;have k2:=qJ h b;rw [ha] at k1;rw [hb] at k2;obtain ⟨ha1,ha2⟩:=(ai _ _).1 ha;obtain ⟨hb1,hb2⟩:=(ai _ _).1 hb;have hA:=h.ok.c1;obtain ⟨ca,nm,mb,g,cap,l,rt,dp,raw,h,rfl⟩:=h;have e1:A.c a=⟨rt (raw a).i.toNat,(raw a).k,(raw a).s⟩:=by
  rcases h.rel a ha1 with ⟨h1,h2⟩|h3
  ·rw [h2] at ha2;exact absurd ha2 δ
  ·exact h3.2.2
 have e2:A.c b=⟨rt (raw b).i.toNat,(raw b).k,(raw b).s⟩:=by
  rcases h.rel b hb1 with ⟨h1,h2⟩|h3
  ·rw [h2] at hb2;exact absurd hb2 δ
  ·exact h3.2.2
 have hres:=Ti A a b;rw [e1,e2] at hres;simp only at hres;have c0:=h.c0;have c1:=h.c1;have f0:=h.head.free 0;have d1:=h.row.cellAt (a*3+1) ω (yR raw a);have d2:=h.row.cellAt (a*3+2) ω (yT raw a);have d3:=h.row.cellAt (b*3+1) ω (yR raw b);have d4:=h.row.cellAt (b*3+2) ω (yT raw b);have s:=h.sep;have hst:=h.pI;have kc:=Ju ⟨c,0,none⟩ st w hst c0 f0;have kk:=fun W=>yg (raw a).k (raw a).s (raw b).k (raw b).s W;generalize hz:BI (raw a).k (raw a).s (raw b).k (raw b).s=z at *;generalize (raw a).k=ka at *;generalize (raw a).s=sa at *;generalize (raw b).k=kb at *;generalize (raw b).s=sb at *
 have Uv:=h.row.lt;have hcw:=h.head.lt;have H1:=χ (h.count 1);have HR:=χ hres;generalize hn:bZ st 1=st1 at *;have u0:aa [c] w (w.setCell ⟨c,0,none⟩ (.int .i64 (st1:Int))):=β;have r1:∀W,aa [] (w.setCell ⟨c,0,none⟩ (.int .i64 (st1:Int))) W->W.cell? ⟨c,1,none⟩=some (.slice (some ⟨ca,0,none⟩) A.cs.length A.cs.length):=fun W hW=>hW.was H1.out.c1;have r2:∀W,aa [] (w.setCell ⟨c,0,none⟩ (.int .i64 (st1:Int))) W->W.cell? ⟨ca,a*3+1,none⟩=some (.int .i64 ka):=fun W hW=>hW.was ((u0.cell Uv ι).trans d1)
 have r3:∀W,aa [] (w.setCell ⟨c,0,none⟩ (.int .i64 (st1:Int))) W->W.cell? ⟨ca,a*3+2,none⟩=some (.int .u64 sa):=fun W hW=>hW.was ((u0.cell Uv ι).trans d2);have r4:∀W,aa [] (w.setCell ⟨c,0,none⟩ (.int .i64 (st1:Int))) W->W.cell? ⟨ca,b*3+1,none⟩=some (.int .i64 kb):=fun W hW=>hW.was ((u0.cell Uv ι).trans d3);have r5:∀W,aa [] (w.setCell ⟨c,0,none⟩ (.int .i64 (st1:Int))) W->W.cell? ⟨ca,b*3+2,none⟩=some (.int .u64 sb):=fun W hW=>hW.was ((u0.cell Uv ι).trans d4);clear h ha hb ha2 hb2 e1 e2 hres d1 d2 d3 d4 hz hn u0
 by_cases hz1:z<0
 ·have hd:decide (cZ A a b)=true:=by rw [←HR.out,decide_eq_true hz1];rfl
  rw [hd];clear hd
  go_enter Tryz.func174,Tryz.ntmps174
  go_wp2_with (first|(go_at_call 149;(with_reducible refine (k1).mono ?_);rintro e w9 ⟨rfl,aM⟩;rw [aM];clear aM w9)|(go_at_call 149;(with_reducible refine (k2).mono ?_);rintro e w9 ⟨rfl,aM⟩;rw [aM];clear aM w9)|(go_at_call 182;(with_reducible refine (kc).mono ?_);rintro e w9 ⟨rfl,aM⟩;rw [aM];clear aM w9))
  go_region_held3 (aa [] (w.setCell ⟨c,0,none⟩ (.int .i64 (st1:Int)))) (exact η)
   ((go_at_call 164;(with_reducible refine (kk _).mono ?_);rintro e w1 ⟨rfl,hu1⟩;(have hu2:aa [] (w.setCell ⟨c,0,none⟩ (.int .i64 (st1:Int))) w1:=η)))
  go_wp2;go_ret;exact ⟨rfl,⟨ca,nm,mb,g,cap,l,rt,dp,raw,H1.out.upd hu2 σ,rfl⟩,((aa.refl [c] w).setCell (Or.inl σ) _).then hu2⟩
 ·by_cases hz2:z=0
  ·have hd:decide (cZ A a b)=decide ((a:Int)<(b:Int)):=by rw [←HR.out,decide_eq_false hz1,decide_eq_true hz2];simp
   rw [hd];subst hz2;clear hd
   go_enter Tryz.func174,Tryz.ntmps174
   go_wp2_with (first|(go_at_call 149;(with_reducible refine (k1).mono ?_);rintro e w9 ⟨rfl,aM⟩;rw [aM];clear aM w9)|(go_at_call 149;(with_reducible refine (k2).mono ?_);rintro e w9 ⟨rfl,aM⟩;rw [aM];clear aM w9)|(go_at_call 182;(with_reducible refine (kc).mono ?_);rintro e w9 ⟨rfl,aM⟩;rw [aM];clear aM w9))
   go_region_held3 (aa [] (w.setCell ⟨c,0,none⟩ (.int .i64 (st1:Int)))) (exact η)
    ((go_at_call 164;(with_reducible refine (kk _).mono ?_);rintro e w1 ⟨rfl,hu1⟩;(have hu2:aa [] (w.setCell ⟨c,0,none⟩ (.int .i64 (st1:Int))) w1:=η)))
   go_wp2;go_ret;exact ⟨bf σ,⟨ca,nm,mb,g,cap,l,rt,dp,raw,H1.out.upd hu2 σ,rfl⟩,((aa.refl [c] w).setCell (Or.inl σ) _).then hu2⟩
  ·have hz3:(z == 0)=false:=by simpa using hz2
   have hd:decide (cZ A a b)=false:=by rw [←HR.out,decide_eq_false hz1,decide_eq_false hz2];rfl
   rw [hd];clear hd hz2
   go_enter Tryz.func174,Tryz.ntmps174
   go_wp2_with (first|(go_at_call 149;(with_reducible refine (k1).mono ?_);rintro e w9 ⟨rfl,aM⟩;rw [aM];clear aM w9)|(go_at_call 149;(with_reducible refine (k2).mono ?_);rintro e w9 ⟨rfl,aM⟩;rw [aM];clear aM w9)|(go_at_call 182;(with_reducible refine (kc).mono ?_);rintro e w9 ⟨rfl,aM⟩;rw [aM];clear aM w9))
   go_region_held3 (aa [] (w.setCell ⟨c,0,none⟩ (.int .i64 (st1:Int)))) (exact η)
    ((go_at_call 164;(with_reducible refine (kk _).mono ?_);rintro e w1 ⟨rfl,hu1⟩;(have hu2:aa [] (w.setCell ⟨c,0,none⟩ (.int .i64 (st1:Int))) w1:=η)))
   go_wp2;go_ret;exact ⟨bf ζ,⟨ca,nm,mb,g,cap,l,rt,dp,raw,H1.out.upd hu2 σ,rfl⟩,((aa.refl [c] w).setCell (Or.inl σ) _).then hu2⟩
theorem rJ.make {l:List Int} {rt dp:Nat->Nat} (h:rJ l rt dp) (hl:l.length<=65536):rJ (l++[(l.length:Int)]) (fun i=>if i=l.length then i else rt i) dp:=by
 have h1:=h.len;have g1:∀i,i<l.length->(l++[(l.length:Int)]).getD i 0=l.getD i 0:=fun i hi=>by simp [φ,List.getElem?_append_left hi]
 have g2:(l++[(l.length:Int)]).getD l.length 0=l.length:=by simp [φ]
 refine ⟨σ,ζ,fun i a b=>?_,fun i a b=>?_,fun i a b=>?_,fun i a b=>?_⟩
 all_goals
  simp only [υ,List.length_cons,List.length_nil] at b ⊢;rcases (ω:i<l.length\/i=l.length) with hi|hi
 ·rw [g1 i hi];have:=h.vU i a hi;omega
 ·rw [hi,g2];omega
 ·have:=h.vU i a hi;rw [g1 i hi,if_neg (show ¬ (l.getD i 0).toNat=l.length by omega),if_neg ω];exact h.up i a hi
 ·rw [hi,g2];simp
 ·rw [g1 i hi,if_neg (show ¬i=l.length by omega)];exact h.top i a hi
 ·intro _;rw [if_pos hi]
 ·rw [g1 i hi];exact h.low i a hi
 ·rw [hi,g2];intro hn;exact absurd rfl hn
theorem iX {w:World} {c st:Nat} {F:List Nat} {A:NS} (h:aG w c F A st) :
  Calls Tryz.prog 156 #[.pointer (some ⟨c,0,none⟩)] w fun e w'=>e=.returned (.int .i64 (dF A))/\Goes F w w' (fun F'=>aG w' c F' (aQ A) st):=by
 have hC:=h;obtain ⟨ca,nm,mb,g,cap,l,rt,dp,raw,h,rfl⟩:=h;have c2:=h.c2;have hlen:=h.hlen;have hl1:=h.Qc.len;have hl2:=h.Qc.PI;have hs:=h.sep;unfold dF aQ
 by_cases hfull:l.length=65537
 ·have k:=PO nm g cap l w h.WN hfull;rw [if_pos ω,if_pos ω];have HC:=χ hC;clear h hC hlen hfull
  go_enter Tryz.func156,Tryz.ntmps156
  go_wp2_with (go_at_call 163;(with_reducible refine (k).mono ?_);rintro e w1 ⟨rfl,hu⟩)
  go_ret;exact ⟨rfl,Goes.stay (HC.out.aA hu) (hu.mono σ)⟩
 ·have k:=Pe nm g cap l w h.WN hl1 ω;rw [if_neg ω,if_neg ω,hlen];have H:=χ h;have HL:=χ hlen;clear h hC hlen
  go_enter Tryz.func156,Tryz.ntmps156
  go_wp2_with (go_at_call 163;(with_reducible refine (k).mono ?_);rintro e w1 ⟨g',cap',rfl,hN,hu,hg⟩)
  go_ret;have h:=H.out;have hc:=h.head.lt;have hca:=h.row.lt;have hmb:=h.many.lt;have hsep:c≠g'/\ca≠g'/\mb≠g':=by rcases hg with rfl|hg;exact ⟨ω,ω,ω⟩;exact ⟨ω,ω,ω⟩
  have hok:(NS.mk (A.hs++[true]) A.cs).Ok:=by
   have:=Hl h.ok;unfold aQ at this;rwa [if_neg (by have:=HL.out;omega)] at this
  refine ⟨rfl,[c,ca,nm,mb,g'],⟨ca,nm,mb,g',cap',l++[(l.length:Int)],fun i=>if i=l.length then i else rt i,dp,raw,?_,rfl⟩,hu.mono ι,fun x hx=>by simp at hx ⊢;omega⟩;refine ⟨h.head.upd hu ι,h.row.upd hu ι,hN,h.many.upd hu ι,h.Qc.make ω,hok,h.pI,fun x hx=>?_,by simp [HL.out],fun i h1 h2=>?_,ω⟩
  ·rcases h.rel x hx with h'|⟨h3,h4,h5⟩
   ·exact Or.inl h'
   ·refine Or.inr ⟨h3,ζ,?_⟩;rw [if_neg ω];exact h5
  ·simp only [υ,List.length_cons,List.length_nil] at h2;have hLo:=HL.out;rcases (ω:i<l.length\/i=l.length) with hi|hi
   ·have:=h.has i h1 hi;simp only [φ] at this ⊢;rw [List.getElem?_append_left ω,List.getElem?_append_left hi];exact this
   ·subst hi;simp only [φ];rw [←hLo,List.getElem?_append_right (Nat.le_refl _),List.getElem?_append_right ω];simp [hLo]
theorem Jq (n j:Nat) (hj:j<n*3):(madeCells #[Value.int .i64 0,.int .i64 0,.int .u64 0] (n*3)).toList.getD j undef=if j % 3=0 then .int .i64 0 else if j % 3=1 then .int .i64 0 else .int .u64 0:=by
 rw [φ,ε (by simp [size_madeCells];omega)];simp only [Option.getD_some,madeCells,Array.getElem_toList,Array.getElem_map,Array.getElem_range];rcases (ω:j % 3=0\/j % 3=1\/j % 3=2) with e|e|e<;>simp [e]
theorem TB:(Tryz.prog.info? 281).map (fun i=>(i.zero,i.size,i.bytes))=some (some (.agg #[.int .i64 0,.int .i64 0,.int .u64 0]),3,24):=by kernel_rfl
theorem oh (n:Nat) (w:World) (h:n<=65536) :
  Calls Tryz.prog 107 #[.int .i64 (n:Int)] w fun e w'=>∃c F,e=.returned (.tuple #[.pointer (some ⟨c,0,none⟩),.int .i64 0])/\aG w' c F (NS.new n) 0/\aa [] w w'/\∀x,x∈F->w.heap.size<=x:=by
 have hmm:=@run_makeMap Tryz.prog
 go_enter Tryz.func107,Tryz.ntmps107
 go_wp2_with (first
  | ((go_at_call 114;(with_reducible refine (QA _).mono ?_));rintro e w1 ⟨nm,g,rfl,hN,hu1,hb1,hb2⟩)
  | (at_make;refine wpList_make_row rfl _ 241 rfl 281 (.agg #[.int .i64 0,.int .i64 0,.int .u64 0]) 3 24 Tryz.underlying241 TB n rfl ω μ ?_;intro w2 hr2 hu2))
 go_ret2;have hu3:aa [] w2 ((w2.alloc (.map #[] 0)).alloc (.cells #[.int .i64 0,.slice (some ⟨w1.heap.size,0,none⟩) n n,.pointer (some ⟨nm,0,none⟩),.map (some w2.heap.size)] 245)):=β;have hh:=eH (w2.alloc (.map #[] 0)) [.int .i64 0,.slice (some ⟨w1.heap.size,0,none⟩) n n,.pointer (some ⟨nm,0,none⟩),.map (some w2.heap.size)] 245;rw [World.size_alloc] at hh;have l1:=hN.lt;have l2:=hu2.size;have l3:=hr2.lt;have l4:=hu1.size;have hcs:(NS.new n).cs.length=n:=by simp [NS.new]
 refine ⟨w2.heap.size+1,[w2.heap.size+1,w1.heap.size,nm,w2.heap.size,g],rfl,⟨w1.heap.size,nm,w2.heap.size,g,1,[0],fun i=>i,fun _=>0,fun _=>Cl.z,?_,rfl⟩,(hu1.trans hu2).trans hu3,fun x hx=>by simp at hx;omega⟩;refine ⟨?_,?_,(hN.upd hu2 σ σ).upd hu3 σ σ,((gN.made w2).upd ((aa.refl [] _).alloc _) σ).ext (fun k=>?_),?_,NS.zX n h,ω,fun x _=>Or.inl ⟨rfl,NS.yc n x⟩,rfl,fun i h1 h2=>by simp at h2;omega,ω⟩
 ·rw [hcs];exact hh
 ·rw [hcs];refine (hr2.upd hu3 σ).ext (fun j hj=>?_);have hz:(Value.agg #[.int .i64 0,.int .i64 0,.int .u64 0]).cells=#[.int .i64 0,.int .i64 0,.int .u64 0]:=rfl;rw [hz];unfold kP Cl.z;have:=Jq n j hj;rw [this]
 ·unfold jF;have:dZ (NS.new n) k=0:=by
   rcases Nat.eq_zero_or_pos (dZ (NS.new n) k) with h'|h'
   ·exact h'
   ·obtain ⟨x,_,h1,h2⟩:=fM.1 h';rw [NS.yc] at h1;have:(0:Int)=k:=h1;omega
  rw [this];rfl
 ·exact ⟨σ,σ,fun i h1 h2=>by simp at h2;omega,fun i h1 h2=>by simp at h2;omega,fun i h1 h2=>by simp at h2;omega,fun i h1 h2=>by simp at h2;omega⟩
theorem lM {A:NS} {h:Int} {m:Nat} (hm:dW A h=some m):0<h/\m<A.cs.length/\(A.c m).i=h/\bX A m=true:=by
 by_cases hh:0<h
 ·have h1:=(iZ hh).1 hm;exact ⟨hh,h1.1,h1.2.1,(ai _ _).2 ⟨h1.1,by rw [h1.2.1];exact hh⟩⟩
 ·rw [qa hh] at hm;cases hm
theorem iQ {A:NS} {h:Int}:dW A h=none↔dZ A h=0:=by
 by_cases hh:0<h
 ·exact jT hh
 ·rw [qa hh,TZ hh];simp
def lenOf:Value->Nat | .slice _ l _=>l|_=>0
def bJ (l:List Nat):List Int:=l.map (fun (x:Nat)=>(x:Int))
def Enters (f:FuncId):Prop:=∀ (args:Array Value) (W:World),(callFunc f args).run Tryz.prog W=.ok (.enter f args) W
def uL (A:NS) (h:Int):NS:=match dW A h with|some m=>bz A m|none=>A
def Pk (ty:TypeId) (p:Nat) (name:String) (w:World) (mk:Value->Array Value) (Q:World->Ending->World->Prop):Prop:=
 ∃f v,Enters f/\∀W,aa [] w W->(method 429 ty (.pointer (some ⟨p,0,none⟩)) name).run Tryz.prog W=.ok (f,v) W/\Calls Tryz.prog f (mk v) W (Q W)
theorem Pk.now {ty:TypeId} {p:Nat} {name:String} {w:World} {mk:Value->Array Value} {Q:World->Ending->World->Prop} (h:Pk ty p name w mk Q) :
  ∃f v,Enters f/\(method 429 ty (.pointer (some ⟨p,0,none⟩)) name).run Tryz.prog w=.ok (f,v) w/\Calls Tryz.prog f (mk v) w (Q w):=by
 obtain ⟨f,v,he,h⟩:=h;exact ⟨f,v,he,h w (aa.refl _ _)⟩
theorem qD {A:NS} {x:Int} (hB:bX A x=true):∃y:Nat,x=y:=⟨x.toNat,by have:=(yZ _ _).1 hB;omega⟩
theorem qE {A:NS} {x k s:Int} (hB:jo A x k s=true):bX A x=true:=by
 unfold jo at hB;simp only [Bool.and_eq_true] at hB;exact hB.1
theorem aZ {ty:TypeId} {p:Nat} {name:String} {w:World} {mk:Value->Array Value} {Q:World->Ending->World->Prop} (f:FuncId) (he:Enters f) (hm:∀W,(method 429 ty (.pointer (some ⟨p,0,none⟩)) name).run Tryz.prog W=.ok (f,.pointer (some ⟨p,0,none⟩)) W)
  (hc:∀W,aa [] w W->Calls Tryz.prog f (mk (.pointer (some ⟨p,0,none⟩))) W (Q W)):Pk ty p name w mk Q:=⟨f,_,he,fun W hW=>⟨hm W,hc W hW⟩⟩
theorem iT {ty:TypeId} {p c:Nat} {name:String} {w:World} {mk:Value->Array Value} {Q:World->Ending->World->Prop} (f:FuncId) (he:Enters f) (h0:w.cell? ⟨p,0,none⟩=some (.pointer (some ⟨c,0,none⟩)))
  (hm:∀W,W.cell? ⟨p,0,none⟩=some (.pointer (some ⟨c,0,none⟩))->(method 429 ty (.pointer (some ⟨p,0,none⟩)) name).run Tryz.prog W=.ok (f,.pointer (some ⟨c,0,none⟩)) W)
  (hc:∀W,aa [] w W->Calls Tryz.prog f (mk (.pointer (some ⟨c,0,none⟩))) W (Q W)):Pk ty p name w mk Q:=⟨f,_,he,fun W hW=>⟨hm W (hW.was h0),hc W hW⟩⟩
structure gV where
 ty:TypeId
 at_:World->Nat->List Nat->NS->Prop
 upd:∀ {w w':World} {p:Nat} {F S:List Nat} {A:NS},at_ w p F A->aa S w w'->(∀x,x∈S->x∉F)->at_ w' p F A
 lt:∀ {w:World} {p:Nat} {F:List Nat} {A:NS},at_ w p F A->∀x,x∈F->x<w.heap.size
 ok:∀ {w:World} {p:Nat} {F:List Nat} {A:NS},at_ w p F A->A.Ok
 make:∀ {w:World} {p:Nat} {F:List Nat} {A:NS},at_ w p F A->Pk ty p "Make" w (fun v=>#[v]) fun w e w'=>e=.returned (.int .i64 (dF A))/\Goes F w w' (fun F'=>at_ w' p F' (aQ A))
 insert:∀ {w:World} {p:Nat} {F:List Nat} {A:NS} (h x:Nat) (k s:Int),(-9223372036854775808<=k/\k<=9223372036854775807/\0<=s/\s<=18446744073709551615)->oF A h x=true->at_ w p F A->Pk ty p "Insert" w (fun v=>#[v,.int .i64 (h:Int),.int .i64 (x:Int),.agg #[.int .i64 k,.int .u64 s]]) fun w e w'=>e=.returned (.bool true)/\Goes F w w' (fun F'=>at_ w' p F' (aN A h x k s))
 min:∀ {w:World} {p:Nat} {F:List Nat} {A:NS} (h:Nat),bK A h=true->at_ w p F A->Pk ty p "Min" w (fun v=>#[v,.int .i64 (h:Int)]) fun w e w'=>e=.returned (.tuple #[.int .i64 (pK (dW A h)),.bool (dW A h).isSome])/\Goes F w w' (fun F'=>at_ w' p F' A)
 extract:∀ {w:World} {p:Nat} {F:List Nat} {A:NS} (h m:Nat),dW A h=some m->at_ w p F A->Pk ty p "Extract" w (fun v=>#[v,.int .i64 (h:Int)]) fun w e w'=>e=.returned (.tuple #[.int .i64 (m:Int),.bool true])/\Goes F w w' (fun F'=>at_ w' p F' (bz A m))
 mV:∀ {w:World} {p:Nat} {F:List Nat} {A:NS} (x:Nat) (k s:Int),(-9223372036854775808<=k/\k<=9223372036854775807/\0<=s/\s<=18446744073709551615)->jo A x k s=true->at_ w p F A->Pk ty p "Decrease" w (fun v=>#[v,.int .i64 (x:Int),.agg #[.int .i64 k,.int .u64 s]]) fun w e w'=>e=.returned (.bool true)/\Goes F w w' (fun F'=>at_ w' p F' (aB A x k s))
 has:∀ {w:World} {p:Nat} {F:List Nat} {A:NS} (x:Int),at_ w p F A->Pk ty p "Has" w (fun v=>#[v,.int .i64 x]) fun w e w'=>e=.returned (.bool (bK A x))/\w'=w
 entry:∀ {w:World} {p:Nat} {F:List Nat} {A:NS} (x:Int),at_ w p F A->Pk ty p "Entry" w (fun v=>#[v,.int .i64 x]) fun w e w'=>e=.returned (.tuple #[.agg #[.int .i64 (if bX A x then (A.c x.toNat).k else 0),.int .u64 (if bX A x then (A.c x.toNat).s else 0)],.bool (bX A x)])/\aa [] w w'
end Go.Proofs.YtklibcncmbofpaaGreat
namespace Go.Proofs.YtklibcncmbofpaaGreat
open Go Go.RowKit Go.Maps
theorem abP:laidOutB Tryz.prog=true:=by kernel_rfl
theorem D9:Keyed Tryz.prog 85:=Keyed.of_law (Go.deep_law_laid abP (m:=3) ω (of_decide_eq_true (by kernel_rfl)) (by kernel_rfl) (by rw [Tryz.underlying85]))
def hV (x g:Int):Value:=.agg #[.int .i64 x,.int .u32 g]
theorem hKey {x g:Int} (hx:-9223372036854775808<=x/\x<=9223372036854775807) (hg:0<=g/\g<=4294967295):∃l,keyOf Tryz.prog 85 (hV x g)=some l:=by
 have h1:Tryz.prog.keyType 85=true:=by kernel_rfl
 have h2:(hV x g).formed Tryz.prog 85=true:=by
  unfold hV Value.formed;simp only [Tryz.underlying85];rw [show Tryz.prog.cellsOf 85=2 by kernel_rfl]
  rfl
 have c0:Tryz.prog.cellsOf 3=1:=by kernel_rfl
 have c1:Tryz.prog.cellsOf 83=1:=by kernel_rfl
 have c2:Tryz.prog.cellsOf 85=2:=by kernel_rfl
 have w0:(Lit.int .i64 x).wf=true:=WalkArith.wf_i64 hx;have w1:(Lit.int .u32 g).wf=true:=by simp [Lit.wf,IntKind.min,IntKind.max,IntKind.signed,IntKind.bits];omega
 have key:∀n,Tryz.prog.keyLits (n+1+1) 85 [.int .i64 x,.int .u32 g]=some [.int .i64 x,.int .u32 g]:=fun n=>by
  simp [Program.keyLits,Tryz.underlying85,Tryz.underlying3,Tryz.underlying83,c0,c1,c2,w0,w1]
 have hpos:0<Tryz.prog.types.size:=of_decide_eq_true (by kernel_rfl);obtain ⟨n,hn⟩:∃n,Tryz.prog.types.size+1=n+1+1:=⟨Tryz.prog.types.size-1,ω⟩;refine ⟨.string (keyBytes [.int .i64 x,.int .u32 g]),?_⟩;unfold keyOf;rw [Tryz.underlying85];simp only [];rw [if_pos (by rw [h1,h2];rfl),hn,show (hV x g).cells.toList=[.int .i64 x,.int .u32 g] from rfl,key]
 rfl
theorem XM {x g x' g':Int} (h:hV x g=hV x' g'):x=x'/\g=g':=by
 unfold hV at h;simp only [Value.agg.injEq] at h;have h2:=congrArg Array.toList h;simp at h2;exact h2
def oG (w:World) (b c:Nat) (f:Int->Int->Option Int):Prop:=
 ∃D:DataW Unit,w.ownsMap Tryz.prog 85 (plainElem Tryz.prog 3) b c D/\∀x g z kl,f x g=some z->keyOf Tryz.prog 85 (hV x g)=some kl->∀d,D.atKey kl d=.lit (.int .i64 z)
theorem oG.upd {w w':World} {S:List Nat} {b c:Nat} {f:Int->Int->Option Int} (h:oG w b c f) (hu:aa S w w') (hn:b∉S):oG w' b c f:=by
 obtain ⟨D,h1,h3⟩:=h;have hl:=h1.lt;obtain ⟨es,clock,h1,h2⟩:=h1;exact ⟨D,⟨es,clock,(hu.block b hl hn).trans h1,h2⟩,h3⟩
theorem oG.lt {w:World} {b c:Nat} {f:Int->Int->Option Int} (h:oG w b c f):b<w.heap.size:=by
 obtain ⟨D,h1,_⟩:=h;exact h1.lt
theorem oG.made (w:World):oG (w.alloc (.map #[] 0)) w.heap.size 0 (fun _ _=>none):=
 ⟨.map [],World.ownsMap_made w _ _ _,fun x g z kl hz=>by cases hz⟩
theorem oG.look {w:World} {b c:Nat} {f:Int->Int->Option Int} (h:oG w b c f) {x g z:Int} (hz:f x g=some z) (hx:-9223372036854775808<=x/\x<=9223372036854775807) (hg:0<=g/\g<=4294967295) :
  (Instr.lookup 82 (.map (some b)) (hV x g) false).run Tryz.prog w=.ok (.int .i64 z) w:=by
 obtain ⟨D,h1,h3⟩:=h;obtain ⟨kl,hk⟩:=hKey hx hg;obtain ⟨c',hrun,hat,_⟩:=h1.lookup_int D9 Tryz.underlying82 Tryz.underlying3 (Ev w) hk;rw [hrun];rw [h3 x g z kl hz hk] at hat;have:z=c':=by simpa using hat
 rw [this]
theorem oG.store {w:World} {b c:Nat} {f:Int->Int->Option Int} (h:oG w b c f) (hc:c<9223372036854775807) (x g z:Int) (hx:-9223372036854775808<=x/\x<=9223372036854775807) (hg:0<=g/\g<=4294967295) (hz:-9223372036854775808<=z/\z<=9223372036854775807) :
  ∃w',(Instr.mapUpdate 82 (.map (some b)) (hV x g) (.int .i64 z)).run Tryz.prog w=.ok () w'/\oG w' b (c+1) (fun y e=>if y=x/\e=g then some z else f y e)/\aa [b] w w':=by
 obtain ⟨D,h1,h3⟩:=h;obtain ⟨kl,hk⟩:=hKey hx hg;obtain ⟨w',hrun,ho,ht⟩:=h1.store D9 Tryz.underlying82 μ hk (plainElem_int Tryz.underlying3 (a:=z) (WalkArith.wf_i64 hz));have hD:=h1.isMap;refine ⟨w',hrun,⟨_,ho,fun y e u K4 hf hk2 d=>?_⟩,pE ht⟩
 replace hf:(if y=x/\e=g then some z else f y e)=some u:=hf
 by_cases e1:y=x/\e=g
 ·rw [if_pos e1] at hf;obtain ⟨rfl,rfl⟩:=e1;rw [hk] at hk2;cases hk2;cases hf;exact atKey_put_same hD (D9.key hk) _ _
 ·rw [if_neg e1] at hf;have hne:K4≠kl:=fun e2=>e1 (XM (D9.inj (by rw [hk2,e2]) hk));rw [atKey_put_other hne];exact h3 y e u K4 hf hk2 d
end Go.Proofs.YtklibcncmbofpaaGreat
namespace Go.Proofs.YtklibcncmbofpaaGreat
theorem Ff {a b:List Int} (h:a.length≠b.length):a≠b:=fun e=>h (by rw [e])
theorem VA {a b:List Int} (hl:a.length=b.length) (h:∀k,k<a.length->a.getD k 0=b.getD k 0):a=b:=by
 apply List.ext_getElem hl;intro i h1 h2;have:=h i h1;simpa [φ,h1,h2] using this
end Go.Proofs.YtklibcncmbofpaaGreat
namespace Go.Proofs.YtklibcncmbofpaaGreat
open Go Go.RowKit
theorem Vy (w:World) (F1 F2:List Nat) (va vb:Value) (za zb:List Int) (ha:iw w F1 va za) (hb:iw w F2 vb zb) :
  Calls Tryz.prog 20 #[va,vb] w fun e w'=>e=.returned (.bool (decide (za=zb)))/\∃k,w'=w.drewN k:=by
 obtain ⟨a,ca,rfl,hla,hca,hpa⟩:=ha;obtain ⟨b,cb,rfl,hlb,hcb,hpb⟩:=hb;have HA:=χ hpa;have HB:=χ hpb;clear hpa hpb
 by_cases hl:za.length=zb.length
 ·have hl':((za.length:Int) != (zb.length:Int))=false:=by rw [hl];simp
  generalize hlen:za.length=len at *;have HLEN:=χ (ψ hlen hl);have hll:zb.length=len:=hl.symm;rw [hll] at *;clear hl hll hlen hl'
  go_enter Tryz.func20,Tryz.ntmps20
  go_wp2
  go_loopw [13] (fun i wr=>∃k:Nat,k<=len/\i=.int .i64 (k:Int)/\(∀j,j<k->za.getD j 0=zb.getD j 0)/\∃d,wr=w.drewN d) (fun i _=>len-(intOf i).toNat)
  case atStart=>exact ⟨0,ω,rfl,fun j hj=>ω,0,rfl⟩
  case round=>
   obtain ⟨k,hk,rfl,he,d,rfl⟩:=hrel;have HE:=χ he;clear he
   by_cases hlt:k<len
   ·obtain ⟨ga,oa,rfl,_,_,c1⟩:=HA.out k (za.getD k 0) (by simp [φ,HLEN.out.1,hlt]);obtain ⟨gb,ob,rfl,_,_,c2⟩:=HB.out k (zb.getD k 0) (by simp [φ,←HLEN.out.2,hlt]);have HP:Hid (∀j,j<k+1->za.getD k 0=zb.getD k 0->za.getD j 0=zb.getD j 0):=fun j hj e=>by
     rcases (ω:j<k\/j=k) with h|h
     ·exact HE.out j h
     ·rw [h];exact e
    have HN:Hid (za.getD k 0≠zb.getD k 0->¬za=zb):=fun e1 e2=>e1 (by rw [e2]);generalize za.getD k 0=x1 at *;generalize zb.getD k 0=x2 at *
    by_cases xU:x1=x2
    ·have b1:(x1 != x2)=false:=by simpa using xU
     have HXX:=χ xU;clear xU;go_wp2
     go_quiet (fail)
     go_wp2
     go_roundw
     case rel=>exact ⟨k+1,ω,by go_num,fun j hj=>HP.out j hj HXX.out,_,rfl⟩
     case measure=>simp [intOf];omega
    ·have b1:(x1 != x2)=true:=by simpa using xU
     have HXX:=χ (HN.out xU);clear xU;go_wp2
     go_quiet (fail)
     go_wp2;go_ret;exact ⟨bf (by simp [HXX.out]),_,by rw [World.drewN_drewN]⟩
   ·obtain rfl:k=len:=ω;have HE2:=χ (VA (by rw [HLEN.out.1,HLEN.out.2]) (fun j hj=>HE.out j (by rw [←HLEN.out.1];exact hj)));go_wp2;go_ret;exact ⟨bf (by simp [HE2.out]),_,rfl⟩
 ·have hl':((za.length:Int) != (zb.length:Int))=true:=ζ;have hne:=χ (Ff hl);clear hl
  go_enter Tryz.func20,Tryz.ntmps20
  go_wp2;go_ret;exact ⟨bf (by simp [hne.out]),0,rfl⟩
theorem RV (w:World) (F1 F2:List Nat) (va vb:Value) (z:List Int) (ha:iw w F1 va z) (hb:iw w F2 vb z) :
  Calls Tryz.prog 20 #[va,vb] w fun e w'=>e=.returned (.bool true)/\∃k,w'=w.drewN k:=
 (Vy w F1 F2 va vb z z ha hb).mono fun e w' ⟨he,h⟩=>⟨by rw [he,decide_eq_true rfl],h⟩
structure RwK where
 at_:World->Nat->List Nat->List Nat->Prop
 upd:∀ {w w':World} {p:Nat} {G S L:List Nat},at_ w p G L->aa S w w'->(∀z,z∈S->z∉G)->at_ w' p G L
 lt:∀ {w:World} {p:Nat} {G L:List Nat},at_ w p G L->∀z,z∈G->z<w.heap.size
def Bw (o:Option Nat):Value:=.pointer (o.map fun b=>⟨b,0,none⟩)
def zC (f:Nat->Option Nat) (m:Nat):List Value:=(List.range m).map fun h=>Bw (f h)
theorem NY {f:Nat->Option Nat} {m j:Nat} (h:j<m):(zC f m)[j]?=some (Bw (f j)):=by unfold zC;simp [h]
theorem Kr (f:Nat->Option Nat) (m:Nat) (o:Option Nat):zC f m++[Bw o]=zC (fun h=>if h=m then o else f h) (m+1):=by
 unfold zC;rw [List.range_succ,List.map_append]
 congr 1
 ·apply List.map_congr_left;intro a ha;have:=List.mem_range.1 ha
  show Bw (f a)=Bw (if a=m then o else f a)
  rw [if_neg ω]
 ·simp
def j3 {α:Type} (f:Nat->α) (h:Nat) (x:α):Nat->α:=fun k=>if k=h then x else f k
theorem dX {α:Type} (f:Nat->α) (h:Nat) (x:α):j3 f h x h=x:=by unfold j3;rw [if_pos rfl]
theorem bQ {α:Type} (f:Nat->α) {h k:Nat} (x:α) (e:k≠h):j3 f h x k=f k:=by unfold j3;rw [if_neg e]
structure uW (K:RwK) (ety:TypeId) (w:World) (gr cr m:Nat) (has:Nat->Bool) (Z:List Nat) (ptr:Nat->Option Nat) (G L:Nat->List Nat):Prop where
 rows:w.ownsRow 0 ety 1 (.slice (some ⟨gr,0,none⟩) m cr) m (zC ptr m)
 row:∀h,has h=true->∃rp,ptr h=some rp/\K.at_ w rp (G h) (L h)
 yF:∀h,has h=true->∀z,z∈G h->z∈Z
 Uz:∀h k,has h=true->has k=true->h≠k->∀z,z∈G h->z∉G k
 Jl:∀z,z∈Z->z<w.heap.size
 Uf:gr∉Z
section
variable {K:RwK} {ety:TypeId} {w w':World} {gr cr m:Nat} {has:Nat->Bool} {Z:List Nat} {ptr:Nat->Option Nat} {G L:Nat->List Nat}
theorem uW.lt (h:uW K ety w gr cr m has Z ptr G L):gr<w.heap.size:=(h.rows.lt gr rfl).2
theorem uW.upd {S:List Nat} (h:uW K ety w gr cr m has Z ptr G L) (hu:aa S w w') (hS:∀z,z∈S->z≠gr/\z∉Z):uW K ety w' gr cr m has Z ptr G L:=
 ⟨aF h.rows hu (fun k hk hm=>by cases hk;exact (hS _ hm).1 rfl),fun g hg=>by
  obtain ⟨rp,e,hr⟩:=h.row g hg
  exact ⟨rp,e,K.upd hr hu (fun z hz hm=>(hS z hz).2 (h.yF g hg z hm))⟩,h.yF,h.Uz,fun z hz=>Nat.lt_of_lt_of_le (h.Jl z hz) hu.size,h.Uf⟩
theorem uW.cell (h:uW K ety w gr cr m has Z ptr G L) {g rp:Nat} (hg:g<m) (hp:ptr g=some rp):w.cell? ⟨gr,g,none⟩=some (.pointer (some ⟨rp,0,none⟩)):=by
 rw [h.rows.cellAt g ω,NY hg,hp];rfl
theorem uW.one {S G' L':List Nat} {g rp:Nat} (h:uW K ety w gr cr m has Z ptr G L) (hg:has g=true) (hp:ptr g=some rp) (hu:aa S w w') (hS:∀z,z∈S->z∈G g\/(z≠gr/\z∉Z)) (hr:K.at_ w' rp G' L') (hG:∀z,z∈G'->z∈G g\/w.heap.size<=z) :
  uW K ety w' gr cr m has (Z++G') ptr (j3 G g G') (j3 L g L'):=by
 have hgl:=h.lt;have hgr:∀z,z∈S->z≠gr:=fun z hz e=>by
  rcases hS z hz with h1|h1
  ·exact h.Uf (by rw [←e];exact h.yF g hg z h1)
  ·exact h1.1 e
 have hoth:∀k,has k=true->k≠g->∀z,z∈S->z∉G k:=fun k hk hne z hz hm=>by
  rcases hS z hz with h1|h1
  ·exact h.Uz g k hg hk (fun e=>hne e.symm) z h1 hm
  ·exact h1.2 (h.yF k hk z hm)
 refine ⟨aF h.rows hu (fun k hk hm=>by cases hk;exact hgr _ hm rfl),fun k hk=>?_,fun k hk z hz=>?_,fun k j hk hj hne z hz=>?_,fun z hz=>?_,fun hm=>?_⟩
 ·by_cases e:k=g
  ·subst e;rw [dX,dX];exact ⟨rp,hp,hr⟩
  ·rw [bQ _ _ e,bQ _ _ e];obtain ⟨q,e2,hq⟩:=h.row k hk;exact ⟨q,e2,K.upd hq hu (hoth k hk e)⟩
 ·by_cases e:k=g
  ·subst e;rw [dX] at hz;exact τ.2 (Or.inr hz)
  ·rw [bQ _ _ e] at hz;exact τ.2 (Or.inl (h.yF k hk z hz))
 ·by_cases e:k=g
  ·subst e;rw [dX] at hz;rw [bQ _ _ (fun e=>hne e.symm)];rcases hG z hz with h1|h1
   ·exact h.Uz k j hk hj hne z h1
   ·exact fun hm=>by have:=h.Jl z (h.yF j hj z hm);omega
  ·rw [bQ _ _ e] at hz
   by_cases e2:j=g
   ·subst e2;rw [dX];intro hm;rcases hG z hm with h1|h1
    ·exact h.Uz k j hk hj hne z hz h1
    ·have:=h.Jl z (h.yF k hk z hz);omega
   ·rw [bQ _ _ e2];exact h.Uz k j hk hj hne z hz
 ·rcases τ.1 hz with h1|h1
  ·exact Nat.lt_of_lt_of_le (h.Jl z h1) hu.size
  ·exact K.lt hr z h1
 ·rcases τ.1 hm with h1|h1
  ·exact h.Uf h1
  ·rcases hG gr h1 with h2|h2
   ·exact h.Uf (h.yF g hg gr h2)
   ·omega
theorem uW.snoc {S G' L':List Nat} {rp Z4 cr':Nat} (h:uW K ety w gr cr m has Z ptr G L) (hm:has m=false) (hu:aa S w w') (hS:∀z,z∈S->z∉Z) (hr:K.at_ w' rp G' L') (hG:∀z,z∈G'->w.heap.size<=z) (hg1:Z4∉Z) (hg2:Z4∉G')
  (hrow:w'.ownsRow 0 ety 1 (.slice (some ⟨Z4,0,none⟩) (m+1) cr') (m+1) (zC ptr m++[Bw (some rp)])) :
  uW K ety w' Z4 cr' (m+1) (fun h=>has h || h == m) (Z++G') (j3 ptr m (some rp)) (j3 G m G') (j3 L m L'):=by
 have hcase:∀k,(has k || k == m)=true->k=m\/(k≠m/\has k=true):=fun k hk=>by
  by_cases e:k=m
  ·exact Or.inl e
  ·right;simp [e] at hk;exact ⟨e,hk⟩
 refine ⟨by rw [Kr] at hrow;exact hrow,fun k hk=>?_,fun k hk z hz=>?_,fun k j hk hj hne z hz=>?_,fun z hz=>?_,fun hmm=>?_⟩
 ·rcases hcase k hk with rfl|⟨e,hk'⟩
  ·rw [dX,dX,dX];exact ⟨rp,rfl,hr⟩
  ·rw [bQ _ _ e,bQ _ _ e,bQ _ _ e];obtain ⟨q,e2,hq⟩:=h.row k hk';exact ⟨q,e2,K.upd hq hu (fun z hz hm=>hS z hz (h.yF k hk' z hm))⟩
 ·rcases hcase k hk with rfl|⟨e,hk'⟩
  ·rw [dX] at hz;exact τ.2 (Or.inr hz)
  ·rw [bQ _ _ e] at hz;exact τ.2 (Or.inl (h.yF k hk' z hz))
 ·rcases hcase k hk with rfl|⟨e,hk'⟩
  ·rcases hcase j hj with rfl|⟨e2,hj'⟩
   ·exact absurd rfl hne
   ·rw [dX] at hz;rw [bQ _ _ e2];exact fun hm=>by have:=h.Jl z (h.yF j hj' z hm);have:=hG z hz;omega
  ·rw [bQ _ _ e] at hz;rcases hcase j hj with rfl|⟨e2,hj'⟩
   ·rw [dX];exact fun hm=>by have:=h.Jl z (h.yF k hk' z hz);have:=hG z hm;omega
   ·rw [bQ _ _ e2];exact h.Uz k j hk' hj' hne z hz
 ·rcases τ.1 hz with h1|h1
  ·exact Nat.lt_of_lt_of_le (h.Jl z h1) hu.size
  ·exact K.lt hr z h1
 ·rcases τ.1 hmm with h1|h1
  ·exact hg1 h1
  ·exact hg2 h1
end
theorem J8 {A:NS} {x:Nat} (hx:x<A.cs.length) (hz:0<(A.c x).i) (q:Int) :
  (if q=(A.c x).i then (if (dZ A (A.c x).i:Int)-1=0 then none else some ((dZ A (A.c x).i:Int)-1)) else jF A q)=jF (jh A x Cl.z) q:=by
 have:=nL A x Cl.z q hx;have hp:0<dZ A (A.c x).i:=fM.2 ⟨x,hx,rfl,hz⟩;unfold jF
 by_cases e:q=(A.c x).i
 ·subst e;rw [if_pos rfl];rw [if_pos ⟨rfl,hz⟩,if_neg (show ¬ (Cl.z.i=(A.c x).i/\0<(A.c x).i) from fun h=>by have:(0:Int)=(A.c x).i:=h.1;omega)] at this
  by_cases h1:dZ A (A.c x).i=1
  ·rw [if_pos ω,if_neg ω]
  ·rw [if_neg ω,if_pos ω]
   congr 1;omega
 ·rw [if_neg e];rw [if_neg (fun h=>e h.1.symm),if_neg (show ¬ (Cl.z.i=q/\0<q) from fun h=>by have:(0:Int)=q:=h.1;omega)] at this;simp only [Nat.add_zero] at this;rw [this]
theorem iD {w:World} {c st:Nat} {F:List Nat} {A:NS} (h:aG w c F A st) (x:Nat) (hx:bX A x=true) :
  Calls Tryz.prog 151 #[.pointer (some ⟨c,0,none⟩),.int .i64 (x:Int)] w fun e w'=>e=.returned (.bool true)/\aG w' c F (bz A x) st/\aa F w w':=by
 have k:=eB h x hx;obtain ⟨hx1,hx2⟩:=(ai _ _).1 hx;have hrng:=h.ok.nat x hx1;have hA1:=h.ok.h1;have hA2:=h.ok.c1;obtain ⟨hh,hhe⟩:∃r:Nat,(A.c x).i=r:=⟨(A.c x).i.toNat,ω⟩;have hp:0<dZ A (hh:Int):=fM.2 ⟨x,hx1,hhe,ω⟩;have hlen:=Dt h.ok (hh:Int);have hM:=fun q=>J8 hx1 hx2 q;have ok':=Gx h.ok x;have e:bz A (x:Int)=jh A x Cl.z:=by unfold bz;rw [if_pos hx];simp
 rw [hhe] at k hM hrng;have HE:=χ e;have HM:=χ hM;have EU:1<=hh:=ω;have HO:=χ ok';obtain ⟨len,hle⟩:∃n,n=A.cs.length:=⟨_,rfl⟩;have HL:=χ hle;clear h hx hM ok' e hle hx2 hhe;have hx1:x<len:=by have:=HL.out;omega
 obtain ⟨m,hm⟩:∃m:Int,m=(dZ A (hh:Int):Int):=⟨_,rfl⟩;rw [←hm] at HM;have HZ:=χ hm;have hm1:0<m:=ω;have hm2:m<=65536:=ω;clear hm hp hlen
 go_enter Tryz.func151,Tryz.ntmps151
 go_wp2_with fail
 refine k.mono ?_;rintro e w1 ⟨rfl,hC,hu⟩;have hsz:=hu.size;have hlt:=hC.lt;obtain ⟨ca,nm,mb,g,cap,l,rt,dp,raw,h,rfl⟩:=hC;have c1:=h.c1;have c3:=h.c3;rw [←HL.out] at c1;have d0:=h.row.cell (x*3) (by rw [←HL.out];omega);have d1:=h.row.cell (x*3+1) (by rw [←HL.out];omega);have d2:=h.row.cell (x*3+2) (by rw [←HL.out];omega);have f0:=h.row.free (x*3);have f1:=h.row.free (x*3+1);have f2:=h.row.free (x*3+2);have l1:=hlt c σ;have l2:=hlt ca σ;have l3:=hlt mb σ;have hs:=h.sep;have H:=χ h;have HU:=χ hu;clear h hlt k hu
 have fin:∀ (w2:World),gN w2 mb (jF (jh A x Cl.z))->aa [mb] (((w1.setCell ⟨ca,x*3,none⟩ (.int .i64 0)).setCell ⟨ca,x*3+1,none⟩ (.int .i64 0)).setCell ⟨ca,x*3+2,none⟩ (.int .u64 0)) w2->
   aG w2 c [c,ca,nm,mb,g] (bz A x) st/\aa [c,ca,nm,mb,g] w w2:=fun w2 hm2 hu2=>by
  have hu3:aa [ca] w1 (((w1.setCell ⟨ca,x*3,none⟩ (.int .i64 0)).setCell ⟨ca,x*3+1,none⟩ (.int .i64 0)).setCell ⟨ca,x*3+2,none⟩ (.int .u64 0)):=β;have hr3:=(row3 (i:=x) H.out.row Cl.z).upd hu2 ι;have iC:aa [ca,mb] w1 w2:=(hu3.mono ι).joined hu2 (fun y hy=>Or.inl (by simp at hy;simp [hy]));refine ⟨⟨ca,nm,mb,g,cap,l,rt,dp,fun y=>if y=x then Cl.z else raw y,?_,rfl⟩,HU.out.trans (iC.mono ι)⟩;have ok':=HO.out;rw [HE.out] at ok' ⊢;exact H.out.turn iC hr3 hm2 ok' (fO _ _ _) rfl (zM H.out.rel (by rw [←HL.out];exact hx1) (Or.inl ⟨rfl,rfl⟩))
 have FIN:=χ fin;clear fin
 by_cases h1:m=1
 ·have hb:(m-1 == 0)=true:=ζ;have H1:=χ h1;clear h1
  go_wp2_with (first
   | (at_lookup;refine lL (o:=⟨some 27,_,_,_,_,_⟩) (by rfl) _ _ (by rfl) mb (jF A) (by rfl) (H.out.many.upd (S:=[ca]) β ι) (hh:Int) (by rfl) ω m ((uD _ _).trans HZ.out.symm) ?_)
   | (at_lookup;refine lL (o:=⟨some 34,_,_,_,_,_⟩) (by rfl) _ _ (by rfl) mb _ (by rfl) hm2 (hh:Int) (by rfl) ω (m-1) σ ?_)
   | (at_mapUpdate;refine mK rfl _ _ _ rfl mb (jF A) rfl (H.out.many.upd (S:=[ca]) β ι) (hh:Int) (m-1) rfl rfl ω ω ?_;intro w2 hm2 hu2;(have q1:=hu2.cell (p:=⟨c,3,none⟩) (by simp;exact l1) ι))
   | (at_delete;refine oQ rfl _ _ rfl mb _ rfl hm2 (hh:Int) rfl ω ?_;intro w3 Ud hu3))
  go_ret
  have hm4:gN w3 mb (jF (jh A x Cl.z)):=gN.ext Ud (fun q=>by
   rw [←HM.out q]
   by_cases e:q=(hh:Int)
   ·rw [if_pos e,if_pos e,if_pos (by have:=H1.out;omega)]
   ·rw [if_neg e,if_neg e,if_neg e])
  exact ⟨rfl,FIN.out w3 hm4 (hu2.trans hu3)⟩
 ·have hb:(m-1 == 0)=false:=ζ;have H1:=χ h1;clear h1
  go_wp2_with (first
   | (at_lookup;refine lL (o:=⟨some 27,_,_,_,_,_⟩) (by rfl) _ _ (by rfl) mb (jF A) (by rfl) (H.out.many.upd (S:=[ca]) β ι) (hh:Int) (by rfl) ω m ((uD _ _).trans HZ.out.symm) ?_)
   | (at_lookup;refine lL (o:=⟨some 34,_,_,_,_,_⟩) (by rfl) _ _ (by rfl) mb _ (by rfl) hm2 (hh:Int) (by rfl) ω (m-1) σ ?_)
   | (at_mapUpdate;refine mK rfl _ _ _ rfl mb (jF A) rfl (H.out.many.upd (S:=[ca]) β ι) (hh:Int) (m-1) rfl rfl ω ω ?_;intro w2 hm2 hu2;(have q1:=hu2.cell (p:=⟨c,3,none⟩) (by simp;exact l1) ι)))
  go_ret
  have hm4:gN w2 mb (jF (jh A x Cl.z)):=gN.ext hm2 (fun q=>by
   rw [←HM.out q]
   by_cases e:q=(hh:Int)
   ·rw [if_pos e,if_pos e,if_neg (by have:=H1.out;omega)]
   ·rw [if_neg e,if_neg e])
  exact ⟨rfl,FIN.out w2 hm4 hu2⟩
end Go.Proofs.YtklibcncmbofpaaGreat
