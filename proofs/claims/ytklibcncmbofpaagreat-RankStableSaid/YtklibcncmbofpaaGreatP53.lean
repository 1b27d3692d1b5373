/-
  Lemmas for RankSorts: RkE, RkT, RkV, RkB. Conditions: those of each lemma.
-/
import Derived.Test.YtklibcncmbofpaaGreatP52
set_option maxHeartbeats 8000000
set_option maxRecDepth 10000
set_option linter.unusedVariables false
set_option linter.unusedSimpArgs false
namespace Go.Proofs.YtklibcncmbofpaaGreat
open Go Go.RowKit
theorem zz (kd d:Int) (a:Option Addr) (n cap:Nat) (k:Int) (w:World) (hc:kX kd d≠0) :
  Calls Tryz.prog 17 #[.agg #[.int .i64 kd,.int .i64 d],.slice a n cap,.int .i64 k] w fun e w'=>e=.returned (.tuple #[.slice none 0 0,.int .i64 (kX kd d)])∧aa [] w w':=by
 have kp:=fun W=>xn kd d (n:Int) 1 W hc
 have hcb:(kX kd d != 0)=true:=by simpa using hc
 generalize kX kd d=v at *
 go_enter Tryz.func17,Tryz.ntmps17
 go_wp2_with (first
  | ((go_at_call 39;(with_reducible refine (kp _).mono ?_));rintro e w1 ⟨rfl,hu1⟩)
  | fail)
 go_ret2;exact ⟨rfl,aa.trans β hu1⟩
theorem I1 {K:fJ} (kd d:Int) (a:Option Addr) (n cap:Nat) (k:Int) (w:World) (hc:kX kd d=0) (hn:n≤65536) (hk:k<0∨(n:Int)<k) (ko:jX K kd d n) :
  Calls Tryz.prog 17 #[.agg #[.int .i64 kd,.int .i64 d],.slice a n cap,.int .i64 k] w fun e w'=>e=.returned (.tuple #[.slice none 0 0,.int .i64 201])∧aa [] w w':=by
 have kp:∀W:World,_:=fun W=>rC kd d n 1 W hc hn ω ko
 rw [show ((1:Nat):Int)=1 from rfl] at kp
 clear hc ko;rcases hk with hk|hk
 ·have hkd0:decide (k<0)=true:=by simpa using hk
  go_enter Tryz.func17,Tryz.ntmps17
  go_wp2_with (first
   | ((go_at_call 39;(with_reducible refine (kp _).mono ?_));rintro e w1 ⟨p,F,rfl,hP0,hu0,hF⟩)
   | fail)
  go_ret2;exact ⟨rfl,aa.trans β hu0⟩
 ·have hkd0:decide (k<0)=false:=ζ;have hkd1:decide (k > (n:Int))=true:=ζ
  go_enter Tryz.func17,Tryz.ntmps17
  go_wp2_with (first
   | ((go_at_call 39;(with_reducible refine (kp _).mono ?_));rintro e w1 ⟨p,F,rfl,hP0,hu0,hF⟩)
   | fail)
  go_ret2;exact ⟨rfl,aa.trans β hu0⟩
theorem Ip (kd d:Int) (a:Option Addr) (n cap:Nat) (w:World) (hc:kX kd d≠0) :
  Calls Tryz.prog 16 #[.agg #[.int .i64 kd,.int .i64 d],.slice a n cap] w fun e w'=>e=.returned (.tuple #[.slice none 0 0,.int .i64 (kX kd d)])∧aa [] w w':=by
 have kl:=fun W=>zz kd d a n cap (n:Int) W hc
 generalize kX kd d=v at *
 go_enter Tryz.func16,Tryz.ntmps16
 go_wp2_with (first
  | ((go_at_call 17;(with_reducible refine (kl _).mono ?_));rintro e w1 ⟨rfl,hu1⟩)
  | fail)
 go_ret2;exact ⟨rfl,aa.trans β hu1⟩
theorem ql {K:fJ} (kd d:Int) (vk:Value) (ks:List Int) (w:World) (hS:fI w [] vk ks) (hb:∀x,x∈ks→-9223372036854775808≤x∧x≤9223372036854775807) (hc:kX kd d=0) (hn:ks.length≤65536) (ko:jX K kd d ks.length) :
  Calls Tryz.prog 16 #[.agg #[.int .i64 kd,.int .i64 d],vk] w fun e w'=>∃ao co,e=.returned (.tuple #[.slice ao ks.length co,.int .i64 0])∧w'.ownsRow w.heap.size 3 1 (.slice ao ks.length co) ks.length (aH (vw (aU (fun i=>ks.getD i 0) ks.length)))∧aa [] w w':=by
 have hS0:=hS;obtain ⟨a,cap,rfl,hcap1,hcap2,hcell⟩:=hS;have u0:aa [] w (w.alloc (.cells #[.int .i64 kd,.int .i64 d] 23)):=(aa.refl _ _).alloc _;have kl:=fun W (hW:aa [] w W)=>yM kd d (.slice a ks.length cap) ks ks.length W (hS0.fresh hW (fun g hg=>Or.inl hg)) hb hc hn (Nat.le_refl _) ko
 rw [List.take_of_length_le (by rw [jq];exact Nat.le_refl _)] at kl
 generalize aU (fun i=>ks.getD i 0) ks.length=L at *
 clear hS0 hb hc hn ko hcell;generalize ks.length=n at *
 go_enter Tryz.func16,Tryz.ntmps16
 go_wp2_with (first
  | ((go_at_call 17;(with_reducible refine (kl _ β).mono ?_));rintro e w1 ⟨ao,co,rfl,ho,hu1⟩)
  | fail)
 go_ret2;exact ⟨ao,co,rfl,iA ho σ,aa.trans β hu1⟩
theorem Ou (x:Int) (h:-9223372036854775808≤x∧x≤9223372036854775807):bits BinOp.xor IntKind.i64 (-1) x=-1-x:=by
 unfold bits
 show IntKind.i64.wrap ((BitVec.ofInt 64 (-1) ^^^ BitVec.ofInt 64 x).toNat:Int)=_
 have h1:BitVec.ofInt 64 (-1)=BitVec.allOnes 64:=δ;rw [h1,BitVec.allOnes_xor,BitVec.toNat_not,BitVec.toNat_ofInt];have h2:(((2 ^ 64-1-(x % ((2 ^ 64:Nat):Int)).toNat:Nat)):Int)=18446744073709551615-x % 18446744073709551616:=ω;rw [h2]
 by_cases hx:0≤x
 ·rw [Int.emod_eq_of_lt hx ω];unfold IntKind.wrap;simp [IntKind.bits,IntKind.signed];omega
 ·have h3:x % 18446744073709551616=x+18446744073709551616:=ω;rw [h3];unfold IntKind.wrap;simp [IntKind.bits,IntKind.signed];omega
theorem lJ (x:Int) (w:World) (h:-9223372036854775808≤x∧x≤9223372036854775807) :
  Calls Tryz.prog 42 #[.int .i64 x] w fun e w'=>e=.returned (.int .i64 (-1-x))∧w'=w:=by
 have HX:=χ (Ou x h)
 go_enter Tryz.func42,Tryz.ntmps42
 go_wp2;go_ret;refine ⟨?_,rfl⟩;rw [HX.out];rfl
theorem JK (kd d:Int) (a:Option Addr) (n cap:Nat) (w:World) (hc:kX kd d≠0) :
  Calls Tryz.prog 21 #[.agg #[.int .i64 kd,.int .i64 d],.slice a n cap] w fun e w'=>e=.returned (.tuple #[.slice none 0 0,.int .i64 (kX kd d)])∧aa [] w w':=by
 have kp:=fun W=>xn kd d (n:Int) 2 W hc
 have hcb:(kX kd d != 0)=true:=by simpa using hc
 generalize kX kd d=v at *
 go_enter Tryz.func21,Tryz.ntmps21
 go_wp2_with (first
  | ((go_at_call 39;(with_reducible refine (kp _).mono ?_));rintro e w1 ⟨rfl,hu1⟩)
  | fail)
 go_ret2;exact ⟨rfl,aa.trans β hu1⟩
structure vz (K:fJ) (w0 w:World) (p:Nat) (F:List Nat) (kd d:Int) (R:AR) (A:NS) (q:Nat) (v:Value) (n:Nat) (xs:List Value):Prop where
 pq:fG K w p F kd d R A q
 up:aa [] w0 w
 lo:∀x,x∈F→w0.heap.size≤x
 own:w.ownsRow w0.heap.size 2 1 v n xs
 off:∀g,v.ownBlock=some g→g∉F
section
variable {K:fJ} {w0 w w':World} {p:Nat} {F:List Nat} {kd d:Int} {R R':AR} {A A':NS} {q q':Nat} {v:Value} {n:Nat} {xs:List Value}
theorem vz.go (h:vz K w0 w p F kd d R A q v n xs) (hg:Goes F w w' (fun F'=>fG K w' p F' kd d R' A' q')):∃F',vz K w0 w' p F' kd d R' A' q' v n xs:=by
 obtain ⟨F',h1,h2,h3⟩:=hg;have hs:=h.up.size;refine ⟨F',h1,h.up.joined h2 (fun x hx=>Or.inr (h.lo x hx)),fun x hx=>?_,ay h.own h2 h.off,fun g hg hm=>?_⟩
 ·rcases h3 x hx with h'|h'
  ·exact h.lo x h'
  ·omega
 ·rcases h3 g hm with h'|h'
  ·exact h.off g hg h'
  ·have:=(h.own.lt g hg).2;omega
theorem vz.aj (h:vz K w0 w p F kd d R A q v n xs) (hu:aa [] w w'):vz K w0 w' p F kd d R A q v n xs:=
 ⟨h.pq.aj hu,h.up.trans hu,h.lo,ay h.own hu σ,h.off⟩
theorem vz.put (h:vz K w0 w p F kd d R A q v n xs) {g x:Nat} {k:Int} (hB:aY A (g:Int)=true) (hk:-9223372036854775808≤k∧k≤9223372036854775807) (hq:q+1≤18446744073709551615) (hT:jk R=some (x,R')) (e:A'=aB A (g:Int) (x:Int) k ((q:Int)+1)) :
  Calls Tryz.prog 40 #[.pointer (some ⟨p,0,none⟩),.int .i64 (g:Int),.int .i64 k] w fun e w'=>∃z,e=.returned (.tuple #[.agg #[.int .i64 (x:Int),.int .u32 z],.int .i64 0])∧∃F',vz K w0 w' p F' kd d R' A' (q+1) v n xs:=by
 subst e;exact (uR h.pq g k hB hk hq hT).mono (fun e w' hh=>⟨_,hh.1,h.go hh.2⟩)
theorem vz.ext (h:vz K w0 w p F kd d R A q v n xs) {g m:Nat} (hM:bL A (g:Int)=some m) {k:Int} (hk:(A.c m).k=k) (e1:R'=fU R m) (e2:A'=aL A m) :
  Calls Tryz.prog 41 #[.pointer (some ⟨p,0,none⟩),.int .i64 (g:Int)] w fun e w'=>∃z,e=.returned (.tuple #[.agg #[.int .i64 (m:Int),.int .u32 z],.int .i64 k,.int .i64 0])∧∃F',vz K w0 w' p F' kd d R' A' q v n xs:=by
 subst e1 e2 hk;exact (yJ h.pq g hM).mono (fun e w' hh=>⟨_,hh.1,h.go hh.2⟩)
theorem vz.min (h:vz K w0 w p F kd d R A q v n xs) {g m:Nat} (hM:bL A (g:Int)=some m) {k:Int} (hk:(A.c m).k=k) :
  Calls Tryz.prog 43 #[.pointer (some ⟨p,0,none⟩),.int .i64 (g:Int)] w fun e w'=>∃z,e=.returned (.tuple #[.agg #[.int .i64 (m:Int),.int .u32 z],.int .i64 k,.int .i64 0])∧∃F',vz K w0 w' p F' kd d R A q v n xs:=by
 subst hk;exact (zy h.pq g hM).mono (fun e w' hh=>⟨_,hh.1,h.go hh.2⟩)
end
theorem Ca {K:fJ} (kd d:Int) (vk:Value) (ks:List Int) (w:World) (hS:fI w [] vk ks) (hb:∀x,x∈ks→-9223372036854775808≤x∧x≤9223372036854775807) (hc:kX kd d=0) (hn:ks.length≤65536) (ko:jX K kd d ks.length) :
  Calls Tryz.prog 21 #[.agg #[.int .i64 kd,.int .i64 d],vk] w fun e w'=>∃ao co,e=.returned (.tuple #[.slice ao ks.length co,.int .i64 0])∧w'.ownsRow w.heap.size 2 1 (.slice ao ks.length co) ks.length (aH (lV (fun i=>ks.getD i 0) ks.length))∧aa [] w w':=by
 have kp:∀W:World,_:=fun W=>rC kd d ks.length 2 W hc hn ω ko
 obtain ⟨a,cap,rfl,hcap1,hcap2,hcell⟩:=hS;have hkb:∀j,j<ks.length→-9223372036854775808≤ks.getD j 0∧ks.getD j 0≤9223372036854775807:=fun j hj=>by
  rw [φ,List.getElem?_eq_getElem hj];exact hb _ (List.getElem_mem hj)
 have hrow:∀j,j<ks.length→∃g off,a=some ⟨g,off,none⟩∧g<w.heap.size∧w.cell? ⟨g,off+j,none⟩=some (.int .i64 (ks.getD j 0)):=fun j hj=>by
  obtain ⟨g,off,h1,h2,_,h3⟩:=hcell j ks[j] (List.getElem?_eq_getElem hj);exact ⟨g,off,h1,h2,by rw [h3,φ,List.getElem?_eq_getElem hj];rfl⟩
 have HR:Hid ((∀j,j<ks.length→-9223372036854775808≤(fun i=>ks.getD i 0) j∧(fun i=>ks.getD i 0) j≤9223372036854775807)∧(∀j,j<ks.length→∃g off,a=some ⟨g,off,none⟩∧g<w.heap.size∧w.cell? ⟨g,off+j,none⟩=some (.int .i64 ((fun i=>ks.getD i 0) j)))∧J4 ks.length (fun i=>ks.getD i 0) (AR.new ks.length 4294967295) (Jz (NS.new ks.length) 2) 0 0):=⟨hkb,hrow,Ka _ hn⟩
 clear hcell hb hkb hrow hc ko;generalize (fun i=>ks.getD i 0)=kf at *
 generalize ks.length=n at *
 rw [show ((2:Nat):Int)=2 from rfl] at kp
 go_enter Tryz.func21,Tryz.ntmps21
 go_wp2_with (first
  | ((go_at_call 39;(with_reducible refine (kp _).mono ?_));rintro e w1 ⟨p,F,rfl,hP0,hu0,hF⟩)
  | fail)
 have hu1:aa [] w w1:=aa.trans β hu0;have s1:w.heap.size≤w1.heap.size:=hu1.size;have HI:Hid (vz K w w1 p F kd d (AR.new n 4294967295) (Jz (NS.new n) 2) 0 (.slice none 0 0) 0 (aH (lV kf 0))):=⟨hP0,hu1,fun x hx=>by have:=hF x hx;simp at this;omega,⟨rfl,Or.inl ⟨rfl,rfl⟩⟩,fun g hg=>by cases hg⟩
 clear hP0 hu0 hF hu1 kp s1
 go_loopw [8,9,10,11,12,13,14,15,16,17,18,19,32] (fun v8 v9 v10 v11 v12 v13 v14 v15 v16 v17 v18 v19 v32 wr=>∃ (j q:Nat) (F':List Nat) (R:AR) (A:NS) (ao:Option Addr) (co:Nat),j≤n∧v32=.int .i64 (j:Int)∧v8=.slice ao j co∧vz K w wr p F' kd d R A q (.slice ao j co) j (aH (lV kf j))∧J4 n kf R A q j) (fun _ _ _ _ _ _ _ _ _ _ _ _ v32 _=>n-(intOf v32).toNat)
 case atStart=>exact ⟨0,0,F,_,_,none,0,Nat.zero_le _,rfl,rfl,HI.out,HR.out.2.2⟩
 case round=>
  obtain ⟨j,q,F',R,A,ao,co,hj,rfl,rfl,hP,hI⟩:=hrel;rename World=>wr
  by_cases hjn:j<n
  ·have hjI:decide ((j:Int)<(n:Int))=true:=ζ;have hjI2:(j:Int)<(n:Int):=ω;obtain ⟨hkb,hrow, -⟩:=HR.out;obtain ⟨g,off,rfl,hg,hc⟩:=hrow j hjn;have hc1:=hP.up.was hc;have hkj:=hkb j hjn;obtain ⟨x,R1,A1,m,R2,A2,y,R3,A3,hh1,hT1,e1,hm1,e2,e3,hh2,hT2,e4,hr1,hS3,Kl,hH3,hK3⟩:=hI.first hjn hn hkj;have hqj:=hI.qj;have kI1:=hP.put (g:=1) hh1 (yK hkj) ω hT1 e1;obtain ⟨t1,ht1⟩:∃t1,(A1.c m).k=t1:=⟨_,rfl⟩
   rw [ht1] at hr1 e4;have kE1:∀W F1,vz K w W p F1 kd d R1 A1 (q+1) (.slice ao j co) j (aH (lV kf j))→_:=fun W F1 h=>h.ext (g:=1) hm1 ht1 e2 e3
   have kI2:∀W F1,vz K w W p F1 kd d R2 A2 (q+1) (.slice ao j co) j (aH (lV kf j))→_:=fun W F1 h=>h.put (g:=2) hh2 (yK hr1) ω hT2 e4
   have hb0:w.heap.size≤wr.heap.size:=hP.up.size;rw [show ((1:Nat):Int)=1 from rfl] at kI1 kE1
   rw [show ((2:Nat):Int)=2 from rfl] at kI2
   unfold tn at kI1 kI2;rcases Nat.mod_two_eq_zero_or_one j with ho|ho
   ·obtain ⟨m2,R4,A4,x3,R5,A5,hm2,e5,e6,hh3,hT3,e7,hr2,hI5,m3,hm3,hmv⟩:=J4.even hS3 hjn ω hn hH3 hK3 ho;obtain ⟨t2,ht2⟩:∃t2,(A3.c m2).k=t2:=⟨_,rfl⟩
    rw [ht2] at hr2 e7;obtain ⟨t3,ht3⟩:∃t3,(A5.c m3).k=t3:=⟨_,rfl⟩
    rw [ht3] at hmv;have hr3:-9223372036854775808≤t3∧t3≤9223372036854775807:=by rw [←ht3];exact ⟨(hI5.s.zF.key m3).1,(hI5.s.zF.key m3).2.1⟩
    have kE2:∀W F1,vz K w W p F1 kd d R3 A3 (q+1+1) (.slice ao j co) j (aH (lV kf j))→_:=fun W F1 h=>h.ext (g:=2) hm2 ht2 e5 e6
    have kI3:∀W F1,vz K w W p F1 kd d R4 A4 (q+1+1) (.slice ao j co) j (aH (lV kf j))→_:=fun W F1 h=>h.put (g:=1) hh3 (yK hr2) ω hT3 e7
    have kM:∀W F1,vz K w W p F1 kd d R5 A5 (q+1+1+1) (.slice ao j co) j (aH (lV kf j))→_:=fun W F1 h=>h.min (g:=1) hm3 ht3
    rw [show ((2:Nat):Int)=2 from rfl] at kE2
    rw [show ((1:Nat):Int)=1 from rfl] at kI3 kM
    unfold tn at kI3;have hpar:(j:Int).tmod 2=0:=by rw [show (j:Int).tmod 2=((j % 2:Nat):Int) from rfl,ho];rfl
    have HQ:=χ (ψ hI5 hmv);clear hP hI hI5 hmv hS3 hH3 hK3 hc hkb hrow hT1 hT2 hT3 e1 e2 e3 e4 e5 e6 e7 hm1 hm2 hm3 ht1 ht2 ht3 hh1 hh2 hh3 ho;generalize kf j=kj at *
    go_upto_region 15 with (first
     | ((go_at_call 42;(with_reducible refine (lJ kj _ hkj).mono ?_));rintro e wt ⟨rfl,rfl⟩)|((go_at_call 42;(with_reducible refine (lJ t1 _ hr1).mono ?_));rintro e wt ⟨rfl,rfl⟩)|((go_at_call 42;(with_reducible refine (lJ t2 _ hr2).mono ?_));rintro e wt ⟨rfl,rfl⟩)
     | ((go_at_call 40;(with_reducible refine (kI1).mono ?_));rintro e wi ⟨z,rfl,Fi,hI1⟩)|((go_at_call 41;(with_reducible refine (kE1 _ _ hI1).mono ?_));rintro e we ⟨z,rfl,Fe,hE1⟩)|((go_at_call 40;(with_reducible refine (kI2 _ _ (hE1.aj β)).mono ?_));rintro e wi ⟨z,rfl,Fi,hI2⟩)|((go_at_call 41;(with_reducible refine (kE2 _ _ hI2).mono ?_));rintro e we ⟨z,rfl,Fe,hE2⟩)|((go_at_call 40;(with_reducible refine (kI3 _ _ (hE2.aj β)).mono ?_));rintro e wi ⟨z,rfl,Fi,hI3⟩)
     | ((go_at_call 43;(with_reducible refine (kM _ _ hI3).mono ?_));rintro e we ⟨z,rfl,Fm,hM⟩)
     | fail)
    refine gB (fun W=>∃F6,vz K w W p F6 kd d _ _ (q+1+1+1) (.slice ao j co) j (aH (lV kf j))) ⟨_,hM.aj β⟩ ?_
    rintro W ⟨F6,hP6⟩;have ho6:=hP6.own;have hb6:w.heap.size≤W.heap.size:=hP6.up.size;have HP:=χ hP6;clear hP6 hM
    go_wp2_with (first|((go_at_call 42;(with_reducible refine (lJ t3 _ hr3).mono ?_));rintro e wt ⟨rfl,rfl⟩)|(at_builtin;refine aC rfl _ _ 24 rfl w.heap.size 2 (.int .i64 0) 1 8 Tryz.underlying24 zW rfl δ _ _ _ rfl ho6 [.int .i64 _] rfl (by simp [Value.oneCell']) (by first|rfl|(rw [World.size_alloc];rfl)) μ ω ω ?_;intro v2 w9 ho9 hu9 hsep9;obtain ⟨a9,c9,rfl,hc9⟩:=aR ho9)|fail)
    go_roundw
    case rel=>
     obtain ⟨hI5,hmv⟩:=HQ.out;have hP6:=HP.out;have hl6:=hP6.pq.lt;refine ⟨j+1,_,F6,_,_,a9,c9,ω,by go_num,rfl,⟨hP6.pq.upd hu9 (fun x hx=>hP6.off x (Option.mem_toList.1 hx)),hP6.up.own ho6 (Nat.le_refl _) hu9,hP6.lo,by rw [uI,←hmv,aS];exact ho9,fun g hg=>?_⟩,hI5⟩
     rcases hsep9 with h|h
     ·rw [h] at hg;exact hP6.off g hg
     ·have h9:=h g hg;exact fun hm=>by have:=hl6 g hm;omega
    case measure=>simp [intOf];omega
   ·obtain ⟨hI5,m3,hm3,hmv⟩:=J4.odd hS3 ω hH3 hK3 ho;obtain ⟨t3,ht3⟩:∃t3,(A3.c m3).k=t3:=⟨_,rfl⟩
    rw [ht3] at hmv;have hr3:-9223372036854775808≤t3∧t3≤9223372036854775807:=by rw [←ht3];exact ⟨(hI5.s.zF.key m3).1,(hI5.s.zF.key m3).2.1⟩
    have kM:∀W F1,vz K w W p F1 kd d R3 A3 (q+1+1) (.slice ao j co) j (aH (lV kf j))→_:=fun W F1 h=>h.min (g:=1) hm3 ht3
    rw [show ((1:Nat):Int)=1 from rfl] at kM
    have hpar:(j:Int).tmod 2=1:=by rw [show (j:Int).tmod 2=((j % 2:Nat):Int) from rfl,ho];rfl
    have HQ:=χ (ψ hI5 hmv);clear hP hI hI5 hmv hS3 hH3 hK3 hc hkb hrow hT1 hT2 e1 e2 e3 e4 hm1 hm3 ht1 ht3 hh1 hh2 ho;generalize kf j=kj at *
    go_upto_region 15 with (first
     | ((go_at_call 42;(with_reducible refine (lJ kj _ hkj).mono ?_));rintro e wt ⟨rfl,rfl⟩)|((go_at_call 42;(with_reducible refine (lJ t1 _ hr1).mono ?_));rintro e wt ⟨rfl,rfl⟩)
     | ((go_at_call 40;(with_reducible refine (kI1).mono ?_));rintro e wi ⟨z,rfl,Fi,hI1⟩)|((go_at_call 41;(with_reducible refine (kE1 _ _ hI1).mono ?_));rintro e we ⟨z,rfl,Fe,hE1⟩)|((go_at_call 40;(with_reducible refine (kI2 _ _ (hE1.aj β)).mono ?_));rintro e wi ⟨z,rfl,Fi,hI2⟩)
     | ((go_at_call 43;(with_reducible refine (kM _ _ hI2).mono ?_));rintro e we ⟨z,rfl,Fm,hM⟩)
     | fail)
    refine gB (fun W=>∃F6,vz K w W p F6 kd d _ _ (q+1+1) (.slice ao j co) j (aH (lV kf j))) ⟨_,hM.aj β⟩ ?_
    rintro W ⟨F6,hP6⟩;have ho6:=hP6.own;have hb6:w.heap.size≤W.heap.size:=hP6.up.size;have HP:=χ hP6;clear hP6 hM
    go_wp2_with (first|((go_at_call 42;(with_reducible refine (lJ t3 _ hr3).mono ?_));rintro e wt ⟨rfl,rfl⟩)|(at_builtin;refine aC rfl _ _ 24 rfl w.heap.size 2 (.int .i64 0) 1 8 Tryz.underlying24 zW rfl δ _ _ _ rfl ho6 [.int .i64 _] rfl (by simp [Value.oneCell']) (by first|rfl|(rw [World.size_alloc];rfl)) μ ω ω ?_;intro v2 w9 ho9 hu9 hsep9;obtain ⟨a9,c9,rfl,hc9⟩:=aR ho9)|fail)
    go_roundw
    case rel=>
     obtain ⟨hI5,hmv⟩:=HQ.out;have hP6:=HP.out;have hl6:=hP6.pq.lt;refine ⟨j+1,_,F6,_,_,a9,c9,ω,by go_num,rfl,⟨hP6.pq.upd hu9 (fun x hx=>hP6.off x (Option.mem_toList.1 hx)),hP6.up.own ho6 (Nat.le_refl _) hu9,hP6.lo,by rw [uI,←hmv,aS];exact ho9,fun g hg=>?_⟩,hI5⟩
     rcases hsep9 with h|h
     ·rw [h] at hg;exact hP6.off g hg
     ·have h9:=h g hg;exact fun hm=>by have:=hl6 g hm;omega
    case measure=>simp [intOf];omega
  ·obtain rfl:j=n:=ω;have hjI:decide ((j:Int)<(j:Int))=false:=σ;have HO:=χ hP;clear hP hI;go_wp2;go_ret2;exact ⟨ao,co,rfl,HO.out.own,HO.out.up⟩
theorem Pn {W:World} {g:Nat} {x y z u:Int} (h0:W.cell? ⟨g,0,none⟩=some (.int .i64 x)) (h1:W.cell? ⟨g,1,none⟩=some (.int .i64 y)) (h2:W.cell? ⟨g,2,none⟩=some (.int .i64 z)) (h3:W.cell? ⟨g,3,none⟩=some (.int .i64 u)):fI W [] (.slice (some ⟨g,0,none⟩) 4 4) [x,y,z,u]:=by
 refine ⟨some ⟨g,0,none⟩,4,rfl,σ,ω,fun j v hj=>⟨g,0,rfl,World.block_lt_of_cell? W _ h0,σ,?_⟩⟩
 match j,hj with
 | 0,hj=>simp at hj;subst hj;exact h0
 | 1,hj=>simp at hj;subst hj;exact h1
 | 2,hj=>simp at hj;subst hj;exact h2
 | 3,hj=>simp at hj;subst hj;exact h3
 | j+4,hj=>simp at hj
theorem PS {W:World} {g:Nat} {x y z:Int} (h0:W.cell? ⟨g,0,none⟩=some (.int .i64 x)) (h1:W.cell? ⟨g,1,none⟩=some (.int .i64 y)) (h2:W.cell? ⟨g,2,none⟩=some (.int .i64 z)):fI W [] (.slice (some ⟨g,0,none⟩) 3 3) [x,y,z]:=by
 refine ⟨some ⟨g,0,none⟩,3,rfl,σ,ω,fun j v hj=>⟨g,0,rfl,World.block_lt_of_cell? W _ h0,σ,?_⟩⟩
 match j,hj with
 | 0,hj=>simp at hj;subst hj;exact h0
 | 1,hj=>simp at hj;subst hj;exact h1
 | 2,hj=>simp at hj;subst hj;exact h2
 | j+3,hj=>simp at hj
theorem OI {W:World} {va:Value} (h:fI W [] va [3,1,2,1]) :
  Calls Tryz.prog 16 #[.agg #[.int .i64 6,.int .i64 0],va] W fun e w'=>∃ao co,e=.returned (.tuple #[.slice ao 4 co,.int .i64 0])∧fI w' [] (.slice ao 4 co) [1,3,2,0]∧aa [] W w':=by
 refine (ql 6 0 va [3,1,2,1] W h δ (by decide +kernel) δ (xL 4 ω)).mono ?_
 rintro e w' ⟨ao,co,rfl,ho,hu⟩;have e4:vw (aU (fun i=>[3,1,2,1].getD i 0) 4)=[1,3,2,0]:=by decide +kernel
 refine ⟨ao,co,rfl,?_,hu⟩;have ho':w'.ownsRow W.heap.size 3 1 (.slice ao 4 co) 4 (aH (vw (aU (fun i=>[3,1,2,1].getD i 0) 4))):=ho
 rw [e4] at ho';exact fI.gJ (xs:=[1,3,2,0]) ho' (fun g hg=>by cases hg)
theorem Pe {W:World} {va:Value} (h:fI W [] va [3,1,2]) :
  Calls Tryz.prog 21 #[.agg #[.int .i64 6,.int .i64 0],va] W fun e w'=>∃g co,e=.returned (.tuple #[.slice (some ⟨g,0,none⟩) 3 co,.int .i64 0])∧w'.cell? ⟨g,0,none⟩=some (.int .i64 3)∧w'.cell? ⟨g,1,none⟩=some (.int .i64 1)∧w'.cell? ⟨g,2,none⟩=some (.int .i64 2)∧aa [] W w':=by
 refine (Ca 6 0 va [3,1,2] W h δ (by decide +kernel) δ (xL 3 ω)).mono ?_
 rintro e w' ⟨ao,co,rfl,ho,hu⟩;have e4:lV (fun i=>[3,1,2].getD i 0) 3=[3,1,2]:=by decide +kernel
 have ho':w'.ownsRow W.heap.size 2 1 (.slice ao 3 co) 3 (aH (lV (fun i=>[3,1,2].getD i 0) 3)):=ho
 rw [e4] at ho';obtain ⟨g,cap,he,_,_,_,_,hc,_⟩:=bY ho' ω;cases he;exact ⟨g,_,rfl,hc 0 _ rfl,hc 1 _ rfl,hc 2 _ rfl,hu⟩
theorem dE (w:World):Calls Tryz.prog 15 #[] w fun r w'=>r=.returned (.bool true)∧aa [] w w':=by
 go_enter Tryz.func15,Tryz.ntmps15
 go_upto_region 4 with (first
  | ((go_at_call 16;(with_reducible refine (OI (Pn γ γ γ γ)).mono ?_));rintro e w1 ⟨ao,co,rfl,hS1,hu1⟩;(have q0:w1.cell? ⟨w.heap.size,0,none⟩=some (.int .i64 6):=hu1.was γ);(have q1:w1.cell? ⟨w.heap.size,1,none⟩=some (.int .i64 0):=hu1.was γ);(have hw1:aa [] w w1:=aa.trans β hu1))
  | ((go_at_call 21;(with_reducible refine (Pe (PS γ γ γ)).mono ?_));rintro e w2 ⟨g,cm,rfl,c0,c1,c2,hu2⟩)
  | fail)
 have hu12:aa [] w1 w2:=aa.trans β hu2;have hS2:=hS1.fresh hu12 (F':=[]) (fun g hg=>Or.inl hg)
 have hw2:=hw1.trans hu12;have hgl:=World.block_lt_of_cell? w2 _ c0;dsimp only at hgl;have hne:¬g=w2.heap.size:=ω;clear hS1 hu1 hu2 q0 q1 hw1 hu12
 go_wp2_with (first
  | ((go_at_call 20;(with_reducible refine (lh _ [] [] _ _ [1,3,2,0] (hS2.fresh β (fun g hg=>Or.inl hg)) (Pn γ γ γ γ)).mono ?_));rintro e w3 ⟨rfl,kk,rfl⟩)
  | fail)
 go_ret;exact ⟨rfl,β⟩
end Go.Proofs.YtklibcncmbofpaaGreat
