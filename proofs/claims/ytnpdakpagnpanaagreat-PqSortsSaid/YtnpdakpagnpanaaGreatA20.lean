/-
  Lemmas for PqSorts: RSh, RDr, OpR, PsW. Conditions: those of each lemma.
-/
import Derived.Test.YtnpdakpagnpanaaGreatA17
import Derived.Test.YtnpdakpagnpanaaGreatA19
set_option linter.all false
set_option maxHeartbeats 8000000
set_option maxRecDepth 10000
namespace Go.Proofs.YtnpdakpagnpanaaGreat
open Go Go.RowKit
theorem Ta (p c:Nat):∀W:World,W.cell? ⟨p,0,none⟩=some (.pointer (some ⟨c,0,none⟩))->(method 409 146 (.pointer (some ⟨p,0,none⟩)) "Len").run Tryz.prog W=.ok (126,.pointer (some ⟨c,0,none⟩)) W:=(by intro W h;unfold method;have hm:∃m,(Array.find? (λx=>x.name == "Len") Tryz.t146.methods)=some m/\m.path.toList=[⟨210,0,true⟩]/\m.func=some (126,true)/\m.path.isEmpty=false:=⟨(Array.find? (λx=>x.name == "Len") Tryz.t146.methods).get!,by kernel_rfl,by kernel_rfl,by kernel_rfl,by kernel_rfl⟩;obtain ⟨m,h1,h2,h3,h4⟩:=hm;go_simp;simp only [follow,Place.get];go_simp;(try unfold receiverAt);(try simp only [Place.get]);(try go_simp))
theorem RL (p c:Nat):∀W:World,W.cell? ⟨p,0,none⟩=some (.pointer (some ⟨c,0,none⟩))->(method 409 146 (.pointer (some ⟨p,0,none⟩)) "Home").run Tryz.prog W=.ok (124,.pointer (some ⟨c,0,none⟩)) W:=(by intro W h;unfold method;have hm:∃m,(Array.find? (λx=>x.name == "Home") Tryz.t146.methods)=some m/\m.path.toList=[⟨210,0,true⟩]/\m.func=some (124,true)/\m.path.isEmpty=false:=⟨(Array.find? (λx=>x.name == "Home") Tryz.t146.methods).get!,by kernel_rfl,by kernel_rfl,by kernel_rfl,by kernel_rfl⟩;obtain ⟨m,h1,h2,h3,h4⟩:=hm;go_simp;simp only [follow,Place.get];go_simp;(try unfold receiverAt);(try simp only [Place.get]);(try go_simp))
theorem VD (p:Nat):∀W:World,(method 409 146 (.pointer (some ⟨p,0,none⟩)) "Delete").run Tryz.prog W=.ok (261,.pointer (some ⟨p,0,none⟩)) W:=λ_=>by kernel_rfl
theorem Pf (p:Nat):∀W:World,(method 409 146 (.pointer (some ⟨p,0,none⟩)) "Meld").run Tryz.prog W=.ok (265,.pointer (some ⟨p,0,none⟩)) W:=λ_=>by kernel_rfl
def Qo:uC where
 toNestQ:=tV
 xL:=λ{w p F A} a b hB h=>by
  obtain ⟨B,F1,Z,gr,st,rfl,rfl,hL⟩:=h;refine aP 265 (λ_ _=>by kernel_rfl) (Pf _) (λW hW=>?_);exact (GR (hL.ai hW) a b hB).mono (λe w' h=>⟨h.1,WC.of h.2⟩)
theorem Tk (p c:Nat):∀W:World,W.cell? ⟨p,0,none⟩=some (.pointer (some ⟨c,0,none⟩))->(method 409 122 (.pointer (some ⟨p,0,none⟩)) "Len").run Tryz.prog W=.ok (126,.pointer (some ⟨c,0,none⟩)) W:=(by intro W h;unfold method;have hm:∃m,(Array.find? (λx=>x.name == "Len") Tryz.t122.methods)=some m/\m.path.toList=[⟨179,0,true⟩]/\m.func=some (126,true)/\m.path.isEmpty=false:=⟨(Array.find? (λx=>x.name == "Len") Tryz.t122.methods).get!,by kernel_rfl,by kernel_rfl,by kernel_rfl,by kernel_rfl⟩;obtain ⟨m,h1,h2,h3,h4⟩:=hm;go_simp;simp only [follow,Place.get];go_simp;(try unfold receiverAt);(try simp only [Place.get]);(try go_simp))
theorem Sc (p c:Nat):∀W:World,W.cell? ⟨p,0,none⟩=some (.pointer (some ⟨c,0,none⟩))->(method 409 122 (.pointer (some ⟨p,0,none⟩)) "Home").run Tryz.prog W=.ok (124,.pointer (some ⟨c,0,none⟩)) W:=(by intro W h;unfold method;have hm:∃m,(Array.find? (λx=>x.name == "Home") Tryz.t122.methods)=some m/\m.path.toList=[⟨179,0,true⟩]/\m.func=some (124,true)/\m.path.isEmpty=false:=⟨(Array.find? (λx=>x.name == "Home") Tryz.t122.methods).get!,by kernel_rfl,by kernel_rfl,by kernel_rfl,by kernel_rfl⟩;obtain ⟨m,h1,h2,h3,h4⟩:=hm;go_simp;simp only [follow,Place.get];go_simp;(try unfold receiverAt);(try simp only [Place.get]);(try go_simp))
theorem TM (p:Nat):∀W:World,(method 409 122 (.pointer (some ⟨p,0,none⟩)) "Delete").run Tryz.prog W=.ok (120,.pointer (some ⟨p,0,none⟩)) W:=λ_=>by kernel_rfl
theorem N8 (p:Nat):∀W:World,(method 409 122 (.pointer (some ⟨p,0,none⟩)) "Meld").run Tryz.prog W=.ok (128,.pointer (some ⟨p,0,none⟩)) W:=λ_=>by kernel_rfl
def Ry (d:Nat):uC where
 toNestQ:=uL d
 xL:=λ{w p F A} a b hB h=>by
  obtain ⟨B,F1,Z,gr,st,rfl,rfl,hd,hL⟩:=h;refine aP 128 (λ_ _=>by kernel_rfl) (N8 _) (λW hW=>?_);exact (Ku (hL.ai hW) a b hB).mono (λe w' h=>⟨h.1,TG.of hd h.2⟩)
theorem FX (kd d:Int) (n:Nat) (hc:zx kd d=0) (hn:n<=65536):∃K:uC,nW K.toNestQ kd d n:=by
 have h1:=BR hc
 by_cases hk:kd=1\/kd=2
 ·obtain ⟨m,hm⟩:∃m:Nat,arity kd d=(m:Int):=by
   refine ⟨(arity kd d).toNat,?_⟩;unfold arity;rcases hk with e|e
   ·rw [Δ e];rfl
   ·rw [Γ ω];have:=h1.2.2.1 e;omega
  exact ⟨Ry m,CE kd d n m hc hk hm hn⟩
 ·have hd:d=0:=h1.2.2.2 ω;subst hd;have h7:kd=3\/kd=4\/kd=5\/kd=6\/kd=7\/kd=8:=ω;rcases h7 with rfl|rfl|rfl|rfl|rfl|rfl
  ·exact ⟨RF,EF n hn⟩
  ·exact ⟨QU,EZ n hn⟩
  ·exact ⟨Rx,Ed n hn⟩
  ·exact ⟨Qd,DI n hn⟩
  ·exact ⟨P8,Dm n hn⟩
  ·exact ⟨Qo,Db n hn⟩
theorem Ot:(Tryz.prog.info? 46).map (λi=>(i.zero,i.size,i.bytes))=some (some (.agg #[.int .i64 0,.int .u32 0]),2,16):=by kernel_rfl
def Ao (kf:Nat->Int) (n t:Nat):Int:=if t=0 then -1 else (((iI kf n).getD (t-1) 0:Nat):Int)
theorem MZ {kf:Nat->Int} {n t x:Nat} (hx:(iI kf n)[t+1]?=some x):(iI kf n).getD t 0<n/\MH kf ((iI kf n).getD t 0) x:=by
 obtain ⟨h1,h2⟩:=List.getElem?_eq_some_iff.1 hx;have h3:(iI kf n).getD t 0=(iI kf n)[t]:=by rw [φ,ε ω];rfl
 rw [h3];refine ⟨og.1 (ϗ _),?_⟩;have:=List.pairwise_iff_getElem.1 (oZ kf n) t (t+1) ω h1 ω;rw [h2] at this;exact this
def SS (hc:Nat->Value) (v:Nat) (j:Nat):Value:=if j=v*2+1 then .int .u32 1 else if j=v*2 then .int .i64 (v:Int) else hc j
structure KL (K:NestQ) (w0 wr:World) (p:Nat) (F:List Nat) (kd d:Int) (R:AR) (A:NS) (q b n j:Nat) (hc:Nat->Value):Prop where
 pq:fA K wr p F kd d R A q
 row:aJ wr b 46 (n*2) hc
 wV:∀x,x<j->hc (x*2)=.int .i64 (x:Int)/\hc (x*2+1)=.int .u32 1
 upd:aa [] w0 wr
 fr:∀x,x∈F->w0.heap.size<=x
 bF:b∉F
 bb:w0.heap.size<=b
section
variable {K:NestQ} {w0 wr:World} {p:Nat} {F:List Nat} {kd d:Int} {R:AR} {A:NS} {q b n j:Nat} {hc:Nat->Value}
theorem KL.goes (h:KL K w0 wr p F kd d R A q b n j hc) {w':World} {R':AR} {A':NS} {q':Nat} (hg:Goes F wr w' (λF'=>fA K w' p F' kd d R' A' q')):∃F',KL K w0 w' p F' kd d R' A' q' b n j hc:=by
 obtain ⟨F',hP,hu,hF⟩:=hg;have hs:=h.upd.size;have hl:=h.row.lt;exact ⟨F',hP,h.row.upd hu h.bF,h.wV,h.upd.joined hu (λx hx=>Β (h.fr x hx)),λx hx=>by rcases hF x hx with e|e;exact h.fr x e;omega,λhm=>by rcases hF b hm with e|e;exact h.bF e;omega,h.bb⟩
theorem KL.ai {w':World} (h:KL K w0 wr p F kd d R A q b n j hc) (hu:aa [] wr w'):KL K w0 w' p F kd d R A q b n j hc:=
 ⟨h.pq.ai hu,h.row.upd hu σ,h.wV,h.upd.trans hu,h.fr,h.bF,h.bb⟩
theorem KL.put (h:KL K w0 wr p F kd d R A q b n j hc):KL K w0 ((wr.setCell ⟨b,j*2,none⟩ (.int .i64 (j:Int))).setCell ⟨b,j*2+1,none⟩ (.int .u32 1)) p F kd d R A q b n (j+1) (SS hc j):=by
 have hu:aa [b] wr ((wr.setCell ⟨b,j*2,none⟩ (.int .i64 (j:Int))).setCell ⟨b,j*2+1,none⟩ (.int .u32 1)):=((aa.refl _ _).setCell (Α σ) _).setCell (Α σ) _;refine ⟨h.pq.upd hu (λx hx=>by simp at hx;rw [hx];exact h.bF),((h.row.set _ _).set _ _).ext (λi hi=>?_),λx hx=>?_,h.upd.joined hu (λx hx=>by simp at hx;rw [hx];exact Β h.bb),h.fr,h.bF,h.bb⟩
 ·rfl
 ·unfold SS
  by_cases e:x=j
  ·subst e;exact ⟨by rw [Γ ω,Δ rfl],by rw [Δ rfl]⟩
  ·rw [Γ ω,Γ ω,Γ ω,Γ ω];exact h.wV x ω
end
theorem Ec (w:World) (vk:Value) (kd d:Int) (ks:List Int) (hh:Nat) (hS:jc w [] vk ks) (hb:∀x,x∈ks->-9223372036854775808<=x/\x<=9223372036854775807) (h255:hh<=255) :
  Calls Tryz.prog 5 #[.agg #[.int .i64 kd,.int .i64 d],vk,.int .u8 (hh:Int)] w λr w'=>r=.returned (.bool true)/\aa [] w w':=by
 obtain ⟨a,cap,rfl,hcap,hcap2,hcell⟩:=hS;have kc:=λW=>GQ kd d W;have hrow:∀j,j<ks.length->∃g off,a=some ⟨g,off,none⟩/\g<w.heap.size/\w.cell? ⟨g,off+j,none⟩=some (.int .i64 ((λi=>ks.getD i 0) j)):=λj hj=>by
  obtain ⟨g,off,h1,h2, -,h3⟩:=hcell j (ks.getD j 0) (by rw [φ,ε hj];rfl);exact ⟨g,off,h1,h2,h3⟩
 have hkb:∀j,j<ks.length->-9223372036854775808<=(λi=>ks.getD i 0) j/\(λi=>ks.getD i 0) j<=9223372036854775807:=λj hj=>by
  refine hb _ ?_
  show ks.getD j 0∈ks
  rw [φ,ε hj];exact ϗ hj
 clear hcell hb;generalize (λi=>ks.getD i 0)=kf at *;generalize ks.length=n at *
 by_cases hn:n > 120
 ·have Wu:(n:Int) > 120:=ω;have hnD:decide ((n:Int) > 120)=true:=ζ;clear kc hrow hkb
  go_enter Tryz.func5,Tryz.ntmps5
  go_wp2_with (first|((go_at_call 10;(with_reducible refine (qx _).mono ?_));rintro e w1 ⟨rfl,hu1⟩;(have Zn:w1.cell? ⟨w.heap.size,0,none⟩=some (.int .i64 kd):=hu1.was γ);(have Z0:w1.cell? ⟨w.heap.size,1,none⟩=some (.int .i64 d):=hu1.was γ);(have hw1:aa [] w w1:=aa.trans β hu1))|fail)
  go_ret;exact ⟨rfl,hw1⟩
 have Wu:¬ (n:Int) > 120:=ω;have hnD:decide ((n:Int) > 120)=false:=ζ
 by_cases hc:zx kd d=0
 ·obtain ⟨K,ko⟩:=FX kd d n hc ω;have kO:∀W:World,Calls Tryz.prog 11 #[.agg #[.int .i64 kd,.int .i64 d],.int .i64 (n:Int),.int .u32 1] W λe w'=>∃p F,e=.returned (.tuple #[.pointer (some ⟨p,0,none⟩),.int .i64 0])/\fA K.toNestQ w' p F kd d (AR.new n 1) (NS.new n) 0/\aa [] W w'/\∀x,x∈F->W.heap.size<=x:=λW=>Aq n 1 W ω ω hc ko;rw [hc] at kc;obtain ⟨m,hm⟩:∃m,1+hh % 5=m:=⟨_,rfl⟩;have hm5:1<=m/\m<=5:=ω;have HR:=χ (ψ hkb hrow);clear hc ko hkb hrow
  go_enter Tryz.func5,Tryz.ntmps5
  go_upto_region 9 with (first
   | ((go_at_call 10;(with_reducible refine (qx _).mono ?_));rintro e w1 ⟨rfl,hu1⟩;(have Zn:w1.cell? ⟨w.heap.size,0,none⟩=some (.int .i64 kd):=hu1.was γ);(have Z0:w1.cell? ⟨w.heap.size,1,none⟩=some (.int .i64 d):=hu1.was γ);(have hw1:aa [] w w1:=aa.trans β hu1))
   | ((go_at_call 21;(with_reducible refine (kc _).mono ?_));rintro e w2 ⟨rfl,hu2⟩;(have q20:=hu2.was Zn);(have q21:=hu2.was Z0))
   | ((go_at_call 11;(with_reducible refine (kO _).mono ?_));rintro e w3 ⟨p,F,rfl,hP,hu3,hf3⟩)
   | fail)
  have s1:=hw1.size;have s2:=hu2.size;have s3:=hu3.size;have hw3:aa [] w w3:=(hw1.trans hu2).trans hu3;have HI:=χ (ψ hP (ψ hw3 (show ∀x,x∈F->w.heap.size<=x from λx hx=>by have:=hf3 x hx;omega)));clear hP hw3 hf3 hu1 hu2 hu3 hw1 Zn Z0 q20 q21 s1 s2 s3 kc kO;rw [show (1+(hh:Int) % 5)=(m:Int) by omega];generalize (hh:Int) % 5=hm5' at *;clear hm;go_wp2
  go_loopw [51] (λv51 wr=>∃ (j:Nat) (F':List Nat),j<=m/\v51=.int .i64 (j:Int)/\fA K.toNestQ wr p F' kd d (AR.new n 1) (uZ (NS.new n) j) 0/\aa [] w wr/\∀x,x∈F'->w.heap.size<=x) (λv51 _=>m-(intOf v51).toNat)
  case atStart=>
   obtain ⟨h1,h2,h3⟩:=HI.out;exact ⟨0,F,Nat.zero_le _,rfl,h1,h2,h3⟩
  case round=>
   obtain ⟨j,F',hj,rfl,hP,hu,hF⟩:=hrel;rename World=>wr
   by_cases hjm:j<m
   ·have IW:(j:Int)<(m:Int):=ω;have UD:decide ((j:Int)<(m:Int))=true:=ζ;have hwj:IntKind.i64.wrap ((j:Int)+1)=(j:Int)+1:=Μ _ ω;have kN:=tL hP;have HU:=χ (ψ hu hF);clear hP hu hF;generalize bW (uZ (NS.new n) j)=mv at *
    go_wp2_with (first
     | ((go_at_call 18;(with_reducible refine (kN).mono ?_));rintro e w4 ⟨rfl,F2,hP2,hu2,hF2⟩)
     | fail)
    go_roundw
    case rel=>
     obtain ⟨hu,hF⟩:=HU.out;have hs:=hu.size;exact ⟨j+1,F2,hjm,by go_num,hP2,hu.joined hu2 (λx hx=>Β (hF x hx)),λx hx=>by rcases hF2 x hx with h|h;exact hF x h;omega⟩
    case measure=>simp [intOf];omega
   ·obtain rfl:m=j:=ω;have IW:¬ (m:Int)<(m:Int):=ω;have UD:decide ((m:Int)<(m:Int))=false:=σ;have HZ:=χ (ψ hP (ψ hu (ψ hF (MI (n:=n) (m:=m) kf ω ω))));have hub:w.heap.size<=wr.heap.size:=hu.size;have RZ:=hP.lt;have HPl:=χ RZ;clear hP hu hF RZ
    go_wp2_with (first
     | (at_make;refine wpList_make_row rfl _ 30 rfl 46 (.agg #[.int .i64 0,.int .u32 0]) 2 16 Tryz.underlying30 Ot n rfl ω μ ?_;intro w5 Fe cB)
     | fail)
    obtain ⟨hP,hu,hF,hz⟩:=HZ.out;have H0:=χ (ψ hz (show KL K.toNestQ w w5 p F' kd d (AR.new n 1) (uZ (NS.new n) m) 0 wr.heap.size n 0 _ from ⟨hP.ai cB,Fe,λx hx=>ω,hu.trans cB,hF,λhm=>by have:=HPl.out _ hm;omega,hub⟩));clear hP hu hF hz Fe cB hub HPl HZ;generalize wr.heap.size=b at *
    go_loopw [11,12,13,14,61] (λ_ _ _ _ v61 wr=>∃ (j:Nat) (F':List Nat) (R:AR) (A:NS) (hc:Nat->Value),j<=n/\v61=.int .i64 (j:Int)/\Ui n m kf R A j j/\KL K.toNestQ w wr p F' kd d R A j b n j hc) (λ_ _ _ _ v61 _=>n-(intOf v61).toNat)
    case atStart=>exact ⟨0,F',_,_,_,Nat.zero_le _,rfl,H0.out.1,H0.out.2⟩
    case round=>
     clear H0;obtain ⟨j,F',R,A,hc,hj,rfl,hA,hW⟩:=hrel;rename World=>wr
     by_cases hjn:j<n
     ·have IW:(j:Int)<(n:Int):=ω;have UD:decide ((j:Int)<(n:Int))=true:=ζ;have hwj:IntKind.i64.wrap ((j:Int)+1)=(j:Int)+1:=Μ _ ω;obtain ⟨hkb,hrow⟩:=HR.out;obtain ⟨g,off,rfl,hg,hcg⟩:=hrow j hjn;have hcj:=hW.upd.was hcg;have hkj:=hkb j hjn;obtain ⟨R',hT,hg0,hA'⟩:=hA.step ω hjn hkj;have ki:=qo hW.pq ((1+j % m:Nat):Int) (kf j) (hA.has _ ω (by have:=Nat.mod_lt j (show m > 0 by omega);omega)) hkj ω hT;rw [hg0,show (((0:Nat):Int)+1)=1 from rfl] at ki;have hmod:=Nat.mod_lt j (show m > 0 by omega);have r1:(j:Int) % (m:Int)=((j % m:Nat):Int):=ω;have HN:=χ (ψ hA' hW)
      clear hA hA' hW hkb hrow hT hg0 hcg;generalize kf j=kj at *;generalize hgm:j % m=gm at *;clear hgm;rw [show ((1+gm:Nat):Int)=1+(gm:Int) by omega] at ki;have hwg:IntKind.i64.wrap (1+(gm:Int))=1+(gm:Int):=Μ _ ω
      go_wp2_with (first
       | ((go_at_call 17;(with_reducible refine (ki).mono ?_));rintro e w6 ⟨rfl,VQ⟩;obtain ⟨F6,Ie⟩:=HN.out.2.goes VQ;(have t0:=Ie.row.cell (j*2) ω);(have t1:=Ie.row.cell (j*2+1) ω);(have Wj:=Ie.row.free (j*2));(have WA:=Ie.row.free (j*2+1));(have hbl:=Ie.row.lt);(have hbn:¬b=w6.heap.size:=ω);(have hbn2:¬w6.heap.size=b:=ω))
       | fail)
      go_roundw
      case rel=>
       rw [show 1+(gm:Int)=((1+gm:Nat):Int) by omega] at Ie;exact ⟨j+1,F6,R',_,_,hjn,by go_num,HN.out.1,Ie.put.ai ((aa.refl _ _).alloc _)⟩
      case measure=>simp [intOf];omega
     ·obtain rfl:n=j:=ω;have IW:¬ (n:Int)<(n:Int):=ω;have UD:decide ((n:Int)<(n:Int))=false:=σ;have H1:=χ (ψ (hA.all hm5.1) hW);clear hA hW;go_wp2
      go_loopw [15] (λv15 wr=>∃ (t:Nat) (F':List Nat) (A:NS),1<=t/\t<=m/\v15=.int .i64 ((t:Int)+1)/\UJ n m kf R A t/\KL K.toNestQ w wr p F' kd d R A n b n n hc) (λv15 _=>m+1-(intOf v15).toNat)
      case atStart=>exact ⟨1,F',A,ω,hm5.1,rfl,H1.out.1,H1.out.2⟩
      case round=>
       clear H1;clear A F';obtain ⟨t,F',A,ht1,htm,rfl,hA,hW⟩:=hrel;rename World=>wr
       by_cases htl:t<m
       ·have ZP:(t:Int)+1<=(m:Int):=ω;have htD:decide ((t:Int)+1<=(m:Int))=true:=ζ;have hwt:IntKind.i64.wrap ((t:Int)+1+1)=(t:Int)+1+1:=Μ _ ω;obtain ⟨hj,hA'⟩:=hA.step ht1 htl;have km:=J3 hW.pq 1 (t+1) hj;rw [show ((t+1:Nat):Int)=(t:Int)+1 by omega,show ((1:Nat):Int)=1 from rfl] at km;have HN:=χ (ψ hA' hW);clear hA hA' hW hj
        go_wp2_with (first
         | ((go_at_call 20;(with_reducible refine (km).mono ?_));rintro e w6 ⟨rfl,VQ⟩;obtain ⟨F6,Ie⟩:=HN.out.2.goes VQ)
         | fail)
        go_roundw
        case rel=>
         rw [show (1:Int)=((1:Nat):Int) from rfl,show (t:Int)+((1:Nat):Int)=((t+1:Nat):Int) by omega] at Ie;exact ⟨t+1,F6,_,ω,ω,by go_num,HN.out.1,Ie⟩
        case measure=>simp [intOf];omega
       ·obtain rfl:m=t:=ω;have ZP:¬ (m:Int)+1<=(m:Int):=ω;have htD:decide ((m:Int)+1<=(m:Int))=false:=Ξ ZP;have H2:=χ (ψ (hA.all hm5.1) (ψ hA.cnt hW));clear hA hW;go_wp2
        go_loopw [16,17,18,19,20,21,22,94] (λv16 _ _ _ _ _ _ v94 wr=>∃ (t:Nat) (F':List Nat) (R:AR) (A:NS),t<=n/\v94=.int .i64 (t:Int)/\v16=.int .i64 (Ao kf n t)/\Xw n kf R A t/\R.cnt+t=n/\KL K.toNestQ w wr p F' kd d R A n b n n hc) (λ_ _ _ _ _ _ _ v94 _=>n-(intOf v94).toNat)
        case atStart=>exact ⟨0,F',R,A,Nat.zero_le _,rfl,rfl,H2.out.1,H2.out.2.1,H2.out.2.2⟩
        case round=>
         clear H2;obtain ⟨t,F',R,A,ht,rfl,rfl,hT,hcnt,hW⟩:=hrel;rename World=>wr
         by_cases htn:t<n
         ·have ZP:(t:Int)<(n:Int):=ω;have htD:decide ((t:Int)<(n:Int))=true:=ζ;have hwt:IntKind.i64.wrap ((t:Int)+1)=(t:Int)+1:=Μ _ ω;obtain ⟨x,hx,sD,hmin,hg1,hkx,rM⟩:=hT.step htn;have hv:R.v x=true:=by rw [hT.link];exact (jW hmin).2.2.2
          have hgc:=(xk hT.ok hv).2;have ke:=J9 hW.pq 1 hmin;rw [hg1,hkx,show ((1:Nat):Int)=1 from rfl] at ke;have HN:=χ (ψ rM (ψ (show (ji R x).cnt+(t+1)=n by omega) (ψ hW hx)));clear hT rM hW hx hmin hg1 hkx hv hgc hcnt;generalize hlv:Ao kf n t=lv at *;have HLV:=χ hlv;clear hlv
          go_upto_region 32 with (first
           | ((go_at_call 22;(with_reducible refine (ke).mono ?_));rintro e w6 ⟨rfl,VQ⟩;obtain ⟨F6,Ie⟩:=HN.out.2.2.1.goes VQ;(have hbl:=Ie.row.lt))
           | fail)
          refine iR (λW=>W.cell? ⟨w6.heap.size,0,none⟩=some (.int .i64 (x:Int))/\W.cell? ⟨w6.heap.size,1,none⟩=some (.int .u32 1)/\aa [] w6 W) ⟨γ,γ,β⟩ ?_;rintro W7 ⟨x0,x1,ny⟩;have P7:=Ie.ai ny;have HX:=χ (ψ x0 (ψ x1 P7));generalize w6.heap.size=b6 at *;clear x0 x1 Ie P7 ny VQ ke hbl;go_wp2
          go_loopw [20,21,22,104] (λv20 _ _ Vz wi=>∃i:Nat,i<=n/\Vz=.int .i64 (i:Int)/\v20=.int .i64 (if x<i then (x:Int) else -1)/\aa [] W7 wi) (λ_ _ _ Vz _=>n-(intOf Vz).toNat)
          case atStart=>exact ⟨0,Nat.zero_le _,rfl,by rw [Γ ω],aa.refl _ _⟩
          case round=>
           obtain ⟨i,hi,rfl,rfl,P9⟩:=hrel;rename World=>wi;obtain ⟨x0,x1,P7⟩:=HX.out
           by_cases hin:i<n
           ·have Uy:(i:Int)<(n:Int):=ω;have hiD:decide ((i:Int)<(n:Int))=true:=ζ;have hwi:IntKind.i64.wrap ((i:Int)+1)=(i:Int)+1:=Μ _ ω;have y0:=P9.was x0;have y1:=P9.was x1;have z0:=P9.was (P7.row.cellAt (i*2) ω (P7.wV i hin).1);have z1:=P9.was (P7.row.cellAt (i*2+1) ω (P7.wV i hin).2);have HU:=χ P9;clear x0 x1 P7
            go_upto_region 35 with (fail)
            refine iR (λW=>W.cell? ⟨wi.heap.size,0,none⟩=some (.int .i64 (i:Int))/\W.cell? ⟨wi.heap.size,1,none⟩=some (.int .u32 1)/\aa [] wi W) ⟨γ,γ,β⟩ ?_;rintro W8 ⟨a0,a1,AV⟩;have b0:=AV.was y0;have b1:=AV.was y1;have hv8:=P9.trans AV;clear y0 y1 z0 z1 AV P9 HU
            by_cases hxi:x=i
            ·subst hxi;have hxe:((x:Int) == (x:Int))=true:=σ;go_wp2
             go_roundw
             case rel=>exact ⟨x+1,hin,by go_num,by rw [Δ ω],hv8⟩
             case measure=>simp [intOf];omega
            ·have hxe:((x:Int) == (i:Int))=false:=ζ;have hxN:¬ (x:Int)=(i:Int):=ω;go_wp2
             go_roundw
             case rel=>
              refine ⟨i+1,hin,by go_num,?_,hv8⟩
              by_cases h:x<i
              ·rw [Δ h,Δ ω]
              ·rw [Γ h,Γ ω]
             case measure=>simp [intOf];omega
           ·obtain rfl:n=i:=ω;have Uy:¬ (n:Int)<(n:Int):=ω;have hiD:decide ((n:Int)<(n:Int))=false:=σ;rw [Δ sD];obtain ⟨-,hrow⟩:=HR.out;obtain ⟨g,off,rfl,hg,hcg⟩:=hrow x sD;have hW8:=P7.ai P9;have hcx:=hW8.upd.was hcg;have zS:(x:Int)<(n:Int):=ω;have hx0:decide ((x:Int)<0)=false:=σ;have H9:=χ hW8;clear x0 x1 P7 hW8 P9 hcg;rcases t with _|t
            ·obtain rfl:lv=-1:=HLV.out.symm;generalize hkx:kf x=kx at *;have hkk:(kx != kx)=false:=σ;go_wp2
             go_roundw
             case rel=>
              obtain ⟨rM,hc2, -,hx⟩:=HN.out;refine ⟨0+1,F6,_,_,ω,by go_num,?_,rM,hc2,H9.out⟩;unfold Ao;rw [Γ ω,φ,hx]
              rfl
             case measure=>simp [intOf];omega
            ·obtain ⟨hyn,hyk⟩:=MZ HN.out.2.2.2;obtain rfl:lv=(((iI kf n).getD t 0:Nat):Int):=by
              rw [←HLV.out];unfold Ao;rw [Γ ω];rfl
             have Td:=HN;clear HLV HN;generalize (iI kf n).getD t 0=y at *;obtain ⟨g',off',e',hg',Zc⟩:=hrow y hyn;cases e';have hcy:=H9.out.upd.was Zc;have U4:(y:Int)<(n:Int):=ω;have hy0:decide ((y:Int)≥0)=true:=σ;unfold MH at hyk;generalize kf y=ky at *;generalize hkx:kf x=kx at *;have hkk:(kx != kx)=false:=σ;have hgt:decide (ky > kx)=false:=ζ;have hgtN:¬ky > kx:=ω;clear Zc hrow;rcases hyk with hyk|⟨rfl,hyk⟩
             ·have heq:(ky == kx)=false:=ζ;have heqN:¬ky=kx:=ω;go_wp2
              go_roundw
              case rel=>
               obtain ⟨rM,hc2, -,hx⟩:=Td.out;refine ⟨t+1+1,F6,_,_,ω,by go_num,?_,rM,hc2,H9.out⟩;unfold Ao;rw [Γ ω,φ,show t+1+1-1=t+1 by omega,hx]
               rfl
              case measure=>simp [intOf];omega
             ·have heq:(ky == ky)=true:=σ;have hyx:decide ((y:Int) > (x:Int))=false:=ζ;go_wp2
              go_roundw
              case rel=>
               obtain ⟨rM,hc2, -,hx⟩:=Td.out;refine ⟨t+1+1,F6,_,_,ω,by go_num,?_,rM,hc2,H9.out⟩;unfold Ao;rw [Γ ω,φ,show t+1+1-1=t+1 by omega,hx]
               rfl
              case measure=>simp [intOf];omega
         ·obtain rfl:n=t:=ω;have ZP:¬ (n:Int)<(n:Int):=ω;have htD:decide ((n:Int)<(n:Int))=false:=σ;have kL:=Lm hW.pq;rw [show R.cnt=0 by omega] at kL;have HU:=χ hW.upd;clear hT hcnt hW
          go_wp2_with (first
           | ((go_at_call 15;(with_reducible refine (kL).mono ?_));rintro e w9 ⟨rfl,rfl⟩)
           | fail)
          go_ret;exact ⟨rfl,HU.out⟩
 ·have hcb:(zx kd d != 0)=true:=by simpa using hc
  clear hrow hkb;generalize zx kd d=c at *
  go_enter Tryz.func5,Tryz.ntmps5
  go_wp2_with (first
   | ((go_at_call 10;(with_reducible refine (qx _).mono ?_));rintro e w1 ⟨rfl,hu1⟩;(have Zn:w1.cell? ⟨w.heap.size,0,none⟩=some (.int .i64 kd):=hu1.was γ);(have Z0:w1.cell? ⟨w.heap.size,1,none⟩=some (.int .i64 d):=hu1.was γ);(have hw1:aa [] w w1:=aa.trans β hu1))
   | ((go_at_call 21;(with_reducible refine (kc _).mono ?_));rintro e w2 ⟨rfl,hu2⟩)
   | fail)
  go_ret;exact ⟨rfl,hw1.trans hu2⟩
end Go.Proofs.YtnpdakpagnpanaaGreat
