/-
  Lemmas for PqSorts: PsP, Cells3. Conditions: those of each lemma.
-/
import Derived.Test.YtnpdakpagnpanaaGreatA04
import Derived.Test.YtnpdakpagnpanaaGreatA05
set_option linter.all false
set_option maxHeartbeats 8000000
set_option maxRecDepth 10000
namespace Go.Proofs.YtnpdakpagnpanaaGreat
open Go Go.RowKit
def uZ (A:NS):Nat->NS
 | 0=>A
 | k+1=>aI (uZ A k)
theorem O5 {n:Nat} (hn:n<=65536):∀m,(uZ (NS.new n) m).Ok
 | 0=>NS.xz n hn
 | m+1=>D6 (O5 hn m)
theorem BA (n:Nat):∀m,(uZ (NS.new n) m).cs=(NS.new n).cs
 | 0=>rfl
 | m+1=>by
  show (aI (uZ (NS.new n) m)).cs=_
  unfold aI
  split
  ·exact BA n m
  ·exact BA n m
theorem Hy (n:Nat):∀m,m<=65536->(uZ (NS.new n) m).hs.length=m+1
 | 0,_=>by simp [uZ,NS.new]
 | m+1,h=>by
  have ih:=Hy n m ω
  show (aI (uZ (NS.new n) m)).hs.length=_
  unfold aI;rw [Γ ω];simp [ih]
theorem IQ (n:Nat):∀m,m<=65536->∀h:Nat,1<=h->h<=m->bA (uZ (NS.new n) m) h=true
 | 0,_,h,h1,h2=>ω
 | m+1,hm,h,h1,h2=>by
  have hl:=Hy n m ω
  show bA (aI (uZ (NS.new n) m)) h=true
  rw [qa _ ω ω,hl]
  by_cases e:h=m+1
  ·simp [e]
  ·rw [IQ n m ω h h1 ω];rfl
structure Ui (n m:Nat) (ks:Nat->Int) (R:AR) (A:NS) (q j:Nat):Prop where
 ok:R.Ok
 Sl:A.Ok
 lA:A.cs.length=n
 lR:R.sl.length=n
 link:∀x:Nat,R.v x=bR A (x:Int)
 has:∀h:Nat,1<=h->h<=m->bA A h=true
 next:R.next=j
 wait:R.wait=[]
 qj:q=j
 jn:j<=n
 cnt:R.cnt=j
 put:∀x,x<j->R.v x=true/\R.g x=1/\A.c x=⟨((1+x % m:Nat):Int),ks x,(x:Int)+1⟩
theorem MI {n m:Nat} (ks:Nat->Int) (hn:n<=65536) (hm:m<=65536):Ui n m ks (AR.new n 1) (uZ (NS.new n) m) 0 0:=
 ⟨AR.xz hn ω,O5 hn m,by rw [BA];simp [NS.new],by simp [AR.new],λx=>by
  rw [Tu,show bR (uZ (NS.new n) m) (x:Int)=bR (NS.new n) (x:Int) from by unfold bR rZ;unfold NS.c;rw [BA],Mg],IQ n m hm,rfl,rfl,rfl,Nat.zero_le _,AR.H8 _ _,λx hx=>ω⟩
theorem Ui.step {n m:Nat} {ks:Nat->Int} {R:AR} {A:NS} {q j:Nat} (h:Ui n m ks R A q j) (hm:1<=m) (hj:j<n) (hk:-9223372036854775808<=ks j/\ks j<=9223372036854775807):∃R',qp R=some (j,R')/\R.g j=0/\Ui n m ks R' (aG A ((1+j % m:Nat):Int) (j:Int) (ks j) ((q:Int)+1)) (q+1) (j+1):=by
 have hfr:=h.ok.fresh j (by rw [h.next];exact Θ _);have hmod:j % m<m:=Nat.mod_lt _ ω;obtain ⟨g,hg⟩:∃g,1+j % m=g:=⟨_,rfl⟩;rw [hg];have hpk:rW R=some (j,{ R with next:=j+1 }):=by
  unfold rW;rw [h.wait];simp only [List.getLast?_nil];rw [Γ (by rw [h.lR,h.next];omega),h.next]
 obtain ⟨R',hR⟩:∃R',R'=AR.put { R with next:=j+1 } j (R.g j+1,true):=⟨_,rfl⟩;have htk:qp R=some (j,R'):=by unfold qp;rw [hpk,hR];rfl
 obtain ⟨t1,t2,t3,t4,t5,t6,t7⟩:=xe h.ok htk;have hR'n:R'.next=j+1:=by rw [hR];rfl
 have hR'w:R'.wait=[]:=by rw [hR];exact h.wait
 have hR'g:∀y,R'.g y=if y=j then 1 else R.g y:=λy=>by
  have e:R'.g y=(R.put j (R.g j+1,true)).g y:=by
   show (R'.sl.getD y (0,false)).1=((R.sl.set j (R.g j+1,true)).getD y (0,false)).1
   rw [t5]
  rw [e,AR.wI]
  by_cases e2:y=j
  ·rw [Δ ⟨e2,t2⟩,Δ e2,hfr.1]
  ·rw [Γ (λh=>e2 h.1),Γ e2]
 have WK:nX A (g:Int) (j:Int)=true:=by
  rw [dP];refine ⟨h.has g ω ω,(fJ _ _).2 ⟨ω,by rw [h.lA];omega⟩,?_⟩;rw [←h.link];exact hfr.2
 have hpc:∀y,(aG A (g:Int) (j:Int) (ks j) ((q:Int)+1)).c y=if y=j then ⟨(g:Int),ks j,(q:Int)+1⟩ else A.c y:=λy=>by
  unfold aG;rw [Δ WK,jA]
  by_cases e2:y=j
  ·rw [Δ ⟨ω,by rw [h.lA];omega⟩,Δ e2]
  ·rw [Γ (λh=>e2 ω),Γ e2]
 have X8:n<=65536:=by have:=h.Sl.c1;have:=h.lA;omega
 refine ⟨R',htk,hfr.1,t1,xn h.Sl _ _ _ _ ⟨hk.1,hk.2,ω,by have:=h.qj;omega⟩,by rw [Ep];exact h.lA,by rw [t5];simp [h.lR],λy=>by rw [Fy h.ok htk,O8 WK,h.link],λz h1 h2=>by unfold aG;rw [Δ WK];exact h.has z h1 h2,hR'n,hR'w,by rw [h.qj],hj,by rw [t7,h.cnt],λy hy=>?_⟩;rw [Fy h.ok htk,hR'g,hpc]
 by_cases e:y=j
 ·subst e;rw [Δ rfl,Δ rfl];exact ⟨σ,rfl,by rw [h.qj,hg]⟩
 ·have:=h.put y ω;rw [Γ e,Γ e];exact ⟨by rw [this.1];rfl,this.2⟩
structure UJ (n m:Nat) (ks:Nat->Int) (R:AR) (A:NS) (t:Nat):Prop where
 ok:R.Ok
 Sl:A.Ok
 lA:A.cs.length=n
 lR:R.sl.length=n
 link:∀x:Nat,R.v x=bR A (x:Int)
 VH:bA A 1=true
 has:∀h:Nat,t<h->h<=m->bA A h=true
 cnt:R.cnt=n
 put:∀x,x<n->R.v x=true/\R.g x=1/\A.c x=⟨((if x % m<t then 1 else 1+x % m:Nat):Int),ks x,(x:Int)+1⟩
theorem Ui.all {n m:Nat} {ks:Nat->Int} {R:AR} {A:NS} {q:Nat} (h:Ui n m ks R A q n) (hm:1<=m):UJ n m ks R A 1:=by
 refine ⟨h.ok,h.Sl,h.lA,h.lR,h.link,h.has 1 ω hm,λg h1 h2=>h.has g ω h2,h.cnt,λx hx=>?_⟩;obtain ⟨a,b,c⟩:=h.put x hx;refine ⟨a,b,?_⟩;rw [c]
 split
 ·rename_i e;rw [show x % m=0 by omega]
 ·rfl
theorem UJ.step {n m:Nat} {ks:Nat->Int} {R:AR} {A:NS} {t:Nat} (h:UJ n m ks R A t) (ht:1<=t) (htm:t<m):fQ A (1:Nat) ((t+1:Nat):Int)=true/\UJ n m ks R (ah A (1:Nat) ((t+1:Nat):Int)) (t+1):=by
 have hj:fQ A (1:Nat) ((t+1:Nat):Int)=true:=(cO _ _ _).2 ⟨h.VH,h.has (t+1) ω ω,ω⟩;refine ⟨hj,h.ok,Dq h.Sl _ _,by rw [dA];exact h.lA,h.lR,λx=>by rw [IA hj];exact h.link x,?_,λg h1 h2=>?_,h.cnt,λx hx=>?_⟩
 ·rw [jM hj,h.VH];simp;omega
 ·rw [jM hj,h.has g ω h2];simp;omega
 ·obtain ⟨a,b,c⟩:=h.put x hx;refine ⟨a,b,?_⟩;rw [kY hj,c];have hxl:x<A.cs.length:=by rw [h.lA];exact hx
  congr 1
  simp only
  by_cases e:x % m<t
  ·rw [Δ e,Γ ω,Δ ω]
  ·rw [Γ e]
   by_cases e2:x % m=t
   ·rw [Δ ω,Δ ω]
   ·rw [Γ ω,Γ ω]
theorem UJ.all {n m:Nat} {ks:Nat->Int} {R:AR} {A:NS} (h:UJ n m ks R A m) (hm:1<=m):Xw n ks R A 0:=by
 refine ⟨h.ok,h.Sl,h.lA,h.lR,h.link,h.VH,λx=>?_,λx hx=>?_⟩
 ·rw [List.drop_zero,og];constructor
  ·intro hv;have:=AR.Kg hv;rw [h.lR] at this;exact this
  ·exact λhx=>(h.put x hx).1
 ·rw [List.drop_zero,og] at hx;obtain ⟨a,b,c⟩:=h.put x hx;have:=Nat.mod_lt x (show m > 0 by omega);rw [Δ this] at c;exact ⟨b,c⟩
theorem GN {A:NS} {x:Nat} (hx:x<A.cs.length) (hz:0<(A.c x).i) (q:Int) :
  (if q=(A.c x).i then (if (bU A (A.c x).i:Int)-1=0 then none else some ((bU A (A.c x).i:Int)-1)) else fq A q)=fq (iF A x Cl.z) q:=by
 have:=rC A x Cl.z q hx;have hp:0<bU A (A.c x).i:=fw.2 ⟨x,hx,rfl,hz⟩;unfold fq
 by_cases e:q=(A.c x).i
 ·subst e;rw [Δ rfl];rw [Δ ⟨rfl,hz⟩,Γ (show ¬ (Cl.z.i=(A.c x).i/\0<(A.c x).i) from λh=>by have:(0:Int)=(A.c x).i:=h.1;omega)] at this
  by_cases h1:bU A (A.c x).i=1
  ·rw [Δ ω,Γ ω]
  ·rw [Γ ω,Δ ω]
   congr 1;omega
 ·rw [Γ e];rw [Γ (λh=>e h.1.symm),Γ (show ¬ (Cl.z.i=q/\0<q) from λh=>by have:(0:Int)=q:=h.1;omega)] at this;simp only [ϓ] at this;rw [this]
theorem fO {w:World} {c st:Nat} {F:List Nat} {A:NS} (h:aB w c F A st) (x:Nat) (hx:bR A x=true) :
  Calls Tryz.prog 134 #[.pointer (some ⟨c,0,none⟩),.int .i64 (x:Int)] w λe w'=>e=.returned (.bool true)/\aB w' c F (aU A x) st/\aa F w w':=by
 have k:=ic h x hx;obtain ⟨hx1,hx2⟩:=(ay _ _).1 hx;have hrng:=h.ok.nat x hx1;have hA1:=h.ok.h1;have hA2:=h.ok.c1;obtain ⟨hh,hhe⟩:∃r:Nat,(A.c x).i=r:=⟨(A.c x).i.toNat,ω⟩;have hp:0<bU A (hh:Int):=fw.2 ⟨x,hx1,hhe,ω⟩;have hlen:=uT h.ok (hh:Int);have hM:=λq=>GN hx1 hx2 q;have ok':=EO h.ok x;have e:aU A (x:Int)=iF A x Cl.z:=by unfold aU;rw [Δ hx];simp
 rw [hhe] at k hM hrng;have HE:=χ e;have HM:=χ hM;have zy:1<=hh:=ω;have HO:=χ ok';obtain ⟨len,hle⟩:∃n,n=A.cs.length:=⟨_,rfl⟩;have HL:=χ hle;clear h hx hM ok' e hle hx2 hhe;have hx1:x<len:=by have:=HL.out;omega
 obtain ⟨m,hm⟩:∃m:Int,m=(bU A (hh:Int):Int):=⟨_,rfl⟩;rw [←hm] at HM;have HZ:=χ hm;have hm1:0<m:=ω;have hm2:m<=65536:=ω;clear hm hp hlen
 go_enter Tryz.func134,Tryz.ntmps134
 go_wp2_with fail
 refine k.mono ?_;rintro e w1 ⟨rfl,hC,hu⟩;have hsz:=hu.size;have hlt:=hC.lt;obtain ⟨ca,nm,mb,g,cap,l,rt,dp,raw,h,rfl⟩:=hC;have c1:=h.c1;have c3:=h.c3;rw [←HL.out] at c1;have d0:=h.row.cell (x*3) (by rw [←HL.out];omega);have d1:=h.row.cell (x*3+1) (by rw [←HL.out];omega);have d2:=h.row.cell (x*3+2) (by rw [←HL.out];omega);have f0:=h.row.free (x*3);have f1:=h.row.free (x*3+1);have f2:=h.row.free (x*3+2);have l1:=hlt c σ;have l2:=hlt ca σ;have l3:=hlt mb σ;have hs:=h.sep;have H:=χ h;have HU:=χ hu;clear h hlt k hu
 have fin:∀ (w2:World),dW w2 mb (fq (iF A x Cl.z))->aa [mb] (((w1.setCell ⟨ca,x*3,none⟩ (.int .i64 0)).setCell ⟨ca,x*3+1,none⟩ (.int .i64 0)).setCell ⟨ca,x*3+2,none⟩ (.int .u64 0)) w2->
   aB w2 c [c,ca,nm,mb,g] (aU A x) st/\aa [c,ca,nm,mb,g] w w2:=λw2 hm2 hu2=>by
  have hu3:aa [ca] w1 (((w1.setCell ⟨ca,x*3,none⟩ (.int .i64 0)).setCell ⟨ca,x*3+1,none⟩ (.int .i64 0)).setCell ⟨ca,x*3+2,none⟩ (.int .u64 0)):=β;have hr3:=(Yu (i:=x) H.out.row Cl.z).upd hu2 ι;have jJ:aa [ca,mb] w1 w2:=(hu3.mono ι).joined hu2 (λy hy=>Α (by simp at hy;simp [hy]));refine ⟨⟨ca,nm,mb,g,cap,l,rt,dp,λy=>if y=x then Cl.z else raw y,?_,rfl⟩,HU.out.trans (jJ.mono ι)⟩;have ok':=HO.out;rw [HE.out] at ok' ⊢;exact H.out.turn jJ hr3 hm2 ok' (fD _ _ _) rfl (Ex H.out.rel (by rw [←HL.out];exact hx1) (Α ⟨rfl,rfl⟩))
 have FIN:=χ fin;clear fin
 by_cases h1:m=1
 ·have hb:(m-1 == 0)=true:=ζ;have H1:=χ h1;clear h1
  go_wp2_with (first
   | (at_lookup;refine gF (o:=⟨some 27,_,_,_,_,_⟩) (by rfl) _ _ (by rfl) mb (fq A) (by rfl) (H.out.many.upd (S:=[ca]) β ι) (hh:Int) (by rfl) ω m ((jO _ _).trans HZ.out.symm) ?_)
   | (at_lookup;refine gF (o:=⟨some 34,_,_,_,_,_⟩) (by rfl) _ _ (by rfl) mb _ (by rfl) hm2 (hh:Int) (by rfl) ω (m-1) σ ?_)
   | (at_mapUpdate;refine jm rfl _ _ _ rfl mb (fq A) rfl (H.out.many.upd (S:=[ca]) β ι) (hh:Int) (m-1) rfl rfl ω ω ?_;intro w2 hm2 hu2;(have q1:=hu2.cell (p:=⟨c,3,none⟩) (by simp;exact l1) ι))
   | (at_delete;refine jX rfl _ _ rfl mb _ rfl hm2 (hh:Int) rfl ω ?_;intro w3 LZ hu3))
  go_ret
  have Um:dW w3 mb (fq (iF A x Cl.z)):=dW.ext LZ (λq=>by
   rw [←HM.out q]
   by_cases e:q=(hh:Int)
   ·rw [Δ e,Δ e,Δ (by have:=H1.out;omega)]
   ·rw [Γ e,Γ e,Γ e])
  exact ⟨rfl,FIN.out w3 Um (hu2.trans hu3)⟩
 ·have hb:(m-1 == 0)=false:=ζ;have H1:=χ h1;clear h1
  go_wp2_with (first
   | (at_lookup;refine gF (o:=⟨some 27,_,_,_,_,_⟩) (by rfl) _ _ (by rfl) mb (fq A) (by rfl) (H.out.many.upd (S:=[ca]) β ι) (hh:Int) (by rfl) ω m ((jO _ _).trans HZ.out.symm) ?_)
   | (at_lookup;refine gF (o:=⟨some 34,_,_,_,_,_⟩) (by rfl) _ _ (by rfl) mb _ (by rfl) hm2 (hh:Int) (by rfl) ω (m-1) σ ?_)
   | (at_mapUpdate;refine jm rfl _ _ _ rfl mb (fq A) rfl (H.out.many.upd (S:=[ca]) β ι) (hh:Int) (m-1) rfl rfl ω ω ?_;intro w2 hm2 hu2;(have q1:=hu2.cell (p:=⟨c,3,none⟩) (by simp;exact l1) ι)))
  go_ret
  have Um:dW w2 mb (fq (iF A x Cl.z)):=dW.ext hm2 (λq=>by
   rw [←HM.out q]
   by_cases e:q=(hh:Int)
   ·rw [Δ e,Δ e,Γ (by have:=H1.out;omega)]
   ·rw [Γ e,Γ e])
  exact ⟨rfl,FIN.out w2 Um hu2⟩
end Go.Proofs.YtnpdakpagnpanaaGreat
