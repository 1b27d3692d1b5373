/-
  Lemmas for PathBest: Sd2, Sd3, Sd4, Sd5, Sd6, Sf3. Conditions: those of each lemma.
-/
import Derived.BigRegion
import Derived.Test.YtklibcncmbofpaaGreatB08
set_option linter.all false
set_option maxHeartbeats 8000000
set_option maxRecDepth 10000
namespace Go.Proofs.YtklibcncmbofpaaGreat
open Go Go.RowKit
def BJ (T L:List Nat) (i j:Nat):List Nat:=(T.set (L.getD j 0) i).set (L.getD i 0) j
theorem uE (T L:List Nat) (i j:Nat):(BJ T L i j).length=T.length:=by unfold BJ;simp
theorem tZ {L:List Nat} {k:Nat} (hk:k<L.length):L.getD k 0∈L:=by
 rw [φ,ε hk];exact List.getElem_mem hk
theorem wE {L:List Nat} (hn:L.Nodup) {i j:Nat} (hi:i<L.length) (hj:j<L.length) (h:L.getD i 0=L.getD j 0):i=j:=by
 rw [φ,φ,ε hi,ε hj] at h;exact (List.getElem_inj hn).1 h
theorem LY {T L:List Nat} {i j x:Nat} (hi:i<L.length) (hj:j<L.length) (hx:x∉L):(BJ T L i j).getD x 0=T.getD x 0:=by
 unfold BJ;rw [dP,dP,if_neg (fun e=>hx (by rw [e.1];exact tZ hi)),if_neg (fun e=>hx (by rw [e.1];exact tZ hj))]
theorem UQ {T L:List Nat} {i j:Nat} (hi:i<L.length) (hj:j<L.length) (hne:i≠j) (hn:L.Nodup) (hd:∀x,x∈L->x<T.length) (hp:∀j x,L[j]?=some x->T.getD x 0=j) :
  ∀k x,(gW L i j)[k]?=some x->(BJ T L i j).getD x 0=k:=by
 intro k x hk;have hkl:k<L.length:=by
  obtain ⟨h1,_⟩:=List.getElem?_eq_some_iff.1 hk;rwa [lq] at h1
 have hx:x=(gW L i j).getD k 0:=by rw [φ,hk];rfl
 rw [l9 hi hj] at hx;unfold BJ;rw [dP,dP];have hdi:=hd _ (tZ hi);have hdj:=hd _ (tZ hj)
 by_cases e1:k=j
 ·rw [if_pos e1] at hx;rw [if_pos ⟨hx,by simpa using hdi⟩,e1]
 ·rw [if_neg e1] at hx
  by_cases e2:k=i
  ·rw [if_pos e2] at hx;rw [if_neg (fun e=>hne (wE hn hi hj (by rw [←hx,←e.1]))),if_pos ⟨hx,hdj⟩,e2]
  ·rw [if_neg e2] at hx;rw [if_neg (fun e=>e2 (wE hn hkl hi (by rw [←hx,←e.1]))),if_neg (fun e=>e1 (wE hn hkl hj (by rw [←hx,←e.1])))];exact hp k x (by rw [hx,φ,ε hkl];rfl)
section
variable {w:World} {B:HB} {F:List Nat} {A:NS} {rp g cap:Nat} {L T:List Nat}
theorem AJ (h:nT w B F A rp g cap L T) (i j:Nat) (hi:i<L.length) (hj:j<L.length) (hne:i≠j) :
  Calls Tryz.prog 289 #[.pointer (some ⟨rp,0,none⟩),.int .i64 (i:Int),.int .i64 (j:Int)] w fun e w'=>e=.returned (.tuple #[])/\nT w' B F A rp g cap (gW L i j) (BJ T L i j)/\aa [g,B.ga] w w':=by
 have h0:=h;have c0:=h.h0;have c1:=h.h1;have n2:=h.QY;have ci:=h.Ic i hi;have cj:=h.Ic j hj;have fi:=h.row.free i;have fj:=h.row.free j;have hl:=h.len;have htl:=h.tl;have hx:=(h.dom _ (tZ hi)).2;have hy:=(h.dom _ (tZ hj)).2;have ctx:=h.G5 _ hx;have cty:=h.G5 _ hy;have ftx:=h.zD.free (L.getD i 0);have fty:=h.zD.free (L.getD j 0);have s1:=h.s1;have s2:=h.s2;have hxy:L.getD i 0≠L.getD j 0:=fun e=>hne (wE h.nd hi hj e);have hs1:bJ (gW L i j)=((bJ L).set i ((L.getD j 0:Nat):Int)).set j ((L.getD i 0:Nat):Int):=by unfold gW;rw [nK,nK]
 have hs2:bJ (BJ T L i j)=((bJ T).set (L.getD j 0) (i:Int)).set (L.getD i 0) (j:Int):=by unfold BJ;rw [nK,nK]
 have hplc:=UQ hi hj hne h.nd (fun x hx=>(h.dom x hx).2) h.Be;have hperm:=vz hi hj hne;have HF:Hid (∀W W2,IZ W g cap (bJ (gW L i j))->aa [g] w W->aa [B.ga] W W2->IZ W2 B.ga T.length (bJ (BJ T L i j))->nT W2 B F A rp g cap (gW L i j) (BJ T L i j)/\aa [g,B.ga] w W2):=by
  intro W W2 hr hu hu2 ht;have hu':aa [g,B.ga] w W2:=(hu.mono σ).trans (hu2.mono σ);have h3:=h.s3;refine ⟨⟨?_,hr.upd hu2 (by simp;exact s2.1),by rw [uE];exact ht,hu'.kept h.SF (by simp;exact ⟨fun e=>s2.2.1 e.symm,fun e=>s2.2.2 e.symm⟩),by rw [uE];exact hu'.kept h.QY (by simp;exact ⟨fun e=>s2.2.1 e.symm,fun e=>s2.2.2 e.symm⟩),?_,s1,s2,h3,fun x hx=>by rw [uE];exact h.dom x (hperm.mem_iff.1 hx),hperm.nodup_iff.2 h.nd,hplc,by rw [uE];exact htl⟩,hu'⟩
  ·rw [lq];exact h.hd.upd hu' (by simp;exact ⟨s1.1,s1.2.1⟩)
  ·obtain ⟨st,hC⟩:=h.OE;exact ⟨st,hC.upd hu' (fun x hx hm=>by simp at hx;rcases hx with rfl|rfl;exact h3.2.1 hm;exact h3.2.2.1 hm)⟩
 have HR:Hid (IZ w g cap (bJ L)/\IZ w B.ga T.length (bJ T)):=⟨h.row,h.zD⟩;clear h h0 hplc hperm;generalize gW L i j=L' at *;generalize BJ T L i j=T' at *;generalize L.getD i 0=x at *;generalize L.getD j 0=y at *;generalize T.getD x 0=tx at *;generalize T.getD y 0=ty at *;generalize L.length=n at *;generalize T.length=m at *;have hiI:(i:Int)<(n:Int):=ω;have Xi:(j:Int)<(n:Int):=ω;have CR:(x:Int)<(m:Int):=ω;have ZM:(y:Int)<(m:Int):=ω;have HS1:=χ hs1;have HS2:=χ hs2;clear hs1 hs2;have hgl:rp≠g:=s1.1;have hne2:¬i=j:=hne
 go_enter Tryz.func289,Tryz.ntmps289
 go_upto_region 0 with (fail)
 go_cut [] (fun W=>aa [] ((w.setCell ⟨g,i,none⟩ (.int .i64 (y:Int))).setCell ⟨g,j,none⟩ (.int .i64 (x:Int))) W)
 case first=>
  go_wp2
  go_region
  all_goals
   go_wp2
   go_meet
   first|exact ⟨rfl,rfl,rfl,Nat.le_refl _,fun _ _ _=>rfl⟩|exact ν
 case rest=>
 have Vm:=hcut;clear hcut;rename World=>W;have hr:IZ W g cap (bJ L'):=by rw [HS1.out];exact ((HR.out.1.set i _).set j _).upd Vm σ
 have hu:aa [g] w W:=aa.then β Vm;have d1:W.cell? ⟨g,i,none⟩=some (.int .i64 (y:Int)):=Vm.was γ;have d2:W.cell? ⟨g,j,none⟩=some (.int .i64 (x:Int)):=Vm.was γ;have e0:=hu.kept c0 (by simp;exact s1.1);have e1:=hu.kept c1 (by simp;exact s1.1);have e2:=hu.kept n2 (by simp;exact fun e=>s2.2.1 e.symm);have ex:=hu.kept ctx (by simp;exact fun e=>s2.1 e.symm);have ey:=hu.kept cty (by simp;exact fun e=>s2.1 e.symm);have gx:=hu.aR ctx (by simp;exact fun e=>s2.1 e.symm) ftx;have gy:=hu.aR cty (by simp;exact fun e=>s2.1 e.symm) fty;have e00:W.cell? ⟨B.n0,2,none⟩=some (.slice (some ⟨B.ga,0,none⟩) m m):=e2
 have ht:=HR.out.2.upd hu (by simp;exact fun e=>s2.1 e.symm);have HT:=χ (ψ ht (ψ hr hu));clear c0 c1 n2 ctx cty ftx fty ci cj fi fj ht hr hu e2 Vm;go_wp2
 go_region
 all_goals
  go_wp2;go_end0;obtain ⟨ht,hr,hu⟩:=HT.out;exact ⟨rfl,HF.out _ _ hr hu β (by rw [HS2.out];exact ((ht.drewN _).set y _).set x _)⟩
end
theorem wI {M t:List Nat} {k:Nat} (hk:k<M.length):(M++t).getD k 0=M.getD k 0:=by
 rw [φ,φ,List.getElem?_append_left hk]
theorem M8 {M t:List Nat} {i j:Nat} (hi:i<M.length) (hj:j<M.length):gW (M++t) i j=gW M i j++t:=by
 unfold gW;rw [wI hi,wI hj,List.set_append_left _ _ hi,List.set_append_left _ _ (by simpa using hj)]
structure mP (w0:World) (B:HB) (F:List Nat) (A:NS) (rp g cap:Nat) (t M T:List Nat) (w:World) (M' T':List Nat):Prop where
 pi:nT w B F A rp g cap (M'++t) T'
 perm:M'.Perm M
 off:∀x,x∉M++t->T'.getD x 0=T.getD x 0
 tl:T'.length=T.length
 upd:aa [g,B.ga,B.c] w0 w
section
variable {w0 w:World} {B:HB} {F:List Nat} {A:NS} {rp g cap:Nat} {t M T M' T':List Nat}
theorem mP.start (h:nT w B F A rp g cap (M++t) T):mP w B F A rp g cap t M T w M T:=⟨h,List.Perm.refl _,fun _ _=>rfl,rfl,aa.refl _ _⟩
theorem mP.asked {w':World} (h:mP w0 B F A rp g cap t M T w M' T') (hp:nT w' B F A rp g cap (M'++t) T') (hu:aa [B.c] w w'):mP w0 B F A rp g cap t M T w' M' T':=
 ⟨hp,h.perm,h.off,h.tl,h.upd.trans (hu.mono σ)⟩
theorem mP.swap {w':World} {i j:Nat} (h:mP w0 B F A rp g cap t M T w M' T') (hi:i<M'.length) (hj:j<M'.length) (hne:i≠j) (hp:nT w' B F A rp g cap (gW (M'++t) i j) (BJ T' (M'++t) i j)) (hu:aa [g,B.ga] w w') :
  mP w0 B F A rp g cap t M T w' (gW M' i j) (BJ T' (M'++t) i j):=by
 refine ⟨by rw [←M8 hi hj];exact hp,(vz hi hj hne).trans h.perm,fun x hx=>?_,by rw [uE];exact h.tl,h.upd.trans (hu.mono σ)⟩;rw [LY (by rw [υ];omega) (by rw [υ];omega) (fun hm=>hx ?_)]
 ·exact h.off x hx
 ·exact (h.perm.append_right t).mem_iff.1 hm
theorem zt {a b:Nat} (hne:a≠b) (h:¬oI A a b):oI A b a:=by
 rcases jm (A:=A) hne with h1|h1
 ·exact absurd (fC.2 h1) h
 ·exact fC.2 h1
theorem mP.ne (h:mP w0 B F A rp g cap t M T w M' T') {i j:Nat} (hi:i<M'.length) (hj:j<M'.length) (hne:i≠j):M'.getD i 0≠M'.getD j 0:=fun e=>hne (wE (θ.1 h.pi.nd).1 hi hj e)
theorem Mo (rp:Nat):∀W:World,(method 429 317 (.pointer (some ⟨rp,0,none⟩)) "Less").run Tryz.prog W=.ok (286,.pointer (some ⟨rp,0,none⟩)) W:=fun _=>by kernel_rfl
theorem EI (rp:Nat):∀W:World,(method 429 317 (.pointer (some ⟨rp,0,none⟩)) "Swap").run Tryz.prog W=.ok (289,.pointer (some ⟨rp,0,none⟩)) W:=fun _=>by kernel_rfl
theorem IX (rp:Nat):∀W:World,(method 429 317 (.pointer (some ⟨rp,0,none⟩)) "Len").run Tryz.prog W=.ok (285,.pointer (some ⟨rp,0,none⟩)) W:=fun _=>by kernel_rfl
theorem VB (rp:Nat):∀W:World,(method 429 317 (.pointer (some ⟨rp,0,none⟩)) "Push").run Tryz.prog W=.ok (288,.pointer (some ⟨rp,0,none⟩)) W:=fun _=>by kernel_rfl
theorem XW (rp:Nat):∀W:World,(method 429 317 (.pointer (some ⟨rp,0,none⟩)) "Pop").run Tryz.prog W=.ok (287,.pointer (some ⟨rp,0,none⟩)) W:=fun _=>by kernel_rfl
theorem mP.less (h:mP w0 B F A rp g cap t M T w M' T') {i j:Nat} (hi:i<M'.length) (hj:j<M'.length) {b:Bool} (hb:decide (cZ A (M'.getD i 0) (M'.getD j 0))=b) :
  Calls Tryz.prog 286 #[.pointer (some ⟨rp,0,none⟩),.int .i64 (i:Int),.int .i64 (j:Int)] w fun e w'=>e=.returned (.bool b)/\mP w0 B F A rp g cap t M T w' M' T':=by
 have k:=Jt h.pi i j (by rw [υ];omega) (by rw [υ];omega);rw [wI hi,wI hj,hb] at k;exact k.mono (fun e w' hh=>⟨hh.1,h.asked hh.2.1 hh.2.2⟩)
theorem mP.swaps (h:mP w0 B F A rp g cap t M T w M' T') {i j:Nat} (hi:i<M'.length) (hj:j<M'.length) (hne:i≠j) :
  Calls Tryz.prog 289 #[.pointer (some ⟨rp,0,none⟩),.int .i64 (i:Int),.int .i64 (j:Int)] w fun e w'=>e=.returned (.tuple #[])/\mP w0 B F A rp g cap t M T w' (gW M' i j) (BJ T' (M'++t) i j):=
 (AJ h.pi i j (by rw [υ];omega) (by rw [υ];omega) hne).mono (fun e w' hh=>⟨hh.1,h.swap hi hj hne hh.2.1 hh.2.2⟩)
theorem AP (h0:mP w0 B F A rp g cap t M T w M' T') (j0:Nat) (hH:fH (oI A) 2 M' j0) (hB:Below (oI A) 2 M' j0 (M'.getD j0 0)) :
  Calls Tryz.prog 281 #[.iface 317 (.pointer (some ⟨rp,0,none⟩)),.int .i64 (j0:Int)] w fun e w'=>e=.returned (.tuple #[])/\∃M2 T2,mP w0 B F A rp g cap t M T w' M2 T2/\Hp (oI A) 2 M2:=by
 have m1:=Mo rp;have m2:=EI rp;have HI:=χ (ψ h0 (ψ hH hB));clear h0 hH hB
 go_enter Tryz.func281,Tryz.ntmps281
 go_wp2
 go_loopw [1,4] (fun v1 v4 wr=>∃ (j:Nat) (M2 T2:List Nat),v1=.int .i64 (j:Int)/\mP w0 B F A rp g cap t M T wr M2 T2/\fH (oI A) 2 M2 j/\Below (oI A) 2 M2 j (M2.getD j 0)) (fun v1 _ _=>(intOf v1).toNat)
 case atStart=>exact ⟨j0,M',T',rfl,HI.out.1,HI.out.2.1,HI.out.2.2⟩
 case round=>
  obtain ⟨j,M2,T2,rfl,hP,hH,hB⟩:=hrel;rename World=>wr;have hjl:=hH.lt;have hlen:(M2++t).length<=65536:=hP.pi.len;rw [υ] at hlen
  by_cases hj0:j=0
  ·subst hj0;have hF:=hH.done ω hB (Or.inl rfl);have HQ:=χ (ψ hP hF);clear hP hH hB hF hjl hlen;go_wp2;go_end0;exact ⟨rfl,M2,T2,HQ.out.1,HQ.out.2⟩
  ·have hp:=fB (d:=2) ω (show 0<j by omega);have hq:((j:Int)-1).tdiv 2=(par 2 j:Int):=by
    unfold par;rw [show (j:Int)-1=((j-1:Nat):Int) by omega]
    rfl
   have hne:=hP.ne hjl (show par 2 j<M2.length by omega) ω;cases hb:decide (cZ A (M2.getD j 0) (M2.getD (par 2 j) 0)) with
   | false=>
    have kl:=hP.less hjl (show par 2 j<M2.length by omega) hb;have hF:=hH.done ω hB (Or.inr (zt hne (fun h=>by rw [fC] at h;rw [decide_eq_false_iff_not] at hb;exact hb h)));have HQ:=χ hF;clear hP hH hB hF hb hne;generalize par 2 j=p at *;have Ye:(p:Int)<(j:Int):=ω;have hpj:((p:Int) == (j:Int))=false:=ζ;have hj1:0<j:=ω;clear hj0
    go_wp2_with (first
     | ((go_at_call 286;(with_reducible refine (kl).mono ?_));rintro e w1 ⟨rfl,hP1⟩)
     | fail)
    go_end0;exact ⟨rfl,M2,T2,hP1,HQ.out⟩
   | true=>
    have kl:=hP.less hjl (show par 2 j<M2.length by omega) hb;have hS:=hH.XY (iU A) ω (fC.2 (of_decide_eq_true hb));have ks:∀w1,mP w0 B F A rp g cap t M T w1 M2 T2->_:=fun w1 h1=>mP.swaps h1 (show par 2 j<M2.length by omega) hjl ω;have HQ:=χ hS;clear hP hH hB hS hb hne;generalize par 2 j=p at *;have Ye:(p:Int)<(j:Int):=ω;have hpj:((p:Int) == (j:Int))=false:=ζ;have hj1:0<j:=ω;clear hj0
    go_wp2_with (first
     | ((go_at_call 286;(with_reducible refine (kl).mono ?_));rintro e w1 ⟨rfl,hP1⟩)
     | ((go_at_call 289;(with_reducible refine (ks _ hP1).mono ?_));rintro e w2 ⟨rfl,hP2⟩)
     | fail)
    go_roundw
    case rel=>exact ⟨p,_,_,by go_num,hP2,HQ.out.1,HQ.out.2⟩
    case measure=>simp [intOf];omega
end
section
variable {w0 w:World} {B:HB} {F:List Nat} {A:NS} {rp g cap:Nat} {t M T M' T':List Nat}
def Md (A:NS) (i0:Nat) (b:Bool) (M2:List Nat):Prop:=(b=true->Hp (oI A) 2 M2)/\(b=false->fH (oI A) 2 M2 i0/\Below (oI A) 2 M2 i0 (M2.getD i0 0))
theorem tO {i0 i:Nat} {M2:List Nat} (hH:fH (oI A) 2 M2 i) (hB:Below (oI A) 2 M2 i (M2.getD i 0)) (h0:i0<=i) (hu:i0<i->oI A (M2.getD (par 2 i) 0) (M2.getD i 0)):Md A i0 (decide (i0<i)) M2:=by
 constructor
 ·intro h;exact hH.done ω hB (Or.inr (hu (by simp at h;omega)))
 ·intro h;have e:i=i0:=by simp at h;omega
  subst e;exact ⟨hH,hB⟩
def KX (w0:World) (B:HB) (F:List Nat) (A:NS) (rp g cap:Nat) (t M T:List Nat) (w:World) (i0 i2:Nat):Prop:=∃M2 T2,mP w0 B F A rp g cap t M T w M2 T2/\Md A i0 (decide (i0<i2)) M2
theorem zz (h0:mP w0 B F A rp g cap t M T w M' T') (i0 n:Nat) (hn:n=M'.length) (hH:fH (oI A) 2 M' i0) :
  Calls Tryz.prog 280 #[.iface 317 (.pointer (some ⟨rp,0,none⟩)),.int .i64 (i0:Int),.int .i64 (n:Int)] w fun e w'=>∃i2,e=.returned (.bool (decide (i0<i2)))/\KX w0 B F A rp g cap t M T w' i0 i2:=by
 have m1:=Mo rp;have m2:=EI rp;have HI:=χ (ψ h0 (ψ hH hn));clear h0 hH hn
 go_enter Tryz.func280,Tryz.ntmps280
 go_wp2
 go_loopw [7,8,9,10] (fun v7 v8 v9 v10 wr=>∃ (i:Nat) (M2 T2:List Nat),v7=.int .i64 (i:Int)/\mP w0 B F A rp g cap t M T wr M2 T2/\fH (oI A) 2 M2 i/\M2.length=n/\i0<=i/\(i0<i->oI A (M2.getD (par 2 i) 0) (M2.getD i 0))) (fun v7 _ _ _ _=>n-(intOf v7).toNat)
 case atStart=>exact ⟨i0,M',T',rfl,HI.out.1,HI.out.2.1,HI.out.2.2.symm,Nat.le_refl _,fun h=>absurd h (Nat.lt_irrefl _)⟩
 case round=>
  obtain ⟨i,M2,T2,rfl,hP,hH,hl,hi0,hu⟩:=hrel;rename World=>wr;have hil:=hH.lt;rw [hl] at hil;have hlen:(M2++t).length<=65536:=hP.pi.len;rw [υ,hl] at hlen;obtain ⟨j1,hj1⟩:∃j1,j1=2*i+1:=⟨_,rfl⟩;have he1:2*(i:Int)+1=(j1:Int):=ω;obtain ⟨j2,hj2⟩:∃j2,j2=j1+1:=⟨_,rfl⟩;have he2:(j1:Int)+1=(j2:Int):=ω;have hj10:¬ (j1:Int)<0:=ω
  by_cases hc1:j1<n
  ·have hc1I:¬ (j1:Int)≥(n:Int):=ω;have ht1:=MK (R:=oI A) (L:=M2) (i:=i) hl ω (fun h2 hr=>zt (hP.ne ω ω ω) hr);rw [show 2*i+1=j1 from hj1.symm,show 2*i+2=j2 by omega] at ht1
   by_cases hc2:j2<n
   ·have hc2I:(j2:Int)<(n:Int):=ω;cases hb1:decide (cZ A (M2.getD j2 0) (M2.getD j1 0)) with
    | true=>
     have hF:=ht1.2 ⟨hc2,fC.2 (of_decide_eq_true hb1)⟩;have Xh:=hP.less (show j2<M2.length by omega) (show j1<M2.length by omega) hb1;cases hb2:decide (cZ A (M2.getD j2 0) (M2.getD i 0)) with
     | true=>
      have K4:∀w1,mP w0 B F A rp g cap t M T w1 M2 T2->_:=fun w1 h1=>mP.less h1 (show j2<M2.length by omega) (show i<M2.length by omega) hb2;have ks:∀w1,mP w0 B F A rp g cap t M T w1 M2 T2->_:=fun w1 h1=>mP.swaps h1 (show i<M2.length by omega) (show j2<M2.length by omega) ω;have hS:=hH.Bb (iU A) hF (fC.2 (of_decide_eq_true hb2));have HQ:=χ (ψ hS hl);have hj3:i<j2:=ω;clear hP hH hu hF hb1 hb2 hS ht1 hl hj1 hj2
      go_wp2_with (first|((go_at_call 286;(with_reducible refine (Xh).mono ?_));rintro e w1 ⟨rfl,hP1⟩)|((go_at_call 286;(with_reducible refine (K4 _ hP1).mono ?_));rintro e w2 ⟨rfl,hP2⟩)|((go_at_call 289;(with_reducible refine (ks _ hP2).mono ?_));rintro e w3 ⟨rfl,hP3⟩)|fail)
      go_roundw
      case rel=>exact ⟨j2,_,_,by go_num,hP3,HQ.out.1.1,by rw [lq];exact HQ.out.2,ω,fun _=>HQ.out.1.2⟩
      case measure=>simp [intOf];omega
     | false=>
      have K4:∀w1,mP w0 B F A rp g cap t M T w1 M2 T2->_:=fun w1 h1=>mP.less h1 (show j2<M2.length by omega) (show i<M2.length by omega) hb2;have hx:=zt (hP.ne (show j2<M2.length by omega) (show i<M2.length by omega) ω) (fun h=>by rw [fC] at h;rw [decide_eq_false_iff_not] at hb2;exact hb2 h);have hE:=tO hH (oL (iU A) hF hx) hi0 hu;have HQ:=χ hE;clear hP hH hu hF hb1 hb2 hE ht1 hl hj1 hj2 hx
      go_wp2_with (first|((go_at_call 286;(with_reducible refine (Xh).mono ?_));rintro e w1 ⟨rfl,hP1⟩)|((go_at_call 286;(with_reducible refine (K4 _ hP1).mono ?_));rintro e w2 ⟨rfl,hP2⟩)|fail)
      go_ret;exact ⟨i,rfl,M2,T2,hP2,HQ.out⟩
    | false=>
     have hF:=ht1.1 (fun h=>by rw [decide_eq_false_iff_not] at hb1;exact hb1 (fC.1 h.2));have Xh:=hP.less (show j2<M2.length by omega) (show j1<M2.length by omega) hb1;cases hb2:decide (cZ A (M2.getD j1 0) (M2.getD i 0)) with
     | true=>
      have K4:∀w1,mP w0 B F A rp g cap t M T w1 M2 T2->_:=fun w1 h1=>mP.less h1 (show j1<M2.length by omega) (show i<M2.length by omega) hb2;have ks:∀w1,mP w0 B F A rp g cap t M T w1 M2 T2->_:=fun w1 h1=>mP.swaps h1 (show i<M2.length by omega) (show j1<M2.length by omega) ω;have hS:=hH.Bb (iU A) hF (fC.2 (of_decide_eq_true hb2));have HQ:=χ (ψ hS hl);have hj3:i<j1:=ω;clear hP hH hu hF hb1 hb2 hS ht1 hl hj1 hj2
      go_wp2_with (first|((go_at_call 286;(with_reducible refine (Xh).mono ?_));rintro e w1 ⟨rfl,hP1⟩)|((go_at_call 286;(with_reducible refine (K4 _ hP1).mono ?_));rintro e w2 ⟨rfl,hP2⟩)|((go_at_call 289;(with_reducible refine (ks _ hP2).mono ?_));rintro e w3 ⟨rfl,hP3⟩)|fail)
      go_roundw
      case rel=>exact ⟨j1,_,_,by go_num,hP3,HQ.out.1.1,by rw [lq];exact HQ.out.2,ω,fun _=>HQ.out.1.2⟩
      case measure=>simp [intOf];omega
     | false=>
      have K4:∀w1,mP w0 B F A rp g cap t M T w1 M2 T2->_:=fun w1 h1=>mP.less h1 (show j1<M2.length by omega) (show i<M2.length by omega) hb2;have hx:=zt (hP.ne (show j1<M2.length by omega) (show i<M2.length by omega) ω) (fun h=>by rw [fC] at h;rw [decide_eq_false_iff_not] at hb2;exact hb2 h);have hE:=tO hH (oL (iU A) hF hx) hi0 hu;have HQ:=χ hE;clear hP hH hu hF hb1 hb2 hE ht1 hl hj1 hj2 hx
      go_wp2_with (first|((go_at_call 286;(with_reducible refine (Xh).mono ?_));rintro e w1 ⟨rfl,hP1⟩)|((go_at_call 286;(with_reducible refine (K4 _ hP1).mono ?_));rintro e w2 ⟨rfl,hP2⟩)|fail)
      go_ret;exact ⟨i,rfl,M2,T2,hP2,HQ.out⟩
   ·have hc2I:¬ (j2:Int)<(n:Int):=ω;have hc2D:decide ((j2:Int)<(n:Int))=false:=ζ;have hF:=ht1.1 (fun h=>hc2 h.1);have hP1:=hP;cases hb2:decide (cZ A (M2.getD j1 0) (M2.getD i 0)) with
    | true=>
     have K4:∀w1,mP w0 B F A rp g cap t M T w1 M2 T2->_:=fun w1 h1=>mP.less h1 (show j1<M2.length by omega) (show i<M2.length by omega) hb2;have ks:∀w1,mP w0 B F A rp g cap t M T w1 M2 T2->_:=fun w1 h1=>mP.swaps h1 (show i<M2.length by omega) (show j1<M2.length by omega) ω;have hS:=hH.Bb (iU A) hF (fC.2 (of_decide_eq_true hb2));have HQ:=χ (ψ hS hl);have hj3:i<j1:=ω;clear hP hH hu hF hb2 hS ht1 hl hj1 hj2
     go_wp2_with (first|((go_at_call 286;(with_reducible refine (K4 _ hP1).mono ?_));rintro e w2 ⟨rfl,hP2⟩)|((go_at_call 289;(with_reducible refine (ks _ hP2).mono ?_));rintro e w3 ⟨rfl,hP3⟩)|fail)
     go_roundw
     case rel=>exact ⟨j1,_,_,by go_num,hP3,HQ.out.1.1,by rw [lq];exact HQ.out.2,ω,fun _=>HQ.out.1.2⟩
     case measure=>simp [intOf];omega
    | false=>
     have K4:∀w1,mP w0 B F A rp g cap t M T w1 M2 T2->_:=fun w1 h1=>mP.less h1 (show j1<M2.length by omega) (show i<M2.length by omega) hb2;have hx:=zt (hP.ne (show j1<M2.length by omega) (show i<M2.length by omega) ω) (fun h=>by rw [fC] at h;rw [decide_eq_false_iff_not] at hb2;exact hb2 h);have hE:=tO hH (oL (iU A) hF hx) hi0 hu;have HQ:=χ hE;clear hP hH hu hF hb2 hE ht1 hl hj1 hj2 hx
     go_wp2_with (first|((go_at_call 286;(with_reducible refine (K4 _ hP1).mono ?_));rintro e w2 ⟨rfl,hP2⟩)|fail)
     go_ret;exact ⟨i,rfl,M2,T2,hP2,HQ.out⟩
  ·have hc1I:(j1:Int)≥(n:Int):=ω;have hE:=tO hH (zS ω ω) hi0 hu;have HQ:=χ (ψ hP hE);clear hP hH hu hE hl hj1 hj2;go_wp2;go_ret;exact ⟨i,rfl,M2,T2,HQ.out.1,HQ.out.2⟩
end
structure Eg (w:World) (B:HB) (F:List Nat) (A:NS) (rp:Nat) (v:Value) (L T:List Nat):Prop where
 hd:aO w rp 321 2 (QX B v)
 own:w.ownsRow 0 3 1 v L.length (aU (bJ L))
 zD:IZ w B.ga T.length (bJ T)
 SF:w.cell? ⟨B.n0,0,none⟩=some (.pointer (some ⟨B.c,0,none⟩))
 QY:w.cell? ⟨B.n0,2,none⟩=some (.slice (some ⟨B.ga,0,none⟩) T.length T.length)
 OE:∃st,aG w B.c F A st
 s1:rp≠B.ga/\rp≠B.n0
 sg:∀g,v.ownBlock=some g->g≠rp/\g≠B.ga/\g≠B.n0/\g∉F
 s2:B.ga≠B.n0
 s3:rp∉F/\B.ga∉F/\B.n0∉F
 dom:∀x,x∈L->bX A (x:Int)=true/\x<T.length
 nd:L.Nodup
 Be:∀j x,L[j]?=some x->T.getD x 0=j
 tl:T.length<=65536
section
variable {w:World} {B:HB} {F:List Nat} {A:NS} {rp g cap:Nat} {v:Value} {L T:List Nat}
theorem Eg.full (h:Eg w B F A rp v L T) (hl:0<L.length):∃g cap,v=.slice (some ⟨g,0,none⟩) L.length cap/\nT w B F A rp g cap L T:=by
 have ho:=h.own;rw [←dI] at ho;obtain ⟨g,cap,rfl,hz, -⟩:=IZ.iY ho (by rw [dI];exact hl);have hs:=h.sg g rfl;rw [dI];refine ⟨g,cap,rfl,?_,hz,h.zD,h.SF,h.QY,h.OE,⟨fun e=>hs.1 e.symm,h.s1.1,h.s1.2⟩,⟨hs.2.1,hs.2.2.1,h.s2⟩,⟨h.s3.1,hs.2.2.2,h.s3.2.1,h.s3.2.2⟩,h.dom,h.nd,h.Be,h.tl⟩;have:=h.hd;rwa [dI] at this
theorem nT.any (h:nT w B F A rp g cap L T):Eg w B F A rp (.slice (some ⟨g,0,none⟩) L.length cap) L T:=by
 have ho:=h.row.own;rw [dI] at ho;refine ⟨h.hd,ho,h.zD,h.SF,h.QY,h.OE,h.s1.2,fun k hk=>?_,h.s2.2.2,⟨h.s3.1,h.s3.2.2⟩,h.dom,h.nd,h.Be,h.tl⟩;cases hk;exact ⟨fun e=>h.s1.1 e.symm,h.s2.1,h.s2.2.1,h.s3.2.1⟩
theorem Eg.len (h:Eg w B F A rp v L T):L.length<=65536:=by
 rcases Nat.eq_zero_or_pos L.length with e|e
 ·omega
 ·obtain ⟨g,cap, -,hM⟩:=h.full e;exact hM.len
theorem Eg.upd {w':World} {S:List Nat} (h:Eg w B F A rp v L T) (hu:aa S w w') (hS:∀x,x∈S->x∉rp::B.ga::B.n0::(F++v.ownBlock.toList)):Eg w' B F A rp v L T:=by
 have h1:∀x,x∈rp::B.ga::B.n0::(F++v.ownBlock.toList)->x∉S:=fun x hx hg=>hS x hg hx;refine ⟨h.hd.upd hu (h1 _ σ),aF h.own hu (fun k hk=>h1 k (by simp [Option.mem_toList,hk])),h.zD.upd hu (h1 _ σ),hu.kept h.SF (h1 _ σ),hu.kept h.QY (h1 _ σ),?_,h.s1,h.sg,h.s2,h.s3,h.dom,h.nd,h.Be,h.tl⟩;obtain ⟨st,hC⟩:=h.OE;exact ⟨st,hC.upd hu (fun x hx hm=>hS x hx (by simp [hm]))⟩
theorem Eg.aA {w':World} (h:Eg w B F A rp v L T) (hu:aa [] w w'):Eg w' B F A rp v L T:=h.upd hu σ
theorem NV (l:List Nat) (x:Nat):bJ (l++[x])=bJ l++[(x:Int)]:=by unfold bJ;simp
theorem Rc {L T:List Nat} {x:Nat} (hx:x∉L) (Jp:x<T.length) (h:∀j x,L[j]?=some x->T.getD x 0=j):∀j y,(L++[x])[j]?=some y->(T.set x L.length).getD y 0=j:=by
 intro j y hj;rw [dP]
 by_cases e:j<L.length
 ·rw [List.getElem?_append_left e] at hj;rw [if_neg (fun h'=>hx (by rw [←h'.1];exact List.mem_of_getElem? hj))];exact h j y hj
 ·rw [List.getElem?_append_right ω] at hj;have e2:j-L.length=0:=by
   rcases Nat.eq_zero_or_pos (j-L.length) with h'|h'
   ·exact h'
   ·rw [List.getElem?_eq_none ζ] at hj;cases hj
  rw [e2] at hj;simp at hj;rw [if_pos ⟨hj.symm,Jp⟩];omega
theorem JM (h:Eg w B F A rp v L T) (x:Nat) (hx:x∉L) (hin:bX A (x:Int)=true) (Jp:x<T.length) (hl:L.length<T.length) :
  Calls Tryz.prog 288 #[.pointer (some ⟨rp,0,none⟩),.iface 3 (.int .i64 (x:Int))] w fun e w'=>e=.returned (.tuple #[])/\∃g cap,nT w' B F A rp g cap (L++[x]) (T.set x L.length)/\aa (rp::B.ga::v.ownBlock.toList) w w'/\(v.ownBlock=some g\/w.heap.size<=g):=by
 have hle:=h.len;obtain ⟨av,cv,rfl,hcv⟩:=bu h.own;have c0:w.cell? ⟨rp,0,none⟩=some (.pointer (some ⟨B.n0,0,none⟩)):=h.hd.cellAt 0 ω rfl;have c1:w.cell? ⟨rp,1,none⟩=some (.slice av L.length cv):=h.hd.cellAt 1 ω rfl;have n2:=h.QY;have ct:w.cell? ⟨B.ga,x,none⟩=some (.int .i64 ((T.getD x 0:Nat):Int)):=by
  have:=h.zD.cell x (by rw [dI];exact Jp);rwa [rX] at this
 have ft:=h.zD.free x;have fr:=h.hd.free 1;have htl:=h.tl;have HH:=χ (ψ h (ψ hx (ψ hin Jp)));have CR:(x:Int)<(T.length:Int):=ω;have s1:=h.s1;have s2:=h.s2;clear h hx hin;generalize hn:L.length=n at *;generalize hm:T.length=m at *;have HN:=χ (ψ hn hm);clear hn hm;generalize T.getD x 0=tx at *;have ET:∀W:World,(Instr.typeAssert (.iface 3 (.int .i64 (x:Int))) 20 3 false).run Tryz.prog W=.ok (.int .i64 (x:Int)) W:=fun W=>by kernel_rfl
 go_enter Tryz.func288,Tryz.ntmps288
 go_upto_region 1 with (fail)
 go_cut [] (fun W=>aa [] (w.setCell ⟨B.ga,x,none⟩ (.int .i64 (n:Int))) W)
 case first=>
  go_wp2
  go_region
  all_goals
   go_wp2
   go_meet
   first|exact ⟨rfl,rfl,rfl,Nat.le_refl _,fun _ _ _=>rfl⟩|exact ν
 case rest=>
 have Vm:=hcut;clear hcut;rename World=>W;obtain ⟨h,hx,hin,YO⟩:=HH.out;have hu:aa [B.ga] w W:=aa.then β Vm;have e1:W.cell? ⟨rp,1,none⟩=some (.slice av n cv):=hu.kept c1 (by simp;exact s1.1);have PD:=hu.aR c1 (by simp;exact s1.1) fr;have hT:IZ W B.ga m (bJ (T.set x n)):=by
  rw [nK];have:=h.zD;rw [HN.out.2] at this;exact (this.set x _).upd Vm σ
 have ho:W.ownsRow 0 3 1 (.slice av n cv) n (aU (bJ L)):=by
  have:=aF h.own hu (fun k hk=>by simp;exact (h.sg k hk).2.1);rwa [HN.out.1] at this
 have HP:=χ (ψ hu hT);clear h hx hin hu hT c0 c1 n2 ct ft fr Vm;have hrl:rp<W.heap.size:=World.block_lt_of_cell? _ _ e1
 go_wp2_with (first
  | ((at_builtin;refine aW rfl _ _ 26 rfl 0 3 (.int .i64 0) 1 8 Tryz.underlying26 fK rfl δ _ _ _ rfl (ho) [.int .i64 (x:Int)] rfl (by simp [Value.oneCell']) (by first|rfl|(rw [World.size_alloc];rfl)) μ ω (ω) ?_;intro v2 w3 ho3 hu3 Gj);obtain ⟨g3,c3,rfl,_,hg3l,_,hc3, -, -⟩:=gM ho3 ω;(have er:¬ (Value.slice av n cv).ownBlock=some rp:=fun e=>(HH.out.1.sg rp e).1 rfl);(have e2:=hu3.kept e1 (fun hm=>er (Option.mem_toList.1 hm)));(have fr2:=hu3.aR e1 (fun hm=>er (Option.mem_toList.1 hm)) PD))
  | fail)
 go_end0;obtain ⟨h,hx,hin,YO⟩:=HH.out;obtain ⟨hu,hT⟩:=HP.out;have hsz:=hu.size;have hgx:(Value.slice av n cv).ownBlock=some g3\/w.heap.size<=g3:=by
  rcases Gj with e|e
  ·exact Or.inl (e.symm.trans rfl)
  ·exact Or.inr (by have:=e g3 rfl;omega)
 have hw4:aa [rp] w3 (w3.setCell ⟨rp,1,none⟩ (.slice (some ⟨g3,0,none⟩) (n+1) c3)):=β;have huA:aa (rp::B.ga::(Value.slice av n cv).ownBlock.toList) w (w3.setCell ⟨rp,1,none⟩ (.slice (some ⟨g3,0,none⟩) (n+1) c3)):=((hu.mono σ).trans (hu3.mono (fun z hz=>List.mem_cons_of_mem _ (List.mem_cons_of_mem _ hz)))).trans (hw4.mono σ);have hgs:g3≠rp/\g3≠B.ga/\g3≠B.n0/\g3∉F:=by
  rcases hgx with e|e
  ·exact h.sg g3 e
  ·refine ⟨fun e2=>?_,fun e2=>?_,fun e2=>?_,fun hm=>?_⟩
   ·have:=h.hd.lt;omega
   ·have:=h.zD.lt;omega
   ·have:=World.block_lt_of_cell? _ _ h.SF;dsimp only at this;omega
   ·obtain ⟨st,hC⟩:=h.OE;have:=hC.lt g3 hm;omega
 have hoff:∀z,z∈rp::B.ga::(Value.slice av n cv).ownBlock.toList->z≠B.n0/\z∉F:=fun z hz=>by
  simp only [ρ] at hz;rcases hz with rfl|rfl|hz
  ·exact ⟨h.s1.2,h.s3.1⟩
  ·exact ⟨h.s2,h.s3.2.1⟩
  ·have:=h.sg z (Option.mem_toList.1 hz);exact ⟨this.2.2.1,this.2.2.2⟩
 refine ⟨rfl,g3,c3,⟨?_,?_,?_,huA.kept h.SF (fun hm=>(hoff _ hm).1 rfl),?_,?_,⟨fun e=>hgs.1 e.symm,h.s1⟩,⟨hgs.2.1,hgs.2.2.1,h.s2⟩,⟨h.s3.1,hgs.2.2.2,h.s3.2⟩,fun y hy=>?_,?_,?_,?_⟩,huA,hgx⟩
 ·rw [υ,HN.out.1];refine (((h.hd.upd hu (by simp;exact s1.1)).upd hu3 (fun hm=>er (Option.mem_toList.1 hm))).set 1 _).ext (fun j hj=>?_);rcases (ω:j=0\/j=1) with rfl|rfl<;>rfl
 ·refine ⟨?_⟩;rw [NV,υ,dI,HN.out.1,bN];exact aF ho3 hw4 (fun k hk=>by cases hk;simp;exact hgs.1)
 ·rw [List.length_set,HN.out.2];exact (hT.upd hu3 (fun hm=>(h.sg B.ga (Option.mem_toList.1 hm)).2.1 rfl)).upd hw4 (by simp;exact fun e=>s1.1 e.symm)
 ·rw [List.length_set];exact huA.kept h.QY (fun hm=>(hoff _ hm).1 rfl)
 ·obtain ⟨st,hC⟩:=h.OE;exact ⟨st,hC.upd huA (fun z hz=>(hoff z hz).2)⟩
 ·rw [List.length_set];rcases τ.1 hy with e|e
  ·exact h.dom y e
  ·simp at e;subst e;exact ⟨hin,by rw [HN.out.2];exact YO⟩
 ·rw [θ];exact ⟨h.nd,σ,fun a ha b hb e=>by simp at hb;subst hb;subst e;exact hx ha⟩
 ·have:=Rc hx (by rw [HN.out.2];exact YO) h.Be;rwa [HN.out.1] at this
 ·rw [List.length_set];exact h.tl
end
section
variable {w:World} {B:HB} {F:List Nat} {A:NS} {rp g cap:Nat} {v:Value} {L T M:List Nat}
theorem Cc (x:Nat) (h:nT w B F A rp g cap (M++[x]) T) :
  Calls Tryz.prog 287 #[.pointer (some ⟨rp,0,none⟩)] w fun e w'=>e=.returned (.iface 3 (.int .i64 (x:Int)))/\Eg w' B F A rp (.slice (some ⟨g,0,none⟩) M.length cap) M T/\aa [rp] w w':=by
 have c1:=h.h1;have hl:=h.len;have cx:=h.Ic M.length σ;have ex:(M++[x]).getD M.length 0=x:=by simp [φ]
 rw [ex] at cx;have fr:=h.hd.free 1;have hcb:=h.Hu;rw [υ,List.length_singleton] at c1 hl hcb;have s1:=h.s1;have HF:Hid (∀W,aa [] (w.setCell ⟨rp,1,none⟩ (.slice (some ⟨g,0,none⟩) M.length cap)) W->Eg W B F A rp (.slice (some ⟨g,0,none⟩) M.length cap) M T/\aa [rp] w W):=by
  intro W hW;have hu:aa [rp] w W:=aa.then β hW;have s3:=h.s3;have hr:=h.row.own;rw [dI] at hr;have ho:=GJ hr (k:=M.length) σ;rw [AA,Ab,List.take_left'  rfl] at ho;refine ⟨⟨?_,aF ho hu (fun k hk=>by cases hk;simp;exact fun e=>s1.1 e.symm),h.zD.upd hu (by simp;exact fun e=>s1.2.1 e.symm),hu.kept h.SF (by simp;exact fun e=>s1.2.2 e.symm),hu.kept h.QY (by simp;exact fun e=>s1.2.2 e.symm),?_,s1.2,fun k hk=>?_,h.s2.2.2,⟨s3.1,s3.2.2⟩,fun y hy=>h.dom y (τ.2 (Or.inl hy)),(θ.1 h.nd).1,fun j y hj=>h.Be j y ?_,h.tl⟩,hu⟩
  ·refine (((h.hd.set 1 _).ext (fun j hj=>?_)).upd hW σ);rcases (ω:j=0\/j=1) with rfl|rfl<;>rfl
  ·obtain ⟨st,hC⟩:=h.OE;exact ⟨st,hC.upd hu (fun z hz hm=>by simp at hz;subst hz;exact s3.1 hm)⟩
  ·cases hk;exact ⟨fun e=>s1.1 e.symm,h.s2.1,h.s2.2.1,s3.2.1⟩
  ·obtain ⟨hj',_⟩:=List.getElem?_eq_some_iff.1 hj;rw [List.getElem?_append_left hj'];exact hj
 clear h ex;generalize M.length=n at *;have hnI:(n:Int)+1-1=(n:Int):=ω;have hcI:(n:Int)<(cap:Int):=ω;have hw1:IntKind.i64.wrap (n:Int)=(n:Int):=IntWalk.i64_in _ ω;obtain ⟨n1,hn1⟩:∃n1,n1=n+1:=⟨_,rfl⟩;rw [←hn1] at c1 hl hcb;have hnJ:(n1:Int)-1=(n:Int):=ω;have hn2:(n:Int)<(n1:Int):=ω;clear hn1
 go_enter Tryz.func287,Tryz.ntmps287
 go_wp2
 go_region
 all_goals
  go_wp2
  go_region
  all_goals
   go_wp2;go_ret;refine ⟨rfl,HF.out _ ?_⟩
   first|exact ⟨rfl,rfl,rfl,Nat.le_refl _,fun _ _ _=>rfl⟩|exact ν
def PuE (w0:World) (B:HB) (F:List Nat) (A:NS) (rp:Nat) (v:Value) (L T:List Nat) (x:Nat) (w:World):Prop:=∃g cap L' T',nT w B F A rp g cap L' T'/\L'.Perm (x::L)/\Hp (oI A) 2 L'/\(∀y,y∉x::L->T'.getD y 0=T.getD y 0)/\T'.length=T.length/\aa (rp::B.ga::B.c::v.ownBlock.toList) w0 w/\(v.ownBlock=some g\/w0.heap.size<=g)
theorem M3 (h:Eg w B F A rp v L T) (x:Nat) (hx:x∉L) (hin:bX A (x:Int)=true) (Jp:x<T.length) (hl:L.length<T.length) (hH:Hp (oI A) 2 L) :
  Calls Tryz.prog 279 #[.iface 317 (.pointer (some ⟨rp,0,none⟩)),.iface 3 (.int .i64 (x:Int))] w fun e w'=>e=.returned (.tuple #[])/\PuE w B F A rp v L T x w':=by
 have m1:=VB rp;have m2:=IX rp;have hle:=h.len;have kp:=JM h x hx hin Jp hl;have ku:∀w1 g cap,nT w1 B F A rp g cap (L++[x]) (T.set x L.length)->aa (rp::B.ga::v.ownBlock.toList) w w1->(v.ownBlock=some g\/w.heap.size<=g)->Calls Tryz.prog 281 #[.iface 317 (.pointer (some ⟨rp,0,none⟩)),.int .i64 (L.length:Int)] w1 fun e w'=>e=.returned (.tuple #[])/\PuE w B F A rp v L T x w':=by
  intro w1 g cap h1 hu1 hg;obtain ⟨hs1,hs2⟩:=Hp.snoc (x:=x) hH (iU A) ω;have hP:mP w1 B F A rp g cap [] (L++[x]) (T.set x L.length) w1 (L++[x]) (T.set x L.length):=mP.start (by rw [List.append_nil];exact h1);have hgx:(L++[x]).getD L.length 0=x:=by simp [φ]
  refine (AP hP L.length hs1 (by rw [hgx];exact hs2)).mono ?_;rintro e w' ⟨rfl,M2,T2,hP2,hH2⟩;have hpm:=hP2.pi;rw [List.append_nil] at hpm;refine ⟨rfl,g,cap,M2,T2,hpm,hP2.perm.trans List.perm_append_comm,hH2,fun y hy=>?_,by rw [hP2.tl,List.length_set],(hu1.mono (fun z hz=>?_)).joined hP2.upd (fun z hz=>?_),hg⟩
  ·simp only [ρ,not_or] at hy;rw [hP2.off y (by simp [hy.1,hy.2]),dP,if_neg (fun e=>hy.1 e.1)]
  ·simp only [ρ] at hz ⊢;rcases hz with h'|h'|h'
   ·exact Or.inl h'
   ·exact Or.inr (Or.inl h')
   ·exact Or.inr (Or.inr (Or.inr h'))
  ·simp only [ρ,ς,or_false] at hz ⊢;rcases hz with h'|h'|h'
   ·rcases hg with e|e
    ·left;right;right;right;rw [h'];exact Option.mem_toList.2 e
    ·right;omega
   ·exact Or.inl (Or.inr (Or.inl h'))
   ·exact Or.inl (Or.inr (Or.inr (Or.inl h')))
 have kl:∀w1 g cap,nT w1 B F A rp g cap (L++[x]) (T.set x L.length)->Calls Tryz.prog 285 #[.pointer (some ⟨rp,0,none⟩)] w1 fun e w'=>e=.returned (.int .i64 ((L.length:Int)+1))/\w'=w1:=fun w1 g cap h1=>by
  have:=xY h1;rw [υ,List.length_singleton] at this;exact this
 clear h hx hin Jp hl hH;generalize L.length=n at *;have hnI:(n:Int)+1-1=(n:Int):=ω
 go_enter Tryz.func279,Tryz.ntmps279
 go_wp2_with (first
  | ((go_at_call 288;(with_reducible refine (kp).mono ?_));rintro e w1 ⟨rfl,g,cap,hP1,hu1,hg1⟩)
  | ((go_at_call 285;(with_reducible refine (kl _ _ _ hP1).mono ?_));rintro e w2 ⟨rfl,hw2⟩;subst hw2)
  | ((go_at_call 281;(with_reducible refine (ku _ _ _ hP1 hu1 hg1).mono ?_));rintro e w3 ⟨rfl,hQ⟩)
  | fail)
 go_end0;exact ⟨rfl,hQ⟩
theorem Qe (h:nT w B F A rp g cap L T) (i:Nat) (hH:fH (oI A) 2 L i) :
  Calls Tryz.prog 277 #[.iface 317 (.pointer (some ⟨rp,0,none⟩)),.int .i64 (i:Int)] w fun e w'=>e=.returned (.tuple #[])/\∃L' T',mP w B F A rp g cap [] L T w' L' T'/\Hp (oI A) 2 L':=by
 have m2:=IX rp;have hP:mP w B F A rp g cap [] L T w L T:=mP.start (by rw [List.append_nil];exact h);have kl:=xY h;have kd:=zz hP i L.length rfl hH;have ku:∀w1 L1 T1,mP w B F A rp g cap [] L T w1 L1 T1->Md A i false L1->_:=fun w1 L1 T1 h1 h2=>AP h1 i (h2.2 rfl).1 (h2.2 rfl).2;unfold KX at kd;have hle:=h.len;clear h hH hP;generalize L.length=n at *
 go_enter Tryz.func277,Tryz.ntmps277
 go_wp2_with (first
  | ((go_at_call 285;(with_reducible refine (kl).mono ?_));rintro e w2 ⟨rfl,rfl⟩)
  | ((go_at_call 280;(with_reducible refine (kd).mono ?_));rintro e w3 ⟨i2,rfl,L1,T1,hP1,hD1⟩;generalize decide (i<i2)=bd at *;cases bd)
  | ((go_at_call 281;(with_reducible refine (ku _ _ _ hP1 hD1).mono ?_));rintro e w4 ⟨rfl,L2,T2,hP2,hH2⟩)
  | fail)
 ·go_end0;exact ⟨rfl,L2,T2,hP2,hH2⟩
 ·go_end0;exact ⟨rfl,L1,T1,hP1,hD1.1 rfl⟩
theorem zx {l:List Nat} {n:Nat} (h:l.length=n+1):l=l.take n++[l.getD n 0]:=by
 have h1:n<l.length:=ω;have h2:=List.take_append_drop n l;rw [List.drop_eq_getElem_cons h1,List.drop_eq_nil_of_le ω] at h2;rw [φ,ε h1];exact h2.symm
def ReE (w0:World) (B:HB) (F:List Nat) (A:NS) (rp g cap:Nat) (L T:List Nat) (x:Nat) (w:World):Prop:=∃L' T',Eg w B F A rp (.slice (some ⟨g,0,none⟩) L'.length cap) L' T'/\(x::L').Perm L/\Hp (oI A) 2 L'/\(∀y,y∉L->T'.getD y 0=T.getD y 0)/\T'.length=T.length/\aa [rp,g,B.ga,B.c] w0 w
theorem GL (h:nT w B F A rp g cap L T) (i x:Nat) (hx:L[i]?=some x) (hH:Hp (oI A) 2 L) :
  Calls Tryz.prog 278 #[.iface 317 (.pointer (some ⟨rp,0,none⟩)),.int .i64 (i:Int)] w fun e w'=>e=.returned (.iface 3 (.int .i64 (x:Int)))/\ReE w B F A rp g cap L T x w':=by
 have m1:=EI rp;have m2:=IX rp;have m3:=XW rp;have kl:=xY h;have hle:=h.len;obtain ⟨hi,hxe⟩:=List.getElem?_eq_some_iff.1 hx;obtain ⟨n,hn⟩:∃n,L.length=n+1:=⟨L.length-1,ω⟩;have hxg:L.getD i 0=x:=by rw [φ,hx];rfl
 by_cases hin:i=n
 ·subst hin;have hs:=zx hn;rw [hxg] at hs;have hM:=h;rw [hs] at hM;have kp:=Cc x hM;have hH2:Hp (oI A) 2 (L.take i):=hH.take ω;have hp:(x::L.take i).Perm L:=by
   conv=>rhs;rw [hs]
   exact (List.perm_append_comm (l₁:=[x]))
  have HQ:=χ (ψ hH2 hp);rw [hn] at kl hle;have hnI:(i:Int)+1-1=(i:Int):=ω;have hwk:IntKind.i64.wrap (i:Int)=(i:Int):=IntWalk.i64_in _ ω;rw [show ((i+1:Nat):Int)=(i:Int)+1 from rfl] at kl;clear hM hs hH hH2 hp hx hxe hxg h hi hn;have hnb:((i:Int) != (i:Int))=false:=σ
  go_enter Tryz.func278,Tryz.ntmps278
  go_wp2_with (first
   | ((go_at_call 285;(with_reducible refine (kl).mono ?_));rintro e w2 ⟨rfl,rfl⟩)
   | ((go_at_call 287;(with_reducible refine (kp).mono ?_));rintro e w3 ⟨rfl,hP3,hu3⟩)
   | fail)
  go_ret;exact ⟨rfl,_,T,hP3,HQ.out.2,HQ.out.1,fun _ _=>rfl,rfl,hu3.mono σ⟩
 ·have hil:i<n:=ω;have hnl:n<L.length:=ω;have ks:=AJ h i n hi hnl ω;have hsl:(gW L i n).length=n+1:=by rw [lq,hn]
  have hs:=zx hsl;rw [l9 hi hnl,if_pos rfl,hxg] at hs;obtain ⟨M,hMe⟩:∃M,M=(gW L i n).take n:=⟨_,rfl⟩;rw [←hMe] at hs;have hMl:M.length=n:=by rw [hMe,List.length_take,hsl];omega
  have hMv:M=(L.take n).set i (L.getD n 0):=by
   rw [hMe];unfold gW;rw [List.take_set_of_le (Nat.le_refl _),List.take_set]
  have hMH:fH (oI A) 2 M i:=by
   rw [hMv];exact ((hH.take ω).hole (iU A) ω (by rw [List.length_take];omega)).any ω _
  have hp:(M++[x]).Perm L:=by rw [←hs];exact vz hi hnl ω
  have kd:∀w1,nT w1 B F A rp g cap (gW L i n) (BJ T L i n)->Calls Tryz.prog 280 #[.iface 317 (.pointer (some ⟨rp,0,none⟩)),.int .i64 (i:Int),.int .i64 (n:Int)] w1 fun e w'=>∃i2,e=.returned (.bool (decide (i<i2)))/\KX w1 B F A rp g cap [x] M (BJ T L i n) w' i i2:=fun w1 h1=>by
   rw [hs] at h1;exact zz (mP.start h1) i n hMl.symm hMH
  have ku:∀w1 w2 L1 T1,mP w1 B F A rp g cap [x] M (BJ T L i n) w2 L1 T1->Md A i false L1->_:=fun w1 w2 L1 T1 h1 h2=>AP h1 i (h2.2 rfl).1 (h2.2 rfl).2;have kp:∀w1 w2 L1 T1,mP w1 B F A rp g cap [x] M (BJ T L i n) w2 L1 T1->_:=fun w1 w2 L1 T1 h1=>Cc x h1.pi;unfold KX at kd;have HE:Hid (∀w1 w2 w3 L1 T1,aa [g,B.ga] w w1->mP w1 B F A rp g cap [x] M (BJ T L i n) w2 L1 T1->Hp (oI A) 2 L1->Eg w3 B F A rp (.slice (some ⟨g,0,none⟩) L1.length cap) L1 T1->aa [rp] w2 w3->ReE w B F A rp g cap L T x w3):=by
   intro w1 w2 w3 L1 T1 hu1 h2 hH1 h3 hu3;refine ⟨L1,T1,h3,?_,hH1,fun y hy=>?_,by rw [h2.tl,uE],((hu1.mono σ).trans (h2.upd.mono σ)).trans (hu3.mono σ)⟩
   ·exact (List.perm_append_comm (l₁:=[x])).trans ((h2.perm.append_right [x]).trans hp)
   ·rw [h2.off y (fun hm=>hy (hp.mem_iff.1 hm)),LY hi hnl hy]
  rw [hn] at kl hle;have hnI:(n:Int)+1-1=(n:Int):=ω;have hwk:IntKind.i64.wrap (n:Int)=(n:Int):=IntWalk.i64_in _ ω;rw [show ((n+1:Nat):Int)=(n:Int)+1 from rfl] at kl;clear hMe hMl hMv hMH hp hs hsl hnl hx hxe hxg h hi hn hH;have hnb:((n:Int) != (i:Int))=true:=ζ;generalize gW L i n=L1 at *;generalize BJ T L i n=T1 at *
  go_enter Tryz.func278,Tryz.ntmps278
  go_wp2_with (first
   | ((go_at_call 285;(with_reducible refine (kl).mono ?_));rintro e w2 ⟨rfl,rfl⟩)
   | ((go_at_call 289;(with_reducible refine (ks).mono ?_));rintro e w3 ⟨rfl,hP3,hu3⟩)
   | ((go_at_call 280;(with_reducible refine (kd _ hP3).mono ?_));rintro e w4 ⟨i2,rfl,L4,T4,hP4,hD4⟩;generalize decide (i<i2)=bd at *;cases bd)
   | ((go_at_call 281;(with_reducible refine (ku _ _ _ _ hP4 hD4).mono ?_));rintro e w5 ⟨rfl,L5,T5,Pt,hH5⟩)
   | ((go_at_call 287;(with_reducible first|refine (kp _ _ _ _ Pt).mono ?_|refine (kp _ _ _ _ hP4).mono ?_));rintro e w6 ⟨rfl,hP6,iB⟩)
   | fail)
  ·go_ret;exact ⟨rfl,HE.out _ _ _ _ _ hu3 Pt hH5 hP6 iB⟩
  ·go_ret;exact ⟨rfl,HE.out _ _ _ _ _ hu3 hP4 (hD4.1 rfl) hP6 iB⟩
end
structure nz (R:Nat->Nat->Prop) (d:Nat) (L:List Nat) (i k b:Nat):Prop where
 b0:∃q,b=d*i+q/\1<=q/\q<k
 lt:b<L.length
 all:∀q,1<=q->q<k->d*i+q<L.length->d*i+q≠b->R (L.getD b 0) (L.getD (d*i+q) 0)
theorem nz.one {R:Nat->Nat->Prop} {d:Nat} {L:List Nat} {i:Nat} (h:d*i+1<L.length):nz R d L i 2 (d*i+1):=
 ⟨⟨1,rfl,ω,ω⟩,h,fun q h1 h2 _ hne=>absurd (show d*i+q=d*i+1 by omega) hne⟩
theorem nz.end {R:Nat->Nat->Prop} {d:Nat} {L:List Nat} {i k b:Nat} (h:nz R d L i k b) (hd:2<=d) (hk:k=d+1):qP R d L i b:=by
 obtain ⟨q,rfl,h1,h2⟩:=h.b0;have hp:=(uf (i:=i) (j:=d*i+q) hd).2 ω;refine ⟨hp.1,h.lt,hp.2,fun j j0 hj hpj hne=>?_⟩;have:=(uf hd).1 ⟨j0,hpj⟩;have e:j=d*i+(j-d*i):=ω;rw [e] at hj hne ⊢;exact h.all _ ω ω hj hne
theorem nz.stay {R:Nat->Nat->Prop} {d:Nat} {L:List Nat} {i k b:Nat} (h:nz R d L i k b) (hc:d*i+k<L.length->R (L.getD b 0) (L.getD (d*i+k) 0)):nz R d L i (k+1) b:=by
 obtain ⟨q,h0,h1,h2⟩:=h.b0;refine ⟨⟨q,h0,h1,ω⟩,h.lt,fun q' g1 g2 g3 g4=>?_⟩
 by_cases e:q'=k
 ·subst e;exact hc g3
 ·exact h.all q' g1 ω g3 g4
theorem nz.turn {R:Nat->Nat->Prop} {d:Nat} {L:List Nat} {i k b:Nat} (ht:∀a b c,R a b->R b c->R a c) (h:nz R d L i k b) (hk:1<=k) (hl:d*i+k<L.length) (hc:R (L.getD (d*i+k) 0) (L.getD b 0)):nz R d L i (k+1) (d*i+k):=by
 refine ⟨⟨k,rfl,hk,ω⟩,hl,fun q' g1 g2 g3 g4=>?_⟩;have e:q'≠k:=fun e=>g4 (by rw [e])
 by_cases e2:d*i+q'=b
 ·rw [e2];exact hc
 ·exact ht _ _ _ hc (h.all q' g1 ω g3 e2)
theorem JS (O:ik) {w:World} {rp mb g cap d:Nat} {f:Int->Option Int} {L:List Nat} (hO:O.at_ w) (h:uV w rp mb g cap d f L) (hd:2<=d/\d<=16) (hl:L.length<=65536) (i x:Nat) (hi:i<L.length)
  (hn:(L.set i x).Nodup) (hdom:∀y,y∈L.set i x->O.dom y) (hsep:Ot O rp mb g) :
  Calls Tryz.prog 167 #[.pointer (some ⟨rp,0,none⟩),.iface O.ty (.pointer (some ⟨O.p,0,none⟩)),.int .i64 (i:Int)] w fun e w'=>∃ (c:Nat),e=.returned (.tuple #[.int .i64 (c:Int),.bool (decide (d*i+1<L.length))])/\O.On w w'/\(d*i+1<L.length->qP O.R d L i c):=by
 have kc:=fun k (hk:1<=k/\k<=d) W=>Ph d i k hd ω hk W;have Xo:=kc 1 ⟨ω,ω⟩;rw [show ((1:Nat):Int)=1 from rfl] at Xo;have c0:=h.h0;have c1:=h.h1;have hwr:=hsep.wr;have HX:=χ (ψ hO (ψ h (ψ hn (ψ hdom hd))));have hil:i<65536:=ω;generalize hnl:L.length=n at *;have HN:=χ hnl;clear h hO hn hdom hsep hnl
 by_cases hz:n<=d*i+1
 ·rw [decide_eq_false (show ¬d*i+1<n by omega)];have hge:decide (((d*i+1:Nat):Int)≥(n:Int))=true:=ζ;have HZ:=χ hz;clear hz kc;generalize d * i+1=c at *
  go_enter Tryz.func167,Tryz.ntmps167
  have hnc:n<=c:=HZ.out
  go_wp2_with (first
   | ((go_at_call 172;(with_reducible refine (Xo _).mono ?_));rintro e w1 ⟨rfl,hu1⟩;(have c1:=hu1.was c1))
   | fail)
  go_ret2;exact ⟨0,rfl,⟨O.upd HX.out.1 hu1 σ,hu1.mono σ⟩,fun h=>by have:=HZ.out;omega⟩
 ·rw [decide_eq_true (show d*i+1<n by omega)];have hge:decide (((d*i+1:Nat):Int)≥(n:Int))=false:=ζ;have HZ:=χ (show d*i+1<n by omega);clear hz;have HC:=χ (show d*i+1=d*i+1 from rfl)
  revert HC HZ hge Xo
  generalize hce0:d*i+1=c0';intro Xo hge HZ _;have HC:=χ hce0;have hnc:¬n<=c0':=by have:=HZ.out;omega
  go_enter Tryz.func167,Tryz.ntmps167
  clear hce0
  go_wp2_with (first
   | ((go_at_call 172;(with_reducible refine (Xo _).mono ?_));rintro e w1 ⟨rfl,hu1⟩;(have c1:=hu1.was c1))
   | fail)
  go_loopw [8,10,11,12] (fun bv kv _ _ wr=>∃ (b k:Nat),2<=k/\k<=d+1/\bv=.int .i64 (b:Int)/\kv=.int .i64 (k:Int)/\nz O.R d L i k b/\O.On w wr) (fun _ kv _ _ _=>d+1-(intOf kv).toNat)
  case atStart=>exact ⟨c0',2,ω,ω,rfl,rfl,by rw [←HC.out];exact nz.one (by have:=HZ.out;have:=HN.out;have:=HC.out;omega),O.upd HX.out.1 hu1 σ,hu1.mono σ⟩
  case round=>
   clear hu1 c1;obtain ⟨b,k,hk1,hk2,rfl,rfl,hF,hon⟩:=hrel;rename World=>wr;obtain ⟨hO,h,hn,hdom,hd⟩:=HX.out;have hR:=h.upd hon.upd hwr.1 hwr.2.1 hwr.2.2;have q0:=hR.h0;have q1:=hR.h1
   by_cases hkd:k<=d
   ·have hkd':(k:Int)<=(d:Int):=ω;have ZH:=kc k ⟨ω,hkd⟩;have hwk:IntKind.i64.wrap ((k:Int)+1)=(k:Int)+1:=IntWalk.i64_in _ ω;rw [HN.out] at q1
    by_cases hcl:d*i+k<n
    ·have hne:d*i+k≠i:=by
      have:i<=d*i:=Nat.le_mul_of_pos_left _ ω;omega
     obtain ⟨qb,hqb,hqb1,hqb2⟩:=hF.b0;have hbl:=hF.lt;have hbi:b≠i:=by
      have:i<=d*i:=Nat.le_mul_of_pos_left _ ω;omega
     have hdc:=hdom _ (qg (x:=x) (show d*i+k<L.length by rw [HN.out];exact hcl) hne);have Z7:=hdom _ (qg (x:=x) hbl hbi);have hcb:L.getD (d*i+k) 0≠L.getD b 0:=fun e=>by
      have h1:(L.set i x)[d*i+k]?=some (L.getD b 0):=by rw [List.getElem?_set_ne (fun e=>hne e.symm),←e,φ,ε (by rw [HN.out];exact hcl)];rfl
      have h2:(L.set i x)[b]?=some (L.getD b 0):=by rw [List.getElem?_set_ne (fun e=>hbi e.symm),φ,ε hbl];rfl
      obtain ⟨g1,e1⟩:=List.getElem?_eq_some_iff.1 h1;obtain ⟨g2,e2⟩:=List.getElem?_eq_some_iff.1 h2;have:=(List.getElem_inj hn).1 (e1.trans e2.symm);omega
     have d1:=hR.cell (d*i+k) (by rw [HN.out];exact hcl);have d2:=hR.cell b hbl;have HY:=χ (ψ hF (ψ hon (ψ hcb (ψ hcl hk2))));have hgL:decide (((d*i+k:Nat):Int)<(n:Int))=true:=ζ;have hcI:((d*i+k:Nat):Int)<(n:Int):=ω;have hbI:(b:Int)<(n:Int):=by rw [HN.out] at hbl;omega
     have Nz:=hwr.1;have hgw:=hwr.2.2;have hat:=hon.at_;have hkl:k+1<=d+1:=ω;clear hF hon hqb hqb1 hqb2 hbl hbi hcl hne hO h hn hdom hR hcb kc;generalize hce:d * i+k=c at *;generalize hx1:L.getD c 0=xc at *;generalize hx2:L.getD b 0=xb at *;have HE:=χ (ψ hce (ψ hx1 hx2));clear hce hx1 hx2
     go_upto_region 8 with (first
      | ((go_at_call 172;(with_reducible refine (ZH _).mono ?_));rintro e w1 ⟨rfl,hu1⟩)
      | fail)
     have tL:O.On w1 w1:=.start (O.upd hat hu1 σ);have YM:∀W,O.On w1 W->W.cell? ⟨g,c,none⟩=some (.int .i64 (xc:Int)):=fun W hW=>hW.upd.kept (hu1.was d1) hgw;have cb1:∀W,O.On w1 W->W.cell? ⟨g,b,none⟩=some (.int .i64 (xb:Int)):=fun W hW=>hW.upd.kept (hu1.was d2) hgw;have Ya:∀W,O.On w1 W->W.cell? ⟨rp,1,none⟩=some (.slice (some ⟨g,0,none⟩) n cap):=fun W hW=>hW.upd.kept (hu1.was q1) Nz;have hm:∀W,O.On w1 W->_:=fun W hW=>O.VE hW.at_;have hnl:=O.VN;have hen:=O.ent;unfold Enters at hen
     go_region_held3 (O.On w1) (first|assumption|exact tL|(refine ik.On.drew ?_;first|assumption|exact tL)|(refine ik.On.drewN ?_ _;first|assumption|exact tL))
      (first
       | ((with_reducible refine (O.ask xc xb (ik.On.at_ (w0:=w1) (by first|assumption|exact tL|(refine ik.On.drew ?_;first|assumption|exact tL)|(refine ik.On.drewN ?_ _;first|assumption|exact tL))) hdc Z7).mono ?_);rintro e w5 ⟨rfl,BO,cu⟩;(have vF:O.On w1 w5:=ik.On.asked (by first|assumption|exact tL|(refine ik.On.drew ?_;first|assumption|exact tL)|(refine ik.On.drewN ?_ _;first|assumption|exact tL)) BO cu)))
     have HZ2:=χ (hu1.mono (σ:∀z,z∈[]->z∈O.wr) |>.trans vF.upd);have HO5:=χ vF.at_;clear YM cb1 Ya hm tL vF cu BO d1 d2 q0 q1;cases hxy:O.lt xc xb with
     | false=>
      go_wp2
      go_roundw
      case rel=>
       obtain ⟨hF,hon,hcb,hcl,hk2⟩:=HY.out;refine ⟨b,k+1,ω,hkl,rfl,by go_num,hF.stay (fun _=>?_),HO5.out,hon.upd.trans HZ2.out⟩;rw [HE.out.1,HE.out.2.1,HE.out.2.2];rcases O.total xc xb (fun e=>by rw [e] at hcb;exact hcb rfl) with e|e
       ·rw [e] at hxy;cases hxy
       ·exact e
      case measure=>simp [intOf];omega
     | true=>
      go_wp2
      go_roundw
      case rel=>
       obtain ⟨hF,hon,hcb,hcl,hk2⟩:=HY.out;refine ⟨c,k+1,ω,hkl,rfl,by go_num,?_,HO5.out,hon.upd.trans HZ2.out⟩;have ht:=hF.turn O.tr ω (by rw [HE.out.1,HN.out];exact hcl) (by rw [HE.out.1,HE.out.2.1,HE.out.2.2];exact hxy);rw [HE.out.1] at ht;exact ht
      case measure=>simp [intOf];omega
    ·have hgL:decide (((d*i+k:Nat):Int)<(n:Int))=false:=ζ;have HY:=χ (ψ hF (ψ hon hcl));have hkl:k+1<=d+1:=ω;clear hF hon hcl hO h hn hdom hR kc;generalize hce:d * i+k=c at *;have HE:=χ hce;clear hce;have hgN:decide (c<n)=false:=by simp at hgL ⊢;omega
     go_upto_region 8 with (first
      | ((go_at_call 172;(with_reducible refine (ZH _).mono ?_));rintro e w1 ⟨rfl,hu1⟩;(have q1:=hu1.was q1);(have q0:=hu1.was q0))
      | fail)
     go_quiet (fail)
     go_wp2
     go_roundw
     case rel=>
      obtain ⟨hF,hon,hcl⟩:=HY.out;exact ⟨b,k+1,ω,hkl,rfl,by go_num,hF.stay (fun h=>absurd h (by have:=HN.out;have:=HE.out;omega)),O.upd hon.at_ (hu1.drewN nq) σ,hon.upd.trans ((hu1.drewN nq).mono σ)⟩
     case measure=>simp [intOf];omega
   ·have hkd':¬ (k:Int)<=(d:Int):=ω;clear kc;go_wp2;exact bodyPost_ret (v:=.tuple #[.int .i64 (b:Int),.bool true]) (by simp [results,Tryz.results167,go_sem]) rfl ⟨b,rfl,hon,fun _=>hF.end hd.1 ω⟩
end Go.Proofs.YtklibcncmbofpaaGreat
