/-
  Lemmas for RankSorts: Sf3, Sf4, Sf5. Conditions: those of each lemma.
-/
import Derived.Test.YtklibcncmbofpaaGreatP18
set_option maxHeartbeats 8000000
set_option maxRecDepth 10000
set_option linter.unusedVariables false
set_option linter.unusedSimpArgs false
namespace Go.Proofs.YtklibcncmbofpaaGreat
open Go Go.RowKit
structure jT (R:Nat→Nat→Prop) (d:Nat) (L:List Nat) (i k b:Nat):Prop where
 b0:∃q,b=d*i+q∧1≤q∧q<k
 lt:b<L.length
 all:∀q,1≤q→q<k→d*i+q<L.length→d*i+q≠b→R (L.getD b 0) (L.getD (d*i+q) 0)
theorem jT.one {R:Nat→Nat→Prop} {d:Nat} {L:List Nat} {i:Nat} (h:d*i+1<L.length):jT R d L i 2 (d*i+1):=
 ⟨⟨1,rfl,ω,ω⟩,h,fun q h1 h2 _ hne=>absurd (show d*i+q=d*i+1 by omega) hne⟩
theorem jT.end {R:Nat→Nat→Prop} {d:Nat} {L:List Nat} {i k b:Nat} (h:jT R d L i k b) (hd:2≤d) (hk:k=d+1):om R d L i b:=by
 obtain ⟨q,rfl,h1,h2⟩:=h.b0;have hp:=(qE (i:=i) (j:=d*i+q) hd).2 ω;refine ⟨hp.1,h.lt,hp.2,fun j j0 hj hpj hne=>?_⟩
 have:=(qE hd).1 ⟨j0,hpj⟩;have e:j=d*i+(j-d*i):=ω;rw [e] at hj hne ⊢;exact h.all _ ω ω hj hne
theorem jT.stay {R:Nat→Nat→Prop} {d:Nat} {L:List Nat} {i k b:Nat} (h:jT R d L i k b) (hc:d*i+k<L.length→R (L.getD b 0) (L.getD (d*i+k) 0)):jT R d L i (k+1) b:=by
 obtain ⟨q,h0,h1,h2⟩:=h.b0;refine ⟨⟨q,h0,h1,ω⟩,h.lt,fun q' g1 g2 g3 g4=>?_⟩
 by_cases e:q'=k
 ·subst e;exact hc g3
 ·exact h.all q' g1 ω g3 g4
theorem jT.turn {R:Nat→Nat→Prop} {d:Nat} {L:List Nat} {i k b:Nat} (ht:∀a b c,R a b→R b c→R a c) (h:jT R d L i k b) (hk:1≤k) (hl:d*i+k<L.length) (hc:R (L.getD (d*i+k) 0) (L.getD b 0)):jT R d L i (k+1) (d*i+k):=by
 refine ⟨⟨k,rfl,hk,ω⟩,hl,fun q' g1 g2 g3 g4=>?_⟩
 have e:q'≠k:=fun e=>g4 (by rw [e])
 by_cases e2:d*i+q'=b
 ·rw [e2];exact hc
 ·exact ht _ _ _ hc (h.all q' g1 ω g3 e2)
theorem DT (O:eX) {w:World} {rp mb g cap d:Nat} {f:Int→Option Int} {L:List Nat} (hO:O.at_ w) (h:qW w rp mb g cap d f L) (hd:2≤d∧d≤16) (hl:L.length≤65536) (i x:Nat) (hi:i<L.length)
  (hn:(L.set i x).Nodup) (hdom:∀y,y∈L.set i x→O.dom y) (hsep:Ig O rp mb g) :
  Calls Tryz.prog 167 #[.pointer (some ⟨rp,0,none⟩),.iface O.ty (.pointer (some ⟨O.p,0,none⟩)),.int .i64 (i:Int)] w fun e w'=>∃ (c:Nat),e=.returned (.tuple #[.int .i64 (c:Int),.bool (decide (d*i+1<L.length))])∧O.On w w'∧(d*i+1<L.length→om O.R d L i c):=by
 have kc:=fun k (hk:1≤k∧k≤d) W=>G8 d i k hd ω hk W
 have kc1:=kc 1 ⟨ω,ω⟩;rw [show ((1:Nat):Int)=1 from rfl] at kc1
 have c0:=h.h0;have c1:=h.h1;have hwr:=hsep.wr;have HX:=χ (ψ hO (ψ h (ψ hn (ψ hdom hd))));have hil:i<65536:=ω;generalize hnl:L.length=n at *
 have HN:=χ hnl;clear h hO hn hdom hsep hnl
 by_cases hz:n≤d*i+1
 ·rw [decide_eq_false (show ¬d*i+1<n by omega)]
  have hge:decide (((d*i+1:Nat):Int)≥(n:Int))=true:=ζ;have HZ:=χ hz;clear hz kc;generalize d * i+1=c at *
  go_enter Tryz.func167,Tryz.ntmps167
  have hnc:n≤c:=HZ.out
  go_wp2_with (first
   | ((go_at_call 172;(with_reducible refine (kc1 _).mono ?_));rintro e w1 ⟨rfl,hu1⟩;(have c1:=hu1.was c1))
   | fail)
  go_ret2;exact ⟨0,rfl,⟨O.upd HX.out.1 hu1 σ,hu1.mono σ⟩,fun h=>by have:=HZ.out;omega⟩
 ·rw [decide_eq_true (show d*i+1<n by omega)]
  have hge:decide (((d*i+1:Nat):Int)≥(n:Int))=false:=ζ;have HZ:=χ (show d*i+1<n by omega)
  clear hz;have HC:=χ (show d*i+1=d*i+1 from rfl)
  revert HC HZ hge kc1
  generalize hce0:d*i+1=c0';intro kc1 hge HZ _;have HC:=χ hce0;have hnc:¬n≤c0':=by have:=HZ.out;omega
  go_enter Tryz.func167,Tryz.ntmps167
  clear hce0
  go_wp2_with (first
   | ((go_at_call 172;(with_reducible refine (kc1 _).mono ?_));rintro e w1 ⟨rfl,hu1⟩;(have c1:=hu1.was c1))
   | fail)
  go_loopw [8,10,11,12] (fun bv kv _ _ wr=>∃ (b k:Nat),2≤k∧k≤d+1∧bv=.int .i64 (b:Int)∧kv=.int .i64 (k:Int)∧jT O.R d L i k b∧O.On w wr) (fun _ kv _ _ _=>d+1-(intOf kv).toNat)
  case atStart=>exact ⟨c0',2,ω,ω,rfl,rfl,by rw [←HC.out];exact jT.one (by have:=HZ.out;have:=HN.out;have:=HC.out;omega),O.upd HX.out.1 hu1 σ,hu1.mono σ⟩
  case round=>
   clear hu1 c1;obtain ⟨b,k,hk1,hk2,rfl,rfl,hF,hon⟩:=hrel;rename World=>wr
   obtain ⟨hO,h,hn,hdom,hd⟩:=HX.out;have hR:=h.upd hon.upd hwr.1 hwr.2.1 hwr.2.2;have q0:=hR.h0;have q1:=hR.h1
   by_cases hkd:k≤d
   ·have hkd':(k:Int)≤(d:Int):=ω;have kc2:=kc k ⟨ω,hkd⟩;have hwk:IntKind.i64.wrap ((k:Int)+1)=(k:Int)+1:=IntWalk.i64_in _ ω;rw [HN.out] at q1
    by_cases hcl:d*i+k<n
    ·have hne:d*i+k≠i:=by
      have:i≤d*i:=Nat.le_mul_of_pos_left _ ω;omega
     obtain ⟨qb,hqb,hqb1,hqb2⟩:=hF.b0;have hbl:=hF.lt;have hbi:b≠i:=by
      have:i≤d*i:=Nat.le_mul_of_pos_left _ ω;omega
     have hdc:=hdom _ (ni (x:=x) (show d*i+k<L.length by rw [HN.out];exact hcl) hne)
     have hdb:=hdom _ (ni (x:=x) hbl hbi);have hcb:L.getD (d*i+k) 0≠L.getD b 0:=fun e=>by
      have h1:(L.set i x)[d*i+k]?=some (L.getD b 0):=by rw [List.getElem?_set_ne (fun e=>hne e.symm),←e,φ,List.getElem?_eq_getElem (by rw [HN.out];exact hcl)];rfl
      have h2:(L.set i x)[b]?=some (L.getD b 0):=by rw [List.getElem?_set_ne (fun e=>hbi e.symm),φ,List.getElem?_eq_getElem hbl];rfl
      obtain ⟨g1,e1⟩:=List.getElem?_eq_some_iff.1 h1;obtain ⟨g2,e2⟩:=List.getElem?_eq_some_iff.1 h2;have:=(List.getElem_inj hn).1 (e1.trans e2.symm);omega
     have d1:=hR.cell (d*i+k) (by rw [HN.out];exact hcl)
     have d2:=hR.cell b hbl;have HY:=χ (ψ hF (ψ hon (ψ hcb (ψ hcl hk2))));have hgL:decide (((d*i+k:Nat):Int)<(n:Int))=true:=ζ;have hcI:((d*i+k:Nat):Int)<(n:Int):=ω;have hbI:(b:Int)<(n:Int):=by rw [HN.out] at hbl;omega
     have hrpw:=hwr.1;have hgw:=hwr.2.2;have hat:=hon.at_;have hkl:k+1≤d+1:=ω;clear hF hon hqb hqb1 hqb2 hbl hbi hcl hne hO h hn hdom hR hcb kc;generalize hce:d * i+k=c at *
     generalize hx1:L.getD c 0=xc at *
     generalize hx2:L.getD b 0=xb at *
     have HE:=χ (ψ hce (ψ hx1 hx2));clear hce hx1 hx2
     go_upto_region 8 with (first
      | ((go_at_call 172;(with_reducible refine (kc2 _).mono ?_));rintro e w1 ⟨rfl,hu1⟩)
      | fail)
     have hO1:O.On w1 w1:=.start (O.upd hat hu1 σ);have cp1:∀W,O.On w1 W→W.cell? ⟨g,c,none⟩=some (.int .i64 (xc:Int)):=fun W hW=>hW.upd.kept (hu1.was d1) hgw
     have cb1:∀W,O.On w1 W→W.cell? ⟨g,b,none⟩=some (.int .i64 (xb:Int)):=fun W hW=>hW.upd.kept (hu1.was d2) hgw
     have cg1:∀W,O.On w1 W→W.cell? ⟨rp,1,none⟩=some (.slice (some ⟨g,0,none⟩) n cap):=fun W hW=>hW.upd.kept (hu1.was q1) hrpw
     have hm:∀W,O.On w1 W→_:=fun W hW=>O.MN hW.at_
     have hnl:=O.MJ;have hen:=O.PM;unfold Enters at hen
     go_region_held3 (O.On w1) (first|assumption|exact hO1|(refine eX.On.drew ?_;first|assumption|exact hO1)|(refine eX.On.drewN ?_ _;first|assumption|exact hO1))
      (first
       | ((with_reducible refine (O.ask xc xb (eX.On.at_ (w0:=w1) (by first|assumption|exact hO1|(refine eX.On.drew ?_;first|assumption|exact hO1)|(refine eX.On.drewN ?_ _;first|assumption|exact hO1))) hdc hdb).mono ?_);rintro e w5 ⟨rfl,hO5,hu5⟩;(have hOn5:O.On w1 w5:=eX.On.asked (by first|assumption|exact hO1|(refine eX.On.drew ?_;first|assumption|exact hO1)|(refine eX.On.drewN ?_ _;first|assumption|exact hO1)) hO5 hu5)))
     have HZ2:=χ (hu1.mono (σ:∀z,z∈[]→z∈O.wr) |>.trans hOn5.upd)
     have HO5:=χ hOn5.at_;clear cp1 cb1 cg1 hm hO1 hOn5 hu5 hO5 d1 d2 q0 q1;cases hxy:O.lt xc xb with
     | false=>
      go_wp2
      go_roundw
      case rel=>
       obtain ⟨hF,hon,hcb,hcl,hk2⟩:=HY.out;refine ⟨b,k+1,ω,hkl,rfl,by go_num,hF.stay (fun _=>?_),HO5.out,hon.upd.trans HZ2.out⟩
       rw [HE.out.1,HE.out.2.1,HE.out.2.2];rcases O.total xc xb (fun e=>by rw [e] at hcb;exact hcb rfl) with e|e
       ·rw [e] at hxy;cases hxy
       ·exact e
      case measure=>simp [intOf];omega
     | true=>
      go_wp2
      go_roundw
      case rel=>
       obtain ⟨hF,hon,hcb,hcl,hk2⟩:=HY.out;refine ⟨c,k+1,ω,hkl,rfl,by go_num,?_,HO5.out,hon.upd.trans HZ2.out⟩
       have ht:=hF.turn O.tr ω (by rw [HE.out.1,HN.out];exact hcl) (by rw [HE.out.1,HE.out.2.1,HE.out.2.2];exact hxy)
       rw [HE.out.1] at ht;exact ht
      case measure=>simp [intOf];omega
    ·have hgL:decide (((d*i+k:Nat):Int)<(n:Int))=false:=ζ;have HY:=χ (ψ hF (ψ hon hcl));have hkl:k+1≤d+1:=ω;clear hF hon hcl hO h hn hdom hR kc;generalize hce:d * i+k=c at *
     have HE:=χ hce;clear hce;have hgN:decide (c<n)=false:=by simp at hgL ⊢;omega
     go_upto_region 8 with (first
      | ((go_at_call 172;(with_reducible refine (kc2 _).mono ?_));rintro e w1 ⟨rfl,hu1⟩;(have q1:=hu1.was q1);(have q0:=hu1.was q0))
      | fail)
     go_quiet (fail)
     go_wp2
     go_roundw
     case rel=>
      obtain ⟨hF,hon,hcl⟩:=HY.out;exact ⟨b,k+1,ω,hkl,rfl,by go_num,hF.stay (fun h=>absurd h (by have:=HN.out;have:=HE.out;omega)),O.upd hon.at_ (hu1.drewN nq) σ,hon.upd.trans ((hu1.drewN nq).mono σ)⟩
     case measure=>simp [intOf];omega
   ·have hkd':¬ (k:Int)≤(d:Int):=ω;clear kc;go_wp2;exact bodyPost_ret (v:=.tuple #[.int .i64 (b:Int),.bool true]) (by simp [results,Tryz.results167,go_sem]) rfl ⟨b,rfl,hon,fun _=>hF.end hd.1 ω⟩
theorem IM (O:eX) {w:World} {rp mb g cap d:Nat} {f:Int→Option Int} {L:List Nat} (hO:O.at_ w) (h:qW w rp mb g cap d f L) (hd:2≤d∧d≤16) (hl:L.length≤65536) (i x:Nat) (hH:dD O.R d L i) (hP:jW f L i x)
  (hn:(L.set i x).Nodup) (hdom:∀y,y∈L.set i x→O.dom y) (h16:∀y,y∈L.set i x→y≤65536) (hsep:Ig O rp mb g) (hT:i=0∨O.R (L.getD (par d i) 0) x) :
  Calls Tryz.prog 161 #[.pointer (some ⟨rp,0,none⟩),.iface O.ty (.pointer (some ⟨O.p,0,none⟩)),.int .i64 (i:Int),.int .i64 (x:Int)] w fun e w'=>∃ (f':Int→Option Int) (L':List Nat),e=.returned (.tuple #[])∧qW w' rp mb g cap d f' L'∧qX f' L'∧L'.Perm (L.set i x)∧O.at_ w'∧aa (g::mb::O.wr) w w'∧Hp O.R d L':=by
 have hi0:=hH.lt;have hxm:x∈L.set i x:=List.mem_of_getElem? (show (L.set i x)[i]?=some x by simp [hi0])
 have hdx:=hdom x hxm;have hxl:=h16 x hxm;have HX:=χ (ψ hn (ψ hdom (ψ h16 (ψ hsep hd))));have hwr:=hsep.wr
 go_enter Tryz.func161,Tryz.ntmps161
 go_wp2
 go_loopw [2,8,9] (fun iv _ _ wr=>∃ (i':Nat) (f':Int→Option Int) (L':List Nat),iv=.int .i64 (i':Int)∧qW wr rp mb g cap d f' L'∧dD O.R d L' i'∧jW f' L' i' x∧L'.length=L.length∧(L'.set i' x).Perm (L.set i x)∧O.at_ wr∧aa (g::mb::O.wr) w wr∧(i'=0∨O.R (L'.getD (par d i') 0) x)) (fun iv _ _ _=>L.length-(intOf iv).toNat)
 case atStart=>exact ⟨i,f,L,rfl,h,hH,hP,rfl,List.Perm.refl _,hO,aa.refl _ _,hT⟩
 case round=>
  clear h hH hP hO hT;obtain ⟨i1,f1,L1,rfl,h,hH,hP,hl1,hpm,hO,hu,hT⟩:=hrel;rename World=>wr
  have hi1:=hH.lt;have hn1:(L1.set i1 x).Nodup:=hpm.nodup_iff.2 HX.out.1;have kf:=DT O hO h hd ω i1 x hi1 hn1 (fun y hy=>HX.out.2.1 y (hpm.mem_iff.1 hy)) HX.out.2.2.2.1
  have ks:=fun W (hW:aa O.wr wr W)=>oU (h.upd hW hwr.1 hwr.2.1 hwr.2.2) i1 x hi1 hxl ω
  have hrpw:=hwr.1;have hgw:=hwr.2.2;have hcg:=h.h1;have hlt:=h.lt
  by_cases hz:d*i1+1<L1.length
  ·rw [decide_eq_true hz] at kf;have hcell:=fun c hc=>h.cell c hc
   have hdl:=fun c (hc:om O.R d L1 i1 c)=>HX.out.2.1 (L1.getD c 0) (hpm.mem_iff.1 (ni hc.lt (by have:=cZ hd.1 hc.c0;have:=hc.pc;omega)))
   have ks2:=fun c (hc:om O.R d L1 i1 c) W (hW:aa O.wr wr W)=>oU (h.upd hW hwr.1 hwr.2.1 hwr.2.2) i1 (L1.getD c 0) hi1 (HX.out.2.2.1 _ (hpm.mem_iff.1 (ni hc.lt (by have:=cZ hd.1 hc.c0;have:=hc.pc;omega)))) ω
   have HF:=χ (ψ hH (ψ hP (ψ hn1 (ψ hpm (ψ hO (ψ hT (ψ hu (ψ hl1 (ψ hz h)))))))));clear hH hP hn1 hpm hT hu hl1 h
   go_upto_region 1 with (first
    | ((go_at_call 167;(with_reducible refine (kf).mono ?_));rintro e w1 ⟨c,rfl,hon1,hfc⟩)
    | fail)
   have hc:=hfc hz;have hcl:=hc.lt;have hcI:(c:Int)<(L1.length:Int):=ω;have hdc:=hdl c hc;have hcc:=hcell c hcl;have ks2:=ks2 c hc;have HC:=χ (ψ hc hon1);clear hcell hdl hc hfc hz kf;generalize hy:L1.getD c 0=y at *
   have hO1:O.On w1 w1:=.start hon1.at_;have cp1:∀W,O.On w1 W→W.cell? ⟨g,c,none⟩=some (.int .i64 (y:Int)):=fun W hW=>hW.upd.kept (hon1.upd.kept hcc hgw) hgw
   have cg1:∀W,O.On w1 W→W.cell? ⟨rp,1,none⟩=some (.slice (some ⟨g,0,none⟩) L1.length cap):=fun W hW=>hW.upd.kept (hon1.upd.kept hcg hrpw) hrpw
   have hm:∀W,O.On w1 W→_:=fun W hW=>O.MN hW.at_
   have hnl:=O.MJ;have hen:=O.PM;unfold Enters at hen
   go_region_held3 (O.On w1) (first|assumption|exact hO1|(refine eX.On.drew ?_;first|assumption|exact hO1)|(refine eX.On.drewN ?_ _;first|assumption|exact hO1))
    (first
     | ((with_reducible refine (O.ask y x (eX.On.at_ (w0:=w1) (by first|assumption|exact hO1|(refine eX.On.drew ?_;first|assumption|exact hO1)|(refine eX.On.drewN ?_ _;first|assumption|exact hO1))) hdc hdx).mono ?_);rintro e w5 ⟨rfl,hO5,hu5⟩;(have hOn5:O.On w1 w5:=eX.On.asked (by first|assumption|exact hO1|(refine eX.On.drew ?_;first|assumption|exact hO1)|(refine eX.On.drewN ?_ _;first|assumption|exact hO1)) hO5 hu5)))
   have hu5':aa O.wr wr w5:=HC.out.2.upd.trans hOn5.upd;have ks5:=ks w5 hu5';have ks6:=ks2 w5 hu5';have HY:=χ (ψ hy (ψ hOn5.at_ hu5'));have cp5:=cp1 w5 hOn5;have cg5:=cg1 w5 hOn5;clear ks ks2 cp1 cg1 hm hO1 hOn5 hu5 hO5 hO hcc hcg hon1;cases hxy:O.lt y x with
   | false=>
    clear ks6
    go_wp2_with (first
     | ((go_at_call 166;(with_reducible refine (ks5).mono ?_));rintro e w2 ⟨rfl,hR,hu2⟩)
     | fail)
    obtain ⟨hH,hP,hn1,hpm,hO,hT,hu,hl1,hz,h⟩:=HF.out;obtain ⟨hy,hat,hu5⟩:=HY.out;obtain ⟨hc,hon1⟩:=HC.out;have hne:L1.getD c 0≠x:=FZ hi1 hc.lt (by have:=cZ hd.1 hc.c0;have:=hc.pc;omega) hn1
    have hxc:O.R x (L1.getD c 0):=by
     rcases O.total x (L1.getD c 0) (fun e=>hne e.symm) with e|e
     ·exact e
     ·rw [hy] at e;rw [e] at hxy;cases hxy
    exact bodyPost_ret (v:=.tuple #[]) (by simp [results,Tryz.results161,go_sem]) rfl ⟨_,_,rfl,hR,hP.fill hi1 hn1,hpm,O.upd hat hu2 (fun y hy=>by have:=HX.out.2.2.2.1;simp at hy;rcases hy with rfl|rfl;exact this.c;exact this.b),(hu.trans (hu5.mono (by simp +contextual))).trans (hu2.mono (by simp +contextual)),hH.fill hd.1 (mg O.tr hc hxc) hT⟩
   | true=>
    clear ks5
    go_wp2_with (first
     | ((go_at_call 166;(with_reducible refine (ks6).mono ?_));rintro e w2 ⟨rfl,hR,hu2⟩)
     | fail)
    go_roundw
    case rel=>
     obtain ⟨hH,hP,hn1,hpm,hO,hT,hu,hl1,hz,h⟩:=HF.out;obtain ⟨hy,hat,hu5⟩:=HY.out;obtain ⟨hc,hon1⟩:=HC.out;have hci:i1<c:=by have:=cZ hd.1 hc.c0;have:=hc.pc;omega
     have hdn:=hH.down O.tr hd.1 hc (x:=x) (by rw [hy];exact hxy)
     rw [hy] at hdn;have hmv:=hP.move hi1 (p:=c) hc.lt ω hn1;rw [hy] at hmv;have hpr:=uh (L:=L1) (i:=i1) (p:=c) (x:=x) hi1 hc.lt ω;rw [hy] at hpr;exact ⟨c,_,_,rfl,hR,hdn.1,hmv,by rw [List.length_set];exact hl1,hpr.trans hpm,O.upd hat hu2 (fun y hy=>by have:=HX.out.2.2.2.1;simp at hy;rcases hy with rfl|rfl;exact this.c;exact this.b),(hu.trans (hu5.mono (by simp +contextual))).trans (hu2.mono (by simp +contextual)),Or.inr hdn.2⟩
    case measure=>
     have hci:i1<c:=by have hc:=HC.out.1;have:=cZ hd.1 hc.c0;have:=hc.pc;omega
     have:=HF.out.2.2.2.2.2.2.2.1;simp [intOf];omega
  ·rw [decide_eq_false hz] at kf;have HF:=χ (ψ hH (ψ hP (ψ hn1 (ψ hpm (ψ hO (ψ hT (ψ hu (ψ hl1 hz))))))));clear hH hP hn1 hpm hT hu hl1 h hz
   go_upto_region 1 with (first
    | ((go_at_call 167;(with_reducible refine (kf).mono ?_));rintro e w1 ⟨c,rfl,hon1, -⟩)
    | fail)
   go_quiet (fail)
   have hu5':aa O.wr wr (w1.drewN nq):=(hon1.drewN nq).upd;have hat:=(hon1.drewN nq).at_;have ks5:=ks _ hu5';clear ks kf hon1
   go_wp2_with (first
    | ((go_at_call 166;(with_reducible refine (ks5).mono ?_));rintro e w2 ⟨rfl,hR,hu2⟩)
    | fail)
   obtain ⟨hH,hP,hn1,hpm,hO,hT,hu,hl1,hz⟩:=HF.out;exact bodyPost_ret (v:=.tuple #[]) (by simp [results,Tryz.results161,go_sem]) rfl ⟨_,_,rfl,hR,hP.fill hi1 hn1,hpm,O.upd hat hu2 (fun y hy=>by have:=HX.out.2.2.2.1;simp at hy;rcases hy with rfl|rfl;exact this.c;exact this.b),(hu.trans (hu5'.mono (by simp +contextual))).trans (hu2.mono (by simp +contextual)),hH.fill hd.1 (xM hd.1 ω) hT⟩
def jK (w:World) (rp:Nat) (G:List Nat) (d:Nat) (L:List Nat):Prop:=
 ∃mb f v,aI w rp 247 3 (fun j=>[Value.int .i64 (d:Int),v,.map (some mb)].getD j undef)∧w.ownsRow 0 3 1 v L.length (aH (bz L))∧dZ w mb f∧qX f L∧rp≠mb∧(∀g,v.ownBlock=some g→rp≠g∧mb≠g)∧G=rp::mb::v.ownBlock.toList
theorem qW.at_ {w:World} {rp mb g cap d:Nat} {f:Int→Option Int} {L:List Nat} (h:qW w rp mb g cap d f L) (hP:qX f L):jK w rp [rp,mb,g] d L:=
 ⟨mb,f,.slice (some ⟨g,0,none⟩) L.length cap,h.head,by have:=h.row.own;rwa [bQ] at this,h.map,hP,h.sep.1,fun g' hg=>by cases hg;exact ⟨h.sep.2.1,h.sep.2.2⟩,rfl⟩
theorem jK.open {w:World} {rp d:Nat} {G L:List Nat} (h:jK w rp G d L) (hl:0<L.length):∃mb g cap f,qW w rp mb g cap d f L∧qX f L∧G=[rp,mb,g]:=by
 obtain ⟨mb,f,v,h1,h2,h3,h4,h5,h6,rfl⟩:=h;obtain ⟨g,cap,e,hI, -⟩:=IZ.gJ (l:=bz L) (by rw [bQ];exact h2) (by rw [bQ];exact hl)
 rw [bQ] at e;subst e;obtain ⟨s1,s2⟩:=h6 g rfl;exact ⟨mb,g,cap,f,⟨h1,hI,h3,h5,s1,s2⟩,h4,rfl⟩
theorem jK.lt {w:World} {rp d:Nat} {G L:List Nat} (h:jK w rp G d L):∀z,z∈G→z<w.heap.size:=by
 obtain ⟨mb,f,v,h1,h2,h3,h4,h5,h6,rfl⟩:=h;intro z hz;simp only [List.mem_cons] at hz;rcases hz with rfl|rfl|hz
 ·exact h1.lt
 ·exact h3.lt
 ·exact (h2.lt z (by simpa using hz)).2
theorem jK.upd {w w':World} {rp d:Nat} {G L S:List Nat} (h:jK w rp G d L) (hu:aa S w w') (hS:∀z,z∈S→z∉G):jK w' rp G d L:=by
 obtain ⟨mb,f,v,h1,h2,h3,h4,h5,h6,rfl⟩:=h;have hn:∀z,z∈rp::mb::v.ownBlock.toList→z∉S:=fun z hz hm=>hS z hm hz
 exact ⟨mb,f,v,h1.upd hu (hn _ σ),ay h2 hu (fun k hk=>hn k (by simp [hk])),h3.upd hu (hn _ σ),h4,h5,h6,rfl⟩
theorem Nn {f:Int→Option Int} {L:List Nat} (h:qX f L) {x:Nat} (hx:x∉L):f x=none:=by
 cases hf:f x with
 | none=>rfl
 | some v=>
  obtain ⟨y,j,e1, -,hj⟩:=(h x v).1 hf;have:y=x:=ω;subst this;exact absurd (List.mem_of_getElem? hj) hx
theorem F4 {f:Int→Option Int} {L:List Nat} (h:qX f L) {x i:Nat} (hx:L[i]?=some x):f x=some (i:Int):=(h x i).2 ⟨x,i,rfl,rfl,hx⟩
theorem Ng {f:Int→Option Int} {L:List Nat} (h:qX f L) (x:Nat):jW f (L++[x]) L.length x:=fun z v hz=>by
 rw [h z v];constructor
 ·rintro ⟨y,j,rfl,rfl,hj⟩;have:=(List.getElem?_eq_some_iff.1 hj).1;exact ⟨y,j,rfl,rfl,ω,by rw [List.getElem?_append_left this];exact hj⟩
 ·rintro ⟨y,j,rfl,rfl,hne,hj⟩;have h1:=(List.getElem?_eq_some_iff.1 hj).1;simp at h1;rw [List.getElem?_append_left ω] at hj;exact ⟨y,j,rfl,rfl,hj⟩
theorem Bi (d:Nat) (hd:2≤d∧d≤16) (w:World) :
  Calls Tryz.prog 108 #[.int .i64 (d:Int)] w fun e w'=>∃rp G,e=.returned (.tuple #[.pointer (some ⟨rp,0,none⟩),.int .i64 0])∧jK w' rp G d []∧aa [] w w'∧∀z,z∈G→w.heap.size≤z:=by
 have kf:∀W,Calls Tryz.prog 115 #[.int .i64 (d:Int)] W fun e w'=>e=.returned (.bool true)∧w'=W:=fun W=>by
  have h1:(d:Int)≥2:=ω;have h2:(d:Int)≤16:=ω
  go_enter Tryz.func115,Tryz.ntmps115
  go_wp2;go_ret;exact ⟨rfl,rfl⟩
 have hmm:=@run_makeMap Tryz.prog
 go_enter Tryz.func108,Tryz.ntmps108
 go_wp2_with (first|(go_at_call 115;(with_reducible refine (kf _).mono ?_);rintro e w9 ⟨rfl,hw9⟩;rw [hw9];clear hw9 w9)|fail)
 go_ret2;have hm:=dZ.made w;have hh:=dm (w.alloc (.map #[] 0)) [.int .i64 (d:Int),.slice none 0 0,.map (some w.heap.size)] 247;have e1:(w.alloc (.map #[] 0)).heap.size=w.heap.size+1:=by rw [World.size_alloc]
 rw [e1] at hh;have hv:aa [] (w.alloc (.map #[] 0)) ((w.alloc (.map #[] 0)).alloc (.cells #[.int .i64 (d:Int),.slice none 0 0,.map (some w.heap.size)] 247)):=(aa.refl _ _).alloc _;refine ⟨w.heap.size+1,[w.heap.size+1,w.heap.size],rfl,⟨w.heap.size,fun _=>none,.slice none 0 0,hh,⟨rfl,Or.inl ⟨rfl,rfl⟩⟩,hm.upd hv σ,fun z v=>σ,ω,fun g hg=>(by cases hg),rfl⟩,β,fun z hz=>?_⟩
 simp at hz;omega
theorem Ky {w:World} {rp d:Nat} {G:List Nat} (h:jK w rp G d []):Calls Tryz.prog 157 #[.pointer (some ⟨rp,0,none⟩),.int .i64 0] w fun e w'=>e=.returned (.tuple #[.int .i64 0,.bool false])∧w'=w:=by
 obtain ⟨mb,f,v,h1,h2, -, -, -, -, -⟩:=h;obtain ⟨a,c,rfl,hc⟩:=aR h2;have c1:=h1.cellAt 1 (v:=.slice a 0 c) ω rfl;clear h1 h2
 go_enter Tryz.func157,Tryz.ntmps157
 go_wp2;go_ret2;exact ⟨rfl,rfl⟩
theorem La {w:World} {rp d x:Nat} {G L:List Nat} (h:jK w rp G d (x::L)):Calls Tryz.prog 157 #[.pointer (some ⟨rp,0,none⟩),.int .i64 0] w fun e w'=>e=.returned (.tuple #[.int .i64 (x:Int),.bool true])∧w'=w:=by
 obtain ⟨mb,g,cap,f,hM, -, -⟩:=h.open σ;have c1:=hM.h1;have c2:=hM.cell 0 σ;rw [show (x::L).getD 0 0=x from rfl] at c2
 have hn:0<(x::L).length:=σ;generalize (x::L).length=n at *
 have hn1:¬ (0:Int)≥(n:Int):=ω;have hn2:(0:Int)<(n:Int):=ω;have hn3:¬n=0:=ω;clear hM h
 go_enter Tryz.func157,Tryz.ntmps157
 go_wp2;go_ret2;exact ⟨rfl,rfl⟩
theorem Jo (O:eX) {w:World} {rp d:Nat} {G L:List Nat} (hO:O.at_ w) (h:jK w rp G d L) (hd:2≤d∧d≤16) (hl:L.length+1≤65536) (hH:Hp O.R d L) (x:Nat) (hx:x∉L) (hn:L.Nodup)
  (hdom:∀y,y∈x::L→O.dom y) (h16:∀y,y∈x::L→y≤65536) (hsep:∀z,z∈G→z∉O.rd) :
  Calls Tryz.prog 155 #[.pointer (some ⟨rp,0,none⟩),.iface O.ty (.pointer (some ⟨O.p,0,none⟩)),.int .i64 (x:Int)] w fun e w'=>e=.returned (.bool true)∧∃G' L',jK w' rp G' d L'∧L'.Perm (x::L)∧Hp O.R d L'∧O.at_ w'∧aa (G++O.wr) w w'∧∀z,z∈G'→z∈G∨w.heap.size≤z:=by
 obtain ⟨mb,f,v,h1,h2,h3,h4,h5,h6,rfl⟩:=h;have hfx:=Nn h4 hx;have HXx:=χ hx;have hxl:=h16 x σ;obtain ⟨a,cc,rfl,hcc⟩:=aR h2;have c1:=h1.cellAt 1 (v:=.slice a L.length cc) ω rfl;have c2:=h1.cellAt 2 (v:=.map (some mb)) ω rfl;have f1:=h1.free 1;have hlr:=h1.lt;have hlo:=h2.lt;have hms:∀z,z∈(Value.slice a L.length cc).ownBlock.toList→rp≠z∧mb≠z:=fun z hz=>h6 z (by simpa using hz)
 have hp:=hH.snoc O.tr hd.1 (x:=x);have hpl:=Ng h4 x;have hset:(L++[x]).set L.length x=L++[x]:=σ;have hper:(L++[x]).Perm (x::L):=List.perm_append_comm (l₁:=L) (l₂:=[x]);have HX:=χ (ψ hO (ψ h1 (ψ h3 (ψ h5 (ψ hms (ψ hp (ψ hpl (ψ hset (ψ hper (ψ hn (ψ hdom (ψ h16 (ψ hsep hlo)))))))))))));have hmb:dZ w mb f:=h3;have hgl:(Value.slice a L.length cc).ownBlock.toList=(Value.slice a L.length cc).ownBlock.toList:=rfl;clear h1 h3 h4 h6 hH hx hn hdom h16 hsep hO hms hp hpl hset hper hlo;generalize hnl:L.length=n at *
 have HN:=χ hnl;clear hnl
 go_enter Tryz.func155,Tryz.ntmps155
 go_upto_region 5 with (first
  | (at_lookup;refine jR rfl _ _ rfl mb f rfl hmb (x:Int) rfl ω ?_;rw [hfx];simp only [Option.getD_none,Option.isSome_none])
  | ((at_builtin;refine aC rfl _ _ 26 rfl 0 3 (.int .i64 0) 1 8 Tryz.underlying26 cK rfl δ _ _ _ rfl (h2) [.int .i64 (x:Int)] rfl (by simp [Value.oneCell']) (by first|rfl|(rw [World.size_alloc];rfl)) μ ω (ω) ?_;intro v2 w2 ho2 hu2 hsep2);obtain ⟨a2,cc2,rfl,hcc2⟩:=aR ho2;(have d1:w2.cell? ⟨rp,1,none⟩=some (.slice a n cc):=hu2.kept c1 (fun hm=>(HX.out.2.2.2.2.1 rp hm).1 rfl));(have e1:=hu2.aO c1 (fun hm=>(HX.out.2.2.2.2.1 rp hm).1 rfl) f1))
  | fail)
 obtain ⟨hO,h1,h3,h5,hms,hp,hpl,hset,hper,hn,hdom,h16,hsep,hlo⟩:=HX.out;have hnz:bz (L++[x])=bz L++[(x:Int)]:=by unfold bz;simp
 have hL1:(L++[x]).length=n+1:=by rw [List.length_append,HN.out];rfl
 obtain ⟨g2,cap2,e2,hI2, -⟩:=IZ.gJ (l:=bz (L++[x])) (by rw [bQ,hL1,hnz,aS];exact ho2) (by rw [bQ,hL1];omega)
 rw [bQ,hL1] at e2;cases e2;have hg2:rp≠g2∧mb≠g2∧(g2∈(Value.slice a n cc).ownBlock.toList∨w.heap.size<g2):=by
  rcases hsep2 with e|e
  ·have hm:g2∈(Value.slice a n cc).ownBlock.toList:=by have e':(Value.slice a n cc).ownBlock=some g2:=e.symm;rw [e'];simp
   have:=hms g2 hm;exact ⟨this.1,this.2,Or.inl hm⟩
  ·have h7:=e g2 rfl;have h8:=h3.lt;exact ⟨ω,ω,Or.inr h7⟩
 have hw0:aa (Value.slice a n cc).ownBlock.toList w w2:=hu2;have hsW:aa [rp] w2 (w2.setCell ⟨rp,1,none⟩ (.slice (some ⟨g2,0,none⟩) (n+1) cc2)):=β;have hnm:∀z,z∈(Value.slice a n cc).ownBlock.toList→rp≠z∧mb≠z:=hms
 have hR:qW (w2.setCell ⟨rp,1,none⟩ (.slice (some ⟨g2,0,none⟩) (n+1) cc2)) rp mb g2 cc2 d f (L++[x]):=by
  refine ⟨((h1.upd hw0 (fun hm=>(hnm rp hm).1 rfl)).set 1 _).ext (fun j hj=>?_),hI2.upd hsW (by simp;exact fun e=>hg2.1 e.symm),(h3.upd hw0 (fun hm=>(hnm mb hm).2 rfl)).upd hsW (by simp;exact fun e=>h5 e.symm),h5,hg2.1,hg2.2.1⟩
  rw [hL1];rcases (ω:j=0∨j=1∨j=2) with rfl|rfl|rfl<;>rfl
 have hrd:∀z,z∈(Value.slice a n cc).ownBlock.toList→z∉O.rd:=fun z hz=>hsep z (List.mem_cons_of_mem _ (List.mem_cons_of_mem _ hz))
 have hOl:=O.low hO;have hat:O.at_ (w2.setCell ⟨rp,1,none⟩ (.slice (some ⟨g2,0,none⟩) (n+1) cc2)):=O.upd (O.upd hO hw0 hrd) hsW (fun z hz=>by simp at hz;rw [hz];exact hsep rp σ)
 have ku:=Ai O hat hR hd ω n x hp.1 hpl (by rw [hset];exact hper.nodup_iff.2 (List.nodup_cons.2 ⟨HXx.out,hn⟩)) (fun y hy=>hdom y (hper.mem_iff.1 (by rw [←hset];exact hy))) (fun y hy=>h16 y (hper.mem_iff.1 (by rw [←hset];exact hy)))
  ⟨hsep rp σ,hsep mb σ,fun hm=>by rcases hg2.2.2 with e|e;exact hrd g2 e hm;have:=hOl g2 hm;omega⟩
 rw [hset] at ku;have k1:((n+1:Nat):Int)-1=(n:Int):=ω;have HR:=χ (ψ hp.2 (ψ hper (ψ hg2 (ψ hw0 hsW))));have c9:=hR.h1;rw [hL1] at c9;have hwr9:wrap64 ((n:Int)+1-1)=(n:Int):=by rw [show (n:Int)+1-1=n by omega];exact IntWalk.wrap64_in _ ω
 clear hR hat hp hpl hper hms hdom h16 hI2 ho2 hu2 hsep2 d1 e1 hw0 hsW hsep hset
 go_wp2_with (first
  | ((go_at_call 159;(with_reducible refine (ku).mono ?_));rintro e w5 ⟨k,f',L',rfl,hR5,hP5,hpr5,hO5,hu5,hk5,hH5⟩)
  | fail)
 obtain ⟨hb,hper,hg2,hw0,hsW⟩:=HR.out;have hsz:=hw0.size;go_ret;refine ⟨rfl,_,L',hR5.at_ hP5,hpr5.trans hper,hH5 (Or.inr hb),hO5,?_,fun z hz=>?_⟩
 ·refine ((hw0.mono (fun z hz=>by simp [hz])).trans (hsW.mono (fun z hz=>by simp at hz;simp [hz]))).joined hu5 (fun z hz=>?_)
  simp only [List.mem_cons,List.mem_append] at hz ⊢;rcases hz with rfl|rfl|hz
  ·rcases hg2.2.2 with e|e
   ·exact Or.inl (Or.inr (Or.inr (Or.inl e)))
   ·exact Or.inr ω
  ·exact Or.inl (Or.inr (Or.inl rfl))
  ·exact Or.inl (Or.inr (Or.inr (Or.inr hz)))
 ·simp only [List.mem_cons,List.not_mem_nil,or_false] at hz;rcases hz with rfl|rfl|rfl
  ·exact Or.inl σ
  ·exact Or.inl σ
  ·rcases hg2.2.2 with e|e
   ·exact Or.inl (by simp [e])
   ·exact Or.inr ω
theorem DD (O:eX) {w:World} {rp d:Nat} {G L:List Nat} (hO:O.at_ w) (h:jK w rp G d L) (hd:2≤d∧d≤16) (hl:L.length≤65536) (i x:Nat) (hx:L[i]?=some x) (hn:L.Nodup) (hH:dD O.R d L i) (hB:Below O.R d L i x)
  (hdom:∀y,y∈L→O.dom y) (h16:∀y,y∈L→y≤65536) (hsep:∀z,z∈G→z∉O.rd) :
  Calls Tryz.prog 148 #[.pointer (some ⟨rp,0,none⟩),.iface O.ty (.pointer (some ⟨O.p,0,none⟩)),.int .i64 (x:Int)] w fun e w'=>e=.returned (.bool true)∧∃L',jK w' rp G d L'∧L'.Perm L∧Hp O.R d L'∧O.at_ w'∧aa (G++O.wr) w w':=by
 have hi:=hH.lt;obtain ⟨mb,g,cap,f,hM,hP,rfl⟩:=h.open ω;have hset:L.set i x=L:=by
  obtain ⟨_,e⟩:=List.getElem?_eq_some_iff.1 hx;rw [←e];simp
 have hxm:=List.mem_of_getElem? hx;have ku:=Ai O hO hM hd hl i x hH (hP.hole hx) (by rw [hset];exact hn) (fun y hy=>hdom y (by rw [←hset];exact hy)) (fun y hy=>h16 y (by rw [←hset];exact hy)) ⟨hsep rp σ,hsep mb σ,hsep g σ⟩
 rw [hset] at ku;have c2:=hM.h2;have hfx:=F4 hP hx;have hmb:=hM.map;have hxl:=h16 x hxm;have HB:=χ hB;clear h hM hP hx hn hH hB hdom h16 hsep hO hset hxm
 go_enter Tryz.func148,Tryz.ntmps148
 go_wp2_with (first
  | (at_lookup;refine jR rfl _ _ rfl mb f rfl hmb (x:Int) rfl ω ?_;rw [hfx];simp only [Option.getD_some,Option.isSome_some])
  | ((go_at_call 159;(with_reducible refine (ku).mono ?_));rintro e w5 ⟨k,f',L',rfl,hR5,hP5,hpr5,hO5,hu5,hk5,hH5⟩)
  | fail)
 go_ret;refine ⟨rfl,L',hR5.at_ hP5,hpr5,hH5 (Or.inr HB.out),hO5,hu5.mono (fun z hz=>?_)⟩
 simp only [List.mem_cons,List.mem_append] at hz ⊢;rcases hz with rfl|rfl|hz
 ·simp
 ·simp
 ·simp [hz]
end Go.Proofs.YtklibcncmbofpaaGreat
