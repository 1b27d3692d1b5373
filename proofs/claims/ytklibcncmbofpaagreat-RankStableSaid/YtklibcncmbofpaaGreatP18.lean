/-
  Lemmas for RankSorts: Sf2, Sd, Sd2, Sd3. Conditions: those of each lemma.
-/
import Derived.Deep.RegionHeldLaw
import Derived.BigRegion
import Derived.Test.YtklibcncmbofpaaGreatP06
import Derived.Test.YtklibcncmbofpaaGreatP17
set_option maxHeartbeats 8000000
set_option maxRecDepth 10000
set_option linter.unusedVariables false
set_option linter.unusedSimpArgs false
namespace Go.Proofs.YtklibcncmbofpaaGreat
open Go Go.RowKit
structure Ig (O:eX) (rp mb g:Nat):Prop where
 a:rp∉O.rd
 b:mb∉O.rd
 c:g∉O.rd
theorem Ig.wr {O:eX} {rp mb g:Nat} (h:Ig O rp mb g):rp∉O.wr∧mb∉O.wr∧g∉O.wr:=⟨fun hm=>h.a (O.sub _ hm),fun hm=>h.b (O.sub _ hm),fun hm=>h.c (O.sub _ hm)⟩
theorem ni {L:List Nat} {i x p:Nat} (hp:p<L.length) (hne:p≠i):L.getD p 0∈L.set i x:=by
 have h1:(L.set i x)[p]?=some (L.getD p 0):=by rw [List.getElem?_set_ne (fun e=>hne e.symm)];simp [φ,hp]
 exact List.mem_of_getElem? h1
theorem FZ {L:List Nat} {i x p:Nat} (hi:i<L.length) (hp:p<L.length) (hne:p≠i) (hn:(L.set i x).Nodup):L.getD p 0≠x:=fun e=>by
 have h1:(L.set i x)[p]?=some x:=by rw [List.getElem?_set_ne (fun e=>hne e.symm),←e];simp [φ,hp]
 have h2:(L.set i x)[i]?=some x:=by simp [hi]
 obtain ⟨g1,e1⟩:=List.getElem?_eq_some_iff.1 h1;obtain ⟨g2,e2⟩:=List.getElem?_eq_some_iff.1 h2;exact hne ((List.getElem_inj hn).1 (e1.trans e2.symm))
theorem Ai (O:eX) {w:World} {rp mb g cap d:Nat} {f:Int→Option Int} {L:List Nat} (hO:O.at_ w) (h:qW w rp mb g cap d f L) (hd:2≤d∧d≤16) (hl:L.length≤65536) (i x:Nat) (hH:dD O.R d L i) (hP:jW f L i x)
  (hn:(L.set i x).Nodup) (hdom:∀y,y∈L.set i x→O.dom y) (h16:∀y,y∈L.set i x→y≤65536) (hsep:Ig O rp mb g) :
  Calls Tryz.prog 159 #[.pointer (some ⟨rp,0,none⟩),.iface O.ty (.pointer (some ⟨O.p,0,none⟩)),.int .i64 (i:Int),.int .i64 (x:Int)] w fun e w'=>∃ (k:Nat) (f':Int→Option Int) (L':List Nat),e=.returned (.int .i64 (k:Int))∧qW w' rp mb g cap d f' L'∧qX f' L'∧L'.Perm (L.set i x)∧O.at_ w'∧aa (g::mb::O.wr) w w'∧
   (k=i→L'=L.set i x∧(i=0∨O.R (L.getD (par d i) 0) x))∧(k≠i∨Below O.R d L i x→Hp O.R d L'):=by
 have hi0:=hH.lt;have hxm:x∈L.set i x:=List.mem_of_getElem? (show (L.set i x)[i]?=some x by simp [hi0])
 have hdx:=hdom x hxm;have hxl:=h16 x hxm;have HX:=χ (ψ hn (ψ hdom (ψ h16 (ψ hsep hd))));have hwr:=hsep.wr
 go_enter Tryz.func159,Tryz.ntmps159
 go_wp2
 go_loopw [2,9,10] (fun iv _ _ wr=>∃ (i':Nat) (f':Int→Option Int) (L':List Nat),iv=.int .i64 (i':Int)∧qW wr rp mb g cap d f' L'∧dD O.R d L' i'∧jW f' L' i' x∧L'.length=L.length∧(L'.set i' x).Perm (L.set i x)∧O.at_ wr∧aa (g::mb::O.wr) w wr∧((i'=i∧L'=L)∨(i'<i∧Below O.R d L' i' x))) (fun iv _ _ _=>(intOf iv).toNat)
 case atStart=>exact ⟨i,f,L,rfl,h,hH,hP,rfl,List.Perm.refl _,hO,aa.refl _ _,Or.inl ⟨rfl,rfl⟩⟩
 case round=>
  clear h hH hP hO;obtain ⟨i1,f1,L1,rfl,h,hH,hP,hl1,hpm,hO,hu,hst⟩:=hrel;rename World=>wr
  have hi1:=hH.lt;have hn1:(L1.set i1 x).Nodup:=hpm.nodup_iff.2 HX.out.1;have kp:=fun W=>E5 d i1 hd ω W
  have c0:=h.h0;have c1:=h.h1;have hlt:=h.lt
  by_cases hz:i1=0
  ·have ks:=fun W (hW:aa [] wr W)=>oU (h.aj hW) i1 x hi1 hxl ω
   have e1:(if i1=0 then (0:Int) else (par d i1:Int))=0:=if_pos hz
   have e2:decide (0<i1)=false:=by simp [hz]
   simp only [e1,e2] at kp;have HF:=χ (ψ hH (ψ hP (ψ hn1 (ψ hpm (ψ hO (ψ hst (ψ hu (ψ hl1 hz))))))));clear hH hP hn1 hpm hO hst hu hl1 h hz e1 e2
   go_upto_region 2 with (first
    | ((go_at_call 165;(with_reducible refine (kp _).mono ?_));rintro e w1 ⟨rfl,hu1⟩)
    | fail)
   go_quiet (fail)
   have ks1:=ks _ (hu1.drewN nq)
   go_wp2_with (first
    | ((go_at_call 166;(with_reducible refine (ks1).mono ?_));rintro e w2 ⟨rfl,hR,hu2⟩)
    | fail)
   go_ret;obtain ⟨hH,hP,hn1,hpm,hO,hst,hu,hl1,hz⟩:=HF.out;have hu3:aa [g,mb] wr w2:=(hu1.drewN nq).mono σ |>.trans hu2;refine ⟨i1,_,_,rfl,hR,hP.fill hi1 hn1,hpm,O.upd hO hu3 (fun y hy=>by have:=HX.out.2.2.2.1;simp at hy;rcases hy with rfl|rfl;exact this.c;exact this.b),hu.trans (hu3.mono (by simp +contextual)),fun e=>?_,fun e=>?_⟩
   ·rcases hst with ⟨_,rfl⟩|⟨h1,_⟩
    ·subst e;exact ⟨rfl,Or.inl hz⟩
    ·omega
   ·have hb:Below O.R d L1 i1 x:=by
     rcases hst with ⟨e1,e2⟩|⟨_,h2⟩
     ·rcases e with e|e
      ·exact absurd e1 e
      ·rw [e1,e2];exact e
     ·exact h2
    exact hH.fill hd.1 hb (Or.inl hz)
  ·obtain ⟨p,hp⟩:∃p,p=par d i1:=⟨_,rfl⟩
   have hpl:p<i1:=by rw [hp];exact cZ hd.1 ω
   have e1:(if i1=0 then (0:Int) else (par d i1:Int))=(p:Int):=by rw [if_neg hz,hp]
   have e2:decide (0<i1)=true:=ζ;simp only [e1,e2] at kp;have hcp:=h.cell p ω;have hcg:=h.h1;have hdp:=HX.out.2.1 (L1.getD p 0) (hpm.mem_iff.1 (ni ω ω));have hpx:=FZ hi1 (show p<L1.length by omega) ω hn1
   have ks2:=fun W (hW:aa O.wr wr W)=>oU (h.upd hW hwr.1 hwr.2.1 hwr.2.2) i1 (L1.getD p 0) hi1 (HX.out.2.2.1 _ (hpm.mem_iff.1 (ni ω ω))) ω
   have ks:=fun W (hW:aa O.wr wr W)=>oU (h.upd hW hwr.1 hwr.2.1 hwr.2.2) i1 x hi1 hxl ω
   have HF:=χ (ψ hH (ψ hP (ψ hn1 (ψ hpm (ψ hO (ψ hst (ψ hu (ψ hl1 (ψ hz (ψ hp (ψ hpx h)))))))))));have hi1L:(p:Int)<(L1.length:Int):=ω;have hrpw:=hwr.1;have hgw:=hwr.2.2;clear hH hP hn1 hpm hst hu hl1 h hz e1 e2 hp hpx hpl hwr;generalize hy:L1.getD p 0=y at *
   go_upto_region 2 with (first
    | ((go_at_call 165;(with_reducible refine (kp _).mono ?_));rintro e w1 ⟨rfl,hu1⟩)
    | fail)
   have hO1:O.On w1 w1:=.start (O.upd hO hu1 σ);have cp1:∀W,O.On w1 W→W.cell? ⟨g,p,none⟩=some (.int .i64 (y:Int)):=fun W hW=>hW.upd.kept (hu1.was hcp) hgw
   have cg1:∀W,O.On w1 W→W.cell? ⟨rp,1,none⟩=some (.slice (some ⟨g,0,none⟩) L1.length cap):=fun W hW=>hW.upd.kept (hu1.was hcg) hrpw
   have hm:∀W,O.On w1 W→_:=fun W hW=>O.MN hW.at_
   have hnl:=O.MJ;have hen:=O.PM;unfold Enters at hen
   go_region_held3 (O.On w1) (first|assumption|exact hO1|(refine eX.On.drew ?_;first|assumption|exact hO1)|(refine eX.On.drewN ?_ _;first|assumption|exact hO1))
    (first
     | ((with_reducible refine (O.ask x y (eX.On.at_ (w0:=w1) (by first|assumption|exact hO1|(refine eX.On.drew ?_;first|assumption|exact hO1)|(refine eX.On.drewN ?_ _;first|assumption|exact hO1))) hdx hdp).mono ?_);rintro e w5 ⟨rfl,hO5,hu5⟩;(have hOn5:O.On w1 w5:=eX.On.asked (by first|assumption|exact hO1|(refine eX.On.drew ?_;first|assumption|exact hO1)|(refine eX.On.drewN ?_ _;first|assumption|exact hO1)) hO5 hu5)))
   have hu5':aa O.wr wr w5:=(hu1.mono σ).trans hOn5.upd;have ks5:=ks w5 hu5';have ks6:=ks2 w5 hu5';have HY:=χ (ψ hy (ψ hOn5.at_ hu5'));have cp5:=cp1 w5 hOn5;have cg5:=cg1 w5 hOn5;clear ks ks2 cp1 cg1 hm hO1 hOn5 hu5 hO5 hO hcp hcg;cases hxy:O.lt x y with
   | false=>
    clear ks6
    go_wp2_with (first
     | ((go_at_call 166;(with_reducible refine (ks5).mono ?_));rintro e w2 ⟨rfl,hR,hu2⟩)
     | fail)
    go_ret;obtain ⟨hH,hP,hn1,hpm,hO,hst,hu,hl1,hz,hp,hpx,h⟩:=HF.out;obtain ⟨hy,hat,hu5⟩:=HY.out;have hup:O.R (L1.getD (par d i1) 0) x:=by
     rw [←hp,hy];rcases O.total x y (fun e=>hpx e.symm) with e|e
     ·rw [e] at hxy;cases hxy
     ·exact e
    refine ⟨i1,_,_,rfl,hR,hP.fill hi1 hn1,hpm,O.upd hat hu2 (fun y hy=>by have:=HX.out.2.2.2.1;simp at hy;rcases hy with rfl|rfl;exact this.c;exact this.b),(hu.trans (hu5.mono (by simp +contextual))).trans (hu2.mono (by simp +contextual)),fun e=>?_,fun e=>?_⟩
    ·rcases hst with ⟨_,e2⟩|⟨h1,_⟩
     ·rw [e2] at hup ⊢;rw [e] at hup ⊢;exact ⟨rfl,Or.inr hup⟩
     ·omega
    ·have hb:Below O.R d L1 i1 x:=by
      rcases hst with ⟨e1,e2⟩|⟨_,h2⟩
      ·rcases e with e|e
       ·exact absurd e1 e
       ·rw [e1,e2];exact e
      ·exact h2
     exact hH.fill hd.1 hb (Or.inr hup)
   | true=>
    clear ks5
    go_wp2_with (first
     | ((go_at_call 166;(with_reducible refine (ks6).mono ?_));rintro e w2 ⟨rfl,hR,hu2⟩)
     | fail)
    go_roundw
    case rel=>
     obtain ⟨hH,hP,hn1,hpm,hO,hst,hu,hl1,hz,hp,hpx,h⟩:=HF.out;obtain ⟨hy,hat,hu5⟩:=HY.out;have hpl:p<i1:=by rw [hp];exact cZ hd.1 ω
     have hup:=hH.up O.tr hd.1 ω (x:=x) (by rw [←hp,hy];exact hxy)
     rw [←hp,hy] at hup;have hmv:=hP.move hi1 (p:=p) ω ω hn1;rw [hy] at hmv;have hpr:=uh (L:=L1) (i:=i1) (p:=p) (x:=x) hi1 ω ω;rw [hy] at hpr;refine ⟨p,_,_,rfl,hR,hup.1,hmv,by rw [List.length_set];exact hl1,hpr.trans hpm,O.upd hat hu2 (fun y hy=>by have:=HX.out.2.2.2.1;simp at hy;rcases hy with rfl|rfl;exact this.c;exact this.b),(hu.trans (hu5.mono (by simp +contextual))).trans (hu2.mono (by simp +contextual)),Or.inr ⟨?_,hup.2⟩⟩
     rcases hst with ⟨e,_⟩|⟨e,_⟩<;>omega
    case measure=>
     have hpl:p<i1:=by rw [HF.out.2.2.2.2.2.2.2.2.2.1];exact cZ hd.1 (by have:=HF.out.2.2.2.2.2.2.2.2.1;omega)
     simp [intOf];omega
structure HB where
 n0:Nat
 c:Nat
 ga:Nat
def Kk (B:HB) (v:Value) (j:Nat):Value:=[Value.pointer (some ⟨B.n0,0,none⟩),v].getD j undef
structure lC (w:World) (B:HB) (F:List Nat) (A:NS) (rp g cap:Nat) (L T:List Nat):Prop where
 hd:aI w rp 321 2 (Kk B (.slice (some ⟨g,0,none⟩) L.length cap))
 row:IZ w g cap (bz L)
 wE:IZ w B.ga T.length (bz T)
 KI:w.cell? ⟨B.n0,0,none⟩=some (.pointer (some ⟨B.c,0,none⟩))
 JP:w.cell? ⟨B.n0,2,none⟩=some (.slice (some ⟨B.ga,0,none⟩) T.length T.length)
 I7:∃st,az w B.c F A st
 s1:rp≠g∧rp≠B.ga∧rp≠B.n0
 s2:g≠B.ga∧g≠B.n0∧B.ga≠B.n0
 s3:rp∉F∧g∉F∧B.ga∉F∧B.n0∉F
 dom:∀x,x∈L→bD A (x:Int)=true∧x<T.length
 nd:L.Nodup
 yc:∀j x,L[j]?=some x→T.getD x 0=j
 tl:T.length≤65536
section
variable {w:World} {B:HB} {F:List Nat} {A:NS} {rp g cap:Nat} {L T:List Nat}
theorem lC.mem (h:lC w B F A rp g cap L T):B.c∈F:=by obtain ⟨st,hC⟩:=h.I7;exact hC.mem
theorem lC.cne (h:lC w B F A rp g cap L T):rp≠B.c∧g≠B.c∧B.ga≠B.c∧B.n0≠B.c:=by
 have hm:=h.mem;have h3:=h.s3;exact ⟨fun e=>h3.1 (by rw [e];exact hm),fun e=>h3.2.1 (by rw [e];exact hm),fun e=>h3.2.2.1 (by rw [e];exact hm),fun e=>h3.2.2.2 (by rw [e];exact hm)⟩
theorem lC.h0 (h:lC w B F A rp g cap L T):w.cell? ⟨rp,0,none⟩=some (.pointer (some ⟨B.n0,0,none⟩)):=h.hd.cellAt 0 ω rfl
theorem lC.h1 (h:lC w B F A rp g cap L T):w.cell? ⟨rp,1,none⟩=some (.slice (some ⟨g,0,none⟩) L.length cap):=h.hd.cellAt 1 ω rfl
theorem lC.CV (h:lC w B F A rp g cap L T) (j:Nat) (hj:j<L.length):w.cell? ⟨g,j,none⟩=some (.int .i64 ((L.getD j 0:Nat):Int)):=by
 have:=h.row.cell j (by rw [bQ];exact hj)
 rwa [pg] at this
theorem lC.BU (h:lC w B F A rp g cap L T) (j:Nat) (hj:j<T.length):w.cell? ⟨B.ga,j,none⟩=some (.int .i64 ((T.getD j 0:Nat):Int)):=by
 have:=h.wE.cell j (by rw [bQ];exact hj)
 rwa [pg] at this
theorem lC.len (h:lC w B F A rp g cap L T):L.length≤65536:=by
 have h1:=nodup_range T.length (L.map (fun (x:Nat)=>(x:Int))) (by
  have hn:=h.nd;unfold List.Nodup at hn ⊢;rw [List.pairwise_map];exact hn.imp (fun h e=>h ω)) (fun x hx=>by
  obtain ⟨y,hy,rfl⟩:=List.mem_map.1 hx
  have:=(h.dom y hy).2;omega)
 have:=h.tl;simp at h1;omega
theorem lC.PV (h:lC w B F A rp g cap L T):L.length≤cap∧cap≤9223372036854775807:=by
 have:=h.row.cap;rwa [bQ] at this
theorem lC.upd {w':World} {S:List Nat} (h:lC w B F A rp g cap L T) (hu:aa S w w') (hS:∀x,x∈S→x∉rp::g::B.ga::B.n0::F):lC w' B F A rp g cap L T:=by
 have h1:∀x,x∈rp::g::B.ga::B.n0::F→x∉S:=fun x hx hg=>hS x hg hx
 refine ⟨h.hd.upd hu (h1 _ σ),h.row.upd hu (h1 _ σ),h.wE.upd hu (h1 _ σ),hu.kept h.KI (h1 _ σ),hu.kept h.JP (h1 _ σ),?_,h.s1,h.s2,h.s3,h.dom,h.nd,h.yc,h.tl⟩;obtain ⟨st,hC⟩:=h.I7;exact ⟨st,hC.upd hu (fun x hx hm=>hS x hx (by simp [hm]))⟩
theorem lC.aj {w':World} (h:lC w B F A rp g cap L T) (hu:aa [] w w'):lC w' B F A rp g cap L T:=h.upd hu σ
theorem lC.counted {w':World} {st:Nat} (h:lC w B F A rp g cap L T) (hu:aa [B.c] w w') (hC:az w' B.c F A st):lC w' B F A rp g cap L T:=by
 have h1:=h.cne;exact ⟨h.hd.upd hu (by simp;exact h1.1),h.row.upd hu (by simp;exact h1.2.1),h.wE.upd hu (by simp;exact h1.2.2.1),hu.kept h.KI (by simp;exact h1.2.2.2),hu.kept h.JP (by simp;exact h1.2.2.2),⟨st,hC⟩,h.s1,h.s2,h.s3,h.dom,h.nd,h.yc,h.tl⟩
theorem uC (h:lC w B F A rp g cap L T) :
  Calls Tryz.prog 285 #[.pointer (some ⟨rp,0,none⟩)] w fun e w'=>e=.returned (.int .i64 (L.length:Int))∧w'=w:=by
 have c1:=h.h1;have hl:=h.len;clear h;generalize L.length=n at *
 go_enter Tryz.func285,Tryz.ntmps285
 go_wp2;go_ret;exact ⟨rfl,rfl⟩
theorem Ei (h:lC w B F A rp g cap L T) (i j:Nat) (hi:i<L.length) (hj:j<L.length) :
  Calls Tryz.prog 286 #[.pointer (some ⟨rp,0,none⟩),.int .i64 (i:Int),.int .i64 (j:Int)] w fun e w'=>e=.returned (.bool (decide (bH A (L.getD i 0) (L.getD j 0))))∧lC w' B F A rp g cap L T∧aa [B.c] w w':=by
 have hm:∀k,k<L.length→L.getD k 0∈L:=fun k hk=>by
  rw [φ,List.getElem?_eq_getElem hk];exact List.getElem_mem hk
 have d1:=(h.dom _ (hm i hi)).1;have d2:=(h.dom _ (hm j hj)).1;have hce:=h.cne;have c0:∀X,aa [B.c] w X→_:=fun X hX=>hX.kept h.h0 (by simp;exact hce.1)
 have c1:∀X,aa [B.c] w X→_:=fun X hX=>hX.kept h.h1 (by simp;exact hce.1)
 have n0:∀X,aa [B.c] w X→_:=fun X hX=>hX.kept h.KI (by simp;exact hce.2.2.2)
 have ci:∀X,aa [B.c] w X→_:=fun X hX=>hX.kept (h.CV i hi) (by simp;exact hce.2.1)
 have cj:∀X,aa [B.c] w X→_:=fun X hX=>hX.kept (h.CV j hj) (by simp;exact hce.2.1)
 have hl:=h.len;clear hce;have ka:∀W,aa [] w W→Calls Tryz.prog 174 #[.pointer (some ⟨B.c,0,none⟩),.int .i64 ((L.getD i 0:Nat):Int),.int .i64 ((L.getD j 0:Nat):Int)] W fun e w'=>e=.returned (.bool (decide (bH A (L.getD i 0) (L.getD j 0))))∧lC w' B F A rp g cap L T∧aa [B.c] W w':=fun W hW=>by
  obtain ⟨st,hC⟩:=h.I7;refine (dC (hC.aj hW) _ _ d1 d2).mono ?_;rintro e w' ⟨rfl,hC',hu⟩;exact ⟨rfl,(h.aj hW).counted hu hC',hu⟩
 clear h hm d1 d2;generalize L.getD i 0=x at *
 generalize L.getD j 0=y at *
 generalize hn:L.length=n at *
 clear hn;generalize decide (bH A x y)=b at *
 have hiI:(i:Int)<(n:Int):=ω;have hjI:(j:Int)<(n:Int):=ω
 go_enter Tryz.func286,Tryz.ntmps286
 go_upto_region 1 with (fail)
 go_region_held3 (aa [B.c] w) (repeat (first|assumption|exact aa.refl _ _|refine aa.drew ?_|refine aa.alloc ?_ _|refine aa.setCell ?_ ?_ _|focus (left;simp;done)|focus (right;simp;done)|focus (right;simp;omega)|(apply aa.trans;rotate_left;assumption)))
  (first
   | ((go_at_call 174;(with_reducible refine (ka _ β).mono ?_));rintro e w1 ⟨rfl,hP1,hu1⟩;(have hv1:aa [B.c] w w1:=aa.trans (by (repeat (first|assumption|exact aa.refl _ _|refine aa.drew ?_|refine aa.alloc ?_ _|refine aa.setCell ?_ ?_ _|focus (left;simp;done)|focus (right;simp;done)|focus (right;simp;omega)|(apply aa.trans;rotate_left;assumption)))) hu1)))
 go_wp2;go_ret;exact ⟨rfl,hP1,hv1⟩
end
def yu (T L:List Nat) (i j:Nat):List Nat:=(T.set (L.getD j 0) i).set (L.getD i 0) j
theorem qy (T L:List Nat) (i j:Nat):(yu T L i j).length=T.length:=by unfold yu;simp
theorem qD {L:List Nat} {k:Nat} (hk:k<L.length):L.getD k 0∈L:=by
 rw [φ,List.getElem?_eq_getElem hk];exact List.getElem_mem hk
theorem tq {L:List Nat} (hn:L.Nodup) {i j:Nat} (hi:i<L.length) (hj:j<L.length) (h:L.getD i 0=L.getD j 0):i=j:=by
 rw [φ,φ,List.getElem?_eq_getElem hi,List.getElem?_eq_getElem hj] at h;exact (List.getElem_inj hn).1 h
theorem Fy {T L:List Nat} {i j x:Nat} (hi:i<L.length) (hj:j<L.length) (hx:x∉L):(yu T L i j).getD x 0=T.getD x 0:=by
 unfold yu;rw [bT,bT,if_neg (fun e=>hx (by rw [e.1];exact qD hi)),if_neg (fun e=>hx (by rw [e.1];exact qD hj))]
theorem MO {T L:List Nat} {i j:Nat} (hi:i<L.length) (hj:j<L.length) (hne:i≠j) (hn:L.Nodup) (hd:∀x,x∈L→x<T.length) (hp:∀j x,L[j]?=some x→T.getD x 0=j) :
  ∀k x,(eO L i j)[k]?=some x→(yu T L i j).getD x 0=k:=by
 intro k x hk;have hkl:k<L.length:=by
  obtain ⟨h1,_⟩:=List.getElem?_eq_some_iff.1 hk;rwa [iP] at h1
 have hx:x=(eO L i j).getD k 0:=by rw [φ,hk];rfl
 rw [jv hi hj] at hx;unfold yu;rw [bT,bT];have hdi:=hd _ (qD hi);have hdj:=hd _ (qD hj)
 by_cases e1:k=j
 ·rw [if_pos e1] at hx;rw [if_pos ⟨hx,by simpa using hdi⟩,e1]
 ·rw [if_neg e1] at hx
  by_cases e2:k=i
  ·rw [if_pos e2] at hx;rw [if_neg (fun e=>hne (tq hn hi hj (by rw [←hx,←e.1]))),if_pos ⟨hx,hdj⟩,e2]
  ·rw [if_neg e2] at hx;rw [if_neg (fun e=>e2 (tq hn hkl hi (by rw [←hx,←e.1]))),if_neg (fun e=>e1 (tq hn hkl hj (by rw [←hx,←e.1])))]
   exact hp k x (by rw [hx,φ,List.getElem?_eq_getElem hkl];rfl)
section
variable {w:World} {B:HB} {F:List Nat} {A:NS} {rp g cap:Nat} {L T:List Nat}
theorem xA (h:lC w B F A rp g cap L T) (i j:Nat) (hi:i<L.length) (hj:j<L.length) (hne:i≠j) :
  Calls Tryz.prog 289 #[.pointer (some ⟨rp,0,none⟩),.int .i64 (i:Int),.int .i64 (j:Int)] w fun e w'=>e=.returned (.tuple #[])∧lC w' B F A rp g cap (eO L i j) (yu T L i j)∧aa [g,B.ga] w w':=by
 have h0:=h;have c0:=h.h0;have c1:=h.h1;have n2:=h.JP;have ci:=h.CV i hi;have cj:=h.CV j hj;have fi:=h.row.free i;have fj:=h.row.free j;have hl:=h.len;have htl:=h.tl;have hx:=(h.dom _ (qD hi)).2;have hy:=(h.dom _ (qD hj)).2;have ctx:=h.BU _ hx;have cty:=h.BU _ hy;have ftx:=h.wE.free (L.getD i 0);have fty:=h.wE.free (L.getD j 0);have s1:=h.s1;have s2:=h.s2;have hxy:L.getD i 0≠L.getD j 0:=fun e=>hne (tq h.nd hi hj e)
 have hs1:bz (eO L i j)=((bz L).set i ((L.getD j 0:Nat):Int)).set j ((L.getD i 0:Nat):Int):=by unfold eO;rw [kT,kT]
 have hs2:bz (yu T L i j)=((bz T).set (L.getD j 0) (i:Int)).set (L.getD i 0) (j:Int):=by unfold yu;rw [kT,kT]
 have hplc:=MO hi hj hne h.nd (fun x hx=>(h.dom x hx).2) h.yc
 have hperm:=rM hi hj hne;have HF:Hid (∀W W2,IZ W g cap (bz (eO L i j))→aa [g] w W→aa [B.ga] W W2→IZ W2 B.ga T.length (bz (yu T L i j))→lC W2 B F A rp g cap (eO L i j) (yu T L i j)∧aa [g,B.ga] w W2):=by
  intro W W2 hr hu hu2 ht;have hu':aa [g,B.ga] w W2:=(hu.mono σ).trans (hu2.mono σ);have h3:=h.s3;refine ⟨⟨?_,hr.upd hu2 (by simp;exact s2.1),by rw [qy];exact ht,hu'.kept h.KI (by simp;exact ⟨fun e=>s2.2.1 e.symm,fun e=>s2.2.2 e.symm⟩),by rw [qy];exact hu'.kept h.JP (by simp;exact ⟨fun e=>s2.2.1 e.symm,fun e=>s2.2.2 e.symm⟩),?_,s1,s2,h3,fun x hx=>by rw [qy];exact h.dom x (hperm.mem_iff.1 hx),hperm.nodup_iff.2 h.nd,hplc,by rw [qy];exact htl⟩,hu'⟩
  ·rw [iP];exact h.hd.upd hu' (by simp;exact ⟨s1.1,s1.2.1⟩)
  ·obtain ⟨st,hC⟩:=h.I7;exact ⟨st,hC.upd hu' (fun x hx hm=>by simp at hx;rcases hx with rfl|rfl;exact h3.2.1 hm;exact h3.2.2.1 hm)⟩
 have HR:Hid (IZ w g cap (bz L)∧IZ w B.ga T.length (bz T)):=⟨h.row,h.wE⟩;clear h h0 hplc hperm;generalize eO L i j=L' at *
 generalize yu T L i j=T' at *
 generalize L.getD i 0=x at *
 generalize L.getD j 0=y at *
 generalize T.getD x 0=tx at *
 generalize T.getD y 0=ty at *
 generalize L.length=n at *
 generalize T.length=m at *
 have hiI:(i:Int)<(n:Int):=ω;have hjI:(j:Int)<(n:Int):=ω;have hxI:(x:Int)<(m:Int):=ω;have hyI:(y:Int)<(m:Int):=ω;have HS1:=χ hs1;have HS2:=χ hs2;clear hs1 hs2;have hgl:rp≠g:=s1.1;have hne2:¬i=j:=hne
 go_enter Tryz.func289,Tryz.ntmps289
 go_upto_region 0 with (fail)
 go_cut [] (fun W=>aa [] ((w.setCell ⟨g,i,none⟩ (.int .i64 (y:Int))).setCell ⟨g,j,none⟩ (.int .i64 (x:Int))) W)
 case first=>
  go_wp2
  go_region
  all_goals
   go_wp2
   go_meet
   first|exact ⟨rfl,rfl,rfl,Nat.le_refl _,fun _ _ _=>rfl⟩|(repeat (first|assumption|exact aa.refl _ _|refine aa.drew ?_|refine aa.alloc ?_ _|refine aa.setCell ?_ ?_ _|focus (left;simp;done)|focus (right;simp;done)|focus (right;simp;omega)|(apply aa.trans;rotate_left;assumption)))
 case rest=>
 have hcu:=hcut;clear hcut;rename World=>W
 have hr:IZ W g cap (bz L'):=by rw [HS1.out];exact ((HR.out.1.set i _).set j _).upd hcu σ
 have hu:aa [g] w W:=aa.then β hcu;have d1:W.cell? ⟨g,i,none⟩=some (.int .i64 (y:Int)):=hcu.was γ;have d2:W.cell? ⟨g,j,none⟩=some (.int .i64 (x:Int)):=hcu.was γ;have e0:=hu.kept c0 (by simp;exact s1.1)
 have e1:=hu.kept c1 (by simp;exact s1.1)
 have e2:=hu.kept n2 (by simp;exact fun e=>s2.2.1 e.symm)
 have ex:=hu.kept ctx (by simp;exact fun e=>s2.1 e.symm)
 have ey:=hu.kept cty (by simp;exact fun e=>s2.1 e.symm)
 have gx:=hu.aO ctx (by simp;exact fun e=>s2.1 e.symm) ftx
 have gy:=hu.aO cty (by simp;exact fun e=>s2.1 e.symm) fty
 have e00:W.cell? ⟨B.n0,2,none⟩=some (.slice (some ⟨B.ga,0,none⟩) m m):=e2;have ht:=HR.out.2.upd hu (by simp;exact fun e=>s2.1 e.symm)
 have HT:=χ (ψ ht (ψ hr hu));clear c0 c1 n2 ctx cty ftx fty ci cj fi fj ht hr hu e2 hcu;go_wp2
 go_region
 all_goals
  go_wp2;go_end0;obtain ⟨ht,hr,hu⟩:=HT.out;exact ⟨rfl,HF.out _ _ hr hu β (by rw [HS2.out];exact ((ht.drewN _).set y _).set x _)⟩
end
theorem tC {M t:List Nat} {k:Nat} (hk:k<M.length):(M++t).getD k 0=M.getD k 0:=by
 rw [φ,φ,List.getElem?_append_left hk]
theorem Ii {M t:List Nat} {i j:Nat} (hi:i<M.length) (hj:j<M.length):eO (M++t) i j=eO M i j++t:=by
 unfold eO;rw [tC hi,tC hj,List.set_append_left _ _ hi,List.set_append_left _ _ (by simpa using hj)]
structure jM (w0:World) (B:HB) (F:List Nat) (A:NS) (rp g cap:Nat) (t M T:List Nat) (w:World) (M' T':List Nat):Prop where
 pi:lC w B F A rp g cap (M'++t) T'
 perm:M'.Perm M
 off:∀x,x∉M++t→T'.getD x 0=T.getD x 0
 tl:T'.length=T.length
 upd:aa [g,B.ga,B.c] w0 w
section
variable {w0 w:World} {B:HB} {F:List Nat} {A:NS} {rp g cap:Nat} {t M T M' T':List Nat}
theorem jM.start (h:lC w B F A rp g cap (M++t) T):jM w B F A rp g cap t M T w M T:=⟨h,List.Perm.refl _,fun _ _=>rfl,rfl,aa.refl _ _⟩
theorem jM.asked {w':World} (h:jM w0 B F A rp g cap t M T w M' T') (hp:lC w' B F A rp g cap (M'++t) T') (hu:aa [B.c] w w'):jM w0 B F A rp g cap t M T w' M' T':=
 ⟨hp,h.perm,h.off,h.tl,h.upd.trans (hu.mono σ)⟩
theorem jM.swap {w':World} {i j:Nat} (h:jM w0 B F A rp g cap t M T w M' T') (hi:i<M'.length) (hj:j<M'.length) (hne:i≠j) (hp:lC w' B F A rp g cap (eO (M'++t) i j) (yu T' (M'++t) i j)) (hu:aa [g,B.ga] w w') :
  jM w0 B F A rp g cap t M T w' (eO M' i j) (yu T' (M'++t) i j):=by
 refine ⟨by rw [←Ii hi hj];exact hp,(rM hi hj hne).trans h.perm,fun x hx=>?_,by rw [qy];exact h.tl,h.upd.trans (hu.mono σ)⟩
 rw [Fy (by rw [List.length_append];omega) (by rw [List.length_append];omega) (fun hm=>hx ?_)]
 ·exact h.off x hx
 ·exact (h.perm.append_right t).mem_iff.1 hm
theorem wG {a b:Nat} (hne:a≠b) (h:¬lU A a b):lU A b a:=by
 rcases gH (A:=A) hne with h1|h1
 ·exact absurd (dA.2 h1) h
 ·exact dA.2 h1
theorem jM.ne (h:jM w0 B F A rp g cap t M T w M' T') {i j:Nat} (hi:i<M'.length) (hj:j<M'.length) (hne:i≠j):M'.getD i 0≠M'.getD j 0:=fun e=>hne (tq (List.nodup_append.1 h.pi.nd).1 hi hj e)
theorem Gb (rp:Nat):∀W:World,(method 429 317 (.pointer (some ⟨rp,0,none⟩)) "Less").run Tryz.prog W=.ok (286,.pointer (some ⟨rp,0,none⟩)) W:=fun _=>by kernel_rfl
theorem Al (rp:Nat):∀W:World,(method 429 317 (.pointer (some ⟨rp,0,none⟩)) "Swap").run Tryz.prog W=.ok (289,.pointer (some ⟨rp,0,none⟩)) W:=fun _=>by kernel_rfl
theorem Ej (rp:Nat):∀W:World,(method 429 317 (.pointer (some ⟨rp,0,none⟩)) "Len").run Tryz.prog W=.ok (285,.pointer (some ⟨rp,0,none⟩)) W:=fun _=>by kernel_rfl
theorem Na (rp:Nat):∀W:World,(method 429 317 (.pointer (some ⟨rp,0,none⟩)) "Push").run Tryz.prog W=.ok (288,.pointer (some ⟨rp,0,none⟩)) W:=fun _=>by kernel_rfl
theorem OA (rp:Nat):∀W:World,(method 429 317 (.pointer (some ⟨rp,0,none⟩)) "Pop").run Tryz.prog W=.ok (287,.pointer (some ⟨rp,0,none⟩)) W:=fun _=>by kernel_rfl
theorem jM.less (h:jM w0 B F A rp g cap t M T w M' T') {i j:Nat} (hi:i<M'.length) (hj:j<M'.length) {b:Bool} (hb:decide (bH A (M'.getD i 0) (M'.getD j 0))=b) :
  Calls Tryz.prog 286 #[.pointer (some ⟨rp,0,none⟩),.int .i64 (i:Int),.int .i64 (j:Int)] w fun e w'=>e=.returned (.bool b)∧jM w0 B F A rp g cap t M T w' M' T':=by
 have k:=Ei h.pi i j (by rw [List.length_append];omega) (by rw [List.length_append];omega)
 rw [tC hi,tC hj,hb] at k;exact k.mono (fun e w' hh=>⟨hh.1,h.asked hh.2.1 hh.2.2⟩)
theorem jM.swaps (h:jM w0 B F A rp g cap t M T w M' T') {i j:Nat} (hi:i<M'.length) (hj:j<M'.length) (hne:i≠j) :
  Calls Tryz.prog 289 #[.pointer (some ⟨rp,0,none⟩),.int .i64 (i:Int),.int .i64 (j:Int)] w fun e w'=>e=.returned (.tuple #[])∧jM w0 B F A rp g cap t M T w' (eO M' i j) (yu T' (M'++t) i j):=
 (xA h.pi i j (by rw [List.length_append];omega) (by rw [List.length_append];omega) hne).mono (fun e w' hh=>⟨hh.1,h.swap hi hj hne hh.2.1 hh.2.2⟩)
theorem xQ (h0:jM w0 B F A rp g cap t M T w M' T') (j0:Nat) (hH:dD (lU A) 2 M' j0) (hB:Below (lU A) 2 M' j0 (M'.getD j0 0)) :
  Calls Tryz.prog 281 #[.iface 317 (.pointer (some ⟨rp,0,none⟩)),.int .i64 (j0:Int)] w fun e w'=>e=.returned (.tuple #[])∧∃M2 T2,jM w0 B F A rp g cap t M T w' M2 T2∧Hp (lU A) 2 M2:=by
 have m1:=Gb rp;have m2:=Al rp;have HI:=χ (ψ h0 (ψ hH hB));clear h0 hH hB
 go_enter Tryz.func281,Tryz.ntmps281
 go_wp2
 go_loopw [1,4] (fun v1 v4 wr=>∃ (j:Nat) (M2 T2:List Nat),v1=.int .i64 (j:Int)∧jM w0 B F A rp g cap t M T wr M2 T2∧dD (lU A) 2 M2 j∧Below (lU A) 2 M2 j (M2.getD j 0)) (fun v1 _ _=>(intOf v1).toNat)
 case atStart=>exact ⟨j0,M',T',rfl,HI.out.1,HI.out.2.1,HI.out.2.2⟩
 case round=>
  obtain ⟨j,M2,T2,rfl,hP,hH,hB⟩:=hrel;rename World=>wr
  have hjl:=hH.lt;have hlen:(M2++t).length≤65536:=hP.pi.len;rw [List.length_append] at hlen
  by_cases hj0:j=0
  ·subst hj0;have hF:=hH.done ω hB (Or.inl rfl);have HQ:=χ (ψ hP hF);clear hP hH hB hF hjl hlen;go_wp2;go_end0;exact ⟨rfl,M2,T2,HQ.out.1,HQ.out.2⟩
  ·have hp:=cZ (d:=2) ω (show 0<j by omega)
   have hq:((j:Int)-1).tdiv 2=(par 2 j:Int):=by
    unfold par;rw [show (j:Int)-1=((j-1:Nat):Int) by omega]
    rfl
   have hne:=hP.ne hjl (show par 2 j<M2.length by omega) ω
   cases hb:decide (bH A (M2.getD j 0) (M2.getD (par 2 j) 0)) with
   | false=>
    have kl:=hP.less hjl (show par 2 j<M2.length by omega) hb
    have hF:=hH.done ω hB (Or.inr (wG hne (fun h=>by rw [dA] at h;rw [decide_eq_false_iff_not] at hb;exact hb h)))
    have HQ:=χ hF;clear hP hH hB hF hb hne;generalize par 2 j=p at *
    have hpI:(p:Int)<(j:Int):=ω;have hpj:((p:Int) == (j:Int))=false:=ζ;have hj1:0<j:=ω;clear hj0
    go_wp2_with (first
     | ((go_at_call 286;(with_reducible refine (kl).mono ?_));rintro e w1 ⟨rfl,hP1⟩)
     | fail)
    go_end0;exact ⟨rfl,M2,T2,hP1,HQ.out⟩
   | true=>
    have kl:=hP.less hjl (show par 2 j<M2.length by omega) hb
    have hS:=hH.Ob (fQ A) ω (dA.2 (of_decide_eq_true hb));have ks:∀w1,jM w0 B F A rp g cap t M T w1 M2 T2→_:=fun w1 h1=>jM.swaps h1 (show par 2 j<M2.length by omega) hjl ω
    have HQ:=χ hS;clear hP hH hB hS hb hne;generalize par 2 j=p at *
    have hpI:(p:Int)<(j:Int):=ω;have hpj:((p:Int) == (j:Int))=false:=ζ;have hj1:0<j:=ω;clear hj0
    go_wp2_with (first
     | ((go_at_call 286;(with_reducible refine (kl).mono ?_));rintro e w1 ⟨rfl,hP1⟩)
     | ((go_at_call 289;(with_reducible refine (ks _ hP1).mono ?_));rintro e w2 ⟨rfl,hP2⟩)
     | fail)
    go_roundw
    case rel=>exact ⟨p,_,_,by go_num,hP2,HQ.out.1,HQ.out.2⟩
    case measure=>simp [intOf];omega
end
end Go.Proofs.YtklibcncmbofpaaGreat
