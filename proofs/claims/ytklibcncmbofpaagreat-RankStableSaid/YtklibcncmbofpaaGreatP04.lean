/-
  Lemmas for RankSorts: Cells, Cells2. Conditions: those of each lemma.
-/
import Derived.Test.YtklibcncmbofpaaGreatP03
set_option maxHeartbeats 8000000
set_option maxRecDepth 10000
set_option linter.unusedVariables false
set_option linter.unusedSimpArgs false
namespace Go.Proofs.YtklibcncmbofpaaGreat
open Go Go.RowKit
def iK (raw:Nat→Cl) (j:Nat):Value:=if j % 3=0 then .int .i64 (raw (j / 3)).i else if j % 3=1 then .int .i64 (raw (j / 3)).k else .int .u64 (raw (j / 3)).s
theorem Fz (raw:Nat→Cl) (x:Nat):iK raw (x*3)=.int .i64 (raw x).i:=by unfold iK;rw [if_pos ω,show x*3 / 3=x by omega]
theorem vM (raw:Nat→Cl) (x:Nat):iK raw (x*3+1)=.int .i64 (raw x).k:=by unfold iK;rw [if_neg ω,if_pos ω,show (x*3+1) / 3=x by omega]
theorem vG (raw:Nat→Cl) (x:Nat):iK raw (x*3+2)=.int .u64 (raw x).s:=by unfold iK;rw [if_neg ω,if_neg ω,show (x*3+2) / 3=x by omega]
def gY (A:NS) (h:Int):Option Int:=if 0<cu A h then some (cu A h:Int) else none
theorem pW (A:NS) (h:Int):(gY A h).getD 0=cu A h:=by unfold gY;split;rfl;simp;omega
structure CM (w:World) (c ca nm mb g cap:Nat) (l:List Int) (rt dp:Nat→Nat) (raw:Nat→Cl) (A:NS) (st:Nat):Prop where
 head:aI w c 245 4 (fun j=>[Value.int .i64 (st:Int),.slice (some ⟨ca,0,none⟩) A.cs.length A.cs.length,.pointer (some ⟨nm,0,none⟩),.map (some mb)].getD j undef)
 row:aI w ca 281 (A.cs.length*3) (iK raw)
 NC:iM w nm g cap l
 many:dZ w mb (gY A)
 Lx:oH l rt dp
 ok:A.Ok
 mE:st≤4611686018427387904
 rel:∀x,x<A.cs.length→(raw x=Cl.z∧A.c x=Cl.z)∨(1≤(raw x).i∧(raw x).i<l.length∧A.c x=⟨rt (raw x).i.toNat,(raw x).k,(raw x).s⟩)
 hlen:A.hs.length=l.length
 has:∀i,1≤i→i<l.length→A.hs.getD i false=decide (l.getD i 0=i)
 sep:(c≠ca∧c≠nm∧c≠mb∧c≠g)∧(ca≠nm∧ca≠mb∧ca≠g)∧(nm≠mb∧mb≠g)
theorem CM.upd {w w':World} {S:List Nat} {c ca nm mb g cap:Nat} {l:List Int} {rt dp:Nat→Nat} {raw:Nat→Cl} {A:NS} {st:Nat} (h:CM w c ca nm mb g cap l rt dp raw A st) (hu:aa S w w') (hS:∀x,x∈S→x∉[c,ca,nm,mb,g]):CM w' c ca nm mb g cap l rt dp raw A st:=
 ⟨h.head.upd hu (fun m=>hS _ m σ),h.row.upd hu (fun m=>hS _ m σ),h.NC.upd hu (fun m=>hS _ m σ) (fun m=>hS _ m σ),h.many.upd hu (fun m=>hS _ m σ),h.Lx,h.ok,h.mE,h.rel,h.hlen,h.has,h.sep⟩
def az (w:World) (c:Nat) (F:List Nat) (A:NS) (st:Nat):Prop:=∃ca nm mb g cap l rt dp raw,CM w c ca nm mb g cap l rt dp raw A st∧F=[c,ca,nm,mb,g]
theorem az.upd {w w':World} {S F:List Nat} {c:Nat} {A:NS} {st:Nat} (h:az w c F A st) (hu:aa S w w') (hS:∀x,x∈S→x∉F):az w' c F A st:=by
 obtain ⟨ca,nm,mb,g,cap,l,rt,dp,raw,h,rfl⟩:=h;exact ⟨ca,nm,mb,g,cap,l,rt,dp,raw,h.upd hu hS,rfl⟩
theorem az.aj {w w':World} {F:List Nat} {c:Nat} {A:NS} {st:Nat} (h:az w c F A st) (hu:aa [] w w'):az w' c F A st:=h.upd hu σ
theorem az.ok {w:World} {F:List Nat} {c:Nat} {A:NS} {st:Nat} (h:az w c F A st):A.Ok:=by
 obtain ⟨ca,nm,mb,g,cap,l,rt,dp,raw,h,rfl⟩:=h;exact h.ok
theorem az.mE {w:World} {F:List Nat} {c:Nat} {A:NS} {st:Nat} (h:az w c F A st):st≤4611686018427387904:=by
 obtain ⟨ca,nm,mb,g,cap,l,rt,dp,raw,h,rfl⟩:=h;exact h.mE
theorem az.lt {w:World} {F:List Nat} {c:Nat} {A:NS} {st:Nat} (h:az w c F A st):∀x,x∈F→x<w.heap.size:=by
 obtain ⟨ca,nm,mb,g,cap,l,rt,dp,raw,h,rfl⟩:=h;intro x hx;have:=h.head.lt;have:=h.row.lt;have:=h.NC.lt;have:=h.many.lt;simp at hx;omega
theorem az.mem {w:World} {F:List Nat} {c:Nat} {A:NS} {st:Nat} (h:az w c F A st):c∈F:=by
 obtain ⟨ca,nm,mb,g,cap,l,rt,dp,raw,h,rfl⟩:=h;simp
def Goes (F:List Nat) (w w':World) (P:List Nat→Prop):Prop:=∃F',P F'∧aa F w w'∧∀x,x∈F'→x∈F∨w.heap.size≤x
theorem Goes.stay {F:List Nat} {w w':World} {P:List Nat→Prop} (h:P F) (hu:aa F w w'):Goes F w w' P:=⟨F,h,hu,fun x hx=>Or.inl hx⟩
section
variable {w:World} {c ca nm mb g cap:Nat} {l:List Int} {rt dp:Nat→Nat} {raw:Nat→Cl} {A:NS} {st:Nat}
theorem CM.c0 (h:CM w c ca nm mb g cap l rt dp raw A st):w.cell? ⟨c,0,none⟩=some (.int .i64 (st:Int)):=h.head.cellAt 0 ω rfl
theorem CM.c1 (h:CM w c ca nm mb g cap l rt dp raw A st):w.cell? ⟨c,1,none⟩=some (.slice (some ⟨ca,0,none⟩) A.cs.length A.cs.length):=h.head.cellAt 1 ω rfl
theorem CM.c2 (h:CM w c ca nm mb g cap l rt dp raw A st):w.cell? ⟨c,2,none⟩=some (.pointer (some ⟨nm,0,none⟩)):=h.head.cellAt 2 ω rfl
theorem CM.c3 (h:CM w c ca nm mb g cap l rt dp raw A st):w.cell? ⟨c,3,none⟩=some (.map (some mb)):=h.head.cellAt 3 ω rfl
theorem CM.NZ (h:CM w c ca nm mb g cap l rt dp raw A st) {x:Nat} (hx:x<A.cs.length):decide (0<(A.c x).i)=decide (0<(raw x).i):=by
 rcases h.rel x hx with ⟨h1,h2⟩|⟨h1,h2,h3⟩
 ·rw [h1,h2]
 ·have:=h.Lx.NG (i:=(raw x).i.toNat) ω ω;rw [h3,decide_eq_decide];simp only;omega
theorem CM.BS (h:CM w c ca nm mb g cap l rt dp raw A st) (x:Int):BS l x=aY A x:=by
 unfold Go.Proofs.YtklibcncmbofpaaGreat.BS aY;rw [h.hlen]
 by_cases hx:0<x∧x<l.length
 ·rw [h.has x.toNat ω ω,Bool.eq_iff_iff];simp only [Bool.and_eq_true,decide_eq_true_eq,beq_iff_eq];constructor
  ·rintro ⟨_,h2⟩;exact ⟨⟨ω,ω⟩,ω⟩
  ·rintro ⟨_,h2⟩;exact ⟨⟨ω,ω⟩,ω⟩
 ·have e1:(decide (0<x) && decide (x<(l.length:Int)))=false:=ζ;have e2:(decide (1≤x) && decide (x<(l.length:Int)))=false:=ζ;rw [e1,e2];rfl
end
theorem iq {w:World} {c st:Nat} {F:List Nat} {A:NS} (h:az w c F A st) (x:Int) :
  Calls Tryz.prog 139 #[.pointer (some ⟨c,0,none⟩),.int .i64 x] w fun e w'=>e=.returned (.bool (aY A x))∧w'=w:=by
 obtain ⟨ca,nm,mb,g,cap,l,rt,dp,raw,h,rfl⟩:=h;have c2:=h.c2;have k:=Ll nm g cap l x w h.NC h.Lx.Jq;rw [h.BS] at k;clear h
 go_enter Tryz.func139,Tryz.ntmps139
 go_wp2_with ((go_at_call 152;(with_reducible refine (k).mono ?_);rintro e w9 ⟨rfl,hw9⟩;rw [hw9];clear hw9 w9))
 go_ret;exact ⟨rfl,rfl⟩
theorem mQ {w:World} {c st:Nat} {F:List Nat} {A:NS} (h:az w c F A st) (x:Int) (hx:-9223372036854775808≤x∧x≤9223372036854775807) :
  Calls Tryz.prog 142 #[.pointer (some ⟨c,0,none⟩),.int .i64 x] w fun e w'=>e=.returned (.int .i64 (cu A x:Int))∧w'=w:=by
 obtain ⟨ca,nm,mb,g,cap,l,rt,dp,raw,h,rfl⟩:=h;have c3:=h.c3;have hl:=h.many.look x hx;rw [pW] at hl;clear h
 go_enter Tryz.func142,Tryz.ntmps142
 go_wp2;go_ret;exact ⟨rfl,rfl⟩
theorem x8 {w:World} {c st:Nat} {F:List Nat} {A:NS} (h:az w c F A st) (x:Int) :
  Calls Tryz.prog 160 #[.pointer (some ⟨c,0,none⟩),.int .i64 x] w fun e w'=>e=.returned (.bool (tK A x))∧w'=w:=by
 obtain ⟨ca,nm,mb,g,cap,l,rt,dp,raw,h,rfl⟩:=h;have c1:=h.c1;have h1:=h.ok.c1;clear h;unfold tK
 by_cases h0:0≤x
 ·go_enter Tryz.func160,Tryz.ntmps160
  go_wp2;go_ret;exact ⟨aV (by simp [h0]),rfl⟩
 ·go_enter Tryz.func160,Tryz.ntmps160
  go_wp2;go_ret;exact ⟨aV ζ,rfl⟩
theorem nQ {w:World} {c st:Nat} {F:List Nat} {A:NS} (h:az w c F A st) (x:Int) :
  Calls Tryz.prog 149 #[.pointer (some ⟨c,0,none⟩),.int .i64 x] w fun e w'=>e=.returned (.bool (bD A x))∧w'=w:=by
 have k:=x8 h x;obtain ⟨ca,nm,mb,g,cap,l,rt,dp,raw,h,rfl⟩:=h;have c1:=h.c1;have h1:=h.ok.c1;unfold bD;cases hs:tK A x
 ·rw [hs] at k;clear h
  go_enter Tryz.func149,Tryz.ntmps149
  go_wp2_with ((go_at_call 160;(with_reducible refine (k).mono ?_);rintro e w9 ⟨rfl,hw9⟩;rw [hw9];clear hw9 w9))
  go_ret;exact ⟨rfl,rfl⟩
 ·rw [hs] at k;have hx:=(dK _ _).1 hs;obtain ⟨i,rfl⟩:∃i:Nat,x=i:=⟨x.toNat,ω⟩
  have hi:i<A.cs.length:=ω;have d0:=h.row.cellAt (i*3) ω (Fz raw i);simp only [π];rw [h.NZ hi];clear h hs
  go_enter Tryz.func149,Tryz.ntmps149
  go_wp2_with ((go_at_call 160;(with_reducible refine (k).mono ?_);rintro e w9 ⟨rfl,hw9⟩;rw [hw9];clear hw9 w9))
  go_ret;exact ⟨aV σ,rfl⟩
theorem O9 {w:World} {ca m i:Nat} {e:TypeId} {raw:Nat→Cl} (h:aI w ca e m (iK raw)) (cl:Cl) :
  aI (((w.setCell ⟨ca,i*3,none⟩ (.int .i64 cl.i)).setCell ⟨ca,i*3+1,none⟩ (.int .i64 cl.k)).setCell ⟨ca,i*3+2,none⟩ (.int .u64 cl.s)) ca e m (iK (fun y=>if y=i then cl else raw y)):=by
 refine (((h.set _ _).set _ _).set _ _).ext (fun j hj=>?_)
 simp only [iK]
 by_cases e0:j=i*3+2
 ·rw [if_pos e0,if_neg ω,if_neg ω,if_pos ω]
 ·rw [if_neg e0]
  by_cases e1:j=i*3+1
  ·rw [if_pos e1,if_neg ω,if_pos ω,if_pos ω]
  ·rw [if_neg e1]
   by_cases e2:j=i*3
   ·rw [if_pos e2,if_pos ω,if_pos ω]
   ·rw [if_neg e2,if_neg (show ¬j / 3=i by omega)]
theorem PQ {w:World} {ca m i:Nat} {e:TypeId} {raw:Nat→Cl} (h:aI w ca e m (iK raw)) (k s:Int) :
  aI ((w.setCell ⟨ca,i*3+1,none⟩ (.int .i64 k)).setCell ⟨ca,i*3+2,none⟩ (.int .u64 s)) ca e m (iK (fun y=>if y=i then ⟨(raw i).i,k,s⟩ else raw y)):=by
 refine ((h.set _ _).set _ _).ext (fun j hj=>?_)
 simp only [iK]
 by_cases e0:j=i*3+2
 ·rw [if_pos e0,if_neg ω,if_neg ω,if_pos ω]
 ·rw [if_neg e0]
  by_cases e1:j=i*3+1
  ·rw [if_pos e1,if_neg ω,if_pos ω,if_pos ω]
  ·rw [if_neg e1]
   by_cases e2:j=i*3
   ·rw [if_pos ω,if_pos ω,if_pos ω,show j / 3=i by omega]
   ·rw [if_neg (show ¬j / 3=i by omega)]
section
variable {w:World} {c ca nm mb g cap:Nat} {l:List Int} {rt dp:Nat→Nat} {raw:Nat→Cl} {A:NS} {st:Nat}
theorem CM.turn (h:CM w c ca nm mb g cap l rt dp raw A st) {w2:World} {raw':Nat→Cl} {A':NS} (hu:aa [ca,mb] w w2) (hrow:aI w2 ca 281 (A.cs.length*3) (iK raw')) (hm:dZ w2 mb (gY A')) (hok:A'.Ok)
  (hlen:A'.cs.length=A.cs.length) (hhs:A'.hs=A.hs) (hrel:∀x,x<A.cs.length→(raw' x=Cl.z∧A'.c x=Cl.z)∨(1≤(raw' x).i∧(raw' x).i<l.length∧A'.c x=⟨rt (raw' x).i.toNat,(raw' x).k,(raw' x).s⟩)) :
  CM w2 c ca nm mb g cap l rt dp raw' A' st:=by
 have s:=h.sep;refine ⟨?_,by rw [hlen];exact hrow,h.NC.upd hu ι ι,hm,h.Lx,hok,h.mE,by rw [hlen];exact hrel,by rw [hhs];exact h.hlen,by rw [hhs];exact h.has,s⟩
 rw [hlen];exact h.head.upd hu ι
theorem CM.Oy (h:CM w c ca nm mb g cap l rt dp raw A st) {i:Nat} (hi:aY A i=true):1≤i∧i<l.length∧rt i=i∧l.getD i 0=i:=by
 rw [←h.BS] at hi;unfold Go.Proofs.YtklibcncmbofpaaGreat.BS at hi;simp only [Bool.and_eq_true,decide_eq_true_eq,beq_iff_eq,π] at hi;exact ⟨ω,ω,h.Lx.top i ω ω hi.2,hi.2⟩
end
def Oh (l:List Int) (rt:Nat→Nat) (cr ca:Cl):Prop:=(cr=Cl.z∧ca=Cl.z)∨(1≤cr.i∧cr.i<l.length∧ca=⟨rt cr.i.toNat,cr.k,cr.s⟩)
theorem vX {l:List Int} {rt:Nat→Nat} {raw:Nat→Cl} {A:NS} {x:Nat} {cr ca:Cl} (h:∀y,y<A.cs.length→Oh l rt (raw y) (A.c y)) (hx:x<A.cs.length) (hc:Oh l rt cr ca) :
  ∀y,y<A.cs.length→Oh l rt (if y=x then cr else raw y) ((gD A x ca).c y):=by
 intro y hy;rw [iD]
 by_cases e:y=x
 ·simp only [e,hx,and_self,if_true];exact hc
 ·simp only [e,false_and,if_false];exact h y hy
theorem DJ {A:NS} {x:Nat} {c:Cl} (h:Int) (hx:x<A.cs.length) (hz:(A.c x).i=0) (hc:0<c.i) (q:Int):(if q=c.i then some ((cu A c.i:Int)+1) else gY A q)=gY (gD A x c) q:=by
 have:=kG A x c q hx;rw [hz] at this;unfold gY
 by_cases e:q=c.i
 ·subst e;rw [if_pos rfl];rw [if_neg ω,if_pos ⟨rfl,hc⟩] at this;simp only [Nat.add_zero] at this;rw [if_pos ω,this];simp
 ·rw [if_neg e];rw [if_neg ω,if_neg ω] at this;simp only [Nat.add_zero] at this;rw [this]
theorem kV {w:World} {c st:Nat} {F:List Nat} {A:NS} (h:az w c F A st) (hh x:Nat) (k s:Int) (hk:-9223372036854775808≤k∧k≤9223372036854775807∧0≤s∧s≤18446744073709551615) (hB:jy A hh x=true) :
  Calls Tryz.prog 154 #[.pointer (some ⟨c,0,none⟩),.int .i64 (hh:Int),.int .i64 (x:Int),.agg #[.int .i64 k,.int .u64 s]] w fun e w'=>e=.returned (.bool true)∧az w' c F (aB A hh x k s) st∧aa F w w':=by
 have k1:=fun W hW=>iq (h.aj (w':=W) hW) hh
 have k2:=fun W hW=>x8 (h.aj (w':=W) hW) x
 have k3:=fun W hW=>nQ (h.aj (w':=W) hW) x
 have hu:aa [] w (w.alloc (.cells #[.int .i64 k,.int .u64 s] 129)):=(aa.refl _ _).alloc _;have hp:=(cB _ _ _).1 hB;rw [hp.1] at k1;rw [hp.2.1] at k2;rw [hp.2.2] at k3;have hx:=(dK _ _).1 hp.2.1;have hh1:=(aK _ _).1 hp.1;have hAz:(A.c x).i≤0:=by have:=hp.2.2;unfold bD at this;rw [hp.2.1] at this;simpa using this
 have hin:(A.c x).i=0:=by have:=h.ok.nat x ω;omega
 have hlen:=zV h.ok (hh:Int);have hA1:=h.ok.h1;have hA2:=h.ok.c1;obtain ⟨ca,nm,mb,g,cap,l,rt,dp,raw,h,rfl⟩:=h;have c1:=h.c1;have c3:=h.c3;have d0:=h.row.cell (x*3) ω;have d1:=h.row.cell (x*3+1) ω;have d2:=h.row.cell (x*3+2) ω;have f0:=h.row.free (x*3);have f1:=h.row.free (x*3+1);have f2:=h.row.free (x*3+2);have hlt:=az.lt ⟨ca,nm,mb,g,cap,l,rt,dp,raw,h,rfl⟩;have l1:=hlt c σ;have l2:=hlt ca σ;have l3:=hlt mb σ;have hs:=h.sep;have H:=χ h;have HP:=χ hp;clear h hp hB hlt;obtain ⟨len,hle⟩:∃n,n=A.cs.length:=⟨_,rfl⟩
 rw [←hle] at c1 hx;have HL:=χ hle;clear hle;have hx2:x<len:=ω
 go_enter Tryz.func154,Tryz.ntmps154
 go_wp2_with (first|(go_at_call 139;(with_reducible refine ((k1 _ hu)).mono ?_);rintro e w9 ⟨rfl,hw9⟩;rw [hw9];clear hw9 w9)|(go_at_call 160;(with_reducible refine ((k2 _ hu)).mono ?_);rintro e w9 ⟨rfl,hw9⟩;rw [hw9];clear hw9 w9)|(go_at_call 149;(with_reducible refine ((k3 _ hu)).mono ?_);rintro e w9 ⟨rfl,hw9⟩;rw [hw9];clear hw9 w9))
 go_region
 go_wp2_with (first
  | (at_lookup;refine jc rfl _ _ rfl mb (gY A) rfl (H.out.many.upd (S:=[ca]) β ι) (hh:Int) rfl ω (cu A (hh:Int):Int) (pW _ _) ?_)
  | (at_mapUpdate;refine jI rfl _ _ _ rfl mb (gY A) rfl (H.out.many.upd (S:=[ca]) β ι) (hh:Int) ((cu A (hh:Int):Int)+1) rfl rfl ω ω ?_;intro w2 hm2 hu2))
 go_ret;have hu3:aa [ca] w ((((w.setCell ⟨ca,x*3,none⟩ (.int .i64 (hh:Int))).setCell ⟨ca,x*3+1,none⟩ (.int .i64 k)).setCell ⟨ca,x*3+2,none⟩ (.int .u64 s)).alloc (.cells #[.int .i64 k,.int .u64 s] 129)).drew:=β;have hr3:=((O9 (i:=x) H.out.row ⟨(hh:Int),k,s⟩).upd ((aa.refl [] _).alloc (.cells #[.int .i64 k,.int .u64 s] 129) |>.drew) σ).upd hu2 ι;have hu4:aa [ca,mb] w w2:=(hu3.mono ι).joined hu2 (fun y hy=>Or.inl (by simp at hy;simp [hy]))
 have hrt:=H.out.Oy HP.out.1;have hxl:x<A.cs.length:=by rw [←HL.out];exact hx2
 have e:aB A (hh:Int) (x:Int) k s=gD A x ⟨(hh:Int),k,s⟩:=by unfold aB;rw [if_pos ((cB _ _ _).2 HP.out)];simp
 refine ⟨rfl,⟨ca,nm,mb,g,cap,l,rt,dp,fun y=>if y=x then ⟨(hh:Int),k,s⟩ else raw y,?_,rfl⟩,hu4.mono ι⟩
 rw [e];refine H.out.turn hu4 hr3 (hm2.ext (fun q=>DJ (c:=⟨(hh:Int),k,s⟩) (hh:Int) hxl hin (by show 0<(hh:Int);omega) q)) (by rw [←e];exact sG H.out.ok _ _ _ _ hk) (dI _ _ _) rfl (vX H.out.rel hxl (Or.inr ⟨by show 1≤(hh:Int);omega,by show (hh:Int)<l.length;omega,by rw [π,hrt.2.2.1]⟩))
theorem jB {w:World} {c st:Nat} {F:List Nat} {A:NS} (h:az w c F A st) (x:Int) (hx:bD A x=false) :
  Calls Tryz.prog 137 #[.pointer (some ⟨c,0,none⟩),.int .i64 x] w fun e w'=>e=.returned (.tuple #[.agg #[.int .i64 0,.int .u64 0],.bool false])∧aa [] w w':=by
 have hu:aa [] w (w.alloc (.cells #[.int .i64 0,.int .u64 0] 129)):=(aa.refl _ _).alloc _;have k:=nQ (h.aj hu) x;rw [hx] at k;clear h hx
 go_enter Tryz.func137,Tryz.ntmps137
 go_wp2_with ((go_at_call 149;(with_reducible refine (k).mono ?_);rintro e w9 ⟨rfl,hw9⟩;rw [hw9];clear hw9 w9))
 exact bodyPost_ret (v:=.tuple #[.agg #[.int .i64 0,.int .u64 0],.bool false]) (by simp [results,Tryz.results137,go_sem]) rfl ⟨rfl,ξ⟩
theorem iI {w:World} {c st:Nat} {F:List Nat} {A:NS} (h:az w c F A st) (x:Nat) (hx:bD A x=true) :
  Calls Tryz.prog 137 #[.pointer (some ⟨c,0,none⟩),.int .i64 (x:Int)] w fun e w'=>e=.returned (.tuple #[.agg #[.int .i64 (A.c x).k,.int .u64 (A.c x).s],.bool true])∧aa [] w w':=by
 have hu:aa [] w (w.alloc (.cells #[.int .i64 0,.int .u64 0] 129)):=(aa.refl _ _).alloc _;have k:=nQ (h.aj hu) x;rw [hx] at k;obtain ⟨hx1,hx2⟩:=(af _ _).1 hx;obtain ⟨ca,nm,mb,g,cap,l,rt,dp,raw,h,rfl⟩:=h;have e:A.c x=⟨rt (raw x).i.toNat,(raw x).k,(raw x).s⟩:=by
  rcases h.rel x hx1 with ⟨h1,h2⟩|⟨h1,h2,h3⟩
  ·rw [h2] at hx2;exact absurd hx2 δ
  ·exact h3
 rw [e];have c1:=h.c1;have d1:=h.row.cellAt (x*3+1) ω (vM raw x);have d2:=h.row.cellAt (x*3+2) ω (vG raw x);have hA:=h.ok.c1;have l1:=h.head.lt;have l2:=h.row.lt;clear h hx hx2 e
 go_enter Tryz.func137,Tryz.ntmps137
 go_wp2_with ((go_at_call 149;(with_reducible refine (k).mono ?_);rintro e w9 ⟨rfl,hw9⟩;rw [hw9];clear hw9 w9))
 exact bodyPost_ret (v:=.tuple #[.agg #[.int .i64 (raw x).k,.int .u64 (raw x).s],.bool true]) (by simp [results,Tryz.results137,go_sem]) rfl ⟨rfl,ξ⟩
theorem CM.OL {w:World} {c ca nm mb g cap:Nat} {l l':List Int} {rt dp:Nat→Nat} {raw:Nat→Cl} {A:NS} {st:Nat} (h:CM w c ca nm mb g cap l rt dp raw A st) {w':World} (hN:iM w' nm g cap l') (ok:oH l' rt dp) (hl:l'.length=l.length) (hu:aa [g] w w') :
  CM w' c ca nm mb g cap l' rt dp raw A st:=by
 have s:=h.sep;refine ⟨h.head.upd hu ι,h.row.upd hu ι,hN,h.many.upd hu ι,ok,h.ok,h.mE,by rw [hl];exact h.rel,by rw [hl];exact h.hlen,fun i h1 h2=>?_,s⟩
 rw [hl] at h2;rw [h.has i h1 h2,decide_eq_decide,h.Lx.K4 h1 h2,ok.K4 h1 (by rw [hl];exact h2)]
theorem bZ {w:World} {c st:Nat} {F:List Nat} {A:NS} (h:az w c F A st) (x:Nat) (hx:bD A x=true) :
  Calls Tryz.prog 140 #[.pointer (some ⟨c,0,none⟩),.int .i64 (x:Int)] w fun e w'=>e=.returned (.tuple #[.int .i64 (A.c x).i,.bool true])∧az w' c F A st∧aa F w w':=by
 have k:=nQ h x;rw [hx] at k;obtain ⟨hx1,hx2⟩:=(af _ _).1 hx;obtain ⟨ca,nm,mb,g,cap,l,rt,dp,raw,h,rfl⟩:=h;have e:1≤(raw x).i∧(raw x).i<l.length∧A.c x=⟨rt (raw x).i.toNat,(raw x).k,(raw x).s⟩:=by
  rcases h.rel x hx1 with ⟨h1,h2⟩|h3
  ·rw [h2] at hx2;exact absurd hx2 δ
  ·exact h3
 obtain ⟨r,hr⟩:∃r:Nat,(raw x).i=r:=⟨(raw x).i.toNat,ω⟩
 rw [e.2.2,hr,π];have c1:=h.c1;have c2:=h.c2;have d0:=h.row.cellAt (x*3) ω (Fz raw x);rw [hr] at d0 e;have hA:=h.ok.c1;have hs:=h.sep;have H:=χ h;have hr1:1≤r:=ω;have hr2:r<l.length:=ω;clear h hx hx2 e hr
 go_enter Tryz.func140,Tryz.ntmps140
 go_wp2_with ((go_at_call 149;(with_reducible refine (k).mono ?_);rintro e w9 ⟨rfl,hw9⟩;rw [hw9];clear hw9 w9))
 have r1:∀W,aa [g] w W→W.cell? ⟨c,1,none⟩=some (.slice (some ⟨ca,0,none⟩) A.cs.length A.cs.length):=fun W hW=>by rw [hW.cell H.out.head.lt ι];exact c1
 have r2:∀W,aa [g] w W→W.cell? ⟨c,2,none⟩=some (.pointer (some ⟨nm,0,none⟩)):=fun W hW=>by rw [hW.cell H.out.head.lt ι];exact c2
 have r3:∀W,aa [g] w W→W.cell? ⟨ca,x*3,none⟩=some (.int .i64 (r:Int)):=fun W hW=>by rw [hW.cell H.out.row.lt ι];exact d0
 go_region_held3 (aa [g] w) (repeat (first|assumption|exact aa.refl _ _|refine aa.drew ?_|refine aa.alloc ?_ _|(apply aa.trans;rotate_left;assumption)))
  ((go_at_call 153;(with_reducible refine (Iw nm g cap l rt dp r _ (H.out.NC.upd (S:=[]) β σ σ) H.out.Lx hr1 hr2).mono ?_);rintro e w1 ⟨l',rfl,hN,hok,hlen,hu⟩;have hu':aa [g] w w1:=(by first|exact hu|exact ((aa.refl [g] w).drew.trans hu)|exact ((aa.refl [g] w).drewN _ |>.trans hu))))
 go_wp2;go_ret2;exact ⟨rfl,⟨ca,nm,mb,g,cap,l',rt,dp,raw,H.out.OL hN hok hlen hu',rfl⟩,hu'.mono ι⟩
end Go.Proofs.YtklibcncmbofpaaGreat
