/-
  Lemmas for RankSorts: Sf6, Dr, Sd7. Conditions: those of each lemma.
-/
import Derived.Deep.OwnRows
import Derived.Test.YtklibcncmbofpaaGreatP19
import Derived.Test.YtklibcncmbofpaaGreatP20
set_option maxHeartbeats 8000000
set_option maxRecDepth 10000
set_option linter.unusedVariables false
set_option linter.unusedSimpArgs false
namespace Go.Proofs.YtklibcncmbofpaaGreat
open Go Go.RowKit
theorem IZ.take {w:World} {g cap:Nat} {l:List Int} (h:IZ w g cap l) (n:Nat) (hn:n≤l.length):IZ w g cap (l.take n):=by
 rcases h.own.2 with ⟨h1,_⟩|⟨g',cap',cur,h1,hb,hg,hc,hm,hs,ht⟩
 ·cases h1
 ·cases h1;have hl:(l.take n).length=n:=ζ;refine ⟨⟨by rw [dX];omega,Or.inr ⟨g,cap,cur,rfl,ω,hg,ω,hm,hs,?_⟩⟩⟩
  rw [hl];have:cur.toList.take (n*1)=(cur.toList.take (l.length*1)).take (n*1):=by rw [List.take_take];congr 1;omega
  rw [this,ht];unfold aH;rw [←List.map_take,Nat.mul_one]
theorem Jy (L:List Nat) (n:Nat):bz (L.take n)=(bz L).take n:=by unfold bz;rw [List.map_take]
def G5 (f:Int→Option Int) (k:Int):Int→Option Int:=fun q=>if q=k then none else f q
theorem tu {L:List Nat} {n:Nat} (hl:L.length=n+1):L=L.take n++[L.getD n 0]:=by
 have h1:L[n]?=some (L.getD n 0):=by simp [φ,hl]
 have h2:L.drop n=[L.getD n 0]:=by
  apply List.ext_getElem?;intro j;rw [List.getElem?_drop];cases j with
  | zero=>simpa using h1
  | succ j=>rw [List.getElem?_eq_none ω];simp
 calc L=L.take n++L.drop n:=(List.take_append_drop n L).symm
  _=_:=by rw [h2]
theorem MB {f:Int→Option Int} {L:List Nat} {n:Nat} (h:qX f L) (hl:L.length=n+1) (hn:L.Nodup):qX (G5 f (L.getD n 0:Nat)) (L.take n):=fun z v=>by
 have h1:L[n]?=some (L.getD n 0):=by simp [φ,hl]
 unfold G5
 by_cases e:z=((L.getD n 0:Nat):Int)
 ·rw [if_pos e];constructor
  ·intro h;cases h
  ·rintro ⟨y,j,rfl,rfl,hj⟩;rw [List.getElem?_take] at hj
   split at hj
   ·rename_i hjn
    have ey:y=L.getD n 0:=ω;rw [←ey] at h1;obtain ⟨g1,e1⟩:=List.getElem?_eq_some_iff.1 hj;obtain ⟨g2,e2⟩:=List.getElem?_eq_some_iff.1 h1;have:=(List.getElem_inj hn).1 (e1.trans e2.symm);omega
   ·cases hj
 ·rw [if_neg e,h z v];constructor
  ·rintro ⟨y,j,rfl,rfl,hj⟩;have hjl:=(List.getElem?_eq_some_iff.1 hj).1;have hjn:j≠n:=fun e2=>by rw [e2,h1] at hj;cases hj;exact e rfl
   exact ⟨y,j,rfl,rfl,by rw [List.getElem?_take,if_pos ω];exact hj⟩
  ·rintro ⟨y,j,rfl,rfl,hj⟩;rw [List.getElem?_take] at hj
   split at hj
   ·exact ⟨y,j,rfl,rfl,hj⟩
   ·cases hj
theorem Mj {f:Int→Option Int} {L:List Nat} {n i x:Nat} (h:qX f L) (hl:L.length=n+1) (hx:L[i]?=some x) (hi:i<n) (hn:L.Nodup):jW (G5 f x) (L.take n) i (L.getD n 0):=fun z v hz=>by
 have h1:L[n]?=some (L.getD n 0):=by simp [φ,hl]
 unfold G5
 by_cases e:z=(x:Int)
 ·rw [if_pos e];constructor
  ·intro h;cases h
  ·rintro ⟨y,j,rfl,rfl,hji,hj⟩;rw [List.getElem?_take] at hj
   split at hj
   ·have ey:y=x:=ω;rw [ey] at hj;obtain ⟨g1,e1⟩:=List.getElem?_eq_some_iff.1 hj;obtain ⟨g2,e2⟩:=List.getElem?_eq_some_iff.1 hx;exact absurd ((List.getElem_inj hn).1 (e1.trans e2.symm)) hji
   ·cases hj
 ·rw [if_neg e,h z v];constructor
  ·rintro ⟨y,j,rfl,rfl,hj⟩;have hjl:=(List.getElem?_eq_some_iff.1 hj).1;have hjn:j≠n:=fun e2=>by rw [e2,h1] at hj;cases hj;exact hz rfl
   have hji:j≠i:=fun e2=>by rw [e2,hx] at hj;cases hj;exact e rfl
   exact ⟨y,j,rfl,rfl,hji,by rw [List.getElem?_take,if_pos ω];exact hj⟩
  ·rintro ⟨y,j,rfl,rfl,hji,hj⟩;rw [List.getElem?_take] at hj
   split at hj
   ·exact ⟨y,j,rfl,rfl,hj⟩
   ·cases hj
theorem GL {L:List Nat} {n i x:Nat} (hl:L.length=n+1) (hx:L[i]?=some x) (hi:i<n):(x::(L.take n).set i (L.getD n 0)).Perm L:=by
 have h0:=tu hl;have hit:(L.take n)[i]?=some x:=by rw [List.getElem?_take,if_pos hi];exact hx
 have hlt:(L.take n).length=n:=ζ;generalize L.getD n 0=y at *
 generalize L.take n=T at *
 obtain ⟨hiT,hxT⟩:=List.getElem?_eq_some_iff.1 hit;rw [h0];have e1:T.set i y=T.take i++y::T.drop (i+1):=by rw [List.set_eq_take_append_cons_drop,if_pos hiT]
 have e2:T=T.take i++x::T.drop (i+1):=by
  have h2:T.set i x=T:=by rw [←hxT];simp
  rw [List.set_eq_take_append_cons_drop,if_pos hiT] at h2;exact h2.symm
 rw [e1];have p1:(x::(T.take i++y::T.drop (i+1))).Perm (x::y::(T.take i++T.drop (i+1))):=List.Perm.cons x List.perm_middle;have p2:(T++[y]).Perm (y::x::(T.take i++T.drop (i+1))):=by
  refine (List.perm_append_comm (l₁:=T) (l₂:=[y])).trans (List.Perm.cons y ?_);have p3:(T.take i++x::T.drop (i+1)).Perm (x::(T.take i++T.drop (i+1))):=List.perm_middle;rw [←e2] at p3;exact p3
 exact p1.trans ((List.Perm.swap y x _).trans p2.symm)
theorem Bu (O:eX) {w:World} {rp d:Nat} {G L:List Nat} (hO:O.at_ w) (h:jK w rp G d L) (hd:2≤d∧d≤16) (hl:L.length≤65536) (x:Nat) (hxm:x∈L) (hn:L.Nodup) (hH:Hp O.R d L)
  (hdom:∀y,y∈L→O.dom y) (h16:∀y,y∈L→y≤65536) (hsep:∀z,z∈G→z∉O.rd) :
  Calls Tryz.prog 150 #[.pointer (some ⟨rp,0,none⟩),.iface O.ty (.pointer (some ⟨O.p,0,none⟩)),.int .i64 (x:Int)] w fun e w'=>e=.returned (.bool true)∧∃L',jK w' rp G d L'∧(x::L').Perm L∧Hp O.R d L'∧O.at_ w'∧aa (G++O.wr) w w':=by
 obtain ⟨i,hi,hxi⟩:=List.mem_iff_getElem.1 hxm;have hx:L[i]?=some x:=by rw [List.getElem?_eq_getElem hi,hxi]
 obtain ⟨n,hln⟩:∃n,L.length=n+1:=⟨L.length-1,ω⟩
 obtain ⟨mb,g,cap,f,hM,hP,rfl⟩:=h.open ω;have c1:=hM.h1;have c2:=hM.h2;have hcp:=hM.row.cap;rw [bQ] at hcp;have fr:=hM.head.free 1;have cl:=hM.cell n ω;have hfx:=F4 hP hx;have hmb:dZ w mb f:=hM.map;have hxl:=h16 x hxm;have hlt:=hM.lt;have hsM:=hM.sep;have hlast:L[n]?=some (L.getD n 0):=by simp [φ,hln]
 have hym:=List.mem_of_getElem? hlast;have hyl:=h16 _ hym;have hTn:(L.take n).length=n:=ζ;rw [hln] at c1 hcp;have hRow:∀W f',IZ W g cap (bz L)→dZ W mb f'→aI W rp 247 3 (fun j=>[Value.int .i64 (d:Int),.slice (some ⟨g,0,none⟩) n cap,.map (some mb)].getD j undef)→qW W rp mb g cap d f' (L.take n):=fun W f' h1 h2 h3=>
  ⟨by rw [hTn];exact h3,by rw [Jy];exact h1.take n (by rw [bQ];omega),h2,hsM⟩
 have hsW:aa [rp] w (w.setCell ⟨rp,1,none⟩ (.slice (some ⟨g,0,none⟩) n cap)):=β;have hh1:aI (w.setCell ⟨rp,1,none⟩ (.slice (some ⟨g,0,none⟩) n cap)) rp 247 3 (fun j=>[Value.int .i64 (d:Int),.slice (some ⟨g,0,none⟩) n cap,.map (some mb)].getD j undef):=
  (hM.head.set 1 _).ext (fun j hj=>by rcases (ω:j=0∨j=1∨j=2) with rfl|rfl|rfl<;>rfl)
 have hI1:=hM.row.upd hsW (by simp;exact fun e=>hsM.2.1 e.symm)
 have hm1:=hM.map.upd hsW (by simp;exact fun e=>hsM.1 e.symm)
 have hat1:=O.upd hO hsW (fun z hz=>by simp at hz;rw [hz];exact hsep rp σ)
 have HX:=χ (ψ hP (ψ hn (ψ hH (ψ hdom (ψ h16 (ψ hsep (ψ hx (ψ hln (ψ hTn (ψ hRow (ψ hsW (ψ hh1 (ψ hI1 (ψ hat1 hsM))))))))))))));have hiI:(i:Int)<(n:Int)+1:=ω;have hin:i≤n:=ω;clear hM hP hn hH hdom h16 hsep hO hx hxi hTn hRow hh1 hI1 hat1 hlast hym;generalize hy:L.getD n 0=y at *
 have HYy:=χ hy;have hwr:wrap64 ((n:Int)+1-1)=(n:Int):=by rw [show (n:Int)+1-1=n by omega];exact IntWalk.wrap64_in _ ω
 have hwr2:(n:Int)+1-1=(n:Int):=ω;have hnI:(n:Int)<(n:Int)+1:=ω;have hncI:(n:Int)≤(cap:Int):=ω;have hwr3:IntKind.i64.wrap (n:Int)=(n:Int):=IntWalk.i64_in _ ω;have hn0I:(0:Int)≤(n:Int):=ω;have HF:=χ (ψ hin hxm);clear hin
 go_enter Tryz.func150,Tryz.ntmps150
 go_upto_region 4 with (first
  | (at_lookup;refine jR rfl _ _ rfl mb f rfl hmb (x:Int) rfl ω ?_;rw [hfx];simp only [Option.getD_some,Option.isSome_some])
  | fail)
 go_quiet (fail)
 go_upto_region 5 with (fail)
 go_region_law (fail)
 all_goals
  go_upto_region 6 with (fail)
  refine gB (fun W=>aa [] (w.setCell ⟨rp,1,none⟩ (.slice (some ⟨g,0,none⟩) n cap)) W) ⟨rfl,rfl,rfl,Nat.le_refl _,fun _ _ _=>rfl⟩ ?_
  intro W hW;obtain ⟨hP,hn,hH,hdom,h16,hsep,hx,hln,hTn,hRow,hsW,hh1,hI1,hat1,hsM⟩:=HX.out;have hmW:=hm1.upd hW σ;have hhW:=hh1.upd hW σ;have hIW:=hI1.upd hW σ;have hatW:=O.upd hat1 hW σ;have c2W:=hhW.cellAt 2 (v:=.map (some mb)) ω rfl;have huW:aa [rp] w W:=hsW.then hW;clear hm1 hh1 hI1 hat1 hW c1 c2 fr cl;have hRd:∀w3,dZ w3 mb (G5 f x)→aa [mb] W w3→qW w3 rp mb g cap d (G5 f x) (L.take n)∧O.at_ w3:=fun w3 hm3 hu3=>
   ⟨hRow w3 _ (hIW.upd hu3 (by simp;exact fun e=>hsM.2.2 e.symm)) hm3 (hhW.upd hu3 (by simp;exact hsM.1)),O.upd hatW hu3 (fun z hz=>by simp at hz;rw [hz];exact hsep mb σ)⟩
  by_cases hin2:i=n
  ·have hyx:y=x:=by
    have h1:L[n]?=some y:=by rw [←HYy.out];simp [φ,hln]
    rw [←hin2,hx] at h1;cases h1;rfl
   have hyx2:((y:Int) == (x:Int))=true:=by simp [hyx]
   have HG:=χ (ψ hP (ψ hn (ψ hH (ψ hRd (ψ huW (ψ hyx hln))))));clear hP hn hH hdom h16 hsep hx hln hTn hRow hsW hsM hhW hIW hatW hRd huW hyx hin2
   go_upto_region 7 with (first
    | (at_delete;refine ma rfl _ _ rfl mb _ rfl hmW (x:Int) rfl ω ?_;intro w3 hm3 hu3)
    | fail)
   go_wp2;go_ret;obtain ⟨hP,hn,hH,hRd,huW,hyx,hln⟩:=HG.out;obtain ⟨hR3,hO3⟩:=hRd w3 hm3 hu3;have hpl:=MB hP hln hn;rw [HYy.out,hyx] at hpl;refine ⟨rfl,L.take n,hR3.at_ hpl,?_,hH.take hd.1,hO3,(huW.mono (fun z hz=>by simp at hz;simp [hz])).trans (hu3.mono (fun z hz=>by simp at hz;simp [hz]))⟩
   have h0:=tu hln;rw [HYy.out,hyx] at h0
   conv=>rhs;rw [h0]
   exact (List.perm_append_comm (l₁:=L.take n) (l₂:=[x])).symm
  ·have hi2:i<n:=ω;have hyx:y≠x:=fun e=>by
    have h1:L[n]?=some y:=by rw [←HYy.out];simp [φ,hln]
    rw [e] at h1;obtain ⟨g1,e1⟩:=List.getElem?_eq_some_iff.1 h1;obtain ⟨g2,e2⟩:=List.getElem?_eq_some_iff.1 hx;exact hin2 ((List.getElem_inj hn).1 (e1.trans e2.symm)).symm
   have hyx2:((y:Int) == (x:Int))=false:=ζ;have hgp:=GL hln hx hi2;have hgo:=Mj hP hln hx hi2 hn;rw [HYy.out] at hgp hgo;have hHo:=(hH.take (n:=n) hd.1).hole O.tr hd.1 (i:=i) (by rw [hTn];exact hi2)
   have hnd:=List.nodup_cons.1 (hgp.nodup_iff.2 hn);have hdm:∀z,z∈(L.take n).set i y→O.dom z:=fun z hz=>hdom z (hgp.mem_iff.1 (List.mem_cons_of_mem _ hz))
   have h6m:∀z,z∈(L.take n).set i y→z≤65536:=fun z hz=>h16 z (hgp.mem_iff.1 (List.mem_cons_of_mem _ hz))
   have hsq:Ig O rp mb g:=⟨hsep rp σ,hsep mb σ,hsep g σ⟩;have ku:=fun w3 hm3 hu3=>Ai O (hRd w3 hm3 hu3).2 (hRd w3 hm3 hu3).1 hd ω i y hHo hgo hnd.2 hdm h6m hsq
   have hit:((L.take n).set i y)[i]?=some y:=by simp [hTn,hi2]
   have hss:((L.take n).set i y).set i y=(L.take n).set i y:=by rw [List.set_set]
   have kd:=fun (w5:World) (f5:Int→Option Int) (hO5:O.at_ w5) (hR5:qW w5 rp mb g cap d f5 ((L.take n).set i y)) (hP5:qX f5 ((L.take n).set i y)) (hT:i=0∨O.R ((L.take n).getD (par d i) 0) y)=>
    IM O hO5 hR5 hd (by rw [List.length_set,hTn];omega) i y (hHo.any hd.1 y) (hP5.hole hit) (by rw [hss];exact hnd.2) (fun z hz=>hdm z (by rw [←hss];exact hz)) (fun z hz=>h6m z (by rw [←hss];exact hz)) hsq
     (by rcases Nat.eq_zero_or_pos i with h|h;exact Or.inl h;rcases hT with e|e;exact Or.inl e;exact Or.inr (by have:=cZ hd.1 h;rw [bT,if_neg ω];exact e))
   simp only [hss] at kd;have HG:=χ (ψ hgp (ψ huW hnd));have hiI2:(i:Int)<(n:Int):=ω;clear hP hn hH hdom h16 hsep hx hln hTn hRow hsW hsM hhW hIW hatW hRd huW hyx hin2 hgp hgo hHo hnd hdm h6m hsq hit hss
   go_upto_region 9 with (first
    | (at_delete;refine ma rfl _ _ rfl mb _ rfl hmW (x:Int) rfl ω ?_;intro w3 hm3 hu3)
    | fail)
   have ku3:=ku w3 hm3 hu3;clear ku
   go_wp2_with (first
    | ((go_at_call 159;(with_reducible refine (ku3).mono ?_));rintro e w5 ⟨k,f',L',rfl,hR5,hP5,hpr5,hO5,hu5,hk5,hH5⟩)
    | ((go_at_call 161;(have hki:k=i:=by have h:=(by assumption:((k:Int) == (i:Int))=true);simp at h;omega);(obtain ⟨hL5,hT5⟩:=hk5 hki);(rw [hL5] at hR5 hP5);(refine (kd w5 f' hO5 hR5 hP5 hT5).mono ?_));rintro e w6 ⟨f6,L6,rfl,hR6,hP6,hpr6,hO6,hu6,hH6⟩)
    | fail)
   all_goals
    go_ret;obtain ⟨hgp,huW,hnd⟩:=HG.out;have hU5:aa (rp::mb::g::O.wr) w w5:=((huW.mono (fun z hz=>by simp at hz;simp [hz])).trans (hu3.mono (fun z hz=>by simp at hz;simp [hz]))).trans (hu5.mono (fun z hz=>by simp only [List.mem_cons] at hz ⊢;rcases hz with h|h|h;exact Or.inr (Or.inr (Or.inl h));exact Or.inr (Or.inl h);exact Or.inr (Or.inr (Or.inr h))))
    first
     | (refine ⟨rfl,L6,hR6.at_ hP6,(hpr6.cons x).trans hgp,hH6,hO6,hU5.trans (hu6.mono (fun z hz=>by simp only [List.mem_cons] at hz ⊢;rcases hz with h|h|h;exact Or.inr (Or.inr (Or.inl h));exact Or.inr (Or.inl h);exact Or.inr (Or.inr (Or.inr h))))⟩)
     | (refine ⟨rfl,L',hR5.at_ hP5,(hpr5.cons x).trans hgp,hH5 (Or.inl (by have h:=(by assumption:((k:Int) == (i:Int))=false);simp at h;omega)),hO5,hU5⟩)
theorem Av (p c:Nat):∀W:World,W.cell? ⟨p,0,none⟩=some (.pointer (some ⟨c,0,none⟩))→(method 429 170 (.pointer (some ⟨p,0,none⟩)) "Ahead").run Tryz.prog W=.ok (174,.pointer (some ⟨c,0,none⟩)) W:=(by intro W h;unfold method;have hm:∃m,(Array.find? (fun x=>x.name == "Ahead") Tryz.t170.methods)=some m∧m.path.toList=[⟨207,0,true⟩]∧m.func=some (174,true)∧m.path.isEmpty=false:=⟨(Array.find? (fun x=>x.name == "Ahead") Tryz.t170.methods).get!,by kernel_rfl,by kernel_rfl,by kernel_rfl,by kernel_rfl⟩;obtain ⟨m,h1,h2,h3,h4⟩:=hm;go_simp;simp only [follow,Place.get];go_simp;(try unfold receiverAt);(try simp only [Place.get]);(try go_simp))
theorem Ay (p:Nat):∀W:World,(nilAhead 429 170 (.pointer (some ⟨p,0,none⟩)) "Ahead").run Tryz.prog W=.ok (some false) W:=fun W=>by kernel_rfl
structure DB where
 n0:Nat
 c:Nat
 d:Nat
def Ps (d:Nat):PN:=⟨fun w p G L=>jK w p G d L,fun h hu hS=>h.upd hu hS,fun h=>h.lt⟩
def j5 (A:NS) (h:Nat):Bool:=aY A (h:Int)
structure sU (w:World) (B:DB) (F Z:List Nat) (gr cr:Nat) (A:NS) (st:Nat) (ptr:Nat→Option Nat) (G L:Nat→List Nat):Prop where
 head:aI w B.n0 207 3 (fun j=>[Value.pointer (some ⟨B.c,0,none⟩),.int .i64 (B.d:Int),.slice (some ⟨gr,0,none⟩) A.hs.length cr].getD j undef)
 cells:az w B.c F A st
 jf:rR (Ps B.d) 202 w gr cr A.hs.length (j5 A) Z ptr G L
 aZ:B.n0∉F∧gr∉F∧B.n0≠gr
 iX:∀z,z∈Z→z∉F∧z≠B.n0
 dd:2≤B.d∧B.d≤16
def DB.blk (B:DB) (F Z:List Nat) (gr:Nat):List Nat:=B.n0::gr::(F++Z)
section
variable {w:World} {B:DB} {F Z:List Nat} {gr cr st:Nat} {A:NS} {ptr:Nat→Option Nat} {G L:Nat→List Nat}
theorem sU.upd {w':World} {S:List Nat} (h:sU w B F Z gr cr A st ptr G L) (hu:aa S w w') (hS:∀x,x∈S→x∉B.blk F Z gr):sU w' B F Z gr cr A st ptr G L:=by
 have h1:∀x,x∈B.blk F Z gr→x∉S:=fun x hx hg=>hS x hg hx
 exact ⟨h.head.upd hu (h1 _ (by simp [DB.blk])),h.cells.upd hu (fun x hx hm=>hS x hx (by simp [DB.blk,hm])),h.jf.upd hu (fun z hz=>⟨fun e=>hS z hz (by simp [DB.blk,e]),fun e=>hS z hz (by simp [DB.blk,e])⟩),h.aZ,h.iX,h.dd⟩
theorem sU.aj {w':World} (h:sU w B F Z gr cr A st ptr G L) (hu:aa [] w w'):sU w' B F Z gr cr A st ptr G L:=h.upd hu σ
theorem sU.lt (h:sU w B F Z gr cr A st ptr G L):∀x,x∈B.blk F Z gr→x<w.heap.size:=by
 intro x hx;simp only [DB.blk,List.mem_cons,List.mem_append] at hx;rcases hx with rfl|rfl|hx|hx
 ·exact h.head.lt
 ·exact h.jf.lt
 ·exact h.cells.lt x hx
 ·exact h.jf.D9 x hx
theorem sU.h0 (h:sU w B F Z gr cr A st ptr G L):w.cell? ⟨B.n0,0,none⟩=some (.pointer (some ⟨B.c,0,none⟩)):=h.head.cellAt 0 ω rfl
theorem sU.h1 (h:sU w B F Z gr cr A st ptr G L):w.cell? ⟨B.n0,1,none⟩=some (.int .i64 (B.d:Int)):=h.head.cellAt 1 ω rfl
theorem sU.h2 (h:sU w B F Z gr cr A st ptr G L):w.cell? ⟨B.n0,2,none⟩=some (.slice (some ⟨gr,0,none⟩) A.hs.length cr):=h.head.cellAt 2 ω rfl
theorem sU.bI {w':World} {F':List Nat} {A':NS} {st':Nat} (h:sU w B F Z gr cr A st ptr G L) (hu:aa F w w') (hC:az w' B.c F' A' st') (hF:∀x,x∈F'→x∈F∨w.heap.size≤x) (h2:A'.hs=A.hs):sU w' B F' Z gr cr A' st' ptr G L:=by
 have f:=h.aZ;have g:=h.lt;have hf:∀x,x<w.heap.size→x∉F→x∉F':=fun x hx hn hm=>by rcases hF x hm with h'|h';exact hn h';omega
 have l0:=g B.n0 (by simp [DB.blk]);have l1:=g gr (by simp [DB.blk])
 have hh:j5 A'=j5 A:=funext fun k=>by unfold j5 aY;rw [h2]
 exact ⟨by rw [h2];exact h.head.upd hu f.1,hC,by rw [h2,hh];exact h.jf.upd hu (fun z hz=>⟨fun e=>f.2.1 (by rw [←e];exact hz),fun hm=>(h.iX z hm).1 hz⟩),⟨hf _ l0 f.1,hf _ l1 f.2.1,f.2.2⟩,fun z hz=>⟨hf z (h.jf.D9 z hz) (h.iX z hz).1,(h.iX z hz).2⟩,h.dd⟩
def M3 (B:DB) (F:List Nat) (A:NS) (hc:B.c∈F):eX where
 ty:=170
 p:=B.n0
 rd:=B.n0::F
 wr:=[B.c]
 lt:=fun a b=>decide (bH A a b)
 dom:=fun x=>bD A (x:Int)=true
 at_:=fun w=>w.cell? ⟨B.n0,0,none⟩=some (.pointer (some ⟨B.c,0,none⟩))∧B.n0∉F∧∃st,az w B.c F A st
 sub:=fun x hx=>by simp at hx;rw [hx];exact List.mem_cons_of_mem _ hc
 low:=fun h x hx=>by
  obtain ⟨h1,h3,st,h2⟩:=h;rcases List.mem_cons.1 hx with e|e
  ·rw [e];exact World.block_lt_of_cell? _ _ h1
  ·exact h2.lt x e
 upd:=fun h hu hS=>by
  obtain ⟨h1,h3,st,h2⟩:=h;exact ⟨hu.kept h1 (fun hm=>hS _ hm σ),h3,st,h2.upd hu (fun x hx hm=>hS x hx (by simp [hm]))⟩
 trans:=fun a b c h1 h2=>decide_eq_true (bE (of_decide_eq_true h1) (of_decide_eq_true h2))
 total:=fun a b h=>by rcases gH (A:=A) h with h|h;exact Or.inl (decide_eq_true h);exact Or.inr (decide_eq_true h)
 asym:=fun a b h=>decide_eq_false (nu (of_decide_eq_true h))
 fn:=174
 recv:=.pointer (some ⟨B.c,0,none⟩)
 PM:=fun _ _=>by kernel_rfl
 MN:=fun h=>Av _ _ _ h.1
 MJ:=Ay _
 ask:=fun {w} x y h hx hy=>by
  obtain ⟨h1,h3,st,h2⟩:=h;refine (dC h2 x y hx hy).mono ?_;rintro e w' ⟨rfl,hC,hu⟩;exact ⟨rfl,⟨hu.kept h1 (fun hm=>h3 (by simp at hm;rw [hm];exact h2.mem)),h3,_,hC⟩,hu⟩
theorem sU.ord (h:sU w B F Z gr cr A st ptr G L):(M3 B F A h.cells.mem).at_ w:=⟨h.h0,h.aZ.1,st,h.cells⟩
end
def lN (w:World) (B:DB) (F Z:List Nat) (gr:Nat) (A:NS) (st:Nat):Prop:=∃cr ptr G L,sU w B F Z gr cr A st ptr G L∧ow B.d A L
section
variable {w:World} {B:DB} {F Z:List Nat} {gr st:Nat} {A:NS}
theorem lN.upd {w':World} {S:List Nat} (h:lN w B F Z gr A st) (hu:aa S w w') (hS:∀x,x∈S→x∉B.blk F Z gr):lN w' B F Z gr A st:=by
 obtain ⟨cr,ptr,G,L,hM,hI⟩:=h;exact ⟨cr,ptr,G,L,hM.upd hu hS,hI⟩
theorem lN.aj {w':World} (h:lN w B F Z gr A st) (hu:aa [] w w'):lN w' B F Z gr A st:=h.upd hu σ
theorem Bh (h:lN w B F Z gr A st) (g:Nat) (hn:aY A g=true) :
  Calls Tryz.prog 145 #[.pointer (some ⟨B.n0,0,none⟩),.int .i64 (g:Int)] w fun e w'=>e=.returned (.tuple #[.int .i64 (oD (bL A g)),.bool (bL A g).isSome])∧w'=w:=by
 obtain ⟨cr,ptr,G,L,hM,hI⟩:=h;have k:=iq hM.cells g;rw [hn] at k;have h0:=hM.h0;have h2:=hM.h2;obtain ⟨rp,hp,hR⟩:=hM.jf.row g hn;have hg:=(aK _ _).1 hn;have hc:=hM.jf.cell ω hp;have hgI:(g:Int)<(A.hs.length:Int):=ω;have hR':jK w rp (G g) B.d (L g):=hR;cases hl:L g with
 | nil=>
  rw [hl] at hR';have ka:=Ky hR';rw [hI.none hn hl];clear hM hI hn hR hR' hp hl
  go_enter Tryz.func145,Tryz.ntmps145
  go_wp2_with (first|(go_at_call 139;(with_reducible refine (k).mono ?_);rintro e w9 ⟨rfl,hw9⟩;rw [hw9];clear hw9 w9)|(go_at_call 157;(with_reducible refine (ka).mono ?_);rintro e w9 ⟨rfl,hw9⟩;rw [hw9];clear hw9 w9))
  go_ret2;exact ⟨rfl,rfl⟩
 | cons m l=>
  rw [hl] at hR';have ka:=La hR';rw [hI.first hM.dd.1 hn hl];clear hM hI hn hR hR' hp hl
  go_enter Tryz.func145,Tryz.ntmps145
  go_wp2_with (first|(go_at_call 139;(with_reducible refine (k).mono ?_);rintro e w9 ⟨rfl,hw9⟩;rw [hw9];clear hw9 w9)|(go_at_call 157;(with_reducible refine (ka).mono ?_);rintro e w9 ⟨rfl,hw9⟩;rw [hw9];clear hw9 w9))
  go_ret2;exact ⟨rfl,rfl⟩
end
def Pz (B:HB) (w:World) (rp:Nat) (G L:List Nat):Prop:=∃v,aI w rp 321 2 (Kk B v)∧w.ownsRow 0 3 1 v L.length (aH (bz L))∧G=rp::v.ownBlock.toList∧∀g,v.ownBlock=some g→g≠rp
def Py (B:HB):PN:=⟨Pz B,fun h hu hS=>by
 obtain ⟨v,h1,h2,rfl,h3⟩:=h;exact ⟨v,h1.upd hu (fun hm=>hS _ hm σ),ay h2 hu (fun k hk hm=>hS k hm (List.mem_cons_of_mem _ (Option.mem_toList.2 hk))),rfl,h3⟩,fun h=>by
 obtain ⟨v,h1,h2,rfl,h3⟩:=h;intro z hz;rcases List.mem_cons.1 hz with e|e
 ·rw [e];exact h1.lt
 ·exact (h2.lt z (Option.mem_toList.1 e)).2⟩
structure ShM (w:World) (B:HB) (F Z:List Nat) (gr cr:Nat) (A:NS) (st:Nat) (ptr:Nat→Option Nat) (G L:Nat→List Nat) (T:List Nat):Prop where
 head:aI w B.n0 237 3 (fun j=>[Value.pointer (some ⟨B.c,0,none⟩),.slice (some ⟨gr,0,none⟩) A.hs.length cr,.slice (some ⟨B.ga,0,none⟩) T.length T.length].getD j undef)
 cells:az w B.c F A st
 jf:rR (Py B) 317 w gr cr A.hs.length (j5 A) Z ptr G L
 wE:IZ w B.ga T.length (bz T)
 tl:T.length=A.cs.length
 aZ:B.n0∉F∧gr∉F∧B.ga∉F
 sep:B.n0≠gr∧B.ga≠B.n0∧B.ga≠gr
 iX:∀z,z∈Z→z∉F∧z≠B.n0∧z≠B.ga
def HB.blk (B:HB) (F Z:List Nat) (gr:Nat):List Nat:=B.n0::gr::B.ga::(F++Z)
structure OZ (A:NS) (L:Nat→List Nat) (T:List Nat):Prop where
 di:ow 2 A L
 yc:∀h:Nat,aY A h=true→∀j x,(L h)[j]?=some x→T.getD x 0=j
section
variable {w w':World} {B:HB} {F Z:List Nat} {gr cr st:Nat} {A:NS} {ptr:Nat→Option Nat} {G L:Nat→List Nat} {T:List Nat}
theorem ShM.upd {S:List Nat} (h:ShM w B F Z gr cr A st ptr G L T) (hu:aa S w w') (hS:∀x,x∈S→x∉B.blk F Z gr):ShM w' B F Z gr cr A st ptr G L T:=by
 have h1:∀x,x∈B.blk F Z gr→x∉S:=fun x hx hg=>hS x hg hx
 exact ⟨h.head.upd hu (h1 _ (by simp [HB.blk])),h.cells.upd hu (fun x hx hm=>hS x hx (by simp [HB.blk,hm])),h.jf.upd hu (fun z hz=>⟨fun e=>hS z hz (by simp [HB.blk,e]),fun e=>hS z hz (by simp [HB.blk,e])⟩),h.wE.upd hu (h1 _ (by simp [HB.blk])),h.tl,h.aZ,h.sep,h.iX⟩
theorem ShM.aj (h:ShM w B F Z gr cr A st ptr G L T) (hu:aa [] w w'):ShM w' B F Z gr cr A st ptr G L T:=h.upd hu σ
theorem ShM.lt (h:ShM w B F Z gr cr A st ptr G L T):∀x,x∈B.blk F Z gr→x<w.heap.size:=by
 intro x hx;simp only [HB.blk,List.mem_cons,List.mem_append] at hx;rcases hx with rfl|rfl|rfl|hx|hx
 ·exact h.head.lt
 ·exact h.jf.lt
 ·exact h.wE.lt
 ·exact h.cells.lt x hx
 ·exact h.jf.D9 x hx
theorem ShM.h0 (h:ShM w B F Z gr cr A st ptr G L T):w.cell? ⟨B.n0,0,none⟩=some (.pointer (some ⟨B.c,0,none⟩)):=h.head.cellAt 0 ω rfl
theorem ShM.h1 (h:ShM w B F Z gr cr A st ptr G L T):w.cell? ⟨B.n0,1,none⟩=some (.slice (some ⟨gr,0,none⟩) A.hs.length cr):=h.head.cellAt 1 ω rfl
theorem ShM.h2 (h:ShM w B F Z gr cr A st ptr G L T):w.cell? ⟨B.n0,2,none⟩=some (.slice (some ⟨B.ga,0,none⟩) T.length T.length):=h.head.cellAt 2 ω rfl
theorem ShM.BU (h:ShM w B F Z gr cr A st ptr G L T) (j:Nat) (hj:j<T.length):w.cell? ⟨B.ga,j,none⟩=some (.int .i64 ((T.getD j 0:Nat):Int)):=by
 have:=h.wE.cell j (by rw [bQ];exact hj)
 rwa [pg] at this
theorem ShM.bI {F':List Nat} {A':NS} {st':Nat} (h:ShM w B F Z gr cr A st ptr G L T) (hu:aa F w w') (hC:az w' B.c F' A' st') (hF:∀x,x∈F'→x∈F∨w.heap.size≤x) (h2:A'.hs=A.hs) (h3:A'.cs.length=A.cs.length):ShM w' B F' Z gr cr A' st' ptr G L T:=by
 have f:=h.aZ;have g:=h.lt;have hf:∀x,x<w.heap.size→x∉F→x∉F':=fun x hx hn hm=>by rcases hF x hm with h'|h';exact hn h';omega
 have l0:=g B.n0 (by simp [HB.blk]);have l1:=g gr (by simp [HB.blk]);have l2:=g B.ga (by simp [HB.blk])
 have hh:j5 A'=j5 A:=funext fun k=>by unfold j5 aY;rw [h2]
 exact ⟨by rw [h2];exact h.head.upd hu f.1,hC,by rw [h2,hh];exact h.jf.upd hu (fun z hz=>⟨fun e=>f.2.1 (by rw [←e];exact hz),fun hm=>(h.iX z hm).1 hz⟩),h.wE.upd hu f.2.2,by rw [h3];exact h.tl,⟨hf _ l0 f.1,hf _ l1 f.2.1,hf _ l2 f.2.2⟩,h.sep,fun z hz=>⟨hf z (h.jf.D9 z hz) (h.iX z hz).1,(h.iX z hz).2⟩⟩
theorem ShM.pile (h:ShM w B F Z gr cr A st ptr G L T) {g:Nat} (hg:aY A g=true) (hd:∀y,y∈L g→bD A (y:Int)=true∧y<T.length) (hn:(L g).Nodup) (hpl:∀j x,(L g)[j]?=some x→T.getD x 0=j) :
  ∃rp v,ptr g=some rp∧G g=rp::v.ownBlock.toList∧AV w B F A rp v (L g) T:=by
 obtain ⟨rp,hp,v,h1,h2,h3,h4⟩:=h.jf.row g hg;have hz:∀z,z∈rp::v.ownBlock.toList→z∈Z:=fun z hz=>h.jf.vE g hg z (by rw [h3];exact hz)
 have hr:=h.iX rp (hz rp σ);have hok:=h.cells.ok.c1;refine ⟨rp,v,hp,h3,h1,h2,h.wE,h.h0,h.h2,⟨st,h.cells⟩,⟨hr.2.2,hr.2.1⟩,fun k hk=>?_,h.sep.2.1,⟨hr.1,h.aZ.2.2,h.aZ.1⟩,hd,hn,hpl,by rw [h.tl];exact hok⟩
 have hk':=h.iX k (hz k (List.mem_cons_of_mem _ (Option.mem_toList.2 hk)));exact ⟨h4 k hk,hk'.2.2,hk'.2.1,hk'.1⟩
theorem ShM.xh (h:ShM w B F Z gr cr A st ptr G L T) {g rp:Nat} (hg:aY A g=true) (hp:ptr g=some rp) {v':Value} {L' T' S:List Nat} (hu:aa S w w') (hS:∀z,z∈S→z∈G g∨z=B.ga∨z=B.c) (hr:rp∈G g) (hP:AV w' B F A rp v' L' T') (hl:T'.length=T.length) (hG:∀k,v'.ownBlock=some k→k∈G g∨w.heap.size≤k) :
  ∃st',ShM w' B F (Z++(rp::v'.ownBlock.toList)) gr cr A st' ptr (iE G g (rp::v'.ownBlock.toList)) (iE L g L') T':=by
 have hcF:=h.cells.mem;have hsl:=h.lt;obtain ⟨st',hC⟩:=hP.I7;have hnc:B.n0≠B.c:=fun e=>h.aZ.1 (by rw [e];exact hcF)
 have hSn:B.n0∉S:=fun hm=>by
  rcases hS _ hm with e|e|e
  ·exact (h.iX _ (h.jf.vE g hg _ e)).2.1 rfl
  ·exact h.sep.2.1 e.symm
  ·exact hnc e
 have hGz:∀z,z∈rp::v'.ownBlock.toList→z∈G g∨w.heap.size≤z:=fun z hz=>by
  rcases List.mem_cons.1 hz with e|e
  ·rw [e];exact Or.inl hr
  ·exact hG z (Option.mem_toList.1 e)
 refine ⟨st',⟨?_,hC,h.jf.one hg hp hu (fun z hz=>?_) ⟨v',hP.hd,hP.own,rfl,fun k hk=>(hP.sg k hk).1⟩ hGz,hP.wE,by rw [hl];exact h.tl,h.aZ,h.sep,fun z hz=>?_⟩⟩
 ·rw [hl];exact h.head.upd hu hSn
 ·rcases hS z hz with e|e|e
  ·exact Or.inl e
  ·rw [e];exact Or.inr ⟨h.sep.2.2,fun hm=>(h.iX _ hm).2.2 rfl⟩
  ·rw [e];exact Or.inr ⟨fun e2=>h.aZ.2.1 (by rw [←e2];exact hcF),fun hm=>(h.iX _ hm).1 hcF⟩
 ·rcases List.mem_append.1 hz with e|e
  ·exact h.iX z e
  ·rcases hGz z e with e2|e2
   ·exact h.iX z (h.jf.vE g hg z e2)
   ·exact ⟨fun hm=>by have:=hsl z (by simp [HB.blk,hm]);omega,fun e3=>by have:=hsl B.n0 (by simp [HB.blk]);omega,fun e3=>by have:=hsl B.ga (by simp [HB.blk]);omega⟩
end
def ShAt (w:World) (B:HB) (F Z:List Nat) (gr:Nat) (A:NS) (st:Nat):Prop:=∃cr ptr G L T,ShM w B F Z gr cr A st ptr G L T∧OZ A L T
section
variable {w:World} {B:HB} {F Z:List Nat} {gr st:Nat} {A:NS}
theorem ShAt.upd {w':World} {S:List Nat} (h:ShAt w B F Z gr A st) (hu:aa S w w') (hS:∀x,x∈S→x∉B.blk F Z gr):ShAt w' B F Z gr A st:=by
 obtain ⟨cr,ptr,G,L,T,hM,hI⟩:=h;exact ⟨cr,ptr,G,L,T,hM.upd hu hS,hI⟩
theorem ShAt.aj {w':World} (h:ShAt w B F Z gr A st) (hu:aa [] w w'):ShAt w' B F Z gr A st:=h.upd hu σ
theorem ze (h:ShAt w B F Z gr A st) (g:Nat) (hn:aY A g=true) :
  Calls Tryz.prog 276 #[.pointer (some ⟨B.n0,0,none⟩),.int .i64 (g:Int)] w fun e w'=>e=.returned (.tuple #[.int .i64 (oD (bL A g)),.bool (bL A g).isSome])∧w'=w:=by
 obtain ⟨cr,ptr,G,L,T,hM,hI⟩:=h;have hg:=(aK _ _).1 hn;have hok:=hM.cells.ok;have h1:=hok.h1;have k:=mQ hM.cells (g:Int) ω;have h0:=hM.h0;have h2:=hM.h1;obtain ⟨rp,hp,v,r1,r2,r3,r4⟩:=hM.jf.row g hn;have hc:=hM.jf.cell ω hp;have hgI:(g:Int)<(A.hs.length:Int):=ω;cases hl:L g with
 | nil=>
  have hmn:=hI.di.none hn hl;have hz:=(iB (A:=A) (h:=(g:Int)) ω).1 hmn;rw [hmn];rw [hz] at k;clear hM hI hn r1 r2 r3 r4 hp hl hmn hz hok
  go_enter Tryz.func276,Tryz.ntmps276
  go_wp2_with (first|(go_at_call 142;(with_reducible refine (k).mono ?_);rintro e w9 ⟨rfl,hw9⟩;rw [hw9];clear hw9 w9)|fail)
  go_ret2;exact ⟨rfl,rfl⟩
 | cons m l=>
  have hmn:=hI.di.first ω hn hl;have hz:¬cu A (g:Int)=0:=fun e=>by
   have:=(iB (A:=A) (h:=(g:Int)) ω).2 e;rw [hmn] at this;cases this
  have hle:=zV hok (g:Int);rw [hmn];rw [hl] at r2;obtain ⟨gs,cap,rfl,_,hgl,hcc,hcap,hcell, -⟩:=bY r2 σ;have c1:w.cell? ⟨rp,1,none⟩=some (.slice (some ⟨gs,0,none⟩) (m::l).length cap):=r1.cellAt 1 ω rfl;have c2:w.cell? ⟨gs,0,none⟩=some (.int .i64 (m:Int)):=hcell 0 _ rfl;have hzb:((cu A (g:Int):Int) == 0)=false:=ι;have hlp:(0:Int)<((m::l).length:Int):=ι;clear hM hI hn r1 r2 r3 r4 hp hl hmn hcell hok hz;generalize cu A (g:Int)=ln at *
  generalize (m::l).length=nl at *
  go_enter Tryz.func276,Tryz.ntmps276
  go_wp2_with (first|(go_at_call 142;(with_reducible refine (k).mono ?_);rintro e w9 ⟨rfl,hw9⟩;rw [hw9];clear hw9 w9)|fail)
  go_ret2;exact ⟨rfl,rfl⟩
end
end Go.Proofs.YtklibcncmbofpaaGreat
