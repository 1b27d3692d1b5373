/-
  Lemmas for ProofHolds: Sf6, Dr, Sd7, Dr2, Sd8, Dr3. Conditions: those of each lemma.
-/
import Derived.Deep.OwnRows
import Derived.Test.YtklibcncmbofpaaGreatR09
set_option linter.all false
set_option maxHeartbeats 8000000
set_option maxRecDepth 10000
namespace Go.Proofs.YtklibcncmbofpaaGreat
open Go Go.RowKit
theorem IZ.take{w:World}{g cap:Nat}{l:List Int}(h:IZ w g cap l)(n:Nat)(hn:n<=l.length):IZ w g cap (l.take n):=by
 rcases h.own.2 with⟨h1,_⟩|⟨g',cap',cur,h1,hb,hg,hc,hm,hs,ht⟩
 ·cases h1
 ·cases h1;have hl:(l.take n).length=n:=ζ;refine⟨⟨by rw[eZ];omega,Or.inr ⟨g,cap,cur,rfl,ω,hg,ω,hm,hs,?_⟩⟩⟩;rw[hl];have:cur.toList.take (n*1)=(cur.toList.take (l.length*1)).take (n*1):=by rw[List.take_take];congr 1;omega
  rw[this,ht];unfold aQ;rw[←List.map_take,Nat.mul_one]
theorem Qi(L:List Nat)(n:Nat):bH (L.take n)=(bH L).take n:=by unfold bH;rw[List.map_take]
def OG(f:Int->Option Int)(k:Int):Int->Option Int:=fun q=>if q=k then none else f q
theorem xC{L:List Nat}{n:Nat}(hl:L.length=n+1):L=L.take n++[L.getD n 0]:=by
 have h1:L[n]?=some (L.getD n 0):=by simp[φ,hl]
 have h2:L.drop n=[L.getD n 0]:=by
  apply List.ext_getElem?;intro j;rw[List.getElem?_drop];cases j with
  | zero=>simpa using h1
  | succ j=>rw[List.getElem?_eq_none ω];simp
 calc L=L.take n++L.drop n:=(List.take_append_drop n L).symm
  _=_:=by rw[h2]
theorem UW{f:Int->Option Int}{L:List Nat}{n:Nat}(h:vS f L)(hl:L.length=n+1)(hn:L.Nodup):vS (OG f (L.getD n 0:Nat)) (L.take n):=fun z v=>by
 have h1:L[n]?=some (L.getD n 0):=by simp[φ,hl]
 unfold OG
 by_cases e:z=((L.getD n 0:Nat):Int)
 ·rw[if_pos e];constructor
  ·intro h;cases h
  ·rintro⟨y,j,rfl,rfl,hj⟩;rw[List.getElem?_take]at hj
   split at hj
   ·rename_i hjn
    have ey:y=L.getD n 0:=ω;rw[←ey]at h1;obtain⟨g1,e1⟩:=List.getElem?_eq_some_iff.1 hj;obtain⟨g2,e2⟩:=List.getElem?_eq_some_iff.1 h1;have:=(List.getElem_inj hn).1 (e1.trans e2.symm);omega
   ·cases hj
 ·rw[if_neg e,h z v];constructor
  ·rintro⟨y,j,rfl,rfl,hj⟩;have hjl:=(List.getElem?_eq_some_iff.1 hj).1;have hjn:j≠n:=fun e2=>by rw[e2,h1]at hj;cases hj;exact e rfl
   exact⟨y,j,rfl,rfl,by rw[List.getElem?_take,if_pos ω];exact hj⟩
  ·rintro⟨y,j,rfl,rfl,hj⟩;rw[List.getElem?_take]at hj
   split at hj
   ·exact⟨y,j,rfl,rfl,hj⟩
   ·cases hj
theorem We{f:Int->Option Int}{L:List Nat}{n i x:Nat}(h:vS f L)(hl:L.length=n+1)(hx:L[i]?=some x)(hi:i<n)(hn:L.Nodup):ny (OG f x) (L.take n) i (L.getD n 0):=fun z v hz=>by
 have h1:L[n]?=some (L.getD n 0):=by simp[φ,hl]
 unfold OG
 by_cases e:z=(x:Int)
 ·rw[if_pos e];constructor
  ·intro h;cases h
  ·rintro⟨y,j,rfl,rfl,hji,hj⟩;rw[List.getElem?_take]at hj
   split at hj
   ·have ey:y=x:=ω;rw[ey]at hj;obtain⟨g1,e1⟩:=List.getElem?_eq_some_iff.1 hj;obtain⟨g2,e2⟩:=List.getElem?_eq_some_iff.1 hx;exact absurd ((List.getElem_inj hn).1 (e1.trans e2.symm)) hji
   ·cases hj
 ·rw[if_neg e,h z v];constructor
  ·rintro⟨y,j,rfl,rfl,hj⟩;have hjl:=(List.getElem?_eq_some_iff.1 hj).1;have hjn:j≠n:=fun e2=>by rw[e2,h1]at hj;cases hj;exact hz rfl
   have hji:j≠i:=fun e2=>by rw[e2,hx]at hj;cases hj;exact e rfl
   exact⟨y,j,rfl,rfl,hji,by rw[List.getElem?_take,if_pos ω];exact hj⟩
  ·rintro⟨y,j,rfl,rfl,hji,hj⟩;rw[List.getElem?_take]at hj
   split at hj
   ·exact⟨y,j,rfl,rfl,hj⟩
   ·cases hj
theorem PL{L:List Nat}{n i x:Nat}(hl:L.length=n+1)(hx:L[i]?=some x)(hi:i<n):(x::(L.take n).set i (L.getD n 0)).Perm L:=by
 have h0:=xC hl;have hit:(L.take n)[i]?=some x:=by rw[List.getElem?_take,if_pos hi];exact hx
 have hlt:(L.take n).length=n:=ζ;generalize L.getD n 0=y at *;generalize L.take n=T at *;obtain⟨hiT,JO⟩:=List.getElem?_eq_some_iff.1 hit;rw[h0];have e1:T.set i y=T.take i++y::T.drop (i+1):=by rw[List.set_eq_take_append_cons_drop,if_pos hiT]
 have e2:T=T.take i++x::T.drop (i+1):=by
  have h2:T.set i x=T:=by rw[←JO];simp
  rw[List.set_eq_take_append_cons_drop,if_pos hiT]at h2;exact h2.symm
 rw[e1];have p1:(x::(T.take i++y::T.drop (i+1))).Perm (x::y::(T.take i++T.drop (i+1))):=List.Perm.cons x List.perm_middle;have p2:(T++[y]).Perm (y::x::(T.take i++T.drop (i+1))):=by
  refine(List.perm_append_comm (l₁:=T) (l₂:=[y])).trans (List.Perm.cons y ?_);have p3:(T.take i++x::T.drop (i+1)).Perm (x::(T.take i++T.drop (i+1))):=List.perm_middle;rw[←e2]at p3;exact p3
 exact p1.trans ((List.Perm.swap y x _).trans p2.symm)
theorem FW(O:gZ){w:World}{rp d:Nat}{G L:List Nat}(hO:O.at_ w)(h:mH w rp G d L)(hd:2<=d/\d<=16)(hl:L.length<=65536)(x:Nat)(hxm:x∈L)(hn:L.Nodup)(hH:Hp O.R d L)
  (hdom:∀y,y∈L->O.dom y) (h16:∀y,y∈L->y<=65536) (hsep:∀z,z∈G->z∉O.rd) :
  Calls Tryz.prog 150 #[.pointer (some ⟨rp,0,none⟩),.iface O.ty (.pointer (some ⟨O.p,0,none⟩)),.int .i64 (x:Int)] w fun e w'=>e=.returned (.bool true)/\∃L',mH w' rp G d L'/\(x::L').Perm L/\Hp O.R d L'/\O.at_ w'/\aa (G++O.wr) w w':=by
 obtain⟨i,hi,hxi⟩:=List.mem_iff_getElem.1 hxm;have hx:L[i]?=some x:=by rw[ε hi,hxi]
 obtain⟨n,hln⟩:∃n,L.length=n+1:=⟨L.length-1,ω⟩;obtain⟨mb,g,cap,f,hM,hP,rfl⟩:=h.open ω;have c1:=hM.h1;have c2:=hM.h2;have hcp:=hM.row.cap;rw[dB]at hcp;have fr:=hM.head.free 1;have cl:=hM.cell n ω;have hfx:=Mw hP hx;have hmb:gN w mb f:=hM.map;have hxl:=h16 x hxm;have hlt:=hM.lt;have WL:=hM.sep;have hlast:L[n]?=some (L.getD n 0):=by simp[φ,hln]
 have hym:=List.mem_of_getElem? hlast;have hyl:=h16 _ hym;have VM:(L.take n).length=n:=ζ;rw[hln]at c1 hcp;have Oe:∀W f',IZ W g cap (bH L)->gN W mb f'->aL W rp 247 3 (fun j=>[Value.int .i64 (d:Int),.slice (some ⟨g,0,none⟩) n cap,.map (some mb)].getD j undef)->vw W rp mb g cap d f' (L.take n):=fun W f' h1 h2 h3=>
  ⟨by rw[VM];exact h3,by rw[Qi];exact h1.take n (by rw[dB];omega),h2,WL⟩
 have G7:aa [rp] w (w.setCell ⟨rp,1,none⟩ (.slice (some ⟨g,0,none⟩) n cap)):=β;have Fq:aL (w.setCell ⟨rp,1,none⟩ (.slice (some ⟨g,0,none⟩) n cap)) rp 247 3 (fun j=>[Value.int .i64 (d:Int),.slice (some ⟨g,0,none⟩) n cap,.map (some mb)].getD j undef):=
  (hM.head.set 1 _).ext (fun j hj=>by rcases(ω:j=0\/j=1\/j=2)with rfl|rfl|rfl<;>rfl)
 have hI1:=hM.row.upd G7 (by simp;exact fun e=>WL.2.1 e.symm);have hm1:=hM.map.upd G7 (by simp;exact fun e=>WL.1 e.symm);have QZ:=O.upd hO G7 (fun z hz=>by simp at hz;rw[hz];exact hsep rp σ);have HX:=χ (ψ hP (ψ hn (ψ hH (ψ hdom (ψ h16 (ψ hsep (ψ hx (ψ hln (ψ VM (ψ Oe (ψ G7 (ψ Fq (ψ hI1 (ψ QZ WL))))))))))))));have Y8:(i:Int)<(n:Int)+1:=ω;have hin:i<=n:=ω;clear hM hP hn hH hdom h16 hsep hO hx hxi VM Oe Fq hI1 QZ hlast hym;generalize hy:L.getD n 0=y at *;have HYy:=χ hy;have hwr:wrap64 ((n:Int)+1-1)=(n:Int):=by rw[show(n:Int)+1-1=n by omega];exact IntWalk.wrap64_in _ ω
 have hwr2:(n:Int)+1-1=(n:Int):=ω;have hnI:(n:Int)<(n:Int)+1:=ω;have hncI:(n:Int)<=(cap:Int):=ω;have hwr3:IntKind.i64.wrap (n:Int)=(n:Int):=IntWalk.i64_in _ ω;have hn0I:(0:Int)<=(n:Int):=ω;have HF:=χ (ψ hin hxm);clear hin
 go_enter Tryz.func150,Tryz.ntmps150
 go_upto_region 4 with(first
  | (at_lookup;refine mY rfl _ _ rfl mb f rfl hmb (x:Int) rfl ω ?_;rw[hfx];simp only[Option.getD_some,Option.isSome_some])
  | fail)
 go_quiet (fail)
 go_upto_region 5 with(fail)
 go_region_law (fail)
 all_goals
  go_upto_region 6 with(fail)
  refine jk (fun W=>aa [] (w.setCell ⟨rp,1,none⟩ (.slice (some ⟨g,0,none⟩) n cap)) W) ⟨rfl,rfl,rfl,Nat.le_refl _,fun _ _ _=>rfl⟩ ?_;intro W hW;obtain⟨hP,hn,hH,hdom,h16,hsep,hx,hln,VM,Oe,G7,Fq,hI1,QZ,WL⟩:=HX.out;have hmW:=hm1.upd hW σ;have hhW:=Fq.upd hW σ;have hIW:=hI1.upd hW σ;have Ym:=O.upd QZ hW σ;have c2W:=hhW.cellAt 2 (v:=.map (some mb)) ω rfl;have UL:aa [rp] w W:=G7.then hW;clear hm1 Fq hI1 QZ hW c1 c2 fr cl;have Z6:∀w3,gN w3 mb (OG f x)->aa [mb] W w3->vw w3 rp mb g cap d (OG f x) (L.take n)/\O.at_ w3:=fun w3 UC hu3=>
   ⟨Oe w3 _ (hIW.upd hu3 (by simp;exact fun e=>WL.2.2 e.symm)) UC (hhW.upd hu3 (by simp;exact WL.1)),O.upd Ym hu3 (fun z hz=>by simp at hz;rw[hz];exact hsep mb σ)⟩
  by_cases hin2:i=n
  ·have hyx:y=x:=by
    have h1:L[n]?=some y:=by rw[←HYy.out];simp[φ,hln]
    rw[←hin2,hx]at h1;cases h1;rfl
   have hyx2:((y:Int) == (x:Int))=true:=by simp[hyx]
   have HG:=χ (ψ hP (ψ hn (ψ hH (ψ Z6 (ψ UL (ψ hyx hln))))));clear hP hn hH hdom h16 hsep hx hln VM Oe G7 WL hhW hIW Ym Z6 UL hyx hin2
   go_upto_region 7 with(first
    | (at_delete;refine oM rfl _ _ rfl mb _ rfl hmW (x:Int) rfl ω ?_;intro w3 UC hu3)
    | fail)
   go_wp2;go_ret;obtain⟨hP,hn,hH,Z6,UL,hyx,hln⟩:=HG.out;obtain⟨hR3,hO3⟩:=Z6 w3 UC hu3;have hpl:=UW hP hln hn;rw[HYy.out,hyx]at hpl;refine⟨rfl,L.take n,hR3.at_ hpl,?_,hH.take hd.1,hO3,(UL.mono (fun z hz=>by simp at hz;simp[hz])).trans (hu3.mono (fun z hz=>by simp at hz;simp[hz]))⟩;have h0:=xC hln;rw[HYy.out,hyx]at h0
   conv=>rhs;rw[h0]
   exact(List.perm_append_comm (l₁:=L.take n) (l₂:=[x])).symm
  ·have hi2:i<n:=ω;have hyx:y≠x:=fun e=>by
    have h1:L[n]?=some y:=by rw[←HYy.out];simp[φ,hln]
    rw[e]at h1;obtain⟨g1,e1⟩:=List.getElem?_eq_some_iff.1 h1;obtain⟨g2,e2⟩:=List.getElem?_eq_some_iff.1 hx;exact hin2 ((List.getElem_inj hn).1 (e1.trans e2.symm)).symm
   have hyx2:((y:Int) == (x:Int))=false:=ζ;have PW:=PL hln hx hi2;have hgo:=We hP hln hx hi2 hn;rw[HYy.out]at PW hgo;have WQ:=(hH.take (n:=n) hd.1).hole O.tr hd.1 (i:=i) (by rw[VM];exact hi2);have hnd:=List.nodup_cons.1 (PW.nodup_iff.2 hn);have hdm:∀z,z∈(L.take n).set i y->O.dom z:=fun z hz=>hdom z (PW.mem_iff.1 (List.mem_cons_of_mem _ hz));have h6m:∀z,z∈(L.take n).set i y->z<=65536:=fun z hz=>h16 z (PW.mem_iff.1 (List.mem_cons_of_mem _ hz));have hsq:Nc O rp mb g:=⟨hsep rp σ,hsep mb σ,hsep g σ⟩;have ku:=fun w3 UC hu3=>Eg O (Z6 w3 UC hu3).2 (Z6 w3 UC hu3).1 hd ω i y WQ hgo hnd.2 hdm h6m hsq
   have hit:((L.take n).set i y)[i]?=some y:=by simp[VM,hi2]
   have hss:((L.take n).set i y).set i y=(L.take n).set i y:=by rw[List.set_set]
   have kd:=fun(w5:World) (f5:Int->Option Int) (BO:O.at_ w5) (Mt:vw w5 rp mb g cap d f5 ((L.take n).set i y)) (PR:vS f5 ((L.take n).set i y)) (hT:i=0\/O.R ((L.take n).getD (par d i) 0) y)=>
    OY O BO Mt hd (by rw[List.length_set,VM];omega) i y (WQ.any hd.1 y) (PR.hole hit) (by rw[hss];exact hnd.2) (fun z hz=>hdm z (by rw[←hss];exact hz)) (fun z hz=>h6m z (by rw[←hss];exact hz)) hsq
     (by rcases Nat.eq_zero_or_pos i with h|h;exact Or.inl h;rcases hT with e|e;exact Or.inl e;exact Or.inr (by have:=eY hd.1 h;rw[dH,if_neg ω];exact e))
   simp only[hss]at kd;have HG:=χ (ψ PW (ψ UL hnd));have hiI2:(i:Int)<(n:Int):=ω;clear hP hn hH hdom h16 hsep hx hln VM Oe G7 WL hhW hIW Ym Z6 UL hyx hin2 PW hgo WQ hnd hdm h6m hsq hit hss
   go_upto_region 9 with(first
    | (at_delete;refine oM rfl _ _ rfl mb _ rfl hmW (x:Int) rfl ω ?_;intro w3 UC hu3)
    | fail)
   have ku3:=ku w3 UC hu3;clear ku
   go_wp2_with (first
    | ((go_at_call 159;(with_reducible refine(ku3).mono ?_));rintro e w5 ⟨k,f',L',rfl,Mt,PR,SX,BO,bW,hk5,hH5⟩)
    | ((go_at_call 161;(have hki:k=i:=by have h:=(by assumption:((k:Int) == (i:Int))=true);simp at h;omega);(obtain⟨hL5,I1⟩:=hk5 hki);(rw[hL5]at Mt PR);(refine(kd w5 f' BO Mt PR I1).mono ?_));rintro e w6 ⟨f6,L6,rfl,YL,hP6,hpr6,hO6,ik,hH6⟩)
    | fail)
   all_goals
    go_ret;obtain⟨PW,UL,hnd⟩:=HG.out;have Fg:aa (rp::mb::g::O.wr) w w5:=((UL.mono (fun z hz=>by simp at hz;simp[hz])).trans (hu3.mono (fun z hz=>by simp at hz;simp[hz]))).trans (bW.mono (fun z hz=>by simp only[ρ]at hz⊢;rcases hz with h|h|h;exact Or.inr (Or.inr (Or.inl h));exact Or.inr (Or.inl h);exact Or.inr (Or.inr (Or.inr h))))
    first
     | (refine⟨rfl,L6,YL.at_ hP6,(hpr6.cons x).trans PW,hH6,hO6,Fg.trans (ik.mono (fun z hz=>by simp only[ρ]at hz⊢;rcases hz with h|h|h;exact Or.inr (Or.inr (Or.inl h));exact Or.inr (Or.inl h);exact Or.inr (Or.inr (Or.inr h))))⟩)
     | (refine⟨rfl,L',Mt.at_ PR,(SX.cons x).trans PW,hH5 (Or.inl (by have h:=(by assumption:((k:Int) == (i:Int))=false);simp at h;omega)),BO,Fg⟩)
theorem Fe(p c:Nat):∀W:World,W.cell? ⟨p,0,none⟩=some (.pointer (some ⟨c,0,none⟩))->(method 429 170 (.pointer (some ⟨p,0,none⟩)) "Ahead").run Tryz.prog W=.ok (174,.pointer (some ⟨c,0,none⟩)) W:=(by intro W h;unfold method;have hm:∃m,(Array.find? (fun x=>x.name == "Ahead") Tryz.t170.methods)=some m/\m.path.toList=[⟨207,0,true⟩]/\m.func=some (174,true)/\m.path.isEmpty=false:=⟨(Array.find? (fun x=>x.name == "Ahead") Tryz.t170.methods).get!,by kernel_rfl,by kernel_rfl,by kernel_rfl,by kernel_rfl⟩;obtain⟨m,h1,h2,h3,h4⟩:=hm;go_simp;simp only[follow,Place.get];go_simp;(try unfold receiverAt);(try simp only[Place.get]);(try go_simp))
theorem DK(p:Nat):∀W:World,(nilAhead 429 170 (.pointer (some ⟨p,0,none⟩)) "Ahead").run Tryz.prog W=.ok (some false) W:=fun W=>by kernel_rfl
structure DB where
 n0:Nat
 c:Nat
 d:Nat
def rowK(d:Nat):RwK:=⟨fun w p G L=>mH w p G d L,fun h hu hS=>h.upd hu hS,fun h=>h.lt⟩
def nD(A:NS)(h:Nat):Bool:=bJ A (h:Int)
structure wM(w:World)(B:DB)(F Z:List Nat)(gr cr:Nat)(A:NS)(st:Nat)(ptr:Nat->Option Nat)(G L:Nat->List Nat):Prop where
 head:aL w B.n0 207 3 (fun j=>[Value.pointer (some ⟨B.c,0,none⟩),.int .i64 (B.d:Int),.slice (some ⟨gr,0,none⟩) A.hs.length cr].getD j undef)
 cells:aF w B.c F A st
 lL:vJ (rowK B.d) 202 w gr cr A.hs.length (nD A) Z ptr G L
 bG:B.n0∉F/\gr∉F/\B.n0≠gr
 lC:∀z,z∈Z->z∉F/\z≠B.n0
 dd:2<=B.d/\B.d<=16
def DB.blk(B:DB)(F Z:List Nat)(gr:Nat):List Nat:=B.n0::gr::(F++Z)
section
variable {w:World}{B:DB}{F Z:List Nat}{gr cr st:Nat}{A:NS}{ptr:Nat->Option Nat}{G L:Nat->List Nat}
theorem wM.upd{w':World}{S:List Nat}(h:wM w B F Z gr cr A st ptr G L)(hu:aa S w w')(hS:∀x,x∈S->x∉B.blk F Z gr):wM w' B F Z gr cr A st ptr G L:=by
 have h1:∀x,x∈B.blk F Z gr->x∉S:=fun x hx hg=>hS x hg hx;exact⟨h.head.upd hu (h1 _ (by simp[DB.blk])),h.cells.upd hu (fun x hx hm=>hS x hx (by simp[DB.blk,hm])),h.lL.upd hu (fun z hz=>⟨fun e=>hS z hz (by simp[DB.blk,e]),fun e=>hS z hz (by simp[DB.blk,e])⟩),h.bG,h.lC,h.dd⟩
theorem wM.au{w':World}(h:wM w B F Z gr cr A st ptr G L)(hu:aa [] w w'):wM w' B F Z gr cr A st ptr G L:=h.upd hu σ
theorem wM.lt(h:wM w B F Z gr cr A st ptr G L):∀x,x∈B.blk F Z gr->x<w.heap.size:=by
 intro x hx;simp only[DB.blk,ρ,τ]at hx;rcases hx with rfl|rfl|hx|hx
 ·exact h.head.lt
 ·exact h.lL.lt
 ·exact h.cells.lt x hx
 ·exact h.lL.KG x hx
theorem wM.h0(h:wM w B F Z gr cr A st ptr G L):w.cell? ⟨B.n0,0,none⟩=some (.pointer (some ⟨B.c,0,none⟩)):=h.head.cellAt 0 ω rfl
theorem wM.h1(h:wM w B F Z gr cr A st ptr G L):w.cell? ⟨B.n0,1,none⟩=some (.int .i64 (B.d:Int)):=h.head.cellAt 1 ω rfl
theorem wM.h2(h:wM w B F Z gr cr A st ptr G L):w.cell? ⟨B.n0,2,none⟩=some (.slice (some ⟨gr,0,none⟩) A.hs.length cr):=h.head.cellAt 2 ω rfl
theorem wM.cB{w':World}{F':List Nat}{A':NS}{st':Nat}(h:wM w B F Z gr cr A st ptr G L)(hu:aa F w w')(hC:aF w' B.c F' A' st')(hF:∀x,x∈F'->x∈F\/w.heap.size<=x)(h2:A'.hs=A.hs):wM w' B F' Z gr cr A' st' ptr G L:=by
 have f:=h.bG;have g:=h.lt;have hf:∀x,x<w.heap.size->x∉F->x∉F':=fun x hx hn hm=>by rcases hF x hm with h'|h';exact hn h';omega
 have l0:=g B.n0 (by simp[DB.blk]);have l1:=g gr (by simp[DB.blk]);have hh:nD A'=nD A:=funext fun k=>by unfold nD bJ;rw[h2]
 exact⟨by rw[h2];exact h.head.upd hu f.1,hC,by rw[h2,hh];exact h.lL.upd hu (fun z hz=>⟨fun e=>f.2.1 (by rw[←e];exact hz),fun hm=>(h.lC z hm).1 hz⟩),⟨hf _ l0 f.1,hf _ l1 f.2.1,f.2.2⟩,fun z hz=>⟨hf z (h.lL.KG z hz) (h.lC z hz).1,(h.lC z hz).2⟩,h.dd⟩
def Vd(B:DB)(F:List Nat)(A:NS)(hc:B.c∈F):gZ where
 ty:=170
 p:=B.n0
 rd:=B.n0::F
 wr:=[B.c]
 lt:=fun a b=>decide (bZ A a b)
 dom:=fun x=>bS A (x:Int)=true
 at_:=fun w=>w.cell? ⟨B.n0,0,none⟩=some (.pointer (some ⟨B.c,0,none⟩))/\B.n0∉F/\∃st,aF w B.c F A st
 sub:=fun x hx=>by simp at hx;rw[hx];exact List.mem_cons_of_mem _ hc
 low:=fun h x hx=>by
  obtain⟨h1,h3,st,h2⟩:=h;rcases ρ.1 hx with e|e
  ·rw[e];exact World.block_lt_of_cell? _ _ h1
  ·exact h2.lt x e
 upd:=fun h hu hS=>by
  obtain⟨h1,h3,st,h2⟩:=h;exact⟨hu.kept h1 (fun hm=>hS _ hm σ),h3,st,h2.upd hu (fun x hx hm=>hS x hx (by simp[hm]))⟩
 trans:=fun a b c h1 h2=>decide_eq_true (bV (of_decide_eq_true h1) (of_decide_eq_true h2))
 total:=fun a b h=>by rcases je (A:=A) h with h|h;exact Or.inl (decide_eq_true h);exact Or.inr (decide_eq_true h)
 asym:=fun a b h=>decide_eq_false (qy (of_decide_eq_true h))
 fn:=174
 recv:=.pointer (some ⟨B.c,0,none⟩)
 ent:=fun _ _=>by kernel_rfl
 Wy:=fun h=>Fe _ _ _ h.1
 WI:=DK _
 ask:=fun {w} x y h hx hy=>by
  obtain⟨h1,h3,st,h2⟩:=h;refine(fA h2 x y hx hy).mono ?_;rintro e w' ⟨rfl,hC,hu⟩;exact⟨rfl,⟨hu.kept h1 (fun hm=>h3 (by simp at hm;rw[hm];exact h2.mem)),h3,_,hC⟩,hu⟩
theorem wM.ord(h:wM w B F Z gr cr A st ptr G L):(Vd B F A h.cells.mem).at_ w:=⟨h.h0,h.bG.1,st,h.cells⟩
end
def nZ(w:World)(B:DB)(F Z:List Nat)(gr:Nat)(A:NS)(st:Nat):Prop:=∃cr ptr G L,wM w B F Z gr cr A st ptr G L/\ry B.d A L
section
variable {w:World}{B:DB}{F Z:List Nat}{gr st:Nat}{A:NS}
theorem nZ.upd{w':World}{S:List Nat}(h:nZ w B F Z gr A st)(hu:aa S w w')(hS:∀x,x∈S->x∉B.blk F Z gr):nZ w' B F Z gr A st:=by
 obtain⟨cr,ptr,G,L,hM,hI⟩:=h;exact⟨cr,ptr,G,L,hM.upd hu hS,hI⟩
theorem nZ.au{w':World}(h:nZ w B F Z gr A st)(hu:aa [] w w'):nZ w' B F Z gr A st:=h.upd hu σ
theorem G5(h:nZ w B F Z gr A st)(g:Nat)(hn:bJ A g=true) :
  Calls Tryz.prog 145 #[.pointer (some ⟨B.n0,0,none⟩),.int .i64 (g:Int)] w fun e w'=>e=.returned (.tuple #[.int .i64 (qh (dL A g)),.bool (dL A g).isSome])/\w'=w:=by
 obtain⟨cr,ptr,G,L,hM,hI⟩:=h;have k:=jN hM.cells g;rw[hn]at k;have h0:=hM.h0;have h2:=hM.h2;obtain⟨rp,hp,hR⟩:=hM.lL.row g hn;have hg:=(aV _ _).1 hn;have hc:=hM.lL.cell ω hp;have TB:(g:Int)<(A.hs.length:Int):=ω;have hR':mH w rp (G g) B.d (L g):=hR;cases hl:L g with
 | nil=>
  rw[hl]at hR';have ka:=Rk hR';rw[hI.none hn hl];clear hM hI hn hR hR' hp hl
  go_enter Tryz.func145,Tryz.ntmps145
  go_wp2_with (first|(go_at_call 139;(with_reducible refine(k).mono ?_);rintro e w9 ⟨rfl,aJ⟩;rw[aJ];clear aJ w9)|(go_at_call 157;(with_reducible refine(ka).mono ?_);rintro e w9 ⟨rfl,aJ⟩;rw[aJ];clear aJ w9))
  go_ret2;exact⟨rfl,rfl⟩
 | cons m l=>
  rw[hl]at hR';have ka:=Sc hR';rw[hI.first hM.dd.1 hn hl];clear hM hI hn hR hR' hp hl
  go_enter Tryz.func145,Tryz.ntmps145
  go_wp2_with (first|(go_at_call 139;(with_reducible refine(k).mono ?_);rintro e w9 ⟨rfl,aJ⟩;rw[aJ];clear aJ w9)|(go_at_call 157;(with_reducible refine(ka).mono ?_);rintro e w9 ⟨rfl,aJ⟩;rw[aJ];clear aJ w9))
  go_ret2;exact⟨rfl,rfl⟩
end
def abB(B:HB)(w:World)(rp:Nat)(G L:List Nat):Prop:=∃v,aL w rp 321 2 (Sr B v)/\w.ownsRow 0 3 1 v L.length (aQ (bH L))/\G=rp::v.ownBlock.toList/\∀g,v.ownBlock=some g->g≠rp
def pilK(B:HB):RwK:=⟨abB B,fun h hu hS=>by
 obtain⟨v,h1,h2,rfl,h3⟩:=h;exact⟨v,h1.upd hu (fun hm=>hS _ hm σ),aC h2 hu (fun k hk hm=>hS k hm (List.mem_cons_of_mem _ (Option.mem_toList.2 hk))),rfl,h3⟩,fun h=>by
 obtain⟨v,h1,h2,rfl,h3⟩:=h;intro z hz;rcases ρ.1 hz with e|e
 ·rw[e];exact h1.lt
 ·exact(h2.lt z (Option.mem_toList.1 e)).2⟩
structure ShM(w:World)(B:HB)(F Z:List Nat)(gr cr:Nat)(A:NS)(st:Nat)(ptr:Nat->Option Nat)(G L:Nat->List Nat)(T:List Nat):Prop where
 head:aL w B.n0 237 3 (fun j=>[Value.pointer (some ⟨B.c,0,none⟩),.slice (some ⟨gr,0,none⟩) A.hs.length cr,.slice (some ⟨B.ga,0,none⟩) T.length T.length].getD j undef)
 cells:aF w B.c F A st
 lL:vJ (pilK B) 317 w gr cr A.hs.length (nD A) Z ptr G L
 Bu:IZ w B.ga T.length (bH T)
 tl:T.length=A.cs.length
 bG:B.n0∉F/\gr∉F/\B.ga∉F
 sep:B.n0≠gr/\B.ga≠B.n0/\B.ga≠gr
 lC:∀z,z∈Z->z∉F/\z≠B.n0/\z≠B.ga
def HB.blk(B:HB)(F Z:List Nat)(gr:Nat):List Nat:=B.n0::gr::B.ga::(F++Z)
structure SdI(A:NS)(L:Nat->List Nat)(T:List Nat):Prop where
 di:ry 2 A L
 Bz:∀h:Nat,bJ A h=true->∀j x,(L h)[j]?=some x->T.getD x 0=j
section
variable {w w':World}{B:HB}{F Z:List Nat}{gr cr st:Nat}{A:NS}{ptr:Nat->Option Nat}{G L:Nat->List Nat}{T:List Nat}
theorem ShM.upd{S:List Nat}(h:ShM w B F Z gr cr A st ptr G L T)(hu:aa S w w')(hS:∀x,x∈S->x∉B.blk F Z gr):ShM w' B F Z gr cr A st ptr G L T:=by
 have h1:∀x,x∈B.blk F Z gr->x∉S:=fun x hx hg=>hS x hg hx;exact⟨h.head.upd hu (h1 _ (by simp[HB.blk])),h.cells.upd hu (fun x hx hm=>hS x hx (by simp[HB.blk,hm])),h.lL.upd hu (fun z hz=>⟨fun e=>hS z hz (by simp[HB.blk,e]),fun e=>hS z hz (by simp[HB.blk,e])⟩),h.Bu.upd hu (h1 _ (by simp[HB.blk])),h.tl,h.bG,h.sep,h.lC⟩
theorem ShM.au(h:ShM w B F Z gr cr A st ptr G L T)(hu:aa [] w w'):ShM w' B F Z gr cr A st ptr G L T:=h.upd hu σ
theorem ShM.lt(h:ShM w B F Z gr cr A st ptr G L T):∀x,x∈B.blk F Z gr->x<w.heap.size:=by
 intro x hx;simp only[HB.blk,ρ,τ]at hx;rcases hx with rfl|rfl|rfl|hx|hx
 ·exact h.head.lt
 ·exact h.lL.lt
 ·exact h.Bu.lt
 ·exact h.cells.lt x hx
 ·exact h.lL.KG x hx
theorem ShM.h0(h:ShM w B F Z gr cr A st ptr G L T):w.cell? ⟨B.n0,0,none⟩=some (.pointer (some ⟨B.c,0,none⟩)):=h.head.cellAt 0 ω rfl
theorem ShM.h1(h:ShM w B F Z gr cr A st ptr G L T):w.cell? ⟨B.n0,1,none⟩=some (.slice (some ⟨gr,0,none⟩) A.hs.length cr):=h.head.cellAt 1 ω rfl
theorem ShM.h2(h:ShM w B F Z gr cr A st ptr G L T):w.cell? ⟨B.n0,2,none⟩=some (.slice (some ⟨B.ga,0,none⟩) T.length T.length):=h.head.cellAt 2 ω rfl
theorem ShM.H9(h:ShM w B F Z gr cr A st ptr G L T)(j:Nat)(hj:j<T.length):w.cell? ⟨B.ga,j,none⟩=some (.int .i64 ((T.getD j 0:Nat):Int)):=by
 have:=h.Bu.cell j (by rw[dB];exact hj);rwa[tH]at this
theorem ShM.cB{F':List Nat}{A':NS}{st':Nat}(h:ShM w B F Z gr cr A st ptr G L T)(hu:aa F w w')(hC:aF w' B.c F' A' st')(hF:∀x,x∈F'->x∈F\/w.heap.size<=x)(h2:A'.hs=A.hs)(h3:A'.cs.length=A.cs.length):ShM w' B F' Z gr cr A' st' ptr G L T:=by
 have f:=h.bG;have g:=h.lt;have hf:∀x,x<w.heap.size->x∉F->x∉F':=fun x hx hn hm=>by rcases hF x hm with h'|h';exact hn h';omega
 have l0:=g B.n0 (by simp[HB.blk]);have l1:=g gr (by simp[HB.blk]);have l2:=g B.ga (by simp[HB.blk]);have hh:nD A'=nD A:=funext fun k=>by unfold nD bJ;rw[h2]
 exact⟨by rw[h2];exact h.head.upd hu f.1,hC,by rw[h2,hh];exact h.lL.upd hu (fun z hz=>⟨fun e=>f.2.1 (by rw[←e];exact hz),fun hm=>(h.lC z hm).1 hz⟩),h.Bu.upd hu f.2.2,by rw[h3];exact h.tl,⟨hf _ l0 f.1,hf _ l1 f.2.1,hf _ l2 f.2.2⟩,h.sep,fun z hz=>⟨hf z (h.lL.KG z hz) (h.lC z hz).1,(h.lC z hz).2⟩⟩
theorem ShM.pile(h:ShM w B F Z gr cr A st ptr G L T){g:Nat}(hg:bJ A g=true)(hd:∀y,y∈L g->bS A (y:Int)=true/\y<T.length)(hn:(L g).Nodup)(hpl:∀j x,(L g)[j]?=some x->T.getD x 0=j) :
  ∃rp v,ptr g=some rp/\G g=rp::v.ownBlock.toList/\DZ w B F A rp v (L g) T:=by
 obtain⟨rp,hp,v,h1,h2,h3,h4⟩:=h.lL.row g hg;have hz:∀z,z∈rp::v.ownBlock.toList->z∈Z:=fun z hz=>h.lL.yT g hg z (by rw[h3];exact hz);have hr:=h.lC rp (hz rp σ);have hok:=h.cells.ok.c1;refine⟨rp,v,hp,h3,h1,h2,h.Bu,h.h0,h.h2,⟨st,h.cells⟩,⟨hr.2.2,hr.2.1⟩,fun k hk=>?_,h.sep.2.1,⟨hr.1,h.bG.2.2,h.bG.1⟩,hd,hn,hpl,by rw[h.tl];exact hok⟩;have hk':=h.lC k (hz k (List.mem_cons_of_mem _ (Option.mem_toList.2 hk)));exact⟨h4 k hk,hk'.2.2,hk'.2.1,hk'.1⟩
theorem ShM.Bc(h:ShM w B F Z gr cr A st ptr G L T){g rp:Nat}(hg:bJ A g=true)(hp:ptr g=some rp){v':Value}{L' T' S:List Nat}(hu:aa S w w')(hS:∀z,z∈S->z∈G g\/z=B.ga\/z=B.c)(hr:rp∈G g)(hP:DZ w' B F A rp v' L' T')(hl:T'.length=T.length)(hG:∀k,v'.ownBlock=some k->k∈G g\/w.heap.size<=k) :
  ∃st',ShM w' B F (Z++(rp::v'.ownBlock.toList)) gr cr A st' ptr (jW G g (rp::v'.ownBlock.toList)) (jW L g L') T':=by
 have qz:=h.cells.mem;have hsl:=h.lt;obtain⟨st',hC⟩:=hP.O9;have hnc:B.n0≠B.c:=fun e=>h.bG.1 (by rw[e];exact qz);have hSn:B.n0∉S:=fun hm=>by
  rcases hS _ hm with e|e|e
  ·exact(h.lC _ (h.lL.yT g hg _ e)).2.1 rfl
  ·exact h.sep.2.1 e.symm
  ·exact hnc e
 have TF:∀z,z∈rp::v'.ownBlock.toList->z∈G g\/w.heap.size<=z:=fun z hz=>by
  rcases ρ.1 hz with e|e
  ·rw[e];exact Or.inl hr
  ·exact hG z (Option.mem_toList.1 e)
 refine⟨st',⟨?_,hC,h.lL.one hg hp hu (fun z hz=>?_) ⟨v',hP.hd,hP.own,rfl,fun k hk=>(hP.sg k hk).1⟩ TF,hP.Bu,by rw[hl];exact h.tl,h.bG,h.sep,fun z hz=>?_⟩⟩
 ·rw[hl];exact h.head.upd hu hSn
 ·rcases hS z hz with e|e|e
  ·exact Or.inl e
  ·rw[e];exact Or.inr ⟨h.sep.2.2,fun hm=>(h.lC _ hm).2.2 rfl⟩
  ·rw[e];exact Or.inr ⟨fun e2=>h.bG.2.1 (by rw[←e2];exact qz),fun hm=>(h.lC _ hm).1 qz⟩
 ·rcases τ.1 hz with e|e
  ·exact h.lC z e
  ·rcases TF z e with e2|e2
   ·exact h.lC z (h.lL.yT g hg z e2)
   ·exact⟨fun hm=>by have:=hsl z (by simp[HB.blk,hm]);omega,fun e3=>by have:=hsl B.n0 (by simp[HB.blk]);omega,fun e3=>by have:=hsl B.ga (by simp[HB.blk]);omega⟩
end
def ShAt(w:World)(B:HB)(F Z:List Nat)(gr:Nat)(A:NS)(st:Nat):Prop:=∃cr ptr G L T,ShM w B F Z gr cr A st ptr G L T/\SdI A L T
section
variable {w:World}{B:HB}{F Z:List Nat}{gr st:Nat}{A:NS}
theorem ShAt.upd{w':World}{S:List Nat}(h:ShAt w B F Z gr A st)(hu:aa S w w')(hS:∀x,x∈S->x∉B.blk F Z gr):ShAt w' B F Z gr A st:=by
 obtain⟨cr,ptr,G,L,T,hM,hI⟩:=h;exact⟨cr,ptr,G,L,T,hM.upd hu hS,hI⟩
theorem ShAt.au{w':World}(h:ShAt w B F Z gr A st)(hu:aa [] w w'):ShAt w' B F Z gr A st:=h.upd hu σ
theorem Dm(h:ShAt w B F Z gr A st)(g:Nat)(hn:bJ A g=true) :
  Calls Tryz.prog 276 #[.pointer (some ⟨B.n0,0,none⟩),.int .i64 (g:Int)] w fun e w'=>e=.returned (.tuple #[.int .i64 (qh (dL A g)),.bool (dL A g).isSome])/\w'=w:=by
 obtain⟨cr,ptr,G,L,T,hM,hI⟩:=h;have hg:=(aV _ _).1 hn;have hok:=hM.cells.ok;have h1:=hok.h1;have k:=pV hM.cells (g:Int) ω;have h0:=hM.h0;have h2:=hM.h1;obtain⟨rp,hp,v,r1,r2,r3,r4⟩:=hM.lL.row g hn;have hc:=hM.lL.cell ω hp;have TB:(g:Int)<(A.hs.length:Int):=ω;cases hl:L g with
 | nil=>
  have Oh:=hI.di.none hn hl;have hz:=(jQ (A:=A) (h:=(g:Int)) ω).1 Oh;rw[Oh];rw[hz]at k;clear hM hI hn r1 r2 r3 r4 hp hl Oh hz hok
  go_enter Tryz.func276,Tryz.ntmps276
  go_wp2_with (first|(go_at_call 142;(with_reducible refine(k).mono ?_);rintro e w9 ⟨rfl,aJ⟩;rw[aJ];clear aJ w9)|fail)
  go_ret2;exact⟨rfl,rfl⟩
 | cons m l=>
  have Oh:=hI.di.first ω hn hl;have hz:¬dO A (g:Int)=0:=fun e=>by
   have:=(jQ (A:=A) (h:=(g:Int)) ω).2 e;rw[Oh]at this;cases this
  have hle:=D7 hok (g:Int);rw[Oh];rw[hl]at r2;obtain⟨gs,cap,rfl,_,hgl,hcc,hcap,hcell, -⟩:=gJ r2 σ;have c1:w.cell? ⟨rp,1,none⟩=some (.slice (some ⟨gs,0,none⟩) (m::l).length cap):=r1.cellAt 1 ω rfl;have c2:w.cell? ⟨gs,0,none⟩=some (.int .i64 (m:Int)):=hcell 0 _ rfl;have hzb:((dO A (g:Int):Int) == 0)=false:=ι;have hlp:(0:Int)<((m::l).length:Int):=ι;clear hM hI hn r1 r2 r3 r4 hp hl Oh hcell hok hz;generalize dO A (g:Int)=ln at *;generalize (m::l).length=nl at *
  go_enter Tryz.func276,Tryz.ntmps276
  go_wp2_with (first|(go_at_call 142;(with_reducible refine(k).mono ?_);rintro e w9 ⟨rfl,aJ⟩;rw[aJ];clear aJ w9)|fail)
  go_ret2;exact⟨rfl,rfl⟩
end
theorem Nr:(Tryz.prog.info? 202).map (fun i=>(i.zero,i.size,i.bytes))=some (some (.pointer none),1,8):=by kernel_rfl
theorem nV(n h:Nat):nD (NS.new n) h=false:=by
 unfold nD;cases hh:bJ (NS.new n) (h:Int)with
 | false=>rfl
 | true=>have:=(aV _ _).1 hh;simp[NS.new]at this;omega
theorem Q4(n d:Nat)(w:World)(h:n<=65536)(hd:2<=d/\d<=16) :
  Calls Tryz.prog 91 #[.int .i64 (n:Int),.int .i64 (d:Int)] w fun e w'=>∃B F gr,e=.returned (.tuple #[.pointer (some ⟨B.n0,0,none⟩),.int .i64 0])/\nZ w' B F [] gr (NS.new n) 0/\aa [] w w'/\(∀x,x∈B.blk F [] gr->w.heap.size<=x)/\B.d=d:=by
 go_enter Tryz.func91,Tryz.ntmps91
 go_wp2_with (first
  | ((go_at_call 107;(with_reducible refine(oo n _ h).mono ?_));rintro e w1 ⟨c,F,rfl,hC,hu1,hF⟩)
  | ((go_at_call 108;(with_reducible refine(Iz d hd _).mono ?_));rintro e w2 ⟨rp,G,rfl,hR,hu2,hG⟩)
  | fail)
 go_ret2;have l1:=hu1.size;have l2:=hu2.size;have l7:=hC.lt;have e3:((w2.alloc (.cells #[.pointer none] 202)).heap.size)=w2.heap.size+1:=by rw[World.size_alloc]
 have hh:=dP (w2.alloc (.cells #[.pointer none] 202)) [.pointer (some ⟨c,0,none⟩),.int .i64 (d:Int),.slice (some ⟨w2.heap.size,0,none⟩) 1 1] 207;rw[e3]at hh;have hv:aa [] w2 (w2.alloc (.cells #[.pointer none] 202)):=(aa.refl _ _).alloc _;have hv2:aa [] (w2.alloc (.cells #[.pointer none] 202)) ((w2.alloc (.cells #[.pointer none] 202)).alloc (.cells #[.pointer (some ⟨c,0,none⟩),.int .i64 (d:Int),.slice (some ⟨w2.heap.size,0,none⟩) 1 1] 207)):=(aa.refl _ _).alloc _
 have hw:aa [] w2 ((w2.alloc (.cells #[.pointer none] 202)).alloc (.cells #[.pointer (some ⟨c,0,none⟩),.int .i64 (d:Int),.slice (some ⟨w2.heap.size,0,none⟩) 1 1] 207)):=hv.trans hv2;have ho:=nE w2 [.pointer none] 202 0 1 1 rfl ω μ;have hnF:∀x,w1.heap.size<=x->x∉F:=fun x hx hm=>by have:=l7 x hm;omega
 refine⟨⟨w2.heap.size+1,c,d⟩,F,w2.heap.size,rfl,⟨1,fun _=>none,fun _=>[],fun _=>[],⟨hh,(hC.au hu2).au hw,⟨?_,fun k hk=>?_,fun k hk=>?_,fun k j hk=>?_,fun z hz=>by simp at hz,σ⟩,⟨hnF _ (by first|omega|(simp only;omega)),hnF _ ω,σ⟩,fun z hz=>by simp at hz,hd⟩,⟨fun k hk=>?_,fun k hk=>?_,fun k x hk=>?_⟩⟩,(hu1.trans hu2).trans hw,fun x hx=>?_,rfl⟩
 ·exact aC ho hv2 σ
 ·rw[nV]at hk;cases hk
 ·rw[nV]at hk;cases hk
 ·rw[nV]at hk;cases hk
 ·have:=nV n k;unfold nD at this;rw[this]at hk;cases hk
 ·have:=nV n k;unfold nD at this;rw[this]at hk;cases hk
 ·have:=nV n k;unfold nD at this;rw[this]at hk;cases hk
 ·simp only[DB.blk,ρ,List.append_nil]at hx;rcases hx with rfl|rfl|hx
  ·omega
  ·omega
  ·exact hF x hx
section
variable {w:World}{B:DB}{F Z:List Nat}{gr st:Nat}{A:NS}
theorem QR(h:nZ w B F Z gr A st)(hl:65536<A.hs.length) :
  Calls Tryz.prog 143 #[.pointer (some ⟨B.n0,0,none⟩)] w fun e w'=>e=.returned (.int .i64 0)/\Goes (B.blk F Z gr) w w' (fun F'=>∃F1,F'=B.blk F1 Z gr/\nZ w' B F1 Z gr A st):=by
 obtain⟨cr,ptr,G,L,hM,hI⟩:=h;have k:=iR hM.cells;have e1:dm A=0:=by unfold dm;rw[if_pos hl]
 have e2:aR A=A:=by unfold aR;rw[if_pos hl]
 rw[e1,e2]at k;have h0:=hM.h0;have HM:=χ (ψ hM hI);clear hM hI e1 e2
 go_enter Tryz.func143,Tryz.ntmps143
 go_wp2_with (first|((go_at_call 156;(with_reducible refine(k).mono ?_));rintro e w1 ⟨rfl,F1,hC,hu,hF⟩))
 go_ret;refine⟨rfl,B.blk F1 Z gr,⟨F1,rfl,cr,ptr,G,L,HM.out.1.cB hu hC hF rfl,HM.out.2⟩,hu.mono (fun y hy=>by simp[DB.blk,hy]),fun x hx=>?_⟩;simp only[DB.blk,ρ,τ]at hx⊢;rcases hx with rfl|rfl|hx|hx
 ·simp
 ·simp
 ·rcases hF x hx with h|h
  ·simp[h]
  ·exact Or.inr h
 ·simp[hx]
theorem MW(h:nZ w B F Z gr A st)(hl:¬65536<A.hs.length) :
  Calls Tryz.prog 143 #[.pointer (some ⟨B.n0,0,none⟩)] w fun e w'=>e=.returned (.int .i64 (A.hs.length:Int))/\Goes (B.blk F Z gr) w w' (fun F'=>∃F1 Z1 Fw,F'=B.blk F1 Z1 Fw/\nZ w' B F1 Z1 Fw (aR A) st):=by
 obtain⟨cr,ptr,G,L,hM,hI⟩:=h;have k:=iR hM.cells;have e1:dm A=A.hs.length:=by unfold dm;rw[if_neg hl]
 rw[e1]at k;have lT:(aR A).hs.length=A.hs.length+1:=by unfold aR;rw[if_neg hl];simp
 have hh0:=hM.cells.ok.h0;have hI2:=hI.make hM.dd.1 hM.cells.ok hl ω;have h0:=hM.h0;have kr:=fun W=>Iz B.d hM.dd W;have HM:=χ (ψ hM (ψ hI2 lT));clear hM hI e1 hI2 lT;generalize hm:A.hs.length=m at *;have GY:=χ hm;clear hm
 go_enter Tryz.func143,Tryz.ntmps143
 go_wp2_with (first
  | ((go_at_call 156;(with_reducible refine(k).mono ?_));rintro e w1 ⟨rfl,F1,hC,hu,hF⟩;(have q1:=hu.kept HM.out.1.h1 HM.out.1.bG.1);(have q2:=hu.kept HM.out.1.h2 HM.out.1.bG.1);(have f2:=hu.aS HM.out.1.h2 HM.out.1.bG.1 (HM.out.1.head.free 2));(have ho1:=aC HM.out.1.lL.rows hu (fun k hk hm=>by cases hk;exact HM.out.1.bG.2.1 hm));(rw[GY.out]at q2 ho1))
  | ((go_at_call 108;(with_reducible refine(kr _).mono ?_));rintro e w2 ⟨rp,G2,rfl,hR,hu2,hG2⟩;(have q3:=hu2.was q2);(have f3:=hu2.aS q2 σ f2);(have ho2:=aC ho1 hu2 σ))
  | (at_builtin;refine aX rfl _ _ 205 rfl 0 202 (.pointer none) 1 8 Tryz.underlying205 Nr rfl δ _ _ _ rfl (ho2) [BK (some rp)] rfl (by simp[Value.oneCell',BK]) (by first|rfl|(rw[World.size_alloc];rfl)) μ ω ω ?_;intro v3 w3 ho3 hu3 Gw;(have hu3:aa [gr] w2 w3:=hu3);obtain⟨g3,c3,ev, -⟩:=gJ ho3 ω;subst ev;(have d4:=hu3.kept q3 (by simp;exact HM.out.1.bG.2.2));(have f4:=hu3.aS q3 (by simp;exact HM.out.1.bG.2.2) f3))
  | fail)
 go_ret;obtain⟨hM,hI2,lT⟩:=HM.out;have hlt:=hM.lt;have l0:=hlt B.n0 (by simp[DB.blk]);have l1:=hlt gr (by simp[DB.blk]);have hs1:=hu.size;have hs2:=hu2.size;have hs3:=hu3.size;have jr:=hC.lt;have hg3:g3=gr\/w2.heap.size<g3:=by
  rcases Gw with h|h
  ·exact Or.inl (Option.some.inj h)
  ·exact Or.inr (h g3 rfl)
 have hw4:aa [B.n0] w3 (w3.setCell ⟨B.n0,2,none⟩ (.slice (some ⟨g3,0,none⟩) (m+1) c3)):=β;have hnF:∀y,y<w.heap.size->y∉F->y∉F1:=fun y hy hn hm=>by rcases hF y hm with h'|h';exact hn h';omega
 have Kl:B.n0≠g3:=by have:=hM.bG.2.2;omega
 have Zt:g3∉F1:=by
  rcases hg3 with e|e
  ·rw[e];exact hnF gr l1 hM.bG.2.1
  ·exact fun hm=>by have:=jr g3 hm;omega
 have SV:∀z,z∈F1->z≠gr/\z≠B.n0:=fun z hz=>⟨fun e=>hnF gr l1 hM.bG.2.1 (by rw[←e];exact hz),fun e=>hnF _ l0 hM.bG.1 (by rw[←e];exact hz)⟩
 have hG2l:=hR.lt;have hRk:(rowK B.d).at_ (w3.setCell ⟨B.n0,2,none⟩ (.slice (some ⟨g3,0,none⟩) (m+1) c3)) rp G2 []:=(hR.upd hu3 (fun z hz hm=>by simp at hz;have:=hG2 z hm;omega)).upd hw4 (fun z hz hm=>by simp at hz;have:=hG2 z hm;omega);have huA:aa (B.n0::gr::F) w (w3.setCell ⟨B.n0,2,none⟩ (.slice (some ⟨g3,0,none⟩) (m+1) c3)):=(((hu.mono (fun y hy=>by simp[hy])).then hu2).trans (hu3.mono (fun y hy=>by simp at hy;simp[hy]))).trans (hw4.mono (fun y hy=>by simp at hy;simp[hy]))
 have hfs:=hM.lL.snoc (by rw[GY.out];cases hh:nD A m with
  | false=>rfl
  | true=>have:=(aV _ _).1 hh;have:=GY.out;omega) huA (fun z hz=>by
   simp only[ρ]at hz;rcases hz with rfl|rfl|hz
   ·exact fun hm=>(hM.lC _ hm).2 rfl
   ·exact hM.lL.Uw
   ·exact fun hm=>(hM.lC z hm).1 hz) hRk (fun z hz=>by have:=hG2 z hz;omega) (gr':=g3) (cr':=c3) (by
   rcases hg3 with e|e
   ·rw[e];exact hM.lL.Uw
   ·exact fun hm=>by have:=hM.lL.KG _ hm;omega) (by
   rcases hg3 with e|e
   ·rw[e];exact fun hm=>by have:=hG2 _ hm;omega
   ·exact fun hm=>by have:=hG2l _ hm;omega) (by rw[GY.out];exact aC ho3 hw4 (fun k hk hm=>by cases hk;simp at hm;exact Kl hm.symm))
 rw[GY.out]at hfs;have hhF:(fun h=>nD A h || h == m)=nD (aR A):=funext fun q=>by unfold nD;rw[←GY.out];exact(wG A (by rw[GY.out];exact hl) (by have:=GY.out;omega) q).symm
 rw[hhF]at hfs;refine⟨rfl,B.blk F1 (Z++G2) g3,⟨F1,Z++G2,g3,rfl,c3,jW ptr m (some rp),jW G m G2,jW L m [],⟨?_,?_,by rw[lT];exact hfs,⟨hnF _ l0 hM.bG.1,Zt,Kl⟩,fun z hz=>?_,hM.dd⟩,hI2⟩,huA.mono (fun y hy=>?_),fun y hy=>?_⟩
 ·rw[lT];refine((((hM.head.upd hu hM.bG.1).upd hu2 σ).upd hu3 (by simp;exact hM.bG.2.2)).set 2 _).ext (fun j hj=>?_);rcases(ω:j=0\/j=1\/j=2)with rfl|rfl|rfl<;>rfl
 ·exact((hC.au hu2).upd hu3 (fun z hz hm=>by simp at hz;exact(SV z hm).1 hz)).upd hw4 (fun z hz hm=>by simp at hz;exact(SV z hm).2 hz)
 ·rcases τ.1 hz with h|h
  ·exact⟨hnF z (hM.lL.KG z h) (hM.lC z h).1,(hM.lC z h).2⟩
  ·have:=hG2 z h;exact⟨fun hm=>by have:=jr z hm;omega,ω⟩
 ·simp only[DB.blk,ρ,τ]at hy⊢;rcases hy with h|h|h
  ·exact Or.inl h
  ·exact Or.inr (Or.inl h)
  ·exact Or.inr (Or.inr (Or.inl h))
 ·simp only[DB.blk,ρ,τ]at hy⊢;rcases hy with h|h|h|h|h
  ·exact Or.inl (Or.inl h)
  ·rcases hg3 with e|e
   ·exact Or.inl (Or.inr (Or.inl (by rw[h,e])))
   ·exact Or.inr ω
  ·rcases hF y h with h|h
   ·exact Or.inl (Or.inr (Or.inr (Or.inl h)))
   ·exact Or.inr h
  ·exact Or.inl (Or.inr (Or.inr (Or.inr h)))
  ·exact Or.inr (by have:=hG2 y h;omega)
end
theorem Yn:(Tryz.prog.info? 317).map (fun i=>(i.zero,i.size,i.bytes))=some (some (.pointer none),1,8):=by kernel_rfl
theorem WN(W:World)(n:Nat)(hn:n<=65536):IZ (W.alloc (.cells (madeCells #[.int .i64 0] n) 3)) W.heap.size n (bH (List.replicate n 0)):=by
 have hl:(bH (List.replicate n 0)).length=n:=by rw[dB];simp
 refine⟨⟨by rw[hl];simp[eZ,hl],Or.inr ⟨W.heap.size,n,madeCells #[.int .i64 0] n,by rw[hl],Nat.zero_le _,?_,by rw[hl];exact Nat.le_refl _,μ,by simp[madeCells],?_⟩⟩⟩
 ·show(W.heap.push _)[W.heap.size]?=_;simp
 ·rw[hl];apply List.ext_getElem?;intro j
  by_cases hj:j<n
  ·simp[madeCells,hj,aQ,bH,Nat.mod_one]
  ·rw[List.getElem?_eq_none (by simp[madeCells];omega),List.getElem?_eq_none (by rw[eZ,hl];omega)]
theorem OJ(n:Nat)(w:World)(h:n<=65536) :
  Calls Tryz.prog 104 #[.int .i64 (n:Int)] w fun e w'=>∃B F gr,e=.returned (.tuple #[.pointer (some ⟨B.n0,0,none⟩),.int .i64 0])/\ShAt w' B F [] gr (NS.new n) 0/\aa [] w w'/\∀x,x∈B.blk F [] gr->w.heap.size<=x:=by
 have hmk:=run_make_row' (P:=Tryz.prog) 26 3 (.int .i64 0) 8 Tryz.underlying26 fF rfl .i64 .i64 n ω ω
 go_enter Tryz.func104,Tryz.ntmps104
 go_wp2_with (first
  | ((go_at_call 107;(with_reducible refine(oo n _ h).mono ?_));rintro e w1 ⟨c,F,rfl,hC,hu1,hF⟩)
  | fail)
 go_ret2;have l1:=hu1.size;have l7:=hC.lt;have hv:aa [] w1 (w1.alloc (.cells #[.pointer none] 317)):=(aa.refl _ _).alloc _;obtain⟨w2,hw2⟩:∃w2,w2=w1.alloc (.cells #[.pointer none] 317):=⟨_,rfl⟩;have e2:w2.heap.size=w1.heap.size+1:=by rw[hw2,World.size_alloc]
 have hz:=WN w2 n h;obtain⟨w3,hw3⟩:∃w3,w3=w2.alloc (.cells (madeCells #[.int .i64 0] n) 3):=⟨_,rfl⟩;have e3:w3.heap.size=w1.heap.size+1+1:=by rw[hw3,World.size_alloc,e2]
 have hh:=dP w3 [.pointer (some ⟨c,0,none⟩),.slice (some ⟨w1.heap.size,0,none⟩) 1 1,.slice (some ⟨w1.heap.size+1,0,none⟩) n n] 237;rw[e3]at hh;have ZT:aa [] w2 w3:=by rw[hw3];exact(aa.refl _ _).alloc _
 have hv3:aa [] w3 (w3.alloc (.cells #[.pointer (some ⟨c,0,none⟩),.slice (some ⟨w1.heap.size,0,none⟩) 1 1,.slice (some ⟨w1.heap.size+1,0,none⟩) n n] 237)):=(aa.refl _ _).alloc _;have hv12:aa [] w1 w2:=by rw[hw2];exact hv
 have ho:=nE w1 [.pointer none] 317 0 1 1 rfl ω μ;rw[←hw3,e2]at hz;have hnF:∀x,w1.heap.size<=x->x∉F:=fun x hx hm=>by have:=l7 x hm;omega
 have hno:∀k:Nat,bJ (NS.new n) k=false:=fun k=>nV n k;have hrep:(List.replicate n 0).length=n:=σ;rw[←hw2,←hw3]
 refine⟨⟨w1.heap.size+1+1,c,w1.heap.size+1⟩,F,w1.heap.size,rfl,⟨1,fun _=>none,fun _=>[],fun _=>[],List.replicate n 0,⟨?_,((hC.au hv12).au ZT).au hv3,⟨?_,fun k hk=>?_,fun k hk=>?_,fun k j hk=>?_,fun z hz=>by simp at hz,σ⟩,?_,?_,⟨hnF _ (by first|omega|(simp only;omega)),hnF _ ω,hnF _ (by first|omega|(simp only;omega))⟩,⟨by simp only;omega,by simp only;omega,by simp only;omega⟩,fun z hz=>by simp at hz⟩,⟨⟨fun k hk=>?_,fun k hk=>?_,fun k x hk=>?_⟩,fun k hk=>?_⟩⟩,((hu1.trans hv12).trans ZT).trans hv3,fun x hx=>?_⟩
 ·rw[hrep];exact hh
 ·rw[←hw2]at ho;exact aC (aC ho ZT σ) hv3 σ
 ·unfold nD at hk;rw[hno]at hk;cases hk
 ·unfold nD at hk;rw[hno]at hk;cases hk
 ·unfold nD at hk;rw[hno]at hk;cases hk
 ·rw[hrep];exact hz.upd hv3 σ
 ·simp[NS.new]
 ·rw[hno]at hk;cases hk
 ·rw[hno]at hk;cases hk
 ·rw[hno]at hk;cases hk
 ·rw[hno]at hk;cases hk
 ·simp only[HB.blk,ρ,List.append_nil]at hx;rcases hx with rfl|rfl|rfl|hx
  ·omega
  ·omega
  ·omega
  ·exact hF x hx
section
variable {w:World}{B:HB}{F Z:List Nat}{gr st:Nat}{A:NS}
theorem OX(h:ShAt w B F Z gr A st)(hl:65536<A.hs.length) :
  Calls Tryz.prog 274 #[.pointer (some ⟨B.n0,0,none⟩)] w fun e w'=>e=.returned (.int .i64 0)/\Goes (B.blk F Z gr) w w' (fun F'=>∃F1,F'=B.blk F1 Z gr/\ShAt w' B F1 Z gr A st):=by
 obtain⟨cr,ptr,G,L,T,hM,hI⟩:=h;have k:=iR hM.cells;have e1:dm A=0:=by unfold dm;rw[if_pos hl]
 have e2:aR A=A:=by unfold aR;rw[if_pos hl]
 rw[e1,e2]at k;have h0:=hM.h0;have HM:=χ (ψ hM hI);clear hM hI e1 e2
 go_enter Tryz.func274,Tryz.ntmps274
 go_wp2_with (first|((go_at_call 156;(with_reducible refine(k).mono ?_));rintro e w1 ⟨rfl,F1,hC,hu,hF⟩))
 go_ret;refine⟨rfl,B.blk F1 Z gr,⟨F1,rfl,cr,ptr,G,L,T,HM.out.1.cB hu hC hF rfl rfl,HM.out.2⟩,hu.mono (fun y hy=>by simp[HB.blk,hy]),fun x hx=>?_⟩;simp only[HB.blk,ρ,τ]at hx⊢;rcases hx with rfl|rfl|rfl|hx|hx
 ·simp
 ·simp
 ·simp
 ·rcases hF x hx with h|h
  ·simp[h]
  ·exact Or.inr h
 ·simp[hx]
theorem Kz(h:ShAt w B F Z gr A st)(hl:¬65536<A.hs.length) :
  Calls Tryz.prog 274 #[.pointer (some ⟨B.n0,0,none⟩)] w fun e w'=>e=.returned (.int .i64 (A.hs.length:Int))/\Goes (B.blk F Z gr) w w' (fun F'=>∃F1 Z1 Fw,F'=B.blk F1 Z1 Fw/\ShAt w' B F1 Z1 Fw (aR A) st):=by
 obtain⟨cr,ptr,G,L,T,hM,hI⟩:=h;have k:=iR hM.cells;have e1:dm A=A.hs.length:=by unfold dm;rw[if_neg hl]
 rw[e1]at k;have lT:(aR A).hs.length=A.hs.length+1:=by unfold aR;rw[if_neg hl];simp
 have hh0:=hM.cells.ok.h0;have hIp:SdI (aR A) (jW L A.hs.length []) T:=by
  refine⟨hI.di.make ω hM.cells.ok hl ω,fun k hk j x hj=>?_⟩
  by_cases e:k=A.hs.length
  ·subst e;rw[dK]at hj;simp at hj
  ·rw[bP _ _ e]at hj;rw[wG A hl ω]at hk;exact hI.Bz k (by simpa[e]using hk) j x hj
 have h0:=hM.h0;have HM:=χ (ψ hM (ψ hIp lT));clear hM hI e1 hIp lT;generalize hm:A.hs.length=m at *;have GY:=χ hm;clear hm
 go_enter Tryz.func274,Tryz.ntmps274
 go_wp2_with (first
  | ((go_at_call 156;(with_reducible refine(k).mono ?_));rintro e w1 ⟨rfl,F1,hC,hu,hF⟩;(have q2:=hu.kept HM.out.1.h1 HM.out.1.bG.1);(have f2:=hu.aS HM.out.1.h1 HM.out.1.bG.1 (HM.out.1.head.free 1));(have ho1:=aC HM.out.1.lL.rows hu (fun k hk hm=>by cases hk;exact HM.out.1.bG.2.1 hm));(rw[GY.out]at q2 ho1);(have ho2:(w1.alloc (.cells #[.pointer (some ⟨B.n0,0,none⟩),.slice none 0 0] 321)).ownsRow _ _ _ _ _ _:=aC ho1 ((aa.refl [] w1).alloc (.cells #[.pointer (some ⟨B.n0,0,none⟩),.slice none 0 0] 321)) σ))
  | (at_builtin;refine aX rfl _ _ 235 rfl 0 317 (.pointer none) 1 8 Tryz.underlying235 Yn rfl δ _ _ _ rfl (ho2) [BK (some w1.heap.size)] rfl (by simp[Value.oneCell',BK]) (by first|rfl|(rw[World.size_alloc];rfl)) μ ω ω ?_;intro v3 w3 ho3 hu3 Gw;(have hu3:aa [gr] (w1.alloc (.cells #[.pointer (some ⟨B.n0,0,none⟩),.slice none 0 0] 321)) w3:=hu3);obtain⟨g3,c3,ev, -⟩:=gJ ho3 ω;subst ev;(have q3:(w1.alloc (.cells #[.pointer (some ⟨B.n0,0,none⟩),.slice none 0 0] 321)).cell? ⟨B.n0,1,none⟩=_:=((aa.refl [] w1).alloc _).was q2);(have f3:(w1.alloc (.cells #[.pointer (some ⟨B.n0,0,none⟩),.slice none 0 0] 321)).frozen? ⟨B.n0,1,none⟩=false:=((aa.refl [] w1).alloc _).aS q2 σ f2);(have d4:=hu3.kept q3 (by simp;exact HM.out.1.sep.1));(have f4:=hu3.aS q3 (by simp;exact HM.out.1.sep.1) f3))
  | fail)
 go_ret;obtain⟨hM,hI2,lT⟩:=HM.out;have hlt:=hM.lt;have l0:=hlt B.n0 (by simp[HB.blk]);have l1:=hlt gr (by simp[HB.blk]);have l2:=hlt B.ga (by simp[HB.blk]);have hs1:=hu.size;have hs3:=hu3.size;rw[World.size_alloc]at hs3;have jr:=hC.lt;have hrow:=dP w1 [.pointer (some ⟨B.n0,0,none⟩),.slice none 0 0] 321;have Vh:aa [] w1 (w1.alloc (.cells #[.pointer (some ⟨B.n0,0,none⟩),.slice none 0 0] 321)):=(aa.refl _ _).alloc _;have hg3:g3=gr\/w1.heap.size+1<g3:=by
  rcases Gw with h|h
  ·exact Or.inl (Option.some.inj h)
  ·right;have:=h g3 rfl;rwa[World.size_alloc]at this
 have hw4:aa [B.n0] w3 (w3.setCell ⟨B.n0,1,none⟩ (.slice (some ⟨g3,0,none⟩) (m+1) c3)):=β;have hnF:∀y,y<w.heap.size->y∉F->y∉F1:=fun y hy hn hm=>by rcases hF y hm with h'|h';exact hn h';omega
 have Kl:B.n0≠g3:=by have:=hM.sep.1;omega
 have Zt:g3∉F1:=by
  rcases hg3 with e|e
  ·rw[e];exact hnF gr l1 hM.bG.2.1
  ·exact fun hm=>by have:=jr g3 hm;omega
 have SV:∀z,z∈F1->z≠gr/\z≠B.n0:=fun z hz=>⟨fun e=>hnF gr l1 hM.bG.2.1 (by rw[←e];exact hz),fun e=>hnF _ l0 hM.bG.1 (by rw[←e];exact hz)⟩
 have hRk:(pilK B).at_ (w3.setCell ⟨B.n0,1,none⟩ (.slice (some ⟨g3,0,none⟩) (m+1) c3)) w1.heap.size [w1.heap.size] []:=by
  refine⟨.slice none 0 0,((hrow.ext (fun j hj=>rfl)).upd hu3 ζ).upd hw4 ζ,⟨rfl,Or.inl ⟨rfl,rfl⟩⟩,rfl,fun g hg=>by cases hg⟩
 have huA:aa (B.n0::gr::F) w (w3.setCell ⟨B.n0,1,none⟩ (.slice (some ⟨g3,0,none⟩) (m+1) c3)):=(((hu.mono (fun y hy=>by simp[hy])).then Vh).trans (hu3.mono (fun y hy=>by simp at hy;simp[hy]))).trans (hw4.mono (fun y hy=>by simp at hy;simp[hy]))
 have hfs:=hM.lL.snoc (by rw[GY.out];cases hh:nD A m with
  | false=>rfl
  | true=>have:=(aV _ _).1 hh;have:=GY.out;omega) huA (fun z hz=>by
   simp only[ρ]at hz;rcases hz with rfl|rfl|hz
   ·exact fun hm=>(hM.lC _ hm).2.1 rfl
   ·exact hM.lL.Uw
   ·exact fun hm=>(hM.lC z hm).1 hz) hRk (fun z hz=>by simp at hz;omega) (gr':=g3) (cr':=c3) (by
   rcases hg3 with e|e
   ·rw[e];exact hM.lL.Uw
   ·exact fun hm=>by have:=hM.lL.KG _ hm;omega) ζ (by rw[GY.out];exact aC ho3 hw4 (fun k hk hm=>by cases hk;simp at hm;exact Kl hm.symm))
 rw[GY.out]at hfs;have hhF:(fun h=>nD A h || h == m)=nD (aR A):=funext fun q=>by unfold nD;rw[←GY.out];exact(wG A (by rw[GY.out];exact hl) (by have:=GY.out;omega) q).symm
 rw[hhF]at hfs;have hcs:(aR A).cs.length=A.cs.length:=by unfold aR;split<;>rfl
 refine⟨rfl,B.blk F1 (Z++[w1.heap.size]) g3,⟨F1,Z++[w1.heap.size],g3,rfl,c3,jW ptr m (some w1.heap.size),jW G m [w1.heap.size],jW L m [],T,⟨?_,?_,by rw[lT];exact hfs,?_,by rw[hcs];exact hM.tl,⟨hnF _ l0 hM.bG.1,Zt,hnF _ l2 hM.bG.2.2⟩,⟨Kl,hM.sep.2.1,by have:=hM.sep.2.2;omega⟩,fun z hz=>?_⟩,hI2⟩,huA.mono (fun y hy=>?_),fun y hy=>?_⟩
 ·rw[lT];refine((((hM.head.upd hu hM.bG.1).upd Vh σ).upd hu3 (by simp;exact hM.sep.1)).set 1 _).ext (fun j hj=>?_);rcases(ω:j=0\/j=1\/j=2)with rfl|rfl|rfl<;>rfl
 ·exact((hC.au Vh).upd hu3 (fun z hz hm=>by simp at hz;exact(SV z hm).1 hz)).upd hw4 (fun z hz hm=>by simp at hz;exact(SV z hm).2 hz)
 ·exact(((hM.Bu.upd hu hM.bG.2.2).upd Vh σ).upd hu3 (by simp;exact hM.sep.2.2)).upd hw4 (by simp;exact hM.sep.2.1)
 ·rcases τ.1 hz with h|h
  ·exact⟨hnF z (hM.lL.KG z h) (hM.lC z h).1,(hM.lC z h).2⟩
  ·simp at h;subst h;exact⟨fun hm=>by have:=jr _ hm;omega,ω,ω⟩
 ·simp only[HB.blk,ρ,τ]at hy⊢;rcases hy with h|h|h
  ·exact Or.inl h
  ·exact Or.inr (Or.inl h)
  ·exact Or.inr (Or.inr (Or.inr (Or.inl h)))
 ·simp only[HB.blk,ρ,τ,ς,or_false]at hy⊢;rcases hy with h|h|h|h|h|h
  ·exact Or.inl (Or.inl h)
  ·rcases hg3 with e|e
   ·exact Or.inl (Or.inr (Or.inl (by rw[h,e])))
   ·exact Or.inr ω
  ·exact Or.inl (Or.inr (Or.inr (Or.inl h)))
  ·rcases hF y h with h|h
   ·exact Or.inl (Or.inr (Or.inr (Or.inr (Or.inl h))))
   ·exact Or.inr h
  ·exact Or.inl (Or.inr (Or.inr (Or.inr (Or.inr h))))
  ·exact Or.inr ω
end
theorem ry.ready{d:Nat}{A:NS}{L:Nat->List Nat}(h:ry d A L)(hd:2<=d)(ok:A.Ok){g x:Nat}{k s:Int}(hB:oG A g x=true) :
  x∉L g/\(L g).length+1<=A.cs.length/\Hp (oJ (aK A g x k s)) d (L g)/\(∀y,y∈x::L g->bS (aK A g x k s) (y:Int)=true)/\(∀y,y∈x::L g->y<A.cs.length):=by
 obtain⟨b1,b2,b3⟩:=(fB _ _ _).1 hB;have hx:x<A.cs.length:=by have:=(gU _ _).1 b2;omega
 have hg0:=(aV _ _).1 b1;have hc:∀y,(aK A g x k s).c y=if y=x then ⟨g,k,s⟩else A.c y:=fun y=>by
  unfold aK;rw[if_pos hB,π,kH]
  by_cases e:y=x
  ·rw[if_pos ⟨e,hx⟩,if_pos e]
  ·rw[if_neg (fun h=>e h.1),if_neg e]
 have hl:(aK A g x k s).cs.length=A.cs.length:=by unfold aK;rw[if_pos hB,fI]
 have hxL:x∉L g:=fun hm=>by
  have:=(h.len b1 hm).2.1;rw[this]at b3;cases b3
 have hlt:∀y,y∈x::L g->y<A.cs.length:=fun y hy=>by
  rcases ρ.1 hy with e|e
  ·rw[e];exact hx
  ·exact(h.len b1 e).1
 refine⟨hxL,?_,ry.frame (h.hp g b1) hd (fun y hy=>by rw[hc,if_neg (fun e=>hxL (by rw[←e];exact hy))]),fun y hy=>?_,hlt⟩
 ·have h1:=nodup_range A.cs.length ((x::L g).map (fun(x:Nat)=>(x:Int))) (by
   have hn:=List.nodup_cons.2 ⟨hxL,h.nd g b1⟩;unfold List.Nodup at hn⊢;rw[List.pairwise_map];exact hn.imp (fun h e=>h ω)) (fun z hz=>by
   obtain⟨y,hy,rfl⟩:=List.mem_map.1 hz
   have:=hlt y hy;omega)
  simpa using h1
 ·refine(ah _ _).2 ⟨by rw[hl];exact hlt y hy,?_⟩;rw[hc]
  by_cases e:y=x
  ·rw[if_pos e];simp only;omega
  ·rw[if_neg e];rcases ρ.1 hy with e2|e2
   ·exact absurd e2 e
   ·have:=(h.len b1 e2).2.2;omega
section
variable {w w':World}{B:DB}{F Z:List Nat}{gr cr st:Nat}{A:NS}{ptr:Nat->Option Nat}{G L:Nat->List Nat}
theorem wM.clear(h:wM w B F Z gr cr A st ptr G L){g:Nat}(hg:bJ A g=true):∀z,z∈G g->z∉(Vd B F A h.cells.mem).rd:=fun z hz hm=>by
 have h1:=h.lC z (h.lL.yT g hg z hz);rcases ρ.1 hm with e|e
 ·exact h1.2 e
 ·exact h1.1 e
theorem wM.Bc(h:wM w B F Z gr cr A st ptr G L){g rp:Nat}(hg:bJ A g=true)(hp:ptr g=some rp){G' L':List Nat}(hu:aa (G g++[B.c]) w w')(hr:mH w' rp G' B.d L')(hG:∀z,z∈G'->z∈G g\/w.heap.size<=z)(hO:(Vd B F A h.cells.mem).at_ w') :
  ∃st',wM w' B F (Z++G') gr cr A st' ptr (jW G g G') (jW L g L'):=by
 obtain⟨h1, -,st',h2⟩:=hO;have hcl:=h.clear hg;have qz:=h.cells.mem;have hsl:=h.lt;refine⟨st',⟨h.head.upd hu (fun hm=>?_),h2,h.lL.one hg hp hu (fun z hz=>?_) hr hG,h.bG,fun z hz=>?_,h.dd⟩⟩
 ·rcases τ.1 hm with e|e
  ·exact hcl _ e (ρ.2 (Or.inl rfl))
  ·simp at e;exact h.bG.1 (by rw[e];exact qz)
 ·rcases τ.1 hz with e|e
  ·exact Or.inl e
  ·simp at e;refine Or.inr ⟨fun e2=>h.bG.2.1 (by rw[←e2,e];exact qz),fun hm=>(h.lC z hm).1 (by rw[e];exact qz)⟩
 ·rcases τ.1 hz with e|e
  ·exact h.lC z e
  ·rcases hG z e with e2|e2
   ·exact h.lC z (h.lL.yT g hg z e2)
   ·exact⟨fun hm=>by have:=hsl z (by simp[DB.blk,hm]);omega,fun e3=>by have:=hsl B.n0 (by simp[DB.blk]);omega⟩
def AddR(B:DB)(F Z:List Nat)(gr cr:Nat)(A':NS)(st:Nat)(ptr:Nat->Option Nat)(G L:Nat->List Nat)(g rp x:Nat)(w2:World):Prop:=wM w2 B F Z gr cr A' st ptr G L/\∀Y,aa [] w2 Y->
   Calls Tryz.prog 155 #[.pointer (some ⟨rp,0,none⟩),.iface 170 (.pointer (some ⟨B.n0,0,none⟩)),.int .i64 (x:Int)] Y fun e w'=>e=.returned (.bool true)/\∃G' L',mH w' rp G' B.d L'/\L'.Perm (x::L g)/\Hp (oJ A') B.d L'/\(∃hc,(Vd B F A' hc).at_ w')/\aa (G g++[B.c]) Y w'/\∀z,z∈G'->z∈G g\/Y.heap.size<=z
theorem Gv(h:nZ w B F Z gr A st)(g x:Nat)(k s:Int)(hk:-9223372036854775808<=k/\k<=9223372036854775807/\0<=s/\s<=18446744073709551615)(hB:oG A g x=true) :
  Calls Tryz.prog 141 #[.pointer (some ⟨B.n0,0,none⟩),.int .i64 (g:Int),.int .i64 (x:Int),.agg #[.int .i64 k,.int .u64 s]] w fun e w'=>e=.returned (.bool true)/\Goes (B.blk F Z gr) w w' (fun F'=>∃Z' st',F'=B.blk F Z' gr/\nZ w' B F Z' gr (aK A g x k s) st'):=by
 obtain⟨cr,ptr,G,L,hM,hI⟩:=h;have hb1:=(fB _ _ _).1 hB;have hgN:=(aV _ _).1 hb1.1;have hok:=hM.cells.ok;have hcs:=hok.c1;obtain⟨r1,r2,r3,r4,r5⟩:=hI.ready hM.dd.1 hok (k:=k) (s:=s) hB;obtain⟨rp,hp,hR⟩:=hM.lL.row g hb1.1;have o9:(aK A g x k s).hs=A.hs:=by unfold aK;rw[if_pos hB];rfl
 have iB:bJ (aK A g x k s) g=true:=by have:=hb1.1;unfold bJ at this⊢;rw[o9];exact this
 have U8:∀X w2,aa [] w X->aF w2 B.c F (aK A g x k s) st->aa F X w2->AddR B F Z gr cr (aK A g x k s) st ptr G L g rp x w2:=by
  intro X w2 hX hC2 hu2;have hM2:=(hM.au hX).cB hu2 hC2 (fun x hx=>Or.inl hx) o9;refine⟨hM2,fun Y hY=>?_⟩;have MF:=hM2.au hY;obtain⟨rp',hp',hRY⟩:=MF.lL.row g iB;rw[hp]at hp';cases hp';have Sy:mH Y rp (G g) B.d (L g):=hRY;refine(Q5 (Vd B F (aK A g x k s) MF.cells.mem) MF.ord Sy hM.dd ω r3 x r1 (hI.nd g hb1.1) r4 (fun y hy=>by have:=r5 y hy;omega) (MF.clear iB)).mono ?_;rintro e w' ⟨rfl,G',L',h1,h2,h3,h4,h5,h6⟩;exact⟨rfl,G',L',h1,h2,h3,⟨_,h4⟩,h5,h6⟩
 have Qj:∀W (hW:aa [] w W),Calls Tryz.prog 154 #[.pointer (some ⟨B.c,0,none⟩),.int .i64 (g:Int),.int .i64 (x:Int),.agg #[.int .i64 k,.int .u64 s]] W fun e w2=>e=.returned (.bool true)/\aa F W w2/\AddR B F Z gr cr (aK A g x k s) st ptr G L g rp x w2:=fun W hW=>(nW (hM.au hW).cells g x k s hk hB).mono (fun e w2 h=>by
  obtain⟨rfl,hC2,hu2⟩:=h
  exact⟨rfl,hu2,U8 W w2 hW hC2 hu2⟩)
 have c0:=hM.h0;have c2:=hM.h2;have cg:=hM.lL.cell ω hp;have hlt:=hM.lt;have HX:=χ (ψ hM (ψ hI (ψ hok (ψ hB (ψ hp (ψ iB hlt))))));have n1:B.n0∉F++Z:=fun hm=>by rcases τ.1 hm with e|e;exact hM.bG.1 e;exact(hM.lC _ e).2 rfl
 have n2:gr∉F++Z:=fun hm=>by rcases τ.1 hm with e|e;exact hM.bG.2.1 e;exact hM.lL.Uw e
 have n3:∀z,z∈F++Z->z<w.heap.size:=fun z hm=>hlt z (by simp only[DB.blk,ρ,τ]at hm⊢;exact Or.inr (Or.inr hm));have TB:(g:Int)<(A.hs.length:Int):=ω;have hgz:∀z,z∈G g++[B.c]->z∈F++Z:=fun z hz=>by
  rcases τ.1 hz with e|e
  ·exact τ.2 (Or.inr (hM.lL.yT g hb1.1 z e))
  ·simp at e;rw[e];exact τ.2 (Or.inl hM.cells.mem)
 clear hM hI hok hB hp iB hlt hR r1 r3 r4 r5 hb1 hgN r2 hcs o9;generalize A.hs.length=m at *
 go_enter Tryz.func141,Tryz.ntmps141
 go_upto_region 1 with(fail)
 refine jk (fun W=>W.cell? ⟨w.heap.size,0,none⟩=some (.int .i64 k)/\W.cell? ⟨w.heap.size,1,none⟩=some (.int .u64 s)/\aa [] w W) ⟨γ,γ,β⟩ ?_;rintro W ⟨x0,x1,hW⟩;have hb:w.heap.size∉F++Z:=fun hm=>by have:=n3 _ hm;omega
 have e0:∀X,aa (F++Z) W X->X.cell? ⟨w.heap.size,0,none⟩=some (.int .i64 k):=fun X h=>h.kept x0 hb;have e1:∀X,aa (F++Z) W X->X.cell? ⟨w.heap.size,1,none⟩=some (.int .u64 s):=fun X h=>h.kept x1 hb;have e2:∀X,aa (F++Z) W X->X.cell? ⟨B.n0,0,none⟩=some (.pointer (some ⟨B.c,0,none⟩)):=fun X h=>h.kept (hW.was c0) n1;have e3:∀X,aa (F++Z) W X->X.cell? ⟨B.n0,2,none⟩=some (.slice (some ⟨gr,0,none⟩) m cr):=fun X h=>h.kept (hW.was c2) n1;have e4:∀X,aa (F++Z) W X->X.cell? ⟨gr,g,none⟩=some (.pointer (some ⟨rp,0,none⟩)):=fun X h=>h.kept (hW.was cg) n2;have HW:=χ hW
 have MJ:=fun X (hX:aa [] W X)=>Qj X (hW.trans hX);clear x0 x1 hW Qj c0 c2 cg
 go_region_held3 (aa (F++Z) W) (exact ν)
  (first
   | ((go_at_call 154;(with_reducible refine(MJ _ ν).mono ?_));rintro e w2 ⟨rfl,hu2,hM2,TI⟩;(have hv2:aa (F++Z) W w2:=aa.trans ν (hu2.mono (fun z hz=>τ.2 (Or.inl hz)))))
   | ((go_at_call 155;(with_reducible refine(TI _ ν).mono ?_));rintro e w3 ⟨rfl,G',L',hR3,hp3,hH3,hO3,hu3,hG3⟩;(have hv3:aa (F++Z) W w3:=aa.trans ν (hu3.mono hgz))))
 obtain⟨hM,hI,hok,hB,hp,iB,hlt⟩:=HX.out;obtain⟨hc3,hO3⟩:=hO3;have hG3':∀z,z∈G'->z∈G g\/w2.heap.size<=z:=hG3;have Ya:aa (G g++[B.c]) w2 w3:=aa.trans ν hu3;obtain⟨st',jR⟩:=hM2.Bc iB hp Ya hR3 hG3' hO3;have hI3:=hI.put hM.dd.1 hok hB hp3 hH3;go_wp2;go_ret;have hsz:=(HW.out).size;have hsz2:=hv2.size;refine⟨rfl,B.blk F (Z++G') gr,⟨Z++G',st',rfl,cr,ptr,_,_,jR,hI3.1⟩,((HW.out).mono σ).trans (hv3.mono (fun z hz=>?_)),fun z hz=>?_⟩
 ·simp only[DB.blk,ρ,τ]at hz⊢;exact Or.inr (Or.inr hz)
 ·simp only[DB.blk,ρ,τ]at hz⊢;rcases hz with h|h|h|h|h
  ·exact Or.inl (Or.inl h)
  ·exact Or.inl (Or.inr (Or.inl h))
  ·exact Or.inl (Or.inr (Or.inr (Or.inl h)))
  ·exact Or.inl (Or.inr (Or.inr (Or.inr h)))
  ·rcases hG3' z h with h|h
   ·have:=hgz z (τ.2 (Or.inl h));rcases τ.1 this with h|h
    ·exact Or.inl (Or.inr (Or.inr (Or.inl h)))
    ·exact Or.inl (Or.inr (Or.inr (Or.inr h)))
   ·exact Or.inr ω
end
end Go.Proofs.YtklibcncmbofpaaGreat
