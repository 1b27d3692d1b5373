/-
  Lemmas for RankSorts: Sd4, Sd5, Sd6. Conditions: those of each lemma.
-/
import Derived.Test.YtklibcncmbofpaaGreatP18
set_option maxHeartbeats 8000000
set_option maxRecDepth 10000
set_option linter.unusedVariables false
set_option linter.unusedSimpArgs false
namespace Go.Proofs.YtklibcncmbofpaaGreat
open Go Go.RowKit
section
variable {w0 w:World} {B:HB} {F:List Nat} {A:NS} {rp g cap:Nat} {t M T M' T':List Nat}
def FO (A:NS) (i0:Nat) (b:Bool) (M2:List Nat):Prop:=(b=true→Hp (lU A) 2 M2)∧(b=false→dD (lU A) 2 M2 i0∧Below (lU A) 2 M2 i0 (M2.getD i0 0))
theorem qI {i0 i:Nat} {M2:List Nat} (hH:dD (lU A) 2 M2 i) (hB:Below (lU A) 2 M2 i (M2.getD i 0)) (h0:i0≤i) (hu:i0<i→lU A (M2.getD (par 2 i) 0) (M2.getD i 0)):FO A i0 (decide (i0<i)) M2:=by
 constructor
 ·intro h;exact hH.done ω hB (Or.inr (hu (by simp at h;omega)))
 ·intro h;have e:i=i0:=by simp at h;omega
  subst e;exact ⟨hH,hB⟩
def FV (w0:World) (B:HB) (F:List Nat) (A:NS) (rp g cap:Nat) (t M T:List Nat) (w:World) (i0 i2:Nat):Prop:=∃M2 T2,jM w0 B F A rp g cap t M T w M2 T2∧FO A i0 (decide (i0<i2)) M2
theorem wo (h0:jM w0 B F A rp g cap t M T w M' T') (i0 n:Nat) (hn:n=M'.length) (hH:dD (lU A) 2 M' i0) :
  Calls Tryz.prog 280 #[.iface 317 (.pointer (some ⟨rp,0,none⟩)),.int .i64 (i0:Int),.int .i64 (n:Int)] w fun e w'=>∃i2,e=.returned (.bool (decide (i0<i2)))∧FV w0 B F A rp g cap t M T w' i0 i2:=by
 have m1:=Gb rp;have m2:=Al rp;have HI:=χ (ψ h0 (ψ hH hn));clear h0 hH hn
 go_enter Tryz.func280,Tryz.ntmps280
 go_wp2
 go_loopw [7,8,9,10] (fun v7 v8 v9 v10 wr=>∃ (i:Nat) (M2 T2:List Nat),v7=.int .i64 (i:Int)∧jM w0 B F A rp g cap t M T wr M2 T2∧dD (lU A) 2 M2 i∧M2.length=n∧i0≤i∧(i0<i→lU A (M2.getD (par 2 i) 0) (M2.getD i 0))) (fun v7 _ _ _ _=>n-(intOf v7).toNat)
 case atStart=>exact ⟨i0,M',T',rfl,HI.out.1,HI.out.2.1,HI.out.2.2.symm,Nat.le_refl _,fun h=>absurd h (Nat.lt_irrefl _)⟩
 case round=>
  obtain ⟨i,M2,T2,rfl,hP,hH,hl,hi0,hu⟩:=hrel;rename World=>wr
  have hil:=hH.lt;rw [hl] at hil;have hlen:(M2++t).length≤65536:=hP.pi.len;rw [List.length_append,hl] at hlen;obtain ⟨j1,hj1⟩:∃j1,j1=2*i+1:=⟨_,rfl⟩
  have he1:2*(i:Int)+1=(j1:Int):=ω;obtain ⟨j2,hj2⟩:∃j2,j2=j1+1:=⟨_,rfl⟩
  have he2:(j1:Int)+1=(j2:Int):=ω;have hj10:¬ (j1:Int)<0:=ω
  by_cases hc1:j1<n
  ·have hc1I:¬ (j1:Int)≥(n:Int):=ω;have ht1:=Io (R:=lU A) (L:=M2) (i:=i) hl ω (fun h2 hr=>wG (hP.ne ω ω ω) hr)
   rw [show 2*i+1=j1 from hj1.symm,show 2*i+2=j2 by omega] at ht1
   by_cases hc2:j2<n
   ·have hc2I:(j2:Int)<(n:Int):=ω;cases hb1:decide (bH A (M2.getD j2 0) (M2.getD j1 0)) with
    | true=>
     have hF:=ht1.2 ⟨hc2,dA.2 (of_decide_eq_true hb1)⟩;have kl1:=hP.less (show j2<M2.length by omega) (show j1<M2.length by omega) hb1
     cases hb2:decide (bH A (M2.getD j2 0) (M2.getD i 0)) with
     | true=>
      have kl2:∀w1,jM w0 B F A rp g cap t M T w1 M2 T2→_:=fun w1 h1=>jM.less h1 (show j2<M2.length by omega) (show i<M2.length by omega) hb2
      have ks:∀w1,jM w0 B F A rp g cap t M T w1 M2 T2→_:=fun w1 h1=>jM.swaps h1 (show i<M2.length by omega) (show j2<M2.length by omega) ω
      have hS:=hH.xJ (fQ A) hF (dA.2 (of_decide_eq_true hb2));have HQ:=χ (ψ hS hl);have hj3:i<j2:=ω;clear hP hH hu hF hb1 hb2 hS ht1 hl hj1 hj2
      go_wp2_with (first|((go_at_call 286;(with_reducible refine (kl1).mono ?_));rintro e w1 ⟨rfl,hP1⟩)|((go_at_call 286;(with_reducible refine (kl2 _ hP1).mono ?_));rintro e w2 ⟨rfl,hP2⟩)|((go_at_call 289;(with_reducible refine (ks _ hP2).mono ?_));rintro e w3 ⟨rfl,hP3⟩)|fail)
      go_roundw
      case rel=>exact ⟨j2,_,_,by go_num,hP3,HQ.out.1.1,by rw [iP];exact HQ.out.2,ω,fun _=>HQ.out.1.2⟩
      case measure=>simp [intOf];omega
     | false=>
      have kl2:∀w1,jM w0 B F A rp g cap t M T w1 M2 T2→_:=fun w1 h1=>jM.less h1 (show j2<M2.length by omega) (show i<M2.length by omega) hb2
      have hx:=wG (hP.ne (show j2<M2.length by omega) (show i<M2.length by omega) ω) (fun h=>by rw [dA] at h;rw [decide_eq_false_iff_not] at hb2;exact hb2 h)
      have hE:=qI hH (mg (fQ A) hF hx) hi0 hu;have HQ:=χ hE;clear hP hH hu hF hb1 hb2 hE ht1 hl hj1 hj2 hx
      go_wp2_with (first|((go_at_call 286;(with_reducible refine (kl1).mono ?_));rintro e w1 ⟨rfl,hP1⟩)|((go_at_call 286;(with_reducible refine (kl2 _ hP1).mono ?_));rintro e w2 ⟨rfl,hP2⟩)|fail)
      go_ret;exact ⟨i,rfl,M2,T2,hP2,HQ.out⟩
    | false=>
     have hF:=ht1.1 (fun h=>by rw [decide_eq_false_iff_not] at hb1;exact hb1 (dA.1 h.2))
     have kl1:=hP.less (show j2<M2.length by omega) (show j1<M2.length by omega) hb1
     cases hb2:decide (bH A (M2.getD j1 0) (M2.getD i 0)) with
     | true=>
      have kl2:∀w1,jM w0 B F A rp g cap t M T w1 M2 T2→_:=fun w1 h1=>jM.less h1 (show j1<M2.length by omega) (show i<M2.length by omega) hb2
      have ks:∀w1,jM w0 B F A rp g cap t M T w1 M2 T2→_:=fun w1 h1=>jM.swaps h1 (show i<M2.length by omega) (show j1<M2.length by omega) ω
      have hS:=hH.xJ (fQ A) hF (dA.2 (of_decide_eq_true hb2));have HQ:=χ (ψ hS hl);have hj3:i<j1:=ω;clear hP hH hu hF hb1 hb2 hS ht1 hl hj1 hj2
      go_wp2_with (first|((go_at_call 286;(with_reducible refine (kl1).mono ?_));rintro e w1 ⟨rfl,hP1⟩)|((go_at_call 286;(with_reducible refine (kl2 _ hP1).mono ?_));rintro e w2 ⟨rfl,hP2⟩)|((go_at_call 289;(with_reducible refine (ks _ hP2).mono ?_));rintro e w3 ⟨rfl,hP3⟩)|fail)
      go_roundw
      case rel=>exact ⟨j1,_,_,by go_num,hP3,HQ.out.1.1,by rw [iP];exact HQ.out.2,ω,fun _=>HQ.out.1.2⟩
      case measure=>simp [intOf];omega
     | false=>
      have kl2:∀w1,jM w0 B F A rp g cap t M T w1 M2 T2→_:=fun w1 h1=>jM.less h1 (show j1<M2.length by omega) (show i<M2.length by omega) hb2
      have hx:=wG (hP.ne (show j1<M2.length by omega) (show i<M2.length by omega) ω) (fun h=>by rw [dA] at h;rw [decide_eq_false_iff_not] at hb2;exact hb2 h)
      have hE:=qI hH (mg (fQ A) hF hx) hi0 hu;have HQ:=χ hE;clear hP hH hu hF hb1 hb2 hE ht1 hl hj1 hj2 hx
      go_wp2_with (first|((go_at_call 286;(with_reducible refine (kl1).mono ?_));rintro e w1 ⟨rfl,hP1⟩)|((go_at_call 286;(with_reducible refine (kl2 _ hP1).mono ?_));rintro e w2 ⟨rfl,hP2⟩)|fail)
      go_ret;exact ⟨i,rfl,M2,T2,hP2,HQ.out⟩
   ·have hc2I:¬ (j2:Int)<(n:Int):=ω;have hc2D:decide ((j2:Int)<(n:Int))=false:=ζ;have hF:=ht1.1 (fun h=>hc2 h.1)
    have hP1:=hP;cases hb2:decide (bH A (M2.getD j1 0) (M2.getD i 0)) with
    | true=>
     have kl2:∀w1,jM w0 B F A rp g cap t M T w1 M2 T2→_:=fun w1 h1=>jM.less h1 (show j1<M2.length by omega) (show i<M2.length by omega) hb2
     have ks:∀w1,jM w0 B F A rp g cap t M T w1 M2 T2→_:=fun w1 h1=>jM.swaps h1 (show i<M2.length by omega) (show j1<M2.length by omega) ω
     have hS:=hH.xJ (fQ A) hF (dA.2 (of_decide_eq_true hb2));have HQ:=χ (ψ hS hl);have hj3:i<j1:=ω;clear hP hH hu hF hb2 hS ht1 hl hj1 hj2
     go_wp2_with (first|((go_at_call 286;(with_reducible refine (kl2 _ hP1).mono ?_));rintro e w2 ⟨rfl,hP2⟩)|((go_at_call 289;(with_reducible refine (ks _ hP2).mono ?_));rintro e w3 ⟨rfl,hP3⟩)|fail)
     go_roundw
     case rel=>exact ⟨j1,_,_,by go_num,hP3,HQ.out.1.1,by rw [iP];exact HQ.out.2,ω,fun _=>HQ.out.1.2⟩
     case measure=>simp [intOf];omega
    | false=>
     have kl2:∀w1,jM w0 B F A rp g cap t M T w1 M2 T2→_:=fun w1 h1=>jM.less h1 (show j1<M2.length by omega) (show i<M2.length by omega) hb2
     have hx:=wG (hP.ne (show j1<M2.length by omega) (show i<M2.length by omega) ω) (fun h=>by rw [dA] at h;rw [decide_eq_false_iff_not] at hb2;exact hb2 h)
     have hE:=qI hH (mg (fQ A) hF hx) hi0 hu;have HQ:=χ hE;clear hP hH hu hF hb2 hE ht1 hl hj1 hj2 hx
     go_wp2_with (first|((go_at_call 286;(with_reducible refine (kl2 _ hP1).mono ?_));rintro e w2 ⟨rfl,hP2⟩)|fail)
     go_ret;exact ⟨i,rfl,M2,T2,hP2,HQ.out⟩
  ·have hc1I:(j1:Int)≥(n:Int):=ω;have hE:=qI hH (xM ω ω) hi0 hu;have HQ:=χ (ψ hP hE);clear hP hH hu hE hl hj1 hj2;go_wp2;go_ret;exact ⟨i,rfl,M2,T2,HQ.out.1,HQ.out.2⟩
end
structure AV (w:World) (B:HB) (F:List Nat) (A:NS) (rp:Nat) (v:Value) (L T:List Nat):Prop where
 hd:aI w rp 321 2 (Kk B v)
 own:w.ownsRow 0 3 1 v L.length (aH (bz L))
 wE:IZ w B.ga T.length (bz T)
 KI:w.cell? ⟨B.n0,0,none⟩=some (.pointer (some ⟨B.c,0,none⟩))
 JP:w.cell? ⟨B.n0,2,none⟩=some (.slice (some ⟨B.ga,0,none⟩) T.length T.length)
 I7:∃st,az w B.c F A st
 s1:rp≠B.ga∧rp≠B.n0
 sg:∀g,v.ownBlock=some g→g≠rp∧g≠B.ga∧g≠B.n0∧g∉F
 s2:B.ga≠B.n0
 s3:rp∉F∧B.ga∉F∧B.n0∉F
 dom:∀x,x∈L→bD A (x:Int)=true∧x<T.length
 nd:L.Nodup
 yc:∀j x,L[j]?=some x→T.getD x 0=j
 tl:T.length≤65536
section
variable {w:World} {B:HB} {F:List Nat} {A:NS} {rp g cap:Nat} {v:Value} {L T:List Nat}
theorem AV.full (h:AV w B F A rp v L T) (hl:0<L.length):∃g cap,v=.slice (some ⟨g,0,none⟩) L.length cap∧lC w B F A rp g cap L T:=by
 have ho:=h.own;rw [←bQ] at ho;obtain ⟨g,cap,rfl,hz, -⟩:=IZ.gJ ho (by rw [bQ];exact hl)
 have hs:=h.sg g rfl;rw [bQ];refine ⟨g,cap,rfl,?_,hz,h.wE,h.KI,h.JP,h.I7,⟨fun e=>hs.1 e.symm,h.s1.1,h.s1.2⟩,⟨hs.2.1,hs.2.2.1,h.s2⟩,⟨h.s3.1,hs.2.2.2,h.s3.2.1,h.s3.2.2⟩,h.dom,h.nd,h.yc,h.tl⟩
 have:=h.hd;rwa [bQ] at this
theorem lC.any (h:lC w B F A rp g cap L T):AV w B F A rp (.slice (some ⟨g,0,none⟩) L.length cap) L T:=by
 have ho:=h.row.own;rw [bQ] at ho;refine ⟨h.hd,ho,h.wE,h.KI,h.JP,h.I7,h.s1.2,fun k hk=>?_,h.s2.2.2,⟨h.s3.1,h.s3.2.2⟩,h.dom,h.nd,h.yc,h.tl⟩
 cases hk;exact ⟨fun e=>h.s1.1 e.symm,h.s2.1,h.s2.2.1,h.s3.2.1⟩
theorem AV.len (h:AV w B F A rp v L T):L.length≤65536:=by
 rcases Nat.eq_zero_or_pos L.length with e|e
 ·omega
 ·obtain ⟨g,cap, -,hM⟩:=h.full e;exact hM.len
theorem AV.upd {w':World} {S:List Nat} (h:AV w B F A rp v L T) (hu:aa S w w') (hS:∀x,x∈S→x∉rp::B.ga::B.n0::(F++v.ownBlock.toList)):AV w' B F A rp v L T:=by
 have h1:∀x,x∈rp::B.ga::B.n0::(F++v.ownBlock.toList)→x∉S:=fun x hx hg=>hS x hg hx
 refine ⟨h.hd.upd hu (h1 _ σ),ay h.own hu (fun k hk=>h1 k (by simp [Option.mem_toList,hk])),h.wE.upd hu (h1 _ σ),hu.kept h.KI (h1 _ σ),hu.kept h.JP (h1 _ σ),?_,h.s1,h.sg,h.s2,h.s3,h.dom,h.nd,h.yc,h.tl⟩
 obtain ⟨st,hC⟩:=h.I7;exact ⟨st,hC.upd hu (fun x hx hm=>hS x hx (by simp [hm]))⟩
theorem AV.aj {w':World} (h:AV w B F A rp v L T) (hu:aa [] w w'):AV w' B F A rp v L T:=h.upd hu σ
theorem Gq (l:List Nat) (x:Nat):bz (l++[x])=bz l++[(x:Int)]:=by unfold bz;simp
theorem JM {L T:List Nat} {x:Nat} (hx:x∉L) (hxT:x<T.length) (h:∀j x,L[j]?=some x→T.getD x 0=j):∀j y,(L++[x])[j]?=some y→(T.set x L.length).getD y 0=j:=by
 intro j y hj;rw [bT]
 by_cases e:j<L.length
 ·rw [List.getElem?_append_left e] at hj;rw [if_neg (fun h'=>hx (by rw [←h'.1];exact List.mem_of_getElem? hj))]
  exact h j y hj
 ·rw [List.getElem?_append_right ω] at hj;have e2:j-L.length=0:=by
   rcases Nat.eq_zero_or_pos (j-L.length) with h'|h'
   ·exact h'
   ·rw [List.getElem?_eq_none ζ] at hj;cases hj
  rw [e2] at hj;simp at hj;rw [if_pos ⟨hj.symm,hxT⟩];omega
theorem E9 (h:AV w B F A rp v L T) (x:Nat) (hx:x∉L) (hin:bD A (x:Int)=true) (hxT:x<T.length) (hl:L.length<T.length) :
  Calls Tryz.prog 288 #[.pointer (some ⟨rp,0,none⟩),.iface 3 (.int .i64 (x:Int))] w fun e w'=>e=.returned (.tuple #[])∧∃g cap,lC w' B F A rp g cap (L++[x]) (T.set x L.length)∧aa (rp::B.ga::v.ownBlock.toList) w w'∧(v.ownBlock=some g∨w.heap.size≤g):=by
 have hle:=h.len;obtain ⟨av,cv,rfl,hcv⟩:=aR h.own;have c0:w.cell? ⟨rp,0,none⟩=some (.pointer (some ⟨B.n0,0,none⟩)):=h.hd.cellAt 0 ω rfl;have c1:w.cell? ⟨rp,1,none⟩=some (.slice av L.length cv):=h.hd.cellAt 1 ω rfl;have n2:=h.JP;have ct:w.cell? ⟨B.ga,x,none⟩=some (.int .i64 ((T.getD x 0:Nat):Int)):=by
  have:=h.wE.cell x (by rw [bQ];exact hxT)
  rwa [pg] at this
 have ft:=h.wE.free x;have fr:=h.hd.free 1;have htl:=h.tl;have HH:=χ (ψ h (ψ hx (ψ hin hxT)));have hxI:(x:Int)<(T.length:Int):=ω;have s1:=h.s1;have s2:=h.s2;clear h hx hin;generalize hn:L.length=n at *
 generalize hm:T.length=m at *
 have HN:=χ (ψ hn hm);clear hn hm;generalize T.getD x 0=tx at *
 have hta:∀W:World,(Instr.typeAssert (.iface 3 (.int .i64 (x:Int))) 20 3 false).run Tryz.prog W=.ok (.int .i64 (x:Int)) W:=fun W=>by kernel_rfl
 go_enter Tryz.func288,Tryz.ntmps288
 go_upto_region 1 with (fail)
 go_cut [] (fun W=>aa [] (w.setCell ⟨B.ga,x,none⟩ (.int .i64 (n:Int))) W)
 case first=>
  go_wp2
  go_region
  all_goals
   go_wp2
   go_meet
   first|exact ⟨rfl,rfl,rfl,Nat.le_refl _,fun _ _ _=>rfl⟩|(repeat (first|assumption|exact aa.refl _ _|refine aa.drew ?_|refine aa.alloc ?_ _|refine aa.setCell ?_ ?_ _|focus (left;simp;done)|focus (right;simp;done)|focus (right;simp;omega)|(apply aa.trans;rotate_left;assumption)))
 case rest=>
 have hcu:=hcut;clear hcut;rename World=>W
 obtain ⟨h,hx,hin,hxT'⟩:=HH.out;have hu:aa [B.ga] w W:=aa.then β hcu;have e1:W.cell? ⟨rp,1,none⟩=some (.slice av n cv):=hu.kept c1 (by simp;exact s1.1)
 have fr1:=hu.aO c1 (by simp;exact s1.1) fr
 have hT:IZ W B.ga m (bz (T.set x n)):=by
  rw [kT];have:=h.wE;rw [HN.out.2] at this;exact (this.set x _).upd hcu σ
 have ho:W.ownsRow 0 3 1 (.slice av n cv) n (aH (bz L)):=by
  have:=ay h.own hu (fun k hk=>by simp;exact (h.sg k hk).2.1)
  rwa [HN.out.1] at this
 have HP:=χ (ψ hu hT);clear h hx hin hu hT c0 c1 n2 ct ft fr hcu;have hrl:rp<W.heap.size:=World.block_lt_of_cell? _ _ e1
 go_wp2_with (first
  | ((at_builtin;refine aC rfl _ _ 26 rfl 0 3 (.int .i64 0) 1 8 Tryz.underlying26 cK rfl δ _ _ _ rfl (ho) [.int .i64 (x:Int)] rfl (by simp [Value.oneCell']) (by first|rfl|(rw [World.size_alloc];rfl)) μ ω (ω) ?_;intro v2 w3 ho3 hu3 hsep3);obtain ⟨g3,c3,rfl,_,hg3l,_,hc3, -, -⟩:=bY ho3 ω;(have er:¬ (Value.slice av n cv).ownBlock=some rp:=fun e=>(HH.out.1.sg rp e).1 rfl);(have e2:=hu3.kept e1 (fun hm=>er (Option.mem_toList.1 hm)));(have fr2:=hu3.aO e1 (fun hm=>er (Option.mem_toList.1 hm)) fr1))
  | fail)
 go_end0;obtain ⟨h,hx,hin,hxT'⟩:=HH.out;obtain ⟨hu,hT⟩:=HP.out;have hsz:=hu.size;have hgx:(Value.slice av n cv).ownBlock=some g3∨w.heap.size≤g3:=by
  rcases hsep3 with e|e
  ·exact Or.inl (e.symm.trans rfl)
  ·exact Or.inr (by have:=e g3 rfl;omega)
 have hw4:aa [rp] w3 (w3.setCell ⟨rp,1,none⟩ (.slice (some ⟨g3,0,none⟩) (n+1) c3)):=β;have huA:aa (rp::B.ga::(Value.slice av n cv).ownBlock.toList) w (w3.setCell ⟨rp,1,none⟩ (.slice (some ⟨g3,0,none⟩) (n+1) c3)):=((hu.mono σ).trans (hu3.mono (fun z hz=>List.mem_cons_of_mem _ (List.mem_cons_of_mem _ hz)))).trans (hw4.mono σ)
 have hgs:g3≠rp∧g3≠B.ga∧g3≠B.n0∧g3∉F:=by
  rcases hgx with e|e
  ·exact h.sg g3 e
  ·refine ⟨fun e2=>?_,fun e2=>?_,fun e2=>?_,fun hm=>?_⟩
   ·have:=h.hd.lt;omega
   ·have:=h.wE.lt;omega
   ·have:=World.block_lt_of_cell? _ _ h.KI;dsimp only at this;omega
   ·obtain ⟨st,hC⟩:=h.I7;have:=hC.lt g3 hm;omega
 have hoff:∀z,z∈rp::B.ga::(Value.slice av n cv).ownBlock.toList→z≠B.n0∧z∉F:=fun z hz=>by
  simp only [List.mem_cons] at hz;rcases hz with rfl|rfl|hz
  ·exact ⟨h.s1.2,h.s3.1⟩
  ·exact ⟨h.s2,h.s3.2.1⟩
  ·have:=h.sg z (Option.mem_toList.1 hz);exact ⟨this.2.2.1,this.2.2.2⟩
 refine ⟨rfl,g3,c3,⟨?_,?_,?_,huA.kept h.KI (fun hm=>(hoff _ hm).1 rfl),?_,?_,⟨fun e=>hgs.1 e.symm,h.s1⟩,⟨hgs.2.1,hgs.2.2.1,h.s2⟩,⟨h.s3.1,hgs.2.2.2,h.s3.2⟩,fun y hy=>?_,?_,?_,?_⟩,huA,hgx⟩
 ·rw [List.length_append,HN.out.1];refine (((h.hd.upd hu (by simp;exact s1.1)).upd hu3 (fun hm=>er (Option.mem_toList.1 hm))).set 1 _).ext (fun j hj=>?_)
  rcases (ω:j=0∨j=1) with rfl|rfl<;>rfl
 ·refine ⟨?_⟩;rw [Gq,List.length_append,bQ,HN.out.1,aS];exact ay ho3 hw4 (fun k hk=>by cases hk;simp;exact hgs.1)
 ·rw [List.length_set,HN.out.2];exact (hT.upd hu3 (fun hm=>(h.sg B.ga (Option.mem_toList.1 hm)).2.1 rfl)).upd hw4 (by simp;exact fun e=>s1.1 e.symm)
 ·rw [List.length_set];exact huA.kept h.JP (fun hm=>(hoff _ hm).1 rfl)
 ·obtain ⟨st,hC⟩:=h.I7;exact ⟨st,hC.upd huA (fun z hz=>(hoff z hz).2)⟩
 ·rw [List.length_set];rcases List.mem_append.1 hy with e|e
  ·exact h.dom y e
  ·simp at e;subst e;exact ⟨hin,by rw [HN.out.2];exact hxT'⟩
 ·rw [List.nodup_append];exact ⟨h.nd,σ,fun a ha b hb e=>by simp at hb;subst hb;subst e;exact hx ha⟩
 ·have:=JM hx (by rw [HN.out.2];exact hxT') h.yc
  rwa [HN.out.1] at this
 ·rw [List.length_set];exact h.tl
end
section
variable {w:World} {B:HB} {F:List Nat} {A:NS} {rp g cap:Nat} {v:Value} {L T M:List Nat}
theorem yL (x:Nat) (h:lC w B F A rp g cap (M++[x]) T) :
  Calls Tryz.prog 287 #[.pointer (some ⟨rp,0,none⟩)] w fun e w'=>e=.returned (.iface 3 (.int .i64 (x:Int)))∧AV w' B F A rp (.slice (some ⟨g,0,none⟩) M.length cap) M T∧aa [rp] w w':=by
 have c1:=h.h1;have hl:=h.len;have cx:=h.CV M.length σ;have ex:(M++[x]).getD M.length 0=x:=by simp [φ]
 rw [ex] at cx;have fr:=h.hd.free 1;have hcb:=h.PV;rw [List.length_append,List.length_singleton] at c1 hl hcb;have s1:=h.s1;have HF:Hid (∀W,aa [] (w.setCell ⟨rp,1,none⟩ (.slice (some ⟨g,0,none⟩) M.length cap)) W→AV W B F A rp (.slice (some ⟨g,0,none⟩) M.length cap) M T∧aa [rp] w W):=by
  intro W hW;have hu:aa [rp] w W:=aa.then β hW;have s3:=h.s3;have hr:=h.row.own;rw [bQ] at hr;have ho:=xK hr (k:=M.length) σ;rw [rG,xV,List.take_left'  rfl] at ho;refine ⟨⟨?_,ay ho hu (fun k hk=>by cases hk;simp;exact fun e=>s1.1 e.symm),h.wE.upd hu (by simp;exact fun e=>s1.2.1 e.symm),hu.kept h.KI (by simp;exact fun e=>s1.2.2 e.symm),hu.kept h.JP (by simp;exact fun e=>s1.2.2 e.symm),?_,s1.2,fun k hk=>?_,h.s2.2.2,⟨s3.1,s3.2.2⟩,fun y hy=>h.dom y (List.mem_append.2 (Or.inl hy)),(List.nodup_append.1 h.nd).1,fun j y hj=>h.yc j y ?_,h.tl⟩,hu⟩
  ·refine (((h.hd.set 1 _).ext (fun j hj=>?_)).upd hW σ)
   rcases (ω:j=0∨j=1) with rfl|rfl<;>rfl
  ·obtain ⟨st,hC⟩:=h.I7;exact ⟨st,hC.upd hu (fun z hz hm=>by simp at hz;subst hz;exact s3.1 hm)⟩
  ·cases hk;exact ⟨fun e=>s1.1 e.symm,h.s2.1,h.s2.2.1,s3.2.1⟩
  ·obtain ⟨hj',_⟩:=List.getElem?_eq_some_iff.1 hj;rw [List.getElem?_append_left hj'];exact hj
 clear h ex;generalize M.length=n at *
 have hnI:(n:Int)+1-1=(n:Int):=ω;have hcI:(n:Int)<(cap:Int):=ω;have hw1:IntKind.i64.wrap (n:Int)=(n:Int):=IntWalk.i64_in _ ω;obtain ⟨n1,hn1⟩:∃n1,n1=n+1:=⟨_,rfl⟩
 rw [←hn1] at c1 hl hcb;have hnJ:(n1:Int)-1=(n:Int):=ω;have hn2:(n:Int)<(n1:Int):=ω;clear hn1
 go_enter Tryz.func287,Tryz.ntmps287
 go_wp2
 go_region
 all_goals
  go_wp2
  go_region
  all_goals
   go_wp2;go_ret;refine ⟨rfl,HF.out _ ?_⟩
   first|exact ⟨rfl,rfl,rfl,Nat.le_refl _,fun _ _ _=>rfl⟩|(repeat (first|assumption|exact aa.refl _ _|refine aa.drew ?_|refine aa.alloc ?_ _|refine aa.setCell ?_ ?_ _|focus (left;simp;done)|focus (right;simp;done)|focus (right;simp;omega)|(apply aa.trans;rotate_left;assumption)))
def P6 (w0:World) (B:HB) (F:List Nat) (A:NS) (rp:Nat) (v:Value) (L T:List Nat) (x:Nat) (w:World):Prop:=∃g cap L' T',lC w B F A rp g cap L' T'∧L'.Perm (x::L)∧Hp (lU A) 2 L'∧(∀y,y∉x::L→T'.getD y 0=T.getD y 0)∧T'.length=T.length∧aa (rp::B.ga::B.c::v.ownBlock.toList) w0 w∧(v.ownBlock=some g∨w0.heap.size≤g)
theorem G9 (h:AV w B F A rp v L T) (x:Nat) (hx:x∉L) (hin:bD A (x:Int)=true) (hxT:x<T.length) (hl:L.length<T.length) (hH:Hp (lU A) 2 L) :
  Calls Tryz.prog 279 #[.iface 317 (.pointer (some ⟨rp,0,none⟩)),.iface 3 (.int .i64 (x:Int))] w fun e w'=>e=.returned (.tuple #[])∧P6 w B F A rp v L T x w':=by
 have m1:=Na rp;have m2:=Ej rp;have hle:=h.len;have kp:=E9 h x hx hin hxT hl;have ku:∀w1 g cap,lC w1 B F A rp g cap (L++[x]) (T.set x L.length)→aa (rp::B.ga::v.ownBlock.toList) w w1→(v.ownBlock=some g∨w.heap.size≤g)→Calls Tryz.prog 281 #[.iface 317 (.pointer (some ⟨rp,0,none⟩)),.int .i64 (L.length:Int)] w1 fun e w'=>e=.returned (.tuple #[])∧P6 w B F A rp v L T x w':=by
  intro w1 g cap h1 hu1 hg;obtain ⟨hs1,hs2⟩:=Hp.snoc (x:=x) hH (fQ A) ω;have hP:jM w1 B F A rp g cap [] (L++[x]) (T.set x L.length) w1 (L++[x]) (T.set x L.length):=jM.start (by rw [List.append_nil];exact h1)
  have hgx:(L++[x]).getD L.length 0=x:=by simp [φ]
  refine (xQ hP L.length hs1 (by rw [hgx];exact hs2)).mono ?_
  rintro e w' ⟨rfl,M2,T2,hP2,hH2⟩;have hpm:=hP2.pi;rw [List.append_nil] at hpm;refine ⟨rfl,g,cap,M2,T2,hpm,hP2.perm.trans List.perm_append_comm,hH2,fun y hy=>?_,by rw [hP2.tl,List.length_set],(hu1.mono (fun z hz=>?_)).joined hP2.upd (fun z hz=>?_),hg⟩
  ·simp only [List.mem_cons,not_or] at hy;rw [hP2.off y (by simp [hy.1,hy.2]),bT,if_neg (fun e=>hy.1 e.1)]
  ·simp only [List.mem_cons] at hz ⊢;rcases hz with h'|h'|h'
   ·exact Or.inl h'
   ·exact Or.inr (Or.inl h')
   ·exact Or.inr (Or.inr (Or.inr h'))
  ·simp only [List.mem_cons,List.not_mem_nil,or_false] at hz ⊢;rcases hz with h'|h'|h'
   ·rcases hg with e|e
    ·left;right;right;right;rw [h'];exact Option.mem_toList.2 e
    ·right;omega
   ·exact Or.inl (Or.inr (Or.inl h'))
   ·exact Or.inl (Or.inr (Or.inr (Or.inl h')))
 have kl:∀w1 g cap,lC w1 B F A rp g cap (L++[x]) (T.set x L.length)→Calls Tryz.prog 285 #[.pointer (some ⟨rp,0,none⟩)] w1 fun e w'=>e=.returned (.int .i64 ((L.length:Int)+1))∧w'=w1:=fun w1 g cap h1=>by
  have:=uC h1;rw [List.length_append,List.length_singleton] at this;exact this
 clear h hx hin hxT hl hH;generalize L.length=n at *
 have hnI:(n:Int)+1-1=(n:Int):=ω
 go_enter Tryz.func279,Tryz.ntmps279
 go_wp2_with (first
  | ((go_at_call 288;(with_reducible refine (kp).mono ?_));rintro e w1 ⟨rfl,g,cap,hP1,hu1,hg1⟩)
  | ((go_at_call 285;(with_reducible refine (kl _ _ _ hP1).mono ?_));rintro e w2 ⟨rfl,hw2⟩;subst hw2)
  | ((go_at_call 281;(with_reducible refine (ku _ _ _ hP1 hu1 hg1).mono ?_));rintro e w3 ⟨rfl,hQ⟩)
  | fail)
 go_end0;exact ⟨rfl,hQ⟩
theorem J6 (h:lC w B F A rp g cap L T) (i:Nat) (hH:dD (lU A) 2 L i) :
  Calls Tryz.prog 277 #[.iface 317 (.pointer (some ⟨rp,0,none⟩)),.int .i64 (i:Int)] w fun e w'=>e=.returned (.tuple #[])∧∃L' T',jM w B F A rp g cap [] L T w' L' T'∧Hp (lU A) 2 L':=by
 have m2:=Ej rp;have hP:jM w B F A rp g cap [] L T w L T:=jM.start (by rw [List.append_nil];exact h)
 have kl:=uC h;have kd:=wo hP i L.length rfl hH;have ku:∀w1 L1 T1,jM w B F A rp g cap [] L T w1 L1 T1→FO A i false L1→_:=fun w1 L1 T1 h1 h2=>xQ h1 i (h2.2 rfl).1 (h2.2 rfl).2
 unfold FV at kd;have hle:=h.len;clear h hH hP;generalize L.length=n at *
 go_enter Tryz.func277,Tryz.ntmps277
 go_wp2_with (first
  | ((go_at_call 285;(with_reducible refine (kl).mono ?_));rintro e w2 ⟨rfl,rfl⟩)
  | ((go_at_call 280;(with_reducible refine (kd).mono ?_));rintro e w3 ⟨i2,rfl,L1,T1,hP1,hD1⟩;generalize decide (i<i2)=bd at *;cases bd)
  | ((go_at_call 281;(with_reducible refine (ku _ _ _ hP1 hD1).mono ?_));rintro e w4 ⟨rfl,L2,T2,hP2,hH2⟩)
  | fail)
 ·go_end0;exact ⟨rfl,L2,T2,hP2,hH2⟩
 ·go_end0;exact ⟨rfl,L1,T1,hP1,hD1.1 rfl⟩
theorem wB {l:List Nat} {n:Nat} (h:l.length=n+1):l=l.take n++[l.getD n 0]:=by
 have h1:n<l.length:=ω;have h2:=List.take_append_drop n l;rw [List.drop_eq_getElem_cons h1,List.drop_eq_nil_of_le ω] at h2;rw [φ,List.getElem?_eq_getElem h1];exact h2.symm
def PX (w0:World) (B:HB) (F:List Nat) (A:NS) (rp g cap:Nat) (L T:List Nat) (x:Nat) (w:World):Prop:=∃L' T',AV w B F A rp (.slice (some ⟨g,0,none⟩) L'.length cap) L' T'∧(x::L').Perm L∧Hp (lU A) 2 L'∧(∀y,y∉L→T'.getD y 0=T.getD y 0)∧T'.length=T.length∧aa [rp,g,B.ga,B.c] w0 w
theorem Bg (h:lC w B F A rp g cap L T) (i x:Nat) (hx:L[i]?=some x) (hH:Hp (lU A) 2 L) :
  Calls Tryz.prog 278 #[.iface 317 (.pointer (some ⟨rp,0,none⟩)),.int .i64 (i:Int)] w fun e w'=>e=.returned (.iface 3 (.int .i64 (x:Int)))∧PX w B F A rp g cap L T x w':=by
 have m1:=Al rp;have m2:=Ej rp;have m3:=OA rp;have kl:=uC h;have hle:=h.len;obtain ⟨hi,hxe⟩:=List.getElem?_eq_some_iff.1 hx;obtain ⟨n,hn⟩:∃n,L.length=n+1:=⟨L.length-1,ω⟩
 have hxg:L.getD i 0=x:=by rw [φ,hx];rfl
 by_cases hin:i=n
 ·subst hin;have hs:=wB hn;rw [hxg] at hs;have hM:=h;rw [hs] at hM;have kp:=yL x hM;have hH2:Hp (lU A) 2 (L.take i):=hH.take ω;have hp:(x::L.take i).Perm L:=by
   conv=>rhs;rw [hs]
   exact (List.perm_append_comm (l₁:=[x]))
  have HQ:=χ (ψ hH2 hp);rw [hn] at kl hle;have hnI:(i:Int)+1-1=(i:Int):=ω;have hwk:IntKind.i64.wrap (i:Int)=(i:Int):=IntWalk.i64_in _ ω;rw [show ((i+1:Nat):Int)=(i:Int)+1 from rfl] at kl
  clear hM hs hH hH2 hp hx hxe hxg h hi hn;have hnb:((i:Int) != (i:Int))=false:=σ
  go_enter Tryz.func278,Tryz.ntmps278
  go_wp2_with (first
   | ((go_at_call 285;(with_reducible refine (kl).mono ?_));rintro e w2 ⟨rfl,rfl⟩)
   | ((go_at_call 287;(with_reducible refine (kp).mono ?_));rintro e w3 ⟨rfl,hP3,hu3⟩)
   | fail)
  go_ret;exact ⟨rfl,_,T,hP3,HQ.out.2,HQ.out.1,fun _ _=>rfl,rfl,hu3.mono σ⟩
 ·have hil:i<n:=ω;have hnl:n<L.length:=ω;have ks:=xA h i n hi hnl ω;have hsl:(eO L i n).length=n+1:=by rw [iP,hn]
  have hs:=wB hsl;rw [jv hi hnl,if_pos rfl,hxg] at hs;obtain ⟨M,hMe⟩:∃M,M=(eO L i n).take n:=⟨_,rfl⟩
  rw [←hMe] at hs;have hMl:M.length=n:=by rw [hMe,List.length_take,hsl];omega
  have hMv:M=(L.take n).set i (L.getD n 0):=by
   rw [hMe];unfold eO;rw [List.take_set_of_le (Nat.le_refl _),List.take_set]
  have hMH:dD (lU A) 2 M i:=by
   rw [hMv];exact ((hH.take ω).hole (fQ A) ω (by rw [List.length_take];omega)).any ω _
  have hp:(M++[x]).Perm L:=by rw [←hs];exact rM hi hnl ω
  have kd:∀w1,lC w1 B F A rp g cap (eO L i n) (yu T L i n)→Calls Tryz.prog 280 #[.iface 317 (.pointer (some ⟨rp,0,none⟩)),.int .i64 (i:Int),.int .i64 (n:Int)] w1 fun e w'=>∃i2,e=.returned (.bool (decide (i<i2)))∧FV w1 B F A rp g cap [x] M (yu T L i n) w' i i2:=fun w1 h1=>by
   rw [hs] at h1;exact wo (jM.start h1) i n hMl.symm hMH
  have ku:∀w1 w2 L1 T1,jM w1 B F A rp g cap [x] M (yu T L i n) w2 L1 T1→FO A i false L1→_:=fun w1 w2 L1 T1 h1 h2=>xQ h1 i (h2.2 rfl).1 (h2.2 rfl).2
  have kp:∀w1 w2 L1 T1,jM w1 B F A rp g cap [x] M (yu T L i n) w2 L1 T1→_:=fun w1 w2 L1 T1 h1=>yL x h1.pi
  unfold FV at kd;have HE:Hid (∀w1 w2 w3 L1 T1,aa [g,B.ga] w w1→jM w1 B F A rp g cap [x] M (yu T L i n) w2 L1 T1→Hp (lU A) 2 L1→AV w3 B F A rp (.slice (some ⟨g,0,none⟩) L1.length cap) L1 T1→aa [rp] w2 w3→PX w B F A rp g cap L T x w3):=by
   intro w1 w2 w3 L1 T1 hu1 h2 hH1 h3 hu3;refine ⟨L1,T1,h3,?_,hH1,fun y hy=>?_,by rw [h2.tl,qy],((hu1.mono σ).trans (h2.upd.mono σ)).trans (hu3.mono σ)⟩
   ·exact (List.perm_append_comm (l₁:=[x])).trans ((h2.perm.append_right [x]).trans hp)
   ·rw [h2.off y (fun hm=>hy (hp.mem_iff.1 hm)),Fy hi hnl hy]
  rw [hn] at kl hle;have hnI:(n:Int)+1-1=(n:Int):=ω;have hwk:IntKind.i64.wrap (n:Int)=(n:Int):=IntWalk.i64_in _ ω;rw [show ((n+1:Nat):Int)=(n:Int)+1 from rfl] at kl
  clear hMe hMl hMv hMH hp hs hsl hnl hx hxe hxg h hi hn hH;have hnb:((n:Int) != (i:Int))=true:=ζ;generalize eO L i n=L1 at *
  generalize yu T L i n=T1 at *
  go_enter Tryz.func278,Tryz.ntmps278
  go_wp2_with (first
   | ((go_at_call 285;(with_reducible refine (kl).mono ?_));rintro e w2 ⟨rfl,rfl⟩)
   | ((go_at_call 289;(with_reducible refine (ks).mono ?_));rintro e w3 ⟨rfl,hP3,hu3⟩)
   | ((go_at_call 280;(with_reducible refine (kd _ hP3).mono ?_));rintro e w4 ⟨i2,rfl,L4,T4,hP4,hD4⟩;generalize decide (i<i2)=bd at *;cases bd)
   | ((go_at_call 281;(with_reducible refine (ku _ _ _ _ hP4 hD4).mono ?_));rintro e w5 ⟨rfl,L5,T5,hP5,hH5⟩)
   | ((go_at_call 287;(with_reducible first|refine (kp _ _ _ _ hP5).mono ?_|refine (kp _ _ _ _ hP4).mono ?_));rintro e w6 ⟨rfl,hP6,hu6⟩)
   | fail)
  ·go_ret;exact ⟨rfl,HE.out _ _ _ _ _ hu3 hP5 hH5 hP6 hu6⟩
  ·go_ret;exact ⟨rfl,HE.out _ _ _ _ _ hu3 hP4 (hD4.1 rfl) hP6 hu6⟩
end
end Go.Proofs.YtklibcncmbofpaaGreat
