/-
  Lemmas for ProofHolds: Sd4, Sd5, Sd6, Sf3, Sf4, Sf5. Conditions: those of each lemma.
-/
import Derived.Test.YtklibcncmbofpaaGreatR08
set_option linter.all false
set_option maxHeartbeats 8000000
set_option maxRecDepth 10000
namespace Go.Proofs.YtklibcncmbofpaaGreat
open Go Go.RowKit
section
variable {w0 w:World}{B:HB}{F:List Nat}{A:NS}{rp g cap:Nat}{t M T M' T':List Nat}
def Md(A:NS)(i0:Nat)(b:Bool)(M2:List Nat):Prop:=(b=true->Hp (oJ A) 2 M2)/\(b=false->fC (oJ A) 2 M2 i0/\Below (oJ A) 2 M2 i0 (M2.getD i0 0))
theorem tK{i0 i:Nat}{M2:List Nat}(hH:fC (oJ A) 2 M2 i)(hB:Below (oJ A) 2 M2 i (M2.getD i 0))(h0:i0<=i)(hu:i0<i->oJ A (M2.getD (par 2 i) 0) (M2.getD i 0)):Md A i0 (decide (i0<i)) M2:=by
 constructor
 ·intro h;exact hH.done ω hB (Or.inr (hu (by simp at h;omega)))
 ·intro h;have e:i=i0:=by simp at h;omega
  subst e;exact⟨hH,hB⟩
def Lh(w0:World)(B:HB)(F:List Nat)(A:NS)(rp g cap:Nat)(t M T:List Nat)(w:World)(i0 i2:Nat):Prop:=∃M2 T2,mF w0 B F A rp g cap t M T w M2 T2/\Md A i0 (decide (i0<i2)) M2
theorem zF(h0:mF w0 B F A rp g cap t M T w M' T')(i0 n:Nat)(hn:n=M'.length)(hH:fC (oJ A) 2 M' i0) :
  Calls Tryz.prog 280 #[.iface 317 (.pointer (some ⟨rp,0,none⟩)),.int .i64 (i0:Int),.int .i64 (n:Int)] w fun e w'=>∃i2,e=.returned (.bool (decide (i0<i2)))/\Lh w0 B F A rp g cap t M T w' i0 i2:=by
 have m1:=LP rp;have m2:=DW rp;have HI:=χ (ψ h0 (ψ hH hn));clear h0 hH hn
 go_enter Tryz.func280,Tryz.ntmps280
 go_wp2
 go_loopw [7,8,9,10] (fun v7 v8 v9 v10 wr=>∃ (i:Nat) (M2 T2:List Nat),v7=.int .i64 (i:Int)/\mF w0 B F A rp g cap t M T wr M2 T2/\fC (oJ A) 2 M2 i/\M2.length=n/\i0<=i/\(i0<i->oJ A (M2.getD (par 2 i) 0) (M2.getD i 0))) (fun v7 _ _ _ _=>n-(intOf v7).toNat)
 case atStart=>exact⟨i0,M',T',rfl,HI.out.1,HI.out.2.1,HI.out.2.2.symm,Nat.le_refl _,fun h=>absurd h (Nat.lt_irrefl _)⟩
 case round=>
  obtain⟨i,M2,T2,rfl,hP,hH,hl,hi0,hu⟩:=hrel;rename World=>wr;have hil:=hH.lt;rw[hl]at hil;have hlen:(M2++t).length<=65536:=hP.pi.len;rw[υ,hl]at hlen;obtain⟨j1,hj1⟩:∃j1,j1=2*i+1:=⟨_,rfl⟩;have he1:2*(i:Int)+1=(j1:Int):=ω;obtain⟨j2,hj2⟩:∃j2,j2=j1+1:=⟨_,rfl⟩;have he2:(j1:Int)+1=(j2:Int):=ω;have hj10:¬ (j1:Int)<0:=ω
  by_cases hc1:j1<n
  ·have hc1I:¬ (j1:Int)≥(n:Int):=ω;have ht1:=MX (R:=oJ A) (L:=M2) (i:=i) hl ω (fun h2 hr=>Bj (hP.ne ω ω ω) hr);rw[show 2*i+1=j1 from hj1.symm,show 2*i+2=j2 by omega]at ht1
   by_cases hc2:j2<n
   ·have hc2I:(j2:Int)<(n:Int):=ω;cases hb1:decide (bZ A (M2.getD j2 0) (M2.getD j1 0))with
    | true=>
     have hF:=ht1.2 ⟨hc2,fq.2 (of_decide_eq_true hb1)⟩;have Xo:=hP.less (show j2<M2.length by omega) (show j1<M2.length by omega) hb1;cases hb2:decide (bZ A (M2.getD j2 0) (M2.getD i 0))with
     | true=>
      have L9:∀w1,mF w0 B F A rp g cap t M T w1 M2 T2->_:=fun w1 h1=>mF.less h1 (show j2<M2.length by omega) (show i<M2.length by omega) hb2;have ks:∀w1,mF w0 B F A rp g cap t M T w1 M2 T2->_:=fun w1 h1=>mF.swaps h1 (show i<M2.length by omega) (show j2<M2.length by omega) ω;have hS:=hH.A8 (iP A) hF (fq.2 (of_decide_eq_true hb2));have HQ:=χ (ψ hS hl);have hj3:i<j2:=ω;clear hP hH hu hF hb1 hb2 hS ht1 hl hj1 hj2
      go_wp2_with (first|((go_at_call 286;(with_reducible refine(Xo).mono ?_));rintro e w1 ⟨rfl,hP1⟩)|((go_at_call 286;(with_reducible refine(L9 _ hP1).mono ?_));rintro e w2 ⟨rfl,hP2⟩)|((go_at_call 289;(with_reducible refine(ks _ hP2).mono ?_));rintro e w3 ⟨rfl,hP3⟩)|fail)
      go_roundw
      case rel=>exact⟨j2,_,_,by go_num,hP3,HQ.out.1.1,by rw[kY];exact HQ.out.2,ω,fun _=>HQ.out.1.2⟩
      case measure=>simp[intOf];omega
     | false=>
      have L9:∀w1,mF w0 B F A rp g cap t M T w1 M2 T2->_:=fun w1 h1=>mF.less h1 (show j2<M2.length by omega) (show i<M2.length by omega) hb2;have hx:=Bj (hP.ne (show j2<M2.length by omega) (show i<M2.length by omega) ω) (fun h=>by rw[fq]at h;rw[decide_eq_false_iff_not]at hb2;exact hb2 h);have hE:=tK hH (oV (iP A) hF hx) hi0 hu;have HQ:=χ hE;clear hP hH hu hF hb1 hb2 hE ht1 hl hj1 hj2 hx
      go_wp2_with (first|((go_at_call 286;(with_reducible refine(Xo).mono ?_));rintro e w1 ⟨rfl,hP1⟩)|((go_at_call 286;(with_reducible refine(L9 _ hP1).mono ?_));rintro e w2 ⟨rfl,hP2⟩)|fail)
      go_ret;exact⟨i,rfl,M2,T2,hP2,HQ.out⟩
    | false=>
     have hF:=ht1.1 (fun h=>by rw[decide_eq_false_iff_not]at hb1;exact hb1 (fq.1 h.2));have Xo:=hP.less (show j2<M2.length by omega) (show j1<M2.length by omega) hb1;cases hb2:decide (bZ A (M2.getD j1 0) (M2.getD i 0))with
     | true=>
      have L9:∀w1,mF w0 B F A rp g cap t M T w1 M2 T2->_:=fun w1 h1=>mF.less h1 (show j1<M2.length by omega) (show i<M2.length by omega) hb2;have ks:∀w1,mF w0 B F A rp g cap t M T w1 M2 T2->_:=fun w1 h1=>mF.swaps h1 (show i<M2.length by omega) (show j1<M2.length by omega) ω;have hS:=hH.A8 (iP A) hF (fq.2 (of_decide_eq_true hb2));have HQ:=χ (ψ hS hl);have hj3:i<j1:=ω;clear hP hH hu hF hb1 hb2 hS ht1 hl hj1 hj2
      go_wp2_with (first|((go_at_call 286;(with_reducible refine(Xo).mono ?_));rintro e w1 ⟨rfl,hP1⟩)|((go_at_call 286;(with_reducible refine(L9 _ hP1).mono ?_));rintro e w2 ⟨rfl,hP2⟩)|((go_at_call 289;(with_reducible refine(ks _ hP2).mono ?_));rintro e w3 ⟨rfl,hP3⟩)|fail)
      go_roundw
      case rel=>exact⟨j1,_,_,by go_num,hP3,HQ.out.1.1,by rw[kY];exact HQ.out.2,ω,fun _=>HQ.out.1.2⟩
      case measure=>simp[intOf];omega
     | false=>
      have L9:∀w1,mF w0 B F A rp g cap t M T w1 M2 T2->_:=fun w1 h1=>mF.less h1 (show j1<M2.length by omega) (show i<M2.length by omega) hb2;have hx:=Bj (hP.ne (show j1<M2.length by omega) (show i<M2.length by omega) ω) (fun h=>by rw[fq]at h;rw[decide_eq_false_iff_not]at hb2;exact hb2 h);have hE:=tK hH (oV (iP A) hF hx) hi0 hu;have HQ:=χ hE;clear hP hH hu hF hb1 hb2 hE ht1 hl hj1 hj2 hx
      go_wp2_with (first|((go_at_call 286;(with_reducible refine(Xo).mono ?_));rintro e w1 ⟨rfl,hP1⟩)|((go_at_call 286;(with_reducible refine(L9 _ hP1).mono ?_));rintro e w2 ⟨rfl,hP2⟩)|fail)
      go_ret;exact⟨i,rfl,M2,T2,hP2,HQ.out⟩
   ·have hc2I:¬ (j2:Int)<(n:Int):=ω;have hc2D:decide ((j2:Int)<(n:Int))=false:=ζ;have hF:=ht1.1 (fun h=>hc2 h.1);have hP1:=hP;cases hb2:decide (bZ A (M2.getD j1 0) (M2.getD i 0))with
    | true=>
     have L9:∀w1,mF w0 B F A rp g cap t M T w1 M2 T2->_:=fun w1 h1=>mF.less h1 (show j1<M2.length by omega) (show i<M2.length by omega) hb2;have ks:∀w1,mF w0 B F A rp g cap t M T w1 M2 T2->_:=fun w1 h1=>mF.swaps h1 (show i<M2.length by omega) (show j1<M2.length by omega) ω;have hS:=hH.A8 (iP A) hF (fq.2 (of_decide_eq_true hb2));have HQ:=χ (ψ hS hl);have hj3:i<j1:=ω;clear hP hH hu hF hb2 hS ht1 hl hj1 hj2
     go_wp2_with (first|((go_at_call 286;(with_reducible refine(L9 _ hP1).mono ?_));rintro e w2 ⟨rfl,hP2⟩)|((go_at_call 289;(with_reducible refine(ks _ hP2).mono ?_));rintro e w3 ⟨rfl,hP3⟩)|fail)
     go_roundw
     case rel=>exact⟨j1,_,_,by go_num,hP3,HQ.out.1.1,by rw[kY];exact HQ.out.2,ω,fun _=>HQ.out.1.2⟩
     case measure=>simp[intOf];omega
    | false=>
     have L9:∀w1,mF w0 B F A rp g cap t M T w1 M2 T2->_:=fun w1 h1=>mF.less h1 (show j1<M2.length by omega) (show i<M2.length by omega) hb2;have hx:=Bj (hP.ne (show j1<M2.length by omega) (show i<M2.length by omega) ω) (fun h=>by rw[fq]at h;rw[decide_eq_false_iff_not]at hb2;exact hb2 h);have hE:=tK hH (oV (iP A) hF hx) hi0 hu;have HQ:=χ hE;clear hP hH hu hF hb2 hE ht1 hl hj1 hj2 hx
     go_wp2_with (first|((go_at_call 286;(with_reducible refine(L9 _ hP1).mono ?_));rintro e w2 ⟨rfl,hP2⟩)|fail)
     go_ret;exact⟨i,rfl,M2,T2,hP2,HQ.out⟩
  ·have hc1I:(j1:Int)≥(n:Int):=ω;have hE:=tK hH (AX ω ω) hi0 hu;have HQ:=χ (ψ hP hE);clear hP hH hu hE hl hj1 hj2;go_wp2;go_ret;exact⟨i,rfl,M2,T2,HQ.out.1,HQ.out.2⟩
end
structure DZ(w:World)(B:HB)(F:List Nat)(A:NS)(rp:Nat)(v:Value)(L T:List Nat):Prop where
 hd:aL w rp 321 2 (Sr B v)
 own:w.ownsRow 0 3 1 v L.length (aQ (bH L))
 Bu:IZ w B.ga T.length (bH T)
 Qf:w.cell? ⟨B.n0,0,none⟩=some (.pointer (some ⟨B.c,0,none⟩))
 Re:w.cell? ⟨B.n0,2,none⟩=some (.slice (some ⟨B.ga,0,none⟩) T.length T.length)
 O9:∃st,aF w B.c F A st
 s1:rp≠B.ga/\rp≠B.n0
 sg:∀g,v.ownBlock=some g->g≠rp/\g≠B.ga/\g≠B.n0/\g∉F
 s2:B.ga≠B.n0
 s3:rp∉F/\B.ga∉F/\B.n0∉F
 dom:∀x,x∈L->bS A (x:Int)=true/\x<T.length
 nd:L.Nodup
 Bz:∀j x,L[j]?=some x->T.getD x 0=j
 tl:T.length<=65536
section
variable {w:World}{B:HB}{F:List Nat}{A:NS}{rp g cap:Nat}{v:Value}{L T:List Nat}
theorem DZ.full(h:DZ w B F A rp v L T)(hl:0<L.length):∃g cap,v=.slice (some ⟨g,0,none⟩) L.length cap/\oC w B F A rp g cap L T:=by
 have ho:=h.own;rw[←dB]at ho;obtain⟨g,cap,rfl,hz, -⟩:=IZ.iY ho (by rw[dB];exact hl);have hs:=h.sg g rfl;rw[dB];refine⟨g,cap,rfl,?_,hz,h.Bu,h.Qf,h.Re,h.O9,⟨fun e=>hs.1 e.symm,h.s1.1,h.s1.2⟩,⟨hs.2.1,hs.2.2.1,h.s2⟩,⟨h.s3.1,hs.2.2.2,h.s3.2.1,h.s3.2.2⟩,h.dom,h.nd,h.Bz,h.tl⟩;have:=h.hd;rwa[dB]at this
theorem oC.any(h:oC w B F A rp g cap L T):DZ w B F A rp (.slice (some ⟨g,0,none⟩) L.length cap) L T:=by
 have ho:=h.row.own;rw[dB]at ho;refine⟨h.hd,ho,h.Bu,h.Qf,h.Re,h.O9,h.s1.2,fun k hk=>?_,h.s2.2.2,⟨h.s3.1,h.s3.2.2⟩,h.dom,h.nd,h.Bz,h.tl⟩;cases hk;exact⟨fun e=>h.s1.1 e.symm,h.s2.1,h.s2.2.1,h.s3.2.1⟩
theorem DZ.len(h:DZ w B F A rp v L T):L.length<=65536:=by
 rcases Nat.eq_zero_or_pos L.length with e|e
 ·omega
 ·obtain⟨g,cap, -,hM⟩:=h.full e;exact hM.len
theorem DZ.upd{w':World}{S:List Nat}(h:DZ w B F A rp v L T)(hu:aa S w w')(hS:∀x,x∈S->x∉rp::B.ga::B.n0::(F++v.ownBlock.toList)):DZ w' B F A rp v L T:=by
 have h1:∀x,x∈rp::B.ga::B.n0::(F++v.ownBlock.toList)->x∉S:=fun x hx hg=>hS x hg hx;refine⟨h.hd.upd hu (h1 _ σ),aC h.own hu (fun k hk=>h1 k (by simp[Option.mem_toList,hk])),h.Bu.upd hu (h1 _ σ),hu.kept h.Qf (h1 _ σ),hu.kept h.Re (h1 _ σ),?_,h.s1,h.sg,h.s2,h.s3,h.dom,h.nd,h.Bz,h.tl⟩;obtain⟨st,hC⟩:=h.O9;exact⟨st,hC.upd hu (fun x hx hm=>hS x hx (by simp[hm]))⟩
theorem DZ.au{w':World}(h:DZ w B F A rp v L T)(hu:aa [] w w'):DZ w' B F A rp v L T:=h.upd hu σ
theorem Nw(l:List Nat)(x:Nat):bH (l++[x])=bH l++[(x:Int)]:=by unfold bH;simp
theorem Tj{L T:List Nat}{x:Nat}(hx:x∉L)(JO:x<T.length)(h:∀j x,L[j]?=some x->T.getD x 0=j):∀j y,(L++[x])[j]?=some y->(T.set x L.length).getD y 0=j:=by
 intro j y hj;rw[dH]
 by_cases e:j<L.length
 ·rw[List.getElem?_append_left e]at hj;rw[if_neg (fun h'=>hx (by rw[←h'.1];exact List.mem_of_getElem? hj))];exact h j y hj
 ·rw[List.getElem?_append_right ω]at hj;have e2:j-L.length=0:=by
   rcases Nat.eq_zero_or_pos (j-L.length)with h'|h'
   ·exact h'
   ·rw[List.getElem?_eq_none ζ]at hj;cases hj
  rw[e2]at hj;simp at hj;rw[if_pos ⟨hj.symm,JO⟩];omega
theorem JV(h:DZ w B F A rp v L T)(x:Nat)(hx:x∉L)(hin:bS A (x:Int)=true)(JO:x<T.length)(hl:L.length<T.length) :
  Calls Tryz.prog 288 #[.pointer (some ⟨rp,0,none⟩),.iface 3 (.int .i64 (x:Int))] w fun e w'=>e=.returned (.tuple #[])/\∃g cap,oC w' B F A rp g cap (L++[x]) (T.set x L.length)/\aa (rp::B.ga::v.ownBlock.toList) w w'/\(v.ownBlock=some g\/w.heap.size<=g):=by
 have hle:=h.len;obtain⟨av,cv,rfl,hcv⟩:=bq h.own;have c0:w.cell? ⟨rp,0,none⟩=some (.pointer (some ⟨B.n0,0,none⟩)):=h.hd.cellAt 0 ω rfl;have c1:w.cell? ⟨rp,1,none⟩=some (.slice av L.length cv):=h.hd.cellAt 1 ω rfl;have n2:=h.Re;have ct:w.cell? ⟨B.ga,x,none⟩=some (.int .i64 ((T.getD x 0:Nat):Int)):=by
  have:=h.Bu.cell x (by rw[dB];exact JO);rwa[tH]at this
 have ft:=h.Bu.free x;have fr:=h.hd.free 1;have htl:=h.tl;have HH:=χ (ψ h (ψ hx (ψ hin JO)));have BN:(x:Int)<(T.length:Int):=ω;have s1:=h.s1;have s2:=h.s2;clear h hx hin;generalize hn:L.length=n at *;generalize hm:T.length=m at *;have HN:=χ (ψ hn hm);clear hn hm;generalize T.getD x 0=tx at *;have Fu:∀W:World,(Instr.typeAssert (.iface 3 (.int .i64 (x:Int))) 20 3 false).run Tryz.prog W=.ok (.int .i64 (x:Int)) W:=fun W=>by kernel_rfl
 go_enter Tryz.func288,Tryz.ntmps288
 go_upto_region 1 with(fail)
 go_cut [] (fun W=>aa [] (w.setCell ⟨B.ga,x,none⟩ (.int .i64 (n:Int))) W)
 case first=>
  go_wp2
  go_region
  all_goals
   go_wp2
   go_meet
   first|exact⟨rfl,rfl,rfl,Nat.le_refl _,fun _ _ _=>rfl⟩|exact ν
 case rest=>
 have WK:=hcut;clear hcut;rename World=>W;obtain⟨h,hx,hin,YW⟩:=HH.out;have hu:aa [B.ga] w W:=aa.then β WK;have e1:W.cell? ⟨rp,1,none⟩=some (.slice av n cv):=hu.kept c1 (by simp;exact s1.1);have PZ:=hu.aS c1 (by simp;exact s1.1) fr;have hT:IZ W B.ga m (bH (T.set x n)):=by
  rw[nN];have:=h.Bu;rw[HN.out.2]at this;exact(this.set x _).upd WK σ
 have ho:W.ownsRow 0 3 1 (.slice av n cv) n (aQ (bH L)):=by
  have:=aC h.own hu (fun k hk=>by simp;exact(h.sg k hk).2.1);rwa[HN.out.1]at this
 have HP:=χ (ψ hu hT);clear h hx hin hu hT c0 c1 n2 ct ft fr WK;have hrl:rp<W.heap.size:=World.block_lt_of_cell? _ _ e1
 go_wp2_with (first
  | ((at_builtin;refine aX rfl _ _ 26 rfl 0 3 (.int .i64 0) 1 8 Tryz.underlying26 fF rfl δ _ _ _ rfl (ho) [.int .i64 (x:Int)] rfl (by simp[Value.oneCell']) (by first|rfl|(rw[World.size_alloc];rfl)) μ ω (ω) ?_;intro v2 w3 ho3 hu3 Gw);obtain⟨g3,c3,rfl,_,hg3l,_,hc3, -, -⟩:=gJ ho3 ω;(have er:¬ (Value.slice av n cv).ownBlock=some rp:=fun e=>(HH.out.1.sg rp e).1 rfl);(have e2:=hu3.kept e1 (fun hm=>er (Option.mem_toList.1 hm)));(have fr2:=hu3.aS e1 (fun hm=>er (Option.mem_toList.1 hm)) PZ))
  | fail)
 go_end0;obtain⟨h,hx,hin,YW⟩:=HH.out;obtain⟨hu,hT⟩:=HP.out;have hsz:=hu.size;have hgx:(Value.slice av n cv).ownBlock=some g3\/w.heap.size<=g3:=by
  rcases Gw with e|e
  ·exact Or.inl (e.symm.trans rfl)
  ·exact Or.inr (by have:=e g3 rfl;omega)
 have hw4:aa [rp] w3 (w3.setCell ⟨rp,1,none⟩ (.slice (some ⟨g3,0,none⟩) (n+1) c3)):=β;have huA:aa (rp::B.ga::(Value.slice av n cv).ownBlock.toList) w (w3.setCell ⟨rp,1,none⟩ (.slice (some ⟨g3,0,none⟩) (n+1) c3)):=((hu.mono σ).trans (hu3.mono (fun z hz=>List.mem_cons_of_mem _ (List.mem_cons_of_mem _ hz)))).trans (hw4.mono σ);have hgs:g3≠rp/\g3≠B.ga/\g3≠B.n0/\g3∉F:=by
  rcases hgx with e|e
  ·exact h.sg g3 e
  ·refine⟨fun e2=>?_,fun e2=>?_,fun e2=>?_,fun hm=>?_⟩
   ·have:=h.hd.lt;omega
   ·have:=h.Bu.lt;omega
   ·have:=World.block_lt_of_cell? _ _ h.Qf;dsimp only at this;omega
   ·obtain⟨st,hC⟩:=h.O9;have:=hC.lt g3 hm;omega
 have hoff:∀z,z∈rp::B.ga::(Value.slice av n cv).ownBlock.toList->z≠B.n0/\z∉F:=fun z hz=>by
  simp only[ρ]at hz;rcases hz with rfl|rfl|hz
  ·exact⟨h.s1.2,h.s3.1⟩
  ·exact⟨h.s2,h.s3.2.1⟩
  ·have:=h.sg z (Option.mem_toList.1 hz);exact⟨this.2.2.1,this.2.2.2⟩
 refine⟨rfl,g3,c3,⟨?_,?_,?_,huA.kept h.Qf (fun hm=>(hoff _ hm).1 rfl),?_,?_,⟨fun e=>hgs.1 e.symm,h.s1⟩,⟨hgs.2.1,hgs.2.2.1,h.s2⟩,⟨h.s3.1,hgs.2.2.2,h.s3.2⟩,fun y hy=>?_,?_,?_,?_⟩,huA,hgx⟩
 ·rw[υ,HN.out.1];refine(((h.hd.upd hu (by simp;exact s1.1)).upd hu3 (fun hm=>er (Option.mem_toList.1 hm))).set 1 _).ext (fun j hj=>?_);rcases(ω:j=0\/j=1)with rfl|rfl<;>rfl
 ·refine⟨?_⟩;rw[Nw,υ,dB,HN.out.1,bM];exact aC ho3 hw4 (fun k hk=>by cases hk;simp;exact hgs.1)
 ·rw[List.length_set,HN.out.2];exact(hT.upd hu3 (fun hm=>(h.sg B.ga (Option.mem_toList.1 hm)).2.1 rfl)).upd hw4 (by simp;exact fun e=>s1.1 e.symm)
 ·rw[List.length_set];exact huA.kept h.Re (fun hm=>(hoff _ hm).1 rfl)
 ·obtain⟨st,hC⟩:=h.O9;exact⟨st,hC.upd huA (fun z hz=>(hoff z hz).2)⟩
 ·rw[List.length_set];rcases τ.1 hy with e|e
  ·exact h.dom y e
  ·simp at e;subst e;exact⟨hin,by rw[HN.out.2];exact YW⟩
 ·rw[θ];exact⟨h.nd,σ,fun a ha b hb e=>by simp at hb;subst hb;subst e;exact hx ha⟩
 ·have:=Tj hx (by rw[HN.out.2];exact YW) h.Bz;rwa[HN.out.1]at this
 ·rw[List.length_set];exact h.tl
end
section
variable {w:World}{B:HB}{F:List Nat}{A:NS}{rp g cap:Nat}{v:Value}{L T M:List Nat}
theorem Di(x:Nat)(h:oC w B F A rp g cap (M++[x]) T) :
  Calls Tryz.prog 287 #[.pointer (some ⟨rp,0,none⟩)] w fun e w'=>e=.returned (.iface 3 (.int .i64 (x:Int)))/\DZ w' B F A rp (.slice (some ⟨g,0,none⟩) M.length cap) M T/\aa [rp] w w':=by
 have c1:=h.h1;have hl:=h.len;have cx:=h.FY M.length σ;have ex:(M++[x]).getD M.length 0=x:=by simp[φ]
 rw[ex]at cx;have fr:=h.hd.free 1;have hcb:=h.sS;rw[υ,List.length_singleton]at c1 hl hcb;have s1:=h.s1;have HF:Hid (∀W,aa [] (w.setCell ⟨rp,1,none⟩ (.slice (some ⟨g,0,none⟩) M.length cap)) W->DZ W B F A rp (.slice (some ⟨g,0,none⟩) M.length cap) M T/\aa [rp] w W):=by
  intro W hW;have hu:aa [rp] w W:=aa.then β hW;have s3:=h.s3;have hr:=h.row.own;rw[dB]at hr;have ho:=IG hr (k:=M.length) σ;rw[Au,AV,List.take_left'  rfl]at ho;refine⟨⟨?_,aC ho hu (fun k hk=>by cases hk;simp;exact fun e=>s1.1 e.symm),h.Bu.upd hu (by simp;exact fun e=>s1.2.1 e.symm),hu.kept h.Qf (by simp;exact fun e=>s1.2.2 e.symm),hu.kept h.Re (by simp;exact fun e=>s1.2.2 e.symm),?_,s1.2,fun k hk=>?_,h.s2.2.2,⟨s3.1,s3.2.2⟩,fun y hy=>h.dom y (τ.2 (Or.inl hy)),(θ.1 h.nd).1,fun j y hj=>h.Bz j y ?_,h.tl⟩,hu⟩
  ·refine(((h.hd.set 1 _).ext (fun j hj=>?_)).upd hW σ);rcases(ω:j=0\/j=1)with rfl|rfl<;>rfl
  ·obtain⟨st,hC⟩:=h.O9;exact⟨st,hC.upd hu (fun z hz hm=>by simp at hz;subst hz;exact s3.1 hm)⟩
  ·cases hk;exact⟨fun e=>s1.1 e.symm,h.s2.1,h.s2.2.1,s3.2.1⟩
  ·obtain⟨hj',_⟩:=List.getElem?_eq_some_iff.1 hj;rw[List.getElem?_append_left hj'];exact hj
 clear h ex;generalize M.length=n at *;have hnI:(n:Int)+1-1=(n:Int):=ω;have hcI:(n:Int)<(cap:Int):=ω;have hw1:IntKind.i64.wrap (n:Int)=(n:Int):=IntWalk.i64_in _ ω;obtain⟨n1,hn1⟩:∃n1,n1=n+1:=⟨_,rfl⟩;rw[←hn1]at c1 hl hcb;have hnJ:(n1:Int)-1=(n:Int):=ω;have hn2:(n:Int)<(n1:Int):=ω;clear hn1
 go_enter Tryz.func287,Tryz.ntmps287
 go_wp2
 go_region
 all_goals
  go_wp2
  go_region
  all_goals
   go_wp2;go_ret;refine⟨rfl,HF.out _ ?_⟩
   first|exact⟨rfl,rfl,rfl,Nat.le_refl _,fun _ _ _=>rfl⟩|exact ν
def PuE(w0:World)(B:HB)(F:List Nat)(A:NS)(rp:Nat)(v:Value)(L T:List Nat)(x:Nat)(w:World):Prop:=∃g cap L' T',oC w B F A rp g cap L' T'/\L'.Perm (x::L)/\Hp (oJ A) 2 L'/\(∀y,y∉x::L->T'.getD y 0=T.getD y 0)/\T'.length=T.length/\aa (rp::B.ga::B.c::v.ownBlock.toList) w0 w/\(v.ownBlock=some g\/w0.heap.size<=g)
theorem Pj(h:DZ w B F A rp v L T)(x:Nat)(hx:x∉L)(hin:bS A (x:Int)=true)(JO:x<T.length)(hl:L.length<T.length)(hH:Hp (oJ A) 2 L) :
  Calls Tryz.prog 279 #[.iface 317 (.pointer (some ⟨rp,0,none⟩)),.iface 3 (.int .i64 (x:Int))] w fun e w'=>e=.returned (.tuple #[])/\PuE w B F A rp v L T x w':=by
 have m1:=Vy rp;have m2:=Jb rp;have hle:=h.len;have kp:=JV h x hx hin JO hl;have ku:∀w1 g cap,oC w1 B F A rp g cap (L++[x]) (T.set x L.length)->aa (rp::B.ga::v.ownBlock.toList) w w1->(v.ownBlock=some g\/w.heap.size<=g)->Calls Tryz.prog 281 #[.iface 317 (.pointer (some ⟨rp,0,none⟩)),.int .i64 (L.length:Int)] w1 fun e w'=>e=.returned (.tuple #[])/\PuE w B F A rp v L T x w':=by
  intro w1 g cap h1 hu1 hg;obtain⟨hs1,hs2⟩:=Hp.snoc (x:=x) hH (iP A) ω;have hP:mF w1 B F A rp g cap [] (L++[x]) (T.set x L.length) w1 (L++[x]) (T.set x L.length):=mF.start (by rw[List.append_nil];exact h1);have hgx:(L++[x]).getD L.length 0=x:=by simp[φ]
  refine(Bd hP L.length hs1 (by rw[hgx];exact hs2)).mono ?_;rintro e w' ⟨rfl,M2,T2,hP2,hH2⟩;have hpm:=hP2.pi;rw[List.append_nil]at hpm;refine⟨rfl,g,cap,M2,T2,hpm,hP2.perm.trans List.perm_append_comm,hH2,fun y hy=>?_,by rw[hP2.tl,List.length_set],(hu1.mono (fun z hz=>?_)).joined hP2.upd (fun z hz=>?_),hg⟩
  ·simp only[ρ,not_or]at hy;rw[hP2.off y (by simp[hy.1,hy.2]),dH,if_neg (fun e=>hy.1 e.1)]
  ·simp only[ρ]at hz⊢;rcases hz with h'|h'|h'
   ·exact Or.inl h'
   ·exact Or.inr (Or.inl h')
   ·exact Or.inr (Or.inr (Or.inr h'))
  ·simp only[ρ,ς,or_false]at hz⊢;rcases hz with h'|h'|h'
   ·rcases hg with e|e
    ·left;right;right;right;rw[h'];exact Option.mem_toList.2 e
    ·right;omega
   ·exact Or.inl (Or.inr (Or.inl h'))
   ·exact Or.inl (Or.inr (Or.inr (Or.inl h')))
 have kl:∀w1 g cap,oC w1 B F A rp g cap (L++[x]) (T.set x L.length)->Calls Tryz.prog 285 #[.pointer (some ⟨rp,0,none⟩)] w1 fun e w'=>e=.returned (.int .i64 ((L.length:Int)+1))/\w'=w1:=fun w1 g cap h1=>by
  have:=xJ h1;rw[υ,List.length_singleton]at this;exact this
 clear h hx hin JO hl hH;generalize L.length=n at *;have hnI:(n:Int)+1-1=(n:Int):=ω
 go_enter Tryz.func279,Tryz.ntmps279
 go_wp2_with (first
  | ((go_at_call 288;(with_reducible refine(kp).mono ?_));rintro e w1 ⟨rfl,g,cap,hP1,hu1,hg1⟩)
  | ((go_at_call 285;(with_reducible refine(kl _ _ _ hP1).mono ?_));rintro e w2 ⟨rfl,hw2⟩;subst hw2)
  | ((go_at_call 281;(with_reducible refine(ku _ _ _ hP1 hu1 hg1).mono ?_));rintro e w3 ⟨rfl,hQ⟩)
  | fail)
 go_end0;exact⟨rfl,hQ⟩
theorem QI(h:oC w B F A rp g cap L T)(i:Nat)(hH:fC (oJ A) 2 L i) :
  Calls Tryz.prog 277 #[.iface 317 (.pointer (some ⟨rp,0,none⟩)),.int .i64 (i:Int)] w fun e w'=>e=.returned (.tuple #[])/\∃L' T',mF w B F A rp g cap [] L T w' L' T'/\Hp (oJ A) 2 L':=by
 have m2:=Jb rp;have hP:mF w B F A rp g cap [] L T w L T:=mF.start (by rw[List.append_nil];exact h);have kl:=xJ h;have kd:=zF hP i L.length rfl hH;have ku:∀w1 L1 T1,mF w B F A rp g cap [] L T w1 L1 T1->Md A i false L1->_:=fun w1 L1 T1 h1 h2=>Bd h1 i (h2.2 rfl).1 (h2.2 rfl).2;unfold Lh at kd;have hle:=h.len;clear h hH hP;generalize L.length=n at *
 go_enter Tryz.func277,Tryz.ntmps277
 go_wp2_with (first
  | ((go_at_call 285;(with_reducible refine(kl).mono ?_));rintro e w2 ⟨rfl,rfl⟩)
  | ((go_at_call 280;(with_reducible refine(kd).mono ?_));rintro e w3 ⟨i2,rfl,L1,T1,hP1,hD1⟩;generalize decide (i<i2)=bd at *;cases bd)
  | ((go_at_call 281;(with_reducible refine(ku _ _ _ hP1 hD1).mono ?_));rintro e w4 ⟨rfl,L2,T2,hP2,hH2⟩)
  | fail)
 ·go_end0;exact⟨rfl,L2,T2,hP2,hH2⟩
 ·go_end0;exact⟨rfl,L1,T1,hP1,hD1.1 rfl⟩
theorem A9{l:List Nat}{n:Nat}(h:l.length=n+1):l=l.take n++[l.getD n 0]:=by
 have h1:n<l.length:=ω;have h2:=List.take_append_drop n l;rw[List.drop_eq_getElem_cons h1,List.drop_eq_nil_of_le ω]at h2;rw[φ,ε h1];exact h2.symm
def ReE(w0:World)(B:HB)(F:List Nat)(A:NS)(rp g cap:Nat)(L T:List Nat)(x:Nat)(w:World):Prop:=∃L' T',DZ w B F A rp (.slice (some ⟨g,0,none⟩) L'.length cap) L' T'/\(x::L').Perm L/\Hp (oJ A) 2 L'/\(∀y,y∉L->T'.getD y 0=T.getD y 0)/\T'.length=T.length/\aa [rp,g,B.ga,B.c] w0 w
theorem Iw(h:oC w B F A rp g cap L T)(i x:Nat)(hx:L[i]?=some x)(hH:Hp (oJ A) 2 L) :
  Calls Tryz.prog 278 #[.iface 317 (.pointer (some ⟨rp,0,none⟩)),.int .i64 (i:Int)] w fun e w'=>e=.returned (.iface 3 (.int .i64 (x:Int)))/\ReE w B F A rp g cap L T x w':=by
 have m1:=DW rp;have m2:=Jb rp;have m3:=Zg rp;have kl:=xJ h;have hle:=h.len;obtain⟨hi,hxe⟩:=List.getElem?_eq_some_iff.1 hx;obtain⟨n,hn⟩:∃n,L.length=n+1:=⟨L.length-1,ω⟩;have hxg:L.getD i 0=x:=by rw[φ,hx];rfl
 by_cases hin:i=n
 ·subst hin;have hs:=A9 hn;rw[hxg]at hs;have hM:=h;rw[hs]at hM;have kp:=Di x hM;have hH2:Hp (oJ A) 2 (L.take i):=hH.take ω;have hp:(x::L.take i).Perm L:=by
   conv=>rhs;rw[hs]
   exact(List.perm_append_comm (l₁:=[x]))
  have HQ:=χ (ψ hH2 hp);rw[hn]at kl hle;have hnI:(i:Int)+1-1=(i:Int):=ω;have hwk:IntKind.i64.wrap (i:Int)=(i:Int):=IntWalk.i64_in _ ω;rw[show((i+1:Nat):Int)=(i:Int)+1 from rfl]at kl;clear hM hs hH hH2 hp hx hxe hxg h hi hn;have hnb:((i:Int) != (i:Int))=false:=σ
  go_enter Tryz.func278,Tryz.ntmps278
  go_wp2_with (first
   | ((go_at_call 285;(with_reducible refine(kl).mono ?_));rintro e w2 ⟨rfl,rfl⟩)
   | ((go_at_call 287;(with_reducible refine(kp).mono ?_));rintro e w3 ⟨rfl,hP3,hu3⟩)
   | fail)
  go_ret;exact⟨rfl,_,T,hP3,HQ.out.2,HQ.out.1,fun _ _=>rfl,rfl,hu3.mono σ⟩
 ·have hil:i<n:=ω;have hnl:n<L.length:=ω;have ks:=zQ h i n hi hnl ω;have hsl:(gT L i n).length=n+1:=by rw[kY,hn]
  have hs:=A9 hsl;rw[lV hi hnl,if_pos rfl,hxg]at hs;obtain⟨M,hMe⟩:∃M,M=(gT L i n).take n:=⟨_,rfl⟩;rw[←hMe]at hs;have hMl:M.length=n:=by rw[hMe,List.length_take,hsl];omega
  have hMv:M=(L.take n).set i (L.getD n 0):=by
   rw[hMe];unfold gT;rw[List.take_set_of_le (Nat.le_refl _),List.take_set]
  have hMH:fC (oJ A) 2 M i:=by
   rw[hMv];exact((hH.take ω).hole (iP A) ω (by rw[List.length_take];omega)).any ω _
  have hp:(M++[x]).Perm L:=by rw[←hs];exact vE hi hnl ω
  have kd:∀w1,oC w1 B F A rp g cap (gT L i n) (BM T L i n)->Calls Tryz.prog 280 #[.iface 317 (.pointer (some ⟨rp,0,none⟩)),.int .i64 (i:Int),.int .i64 (n:Int)] w1 fun e w'=>∃i2,e=.returned (.bool (decide (i<i2)))/\Lh w1 B F A rp g cap [x] M (BM T L i n) w' i i2:=fun w1 h1=>by
   rw[hs]at h1;exact zF (mF.start h1) i n hMl.symm hMH
  have ku:∀w1 w2 L1 T1,mF w1 B F A rp g cap [x] M (BM T L i n) w2 L1 T1->Md A i false L1->_:=fun w1 w2 L1 T1 h1 h2=>Bd h1 i (h2.2 rfl).1 (h2.2 rfl).2;have kp:∀w1 w2 L1 T1,mF w1 B F A rp g cap [x] M (BM T L i n) w2 L1 T1->_:=fun w1 w2 L1 T1 h1=>Di x h1.pi;unfold Lh at kd;have HE:Hid (∀w1 w2 w3 L1 T1,aa [g,B.ga] w w1->mF w1 B F A rp g cap [x] M (BM T L i n) w2 L1 T1->Hp (oJ A) 2 L1->DZ w3 B F A rp (.slice (some ⟨g,0,none⟩) L1.length cap) L1 T1->aa [rp] w2 w3->ReE w B F A rp g cap L T x w3):=by
   intro w1 w2 w3 L1 T1 hu1 h2 hH1 h3 hu3;refine⟨L1,T1,h3,?_,hH1,fun y hy=>?_,by rw[h2.tl,uA],((hu1.mono σ).trans (h2.upd.mono σ)).trans (hu3.mono σ)⟩
   ·exact(List.perm_append_comm (l₁:=[x])).trans ((h2.perm.append_right [x]).trans hp)
   ·rw[h2.off y (fun hm=>hy (hp.mem_iff.1 hm)),Mr hi hnl hy]
  rw[hn]at kl hle;have hnI:(n:Int)+1-1=(n:Int):=ω;have hwk:IntKind.i64.wrap (n:Int)=(n:Int):=IntWalk.i64_in _ ω;rw[show((n+1:Nat):Int)=(n:Int)+1 from rfl]at kl;clear hMe hMl hMv hMH hp hs hsl hnl hx hxe hxg h hi hn hH;have hnb:((n:Int) != (i:Int))=true:=ζ;generalize gT L i n=L1 at *;generalize BM T L i n=T1 at *
  go_enter Tryz.func278,Tryz.ntmps278
  go_wp2_with (first
   | ((go_at_call 285;(with_reducible refine(kl).mono ?_));rintro e w2 ⟨rfl,rfl⟩)
   | ((go_at_call 289;(with_reducible refine(ks).mono ?_));rintro e w3 ⟨rfl,hP3,hu3⟩)
   | ((go_at_call 280;(with_reducible refine(kd _ hP3).mono ?_));rintro e w4 ⟨i2,rfl,L4,T4,hP4,hD4⟩;generalize decide (i<i2)=bd at *;cases bd)
   | ((go_at_call 281;(with_reducible refine(ku _ _ _ _ hP4 hD4).mono ?_));rintro e w5 ⟨rfl,L5,T5,PR,hH5⟩)
   | ((go_at_call 287;(with_reducible first|refine(kp _ _ _ _ PR).mono ?_|refine(kp _ _ _ _ hP4).mono ?_));rintro e w6 ⟨rfl,hP6,ik⟩)
   | fail)
  ·go_ret;exact⟨rfl,HE.out _ _ _ _ _ hu3 PR hH5 hP6 ik⟩
  ·go_ret;exact⟨rfl,HE.out _ _ _ _ _ hu3 hP4 (hD4.1 rfl) hP6 ik⟩
end
structure mZ(R:Nat->Nat->Prop)(d:Nat)(L:List Nat)(i k b:Nat):Prop where
 b0:∃q,b=d*i+q/\1<=q/\q<k
 lt:b<L.length
 all:∀q,1<=q->q<k->d*i+q<L.length->d*i+q≠b->R (L.getD b 0) (L.getD (d*i+q) 0)
theorem mZ.one{R:Nat->Nat->Prop}{d:Nat}{L:List Nat}{i:Nat}(h:d*i+1<L.length):mZ R d L i 2 (d*i+1):=
 ⟨⟨1,rfl,ω,ω⟩,h,fun q h1 h2 _ hne=>absurd (show d*i+q=d*i+1 by omega) hne⟩
theorem mZ.end{R:Nat->Nat->Prop}{d:Nat}{L:List Nat}{i k b:Nat}(h:mZ R d L i k b)(hd:2<=d)(hk:k=d+1):qE R d L i b:=by
 obtain⟨q,rfl,h1,h2⟩:=h.b0;have hp:=(uH (i:=i) (j:=d*i+q) hd).2 ω;refine⟨hp.1,h.lt,hp.2,fun j j0 hj hpj hne=>?_⟩;have:=(uH hd).1 ⟨j0,hpj⟩;have e:j=d*i+(j-d*i):=ω;rw[e]at hj hne⊢;exact h.all _ ω ω hj hne
theorem mZ.stay{R:Nat->Nat->Prop}{d:Nat}{L:List Nat}{i k b:Nat}(h:mZ R d L i k b)(hc:d*i+k<L.length->R (L.getD b 0) (L.getD (d*i+k) 0)):mZ R d L i (k+1) b:=by
 obtain⟨q,h0,h1,h2⟩:=h.b0;refine⟨⟨q,h0,h1,ω⟩,h.lt,fun q' g1 g2 g3 g4=>?_⟩
 by_cases e:q'=k
 ·subst e;exact hc g3
 ·exact h.all q' g1 ω g3 g4
theorem mZ.turn{R:Nat->Nat->Prop}{d:Nat}{L:List Nat}{i k b:Nat}(ht:∀a b c,R a b->R b c->R a c)(h:mZ R d L i k b)(hk:1<=k)(hl:d*i+k<L.length)(hc:R (L.getD (d*i+k) 0) (L.getD b 0)):mZ R d L i (k+1) (d*i+k):=by
 refine⟨⟨k,rfl,hk,ω⟩,hl,fun q' g1 g2 g3 g4=>?_⟩;have e:q'≠k:=fun e=>g4 (by rw[e])
 by_cases e2:d*i+q'=b
 ·rw[e2];exact hc
 ·exact ht _ _ _ hc (h.all q' g1 ω g3 e2)
theorem Ka(O:gZ){w:World}{rp mb g cap d:Nat}{f:Int->Option Int}{L:List Nat}(hO:O.at_ w)(h:vw w rp mb g cap d f L)(hd:2<=d/\d<=16)(hl:L.length<=65536)(i x:Nat)(hi:i<L.length)
  (hn:(L.set i x).Nodup) (hdom:∀y,y∈L.set i x->O.dom y) (hsep:Nc O rp mb g) :
  Calls Tryz.prog 167 #[.pointer (some ⟨rp,0,none⟩),.iface O.ty (.pointer (some ⟨O.p,0,none⟩)),.int .i64 (i:Int)] w fun e w'=>∃ (c:Nat),e=.returned (.tuple #[.int .i64 (c:Int),.bool (decide (d*i+1<L.length))])/\O.On w w'/\(d*i+1<L.length->qE O.R d L i c):=by
 have kc:=fun k (hk:1<=k/\k<=d) W=>Po d i k hd ω hk W;have XA:=kc 1 ⟨ω,ω⟩;rw[show((1:Nat):Int)=1 from rfl]at XA;have c0:=h.h0;have c1:=h.h1;have hwr:=hsep.wr;have HX:=χ (ψ hO (ψ h (ψ hn (ψ hdom hd))));have hil:i<65536:=ω;generalize hnl:L.length=n at *;have HN:=χ hnl;clear h hO hn hdom hsep hnl
 by_cases hz:n<=d*i+1
 ·rw[decide_eq_false (show ¬d*i+1<n by omega)];have hge:decide (((d*i+1:Nat):Int)≥(n:Int))=true:=ζ;have HZ:=χ hz;clear hz kc;generalize d * i+1=c at *
  go_enter Tryz.func167,Tryz.ntmps167
  have hnc:n<=c:=HZ.out
  go_wp2_with (first
   | ((go_at_call 172;(with_reducible refine(XA _).mono ?_));rintro e w1 ⟨rfl,hu1⟩;(have c1:=hu1.was c1))
   | fail)
  go_ret2;exact⟨0,rfl,⟨O.upd HX.out.1 hu1 σ,hu1.mono σ⟩,fun h=>by have:=HZ.out;omega⟩
 ·rw[decide_eq_true (show d*i+1<n by omega)];have hge:decide (((d*i+1:Nat):Int)≥(n:Int))=false:=ζ;have HZ:=χ (show d*i+1<n by omega);clear hz;have HC:=χ (show d*i+1=d*i+1 from rfl)
  revert HC HZ hge XA
  generalize hce0:d*i+1=c0';intro XA hge HZ _;have HC:=χ hce0;have hnc:¬n<=c0':=by have:=HZ.out;omega
  go_enter Tryz.func167,Tryz.ntmps167
  clear hce0
  go_wp2_with (first
   | ((go_at_call 172;(with_reducible refine(XA _).mono ?_));rintro e w1 ⟨rfl,hu1⟩;(have c1:=hu1.was c1))
   | fail)
  go_loopw [8,10,11,12] (fun bv kv _ _ wr=>∃ (b k:Nat),2<=k/\k<=d+1/\bv=.int .i64 (b:Int)/\kv=.int .i64 (k:Int)/\mZ O.R d L i k b/\O.On w wr) (fun _ kv _ _ _=>d+1-(intOf kv).toNat)
  case atStart=>exact⟨c0',2,ω,ω,rfl,rfl,by rw[←HC.out];exact mZ.one (by have:=HZ.out;have:=HN.out;have:=HC.out;omega),O.upd HX.out.1 hu1 σ,hu1.mono σ⟩
  case round=>
   clear hu1 c1;obtain⟨b,k,hk1,hk2,rfl,rfl,hF,hon⟩:=hrel;rename World=>wr;obtain⟨hO,h,hn,hdom,hd⟩:=HX.out;have hR:=h.upd hon.upd hwr.1 hwr.2.1 hwr.2.2;have q0:=hR.h0;have q1:=hR.h1
   by_cases hkd:k<=d
   ·have hkd':(k:Int)<=(d:Int):=ω;have ZP:=kc k ⟨ω,hkd⟩;have hwk:IntKind.i64.wrap ((k:Int)+1)=(k:Int)+1:=IntWalk.i64_in _ ω;rw[HN.out]at q1
    by_cases hcl:d*i+k<n
    ·have hne:d*i+k≠i:=by
      have:i<=d*i:=Nat.le_mul_of_pos_left _ ω;omega
     obtain⟨qb,hqb,hqb1,hqb2⟩:=hF.b0;have hbl:=hF.lt;have hbi:b≠i:=by
      have:i<=d*i:=Nat.le_mul_of_pos_left _ ω;omega
     have hdc:=hdom _ (pY (x:=x) (show d*i+k<L.length by rw[HN.out];exact hcl) hne);have hdb:=hdom _ (pY (x:=x) hbl hbi);have hcb:L.getD (d*i+k) 0≠L.getD b 0:=fun e=>by
      have h1:(L.set i x)[d*i+k]?=some (L.getD b 0):=by rw[List.getElem?_set_ne (fun e=>hne e.symm),←e,φ,ε (by rw[HN.out];exact hcl)];rfl
      have h2:(L.set i x)[b]?=some (L.getD b 0):=by rw[List.getElem?_set_ne (fun e=>hbi e.symm),φ,ε hbl];rfl
      obtain⟨g1,e1⟩:=List.getElem?_eq_some_iff.1 h1;obtain⟨g2,e2⟩:=List.getElem?_eq_some_iff.1 h2;have:=(List.getElem_inj hn).1 (e1.trans e2.symm);omega
     have d1:=hR.cell (d*i+k) (by rw[HN.out];exact hcl);have d2:=hR.cell b hbl;have HY:=χ (ψ hF (ψ hon (ψ hcb (ψ hcl hk2))));have hgL:decide (((d*i+k:Nat):Int)<(n:Int))=true:=ζ;have hcI:((d*i+k:Nat):Int)<(n:Int):=ω;have hbI:(b:Int)<(n:Int):=by rw[HN.out]at hbl;omega
     have N7:=hwr.1;have hgw:=hwr.2.2;have hat:=hon.at_;have hkl:k+1<=d+1:=ω;clear hF hon hqb hqb1 hqb2 hbl hbi hcl hne hO h hn hdom hR hcb kc;generalize hce:d * i+k=c at *;generalize hx1:L.getD c 0=xc at *;generalize hx2:L.getD b 0=xb at *;have HE:=χ (ψ hce (ψ hx1 hx2));clear hce hx1 hx2
     go_upto_region 8 with(first
      | ((go_at_call 172;(with_reducible refine(ZP _).mono ?_));rintro e w1 ⟨rfl,hu1⟩)
      | fail)
     have tN:O.On w1 w1:=.start (O.upd hat hu1 σ);have Zf:∀W,O.On w1 W->W.cell? ⟨g,c,none⟩=some (.int .i64 (xc:Int)):=fun W hW=>hW.upd.kept (hu1.was d1) hgw;have cb1:∀W,O.On w1 W->W.cell? ⟨g,b,none⟩=some (.int .i64 (xb:Int)):=fun W hW=>hW.upd.kept (hu1.was d2) hgw;have Yd:∀W,O.On w1 W->W.cell? ⟨rp,1,none⟩=some (.slice (some ⟨g,0,none⟩) n cap):=fun W hW=>hW.upd.kept (hu1.was q1) N7;have hm:∀W,O.On w1 W->_:=fun W hW=>O.Wy hW.at_;have hnl:=O.WI;have hen:=O.ent;unfold Enters at hen
     go_region_held3 (O.On w1) (first|assumption|exact tN|(refine gZ.On.drew ?_;first|assumption|exact tN)|(refine gZ.On.drewN ?_ _;first|assumption|exact tN))
      (first
       | ((with_reducible refine(O.ask xc xb (gZ.On.at_ (w0:=w1) (by first|assumption|exact tN|(refine gZ.On.drew ?_;first|assumption|exact tN)|(refine gZ.On.drewN ?_ _;first|assumption|exact tN))) hdc hdb).mono ?_);rintro e w5 ⟨rfl,BO,bW⟩;(have vW:O.On w1 w5:=gZ.On.asked (by first|assumption|exact tN|(refine gZ.On.drew ?_;first|assumption|exact tN)|(refine gZ.On.drewN ?_ _;first|assumption|exact tN)) BO bW)))
     have HZ2:=χ (hu1.mono (σ:∀z,z∈[]->z∈O.wr) |>.trans vW.upd);have HO5:=χ vW.at_;clear Zf cb1 Yd hm tN vW bW BO d1 d2 q0 q1;cases hxy:O.lt xc xb with
     | false=>
      go_wp2
      go_roundw
      case rel=>
       obtain⟨hF,hon,hcb,hcl,hk2⟩:=HY.out;refine⟨b,k+1,ω,hkl,rfl,by go_num,hF.stay (fun _=>?_),HO5.out,hon.upd.trans HZ2.out⟩;rw[HE.out.1,HE.out.2.1,HE.out.2.2];rcases O.total xc xb (fun e=>by rw[e]at hcb;exact hcb rfl)with e|e
       ·rw[e]at hxy;cases hxy
       ·exact e
      case measure=>simp[intOf];omega
     | true=>
      go_wp2
      go_roundw
      case rel=>
       obtain⟨hF,hon,hcb,hcl,hk2⟩:=HY.out;refine⟨c,k+1,ω,hkl,rfl,by go_num,?_,HO5.out,hon.upd.trans HZ2.out⟩;have ht:=hF.turn O.tr ω (by rw[HE.out.1,HN.out];exact hcl) (by rw[HE.out.1,HE.out.2.1,HE.out.2.2];exact hxy);rw[HE.out.1]at ht;exact ht
      case measure=>simp[intOf];omega
    ·have hgL:decide (((d*i+k:Nat):Int)<(n:Int))=false:=ζ;have HY:=χ (ψ hF (ψ hon hcl));have hkl:k+1<=d+1:=ω;clear hF hon hcl hO h hn hdom hR kc;generalize hce:d * i+k=c at *;have HE:=χ hce;clear hce;have hgN:decide (c<n)=false:=by simp at hgL⊢;omega
     go_upto_region 8 with(first
      | ((go_at_call 172;(with_reducible refine(ZP _).mono ?_));rintro e w1 ⟨rfl,hu1⟩;(have q1:=hu1.was q1);(have q0:=hu1.was q0))
      | fail)
     go_quiet (fail)
     go_wp2
     go_roundw
     case rel=>
      obtain⟨hF,hon,hcl⟩:=HY.out;exact⟨b,k+1,ω,hkl,rfl,by go_num,hF.stay (fun h=>absurd h (by have:=HN.out;have:=HE.out;omega)),O.upd hon.at_ (hu1.drewN nq) σ,hon.upd.trans ((hu1.drewN nq).mono σ)⟩
     case measure=>simp[intOf];omega
   ·have hkd':¬ (k:Int)<=(d:Int):=ω;clear kc;go_wp2;exact bodyPost_ret (v:=.tuple #[.int .i64 (b:Int),.bool true]) (by simp[results,Tryz.results167,go_sem]) rfl ⟨b,rfl,hon,fun _=>hF.end hd.1 ω⟩
theorem OY(O:gZ){w:World}{rp mb g cap d:Nat}{f:Int->Option Int}{L:List Nat}(hO:O.at_ w)(h:vw w rp mb g cap d f L)(hd:2<=d/\d<=16)(hl:L.length<=65536)(i x:Nat)(hH:fC O.R d L i)(hP:ny f L i x)
  (hn:(L.set i x).Nodup) (hdom:∀y,y∈L.set i x->O.dom y) (h16:∀y,y∈L.set i x->y<=65536) (hsep:Nc O rp mb g) (hT:i=0\/O.R (L.getD (par d i) 0) x) :
  Calls Tryz.prog 161 #[.pointer (some ⟨rp,0,none⟩),.iface O.ty (.pointer (some ⟨O.p,0,none⟩)),.int .i64 (i:Int),.int .i64 (x:Int)] w fun e w'=>∃ (f':Int->Option Int) (L':List Nat),e=.returned (.tuple #[])/\vw w' rp mb g cap d f' L'/\vS f' L'/\L'.Perm (L.set i x)/\O.at_ w'/\aa (g::mb::O.wr) w w'/\Hp O.R d L':=by
 have hi0:=hH.lt;have hxm:x∈L.set i x:=List.mem_of_getElem? (show(L.set i x)[i]?=some x by simp[hi0]);have hdx:=hdom x hxm;have hxl:=h16 x hxm;have HX:=χ (ψ hn (ψ hdom (ψ h16 (ψ hsep hd))));have hwr:=hsep.wr
 go_enter Tryz.func161,Tryz.ntmps161
 go_wp2
 go_loopw [2,8,9] (fun iv _ _ wr=>∃ (i':Nat) (f':Int->Option Int) (L':List Nat),iv=.int .i64 (i':Int)/\vw wr rp mb g cap d f' L'/\fC O.R d L' i'/\ny f' L' i' x/\L'.length=L.length/\(L'.set i' x).Perm (L.set i x)/\O.at_ wr/\aa (g::mb::O.wr) w wr/\(i'=0\/O.R (L'.getD (par d i') 0) x)) (fun iv _ _ _=>L.length-(intOf iv).toNat)
 case atStart=>exact⟨i,f,L,rfl,h,hH,hP,rfl,List.Perm.refl _,hO,aa.refl _ _,hT⟩
 case round=>
  clear h hH hP hO hT;obtain⟨i1,f1,L1,rfl,h,hH,hP,hl1,hpm,hO,hu,hT⟩:=hrel;rename World=>wr;have hi1:=hH.lt;have hn1:(L1.set i1 x).Nodup:=hpm.nodup_iff.2 HX.out.1;have kf:=Ka O hO h hd ω i1 x hi1 hn1 (fun y hy=>HX.out.2.1 y (hpm.mem_iff.1 hy)) HX.out.2.2.2.1;have ks:=fun W (hW:aa O.wr wr W)=>r9 (h.upd hW hwr.1 hwr.2.1 hwr.2.2) i1 x hi1 hxl ω;have N7:=hwr.1;have hgw:=hwr.2.2;have hcg:=h.h1;have hlt:=h.lt
  by_cases hz:d*i1+1<L1.length
  ·rw[decide_eq_true hz]at kf;have hcell:=fun c hc=>h.cell c hc;have hdl:=fun c (hc:qE O.R d L1 i1 c)=>HX.out.2.1 (L1.getD c 0) (hpm.mem_iff.1 (pY hc.lt (by have:=eY hd.1 hc.c0;have:=hc.pc;omega)));have Zm:=fun c (hc:qE O.R d L1 i1 c) W (hW:aa O.wr wr W)=>r9 (h.upd hW hwr.1 hwr.2.1 hwr.2.2) i1 (L1.getD c 0) hi1 (HX.out.2.2.1 _ (hpm.mem_iff.1 (pY hc.lt (by have:=eY hd.1 hc.c0;have:=hc.pc;omega)))) ω;have HF:=χ (ψ hH (ψ hP (ψ hn1 (ψ hpm (ψ hO (ψ hT (ψ hu (ψ hl1 (ψ hz h)))))))));clear hH hP hn1 hpm hT hu hl1 h
   go_upto_region 1 with(first
    | ((go_at_call 167;(with_reducible refine(kf).mono ?_));rintro e w1 ⟨c,rfl,AU,hfc⟩)
    | fail)
   have hc:=hfc hz;have hcl:=hc.lt;have hcI:(c:Int)<(L1.length:Int):=ω;have hdc:=hdl c hc;have hcc:=hcell c hcl;have Zm:=Zm c hc;have HC:=χ (ψ hc AU);clear hcell hdl hc hfc hz kf;generalize hy:L1.getD c 0=y at *;have tN:O.On w1 w1:=.start AU.at_;have Zf:∀W,O.On w1 W->W.cell? ⟨g,c,none⟩=some (.int .i64 (y:Int)):=fun W hW=>hW.upd.kept (AU.upd.kept hcc hgw) hgw;have Yd:∀W,O.On w1 W->W.cell? ⟨rp,1,none⟩=some (.slice (some ⟨g,0,none⟩) L1.length cap):=fun W hW=>hW.upd.kept (AU.upd.kept hcg N7) N7;have hm:∀W,O.On w1 W->_:=fun W hW=>O.Wy hW.at_;have hnl:=O.WI;have hen:=O.ent;unfold Enters at hen
   go_region_held3 (O.On w1) (first|assumption|exact tN|(refine gZ.On.drew ?_;first|assumption|exact tN)|(refine gZ.On.drewN ?_ _;first|assumption|exact tN))
    (first
     | ((with_reducible refine(O.ask y x (gZ.On.at_ (w0:=w1) (by first|assumption|exact tN|(refine gZ.On.drew ?_;first|assumption|exact tN)|(refine gZ.On.drewN ?_ _;first|assumption|exact tN))) hdc hdx).mono ?_);rintro e w5 ⟨rfl,BO,bW⟩;(have vW:O.On w1 w5:=gZ.On.asked (by first|assumption|exact tN|(refine gZ.On.drew ?_;first|assumption|exact tN)|(refine gZ.On.drewN ?_ _;first|assumption|exact tN)) BO bW)))
   have qV:aa O.wr wr w5:=HC.out.2.upd.trans vW.upd;have Zy:=ks w5 qV;have ks6:=Zm w5 qV;have HY:=χ (ψ hy (ψ vW.at_ qV));have cp5:=Zf w5 vW;have cg5:=Yd w5 vW;clear ks Zm Zf Yd hm tN vW bW BO hO hcc hcg AU;cases hxy:O.lt y x with
   | false=>
    clear ks6
    go_wp2_with (first
     | ((go_at_call 166;(with_reducible refine(Zy).mono ?_));rintro e w2 ⟨rfl,hR,hu2⟩)
     | fail)
    obtain⟨hH,hP,hn1,hpm,hO,hT,hu,hl1,hz,h⟩:=HF.out;obtain⟨hy,hat,bW⟩:=HY.out;obtain⟨hc,AU⟩:=HC.out;have hne:L1.getD c 0≠x:=Mj hi1 hc.lt (by have:=eY hd.1 hc.c0;have:=hc.pc;omega) hn1;have hxc:O.R x (L1.getD c 0):=by
     rcases O.total x (L1.getD c 0) (fun e=>hne e.symm)with e|e
     ·exact e
     ·rw[hy]at e;rw[e]at hxy;cases hxy
    exact bodyPost_ret (v:=.tuple #[]) (by simp[results,Tryz.results161,go_sem]) rfl ⟨_,_,rfl,hR,hP.fill hi1 hn1,hpm,O.upd hat hu2 (fun y hy=>by have:=HX.out.2.2.2.1;simp at hy;rcases hy with rfl|rfl;exact this.c;exact this.b),(hu.trans (bW.mono (by simp +contextual))).trans (hu2.mono (by simp +contextual)),hH.fill hd.1 (oV O.tr hc hxc) hT⟩
   | true=>
    clear Zy
    go_wp2_with (first
     | ((go_at_call 166;(with_reducible refine(ks6).mono ?_));rintro e w2 ⟨rfl,hR,hu2⟩)
     | fail)
    go_roundw
    case rel=>
     obtain⟨hH,hP,hn1,hpm,hO,hT,hu,hl1,hz,h⟩:=HF.out;obtain⟨hy,hat,bW⟩:=HY.out;obtain⟨hc,AU⟩:=HC.out;have hci:i1<c:=by have:=eY hd.1 hc.c0;have:=hc.pc;omega
     have hdn:=hH.down O.tr hd.1 hc (x:=x) (by rw[hy];exact hxy);rw[hy]at hdn;have hmv:=hP.move hi1 (p:=c) hc.lt ω hn1;rw[hy]at hmv;have hpr:=xL (L:=L1) (i:=i1) (p:=c) (x:=x) hi1 hc.lt ω;rw[hy]at hpr;exact⟨c,_,_,rfl,hR,hdn.1,hmv,by rw[List.length_set];exact hl1,hpr.trans hpm,O.upd hat hu2 (fun y hy=>by have:=HX.out.2.2.2.1;simp at hy;rcases hy with rfl|rfl;exact this.c;exact this.b),(hu.trans (bW.mono (by simp +contextual))).trans (hu2.mono (by simp +contextual)),Or.inr hdn.2⟩
    case measure=>
     have hci:i1<c:=by have hc:=HC.out.1;have:=eY hd.1 hc.c0;have:=hc.pc;omega
     have:=HF.out.2.2.2.2.2.2.2.1;simp[intOf];omega
  ·rw[decide_eq_false hz]at kf;have HF:=χ (ψ hH (ψ hP (ψ hn1 (ψ hpm (ψ hO (ψ hT (ψ hu (ψ hl1 hz))))))));clear hH hP hn1 hpm hT hu hl1 h hz
   go_upto_region 1 with(first
    | ((go_at_call 167;(with_reducible refine(kf).mono ?_));rintro e w1 ⟨c,rfl,AU, -⟩)
    | fail)
   go_quiet (fail)
   have qV:aa O.wr wr (w1.drewN nq):=(AU.drewN nq).upd;have hat:=(AU.drewN nq).at_;have Zy:=ks _ qV;clear ks kf AU
   go_wp2_with (first
    | ((go_at_call 166;(with_reducible refine(Zy).mono ?_));rintro e w2 ⟨rfl,hR,hu2⟩)
    | fail)
   obtain⟨hH,hP,hn1,hpm,hO,hT,hu,hl1,hz⟩:=HF.out;exact bodyPost_ret (v:=.tuple #[]) (by simp[results,Tryz.results161,go_sem]) rfl ⟨_,_,rfl,hR,hP.fill hi1 hn1,hpm,O.upd hat hu2 (fun y hy=>by have:=HX.out.2.2.2.1;simp at hy;rcases hy with rfl|rfl;exact this.c;exact this.b),(hu.trans (qV.mono (by simp +contextual))).trans (hu2.mono (by simp +contextual)),hH.fill hd.1 (AX hd.1 ω) hT⟩
def mH(w:World)(rp:Nat)(G:List Nat)(d:Nat)(L:List Nat):Prop:=
 ∃mb f v,aL w rp 247 3 (fun j=>[Value.int .i64 (d:Int),v,.map (some mb)].getD j undef)/\w.ownsRow 0 3 1 v L.length (aQ (bH L))/\gN w mb f/\vS f L/\rp≠mb/\(∀g,v.ownBlock=some g->rp≠g/\mb≠g)/\G=rp::mb::v.ownBlock.toList
theorem vw.at_{w:World}{rp mb g cap d:Nat}{f:Int->Option Int}{L:List Nat}(h:vw w rp mb g cap d f L)(hP:vS f L):mH w rp [rp,mb,g] d L:=
 ⟨mb,f,.slice (some ⟨g,0,none⟩) L.length cap,h.head,by have:=h.row.own;rwa[dB]at this,h.map,hP,h.sep.1,fun g' hg=>by cases hg;exact⟨h.sep.2.1,h.sep.2.2⟩,rfl⟩
theorem mH.open{w:World}{rp d:Nat}{G L:List Nat}(h:mH w rp G d L)(hl:0<L.length):∃mb g cap f,vw w rp mb g cap d f L/\vS f L/\G=[rp,mb,g]:=by
 obtain⟨mb,f,v,h1,h2,h3,h4,h5,h6,rfl⟩:=h;obtain⟨g,cap,e,hI, -⟩:=IZ.iY (l:=bH L) (by rw[dB];exact h2) (by rw[dB];exact hl);rw[dB]at e;subst e;obtain⟨s1,s2⟩:=h6 g rfl;exact⟨mb,g,cap,f,⟨h1,hI,h3,h5,s1,s2⟩,h4,rfl⟩
theorem mH.lt{w:World}{rp d:Nat}{G L:List Nat}(h:mH w rp G d L):∀z,z∈G->z<w.heap.size:=by
 obtain⟨mb,f,v,h1,h2,h3,h4,h5,h6,rfl⟩:=h;intro z hz;simp only[ρ]at hz;rcases hz with rfl|rfl|hz
 ·exact h1.lt
 ·exact h3.lt
 ·exact(h2.lt z (by simpa using hz)).2
theorem mH.upd{w w':World}{rp d:Nat}{G L S:List Nat}(h:mH w rp G d L)(hu:aa S w w')(hS:∀z,z∈S->z∉G):mH w' rp G d L:=by
 obtain⟨mb,f,v,h1,h2,h3,h4,h5,h6,rfl⟩:=h;have hn:∀z,z∈rp::mb::v.ownBlock.toList->z∉S:=fun z hz hm=>hS z hm hz;exact⟨mb,f,v,h1.upd hu (hn _ σ),aC h2 hu (fun k hk=>hn k (by simp[hk])),h3.upd hu (hn _ σ),h4,h5,h6,rfl⟩
theorem VC{f:Int->Option Int}{L:List Nat}(h:vS f L){x:Nat}(hx:x∉L):f x=none:=by
 cases hf:f x with
 | none=>rfl
 | some v=>
  obtain⟨y,j,e1, -,hj⟩:=(h x v).1 hf;have:y=x:=ω;subst this;exact absurd (List.mem_of_getElem? hj) hx
theorem Mw{f:Int->Option Int}{L:List Nat}(h:vS f L){x i:Nat}(hx:L[i]?=some x):f x=some (i:Int):=(h x i).2 ⟨x,i,rfl,rfl,hx⟩
theorem Vq{f:Int->Option Int}{L:List Nat}(h:vS f L)(x:Nat):ny f (L++[x]) L.length x:=fun z v hz=>by
 rw[h z v];constructor
 ·rintro⟨y,j,rfl,rfl,hj⟩;have:=(List.getElem?_eq_some_iff.1 hj).1;exact⟨y,j,rfl,rfl,ω,by rw[List.getElem?_append_left this];exact hj⟩
 ·rintro⟨y,j,rfl,rfl,hne,hj⟩;have h1:=(List.getElem?_eq_some_iff.1 hj).1;simp at h1;rw[List.getElem?_append_left ω]at hj;exact⟨y,j,rfl,rfl,hj⟩
theorem Iz(d:Nat)(hd:2<=d/\d<=16)(w:World) :
  Calls Tryz.prog 108 #[.int .i64 (d:Int)] w fun e w'=>∃rp G,e=.returned (.tuple #[.pointer (some ⟨rp,0,none⟩),.int .i64 0])/\mH w' rp G d []/\aa [] w w'/\∀z,z∈G->w.heap.size<=z:=by
 have kf:∀W,Calls Tryz.prog 115 #[.int .i64 (d:Int)] W fun e w'=>e=.returned (.bool true)/\w'=W:=fun W=>by
  have h1:(d:Int)≥2:=ω;have h2:(d:Int)<=16:=ω
  go_enter Tryz.func115,Tryz.ntmps115
  go_wp2;go_ret;exact⟨rfl,rfl⟩
 have hmm:=@run_makeMap Tryz.prog
 go_enter Tryz.func108,Tryz.ntmps108
 go_wp2_with (first|(go_at_call 115;(with_reducible refine(kf _).mono ?_);rintro e w9 ⟨rfl,aJ⟩;rw[aJ];clear aJ w9)|fail)
 go_ret2;have hm:=gN.made w;have hh:=dP (w.alloc (.map #[] 0)) [.int .i64 (d:Int),.slice none 0 0,.map (some w.heap.size)] 247;have e1:(w.alloc (.map #[] 0)).heap.size=w.heap.size+1:=by rw[World.size_alloc]
 rw[e1]at hh;have hv:aa [] (w.alloc (.map #[] 0)) ((w.alloc (.map #[] 0)).alloc (.cells #[.int .i64 (d:Int),.slice none 0 0,.map (some w.heap.size)] 247)):=(aa.refl _ _).alloc _;refine⟨w.heap.size+1,[w.heap.size+1,w.heap.size],rfl,⟨w.heap.size,fun _=>none,.slice none 0 0,hh,⟨rfl,Or.inl ⟨rfl,rfl⟩⟩,hm.upd hv σ,fun z v=>σ,ω,fun g hg=>(by cases hg),rfl⟩,β,fun z hz=>?_⟩;simp at hz;omega
theorem Rk{w:World}{rp d:Nat}{G:List Nat}(h:mH w rp G d []):Calls Tryz.prog 157 #[.pointer (some ⟨rp,0,none⟩),.int .i64 0] w fun e w'=>e=.returned (.tuple #[.int .i64 0,.bool false])/\w'=w:=by
 obtain⟨mb,f,v,h1,h2, -, -, -, -, -⟩:=h;obtain⟨a,c,rfl,hc⟩:=bq h2;have c1:=h1.cellAt 1 (v:=.slice a 0 c) ω rfl;clear h1 h2
 go_enter Tryz.func157,Tryz.ntmps157
 go_wp2;go_ret2;exact⟨rfl,rfl⟩
theorem Sc{w:World}{rp d x:Nat}{G L:List Nat}(h:mH w rp G d (x::L)):Calls Tryz.prog 157 #[.pointer (some ⟨rp,0,none⟩),.int .i64 0] w fun e w'=>e=.returned (.tuple #[.int .i64 (x:Int),.bool true])/\w'=w:=by
 obtain⟨mb,g,cap,f,hM, -, -⟩:=h.open σ;have c1:=hM.h1;have c2:=hM.cell 0 σ;rw[show(x::L).getD 0 0=x from rfl]at c2;have hn:0<(x::L).length:=σ;generalize (x::L).length=n at *;have hn1:¬ (0:Int)≥(n:Int):=ω;have hn2:(0:Int)<(n:Int):=ω;have Kl:¬n=0:=ω;clear hM h
 go_enter Tryz.func157,Tryz.ntmps157
 go_wp2;go_ret2;exact⟨rfl,rfl⟩
theorem Q5(O:gZ){w:World}{rp d:Nat}{G L:List Nat}(hO:O.at_ w)(h:mH w rp G d L)(hd:2<=d/\d<=16)(hl:L.length+1<=65536)(hH:Hp O.R d L)(x:Nat)(hx:x∉L)(hn:L.Nodup)
  (hdom:∀y,y∈x::L->O.dom y) (h16:∀y,y∈x::L->y<=65536) (hsep:∀z,z∈G->z∉O.rd) :
  Calls Tryz.prog 155 #[.pointer (some ⟨rp,0,none⟩),.iface O.ty (.pointer (some ⟨O.p,0,none⟩)),.int .i64 (x:Int)] w fun e w'=>e=.returned (.bool true)/\∃G' L',mH w' rp G' d L'/\L'.Perm (x::L)/\Hp O.R d L'/\O.at_ w'/\aa (G++O.wr) w w'/\∀z,z∈G'->z∈G\/w.heap.size<=z:=by
 obtain⟨mb,f,v,h1,h2,h3,h4,h5,h6,rfl⟩:=h;have hfx:=VC h4 hx;have HXx:=χ hx;have hxl:=h16 x σ;obtain⟨a,cc,rfl,hcc⟩:=bq h2;have c1:=h1.cellAt 1 (v:=.slice a L.length cc) ω rfl;have c2:=h1.cellAt 2 (v:=.map (some mb)) ω rfl;have f1:=h1.free 1;have hlr:=h1.lt;have hlo:=h2.lt;have hms:∀z,z∈(Value.slice a L.length cc).ownBlock.toList->rp≠z/\mb≠z:=fun z hz=>h6 z (by simpa using hz);have hp:=hH.snoc O.tr hd.1 (x:=x);have hpl:=Vq h4 x;have hset:(L++[x]).set L.length x=L++[x]:=σ;have Ch:(L++[x]).Perm (x::L):=List.perm_append_comm (l₁:=L) (l₂:=[x])
 have HX:=χ (ψ hO (ψ h1 (ψ h3 (ψ h5 (ψ hms (ψ hp (ψ hpl (ψ hset (ψ Ch (ψ hn (ψ hdom (ψ h16 (ψ hsep hlo)))))))))))));have hmb:gN w mb f:=h3;have hgl:(Value.slice a L.length cc).ownBlock.toList=(Value.slice a L.length cc).ownBlock.toList:=rfl;clear h1 h3 h4 h6 hH hx hn hdom h16 hsep hO hms hp hpl hset Ch hlo;generalize hnl:L.length=n at *;have HN:=χ hnl;clear hnl
 go_enter Tryz.func155,Tryz.ntmps155
 go_upto_region 5 with(first
  | (at_lookup;refine mY rfl _ _ rfl mb f rfl hmb (x:Int) rfl ω ?_;rw[hfx];simp only[Option.getD_none,Option.isSome_none])
  | ((at_builtin;refine aX rfl _ _ 26 rfl 0 3 (.int .i64 0) 1 8 Tryz.underlying26 fF rfl δ _ _ _ rfl (h2) [.int .i64 (x:Int)] rfl (by simp[Value.oneCell']) (by first|rfl|(rw[World.size_alloc];rfl)) μ ω (ω) ?_;intro v2 w2 ho2 hu2 mQ);obtain⟨a2,cc2,rfl,hcc2⟩:=bq ho2;(have d1:w2.cell? ⟨rp,1,none⟩=some (.slice a n cc):=hu2.kept c1 (fun hm=>(HX.out.2.2.2.2.1 rp hm).1 rfl));(have e1:=hu2.aS c1 (fun hm=>(HX.out.2.2.2.2.1 rp hm).1 rfl) f1))
  | fail)
 obtain⟨hO,h1,h3,h5,hms,hp,hpl,hset,Ch,hn,hdom,h16,hsep,hlo⟩:=HX.out;have hnz:bH (L++[x])=bH L++[(x:Int)]:=by unfold bH;simp
 have hL1:(L++[x]).length=n+1:=by rw[υ,HN.out];rfl
 obtain⟨g2,cap2,e2,hI2, -⟩:=IZ.iY (l:=bH (L++[x])) (by rw[dB,hL1,hnz,bM];exact ho2) (by rw[dB,hL1];omega);rw[dB,hL1]at e2;cases e2;have hg2:rp≠g2/\mb≠g2/\(g2∈(Value.slice a n cc).ownBlock.toList\/w.heap.size<g2):=by
  rcases mQ with e|e
  ·have hm:g2∈(Value.slice a n cc).ownBlock.toList:=by have e':(Value.slice a n cc).ownBlock=some g2:=e.symm;rw[e'];simp
   have:=hms g2 hm;exact⟨this.1,this.2,Or.inl hm⟩
  ·have h7:=e g2 rfl;have h8:=h3.lt;exact⟨ω,ω,Or.inr h7⟩
 have hw0:aa (Value.slice a n cc).ownBlock.toList w w2:=hu2;have G7:aa [rp] w2 (w2.setCell ⟨rp,1,none⟩ (.slice (some ⟨g2,0,none⟩) (n+1) cc2)):=β;have hnm:∀z,z∈(Value.slice a n cc).ownBlock.toList->rp≠z/\mb≠z:=hms;have hR:vw (w2.setCell ⟨rp,1,none⟩ (.slice (some ⟨g2,0,none⟩) (n+1) cc2)) rp mb g2 cc2 d f (L++[x]):=by
  refine⟨((h1.upd hw0 (fun hm=>(hnm rp hm).1 rfl)).set 1 _).ext (fun j hj=>?_),hI2.upd G7 (by simp;exact fun e=>hg2.1 e.symm),(h3.upd hw0 (fun hm=>(hnm mb hm).2 rfl)).upd G7 (by simp;exact fun e=>h5 e.symm),h5,hg2.1,hg2.2.1⟩;rw[hL1];rcases(ω:j=0\/j=1\/j=2)with rfl|rfl|rfl<;>rfl
 have hrd:∀z,z∈(Value.slice a n cc).ownBlock.toList->z∉O.rd:=fun z hz=>hsep z (List.mem_cons_of_mem _ (List.mem_cons_of_mem _ hz));have hOl:=O.low hO;have hat:O.at_ (w2.setCell ⟨rp,1,none⟩ (.slice (some ⟨g2,0,none⟩) (n+1) cc2)):=O.upd (O.upd hO hw0 hrd) G7 (fun z hz=>by simp at hz;rw[hz];exact hsep rp σ);have ku:=Eg O hat hR hd ω n x hp.1 hpl (by rw[hset];exact Ch.nodup_iff.2 (List.nodup_cons.2 ⟨HXx.out,hn⟩)) (fun y hy=>hdom y (Ch.mem_iff.1 (by rw[←hset];exact hy))) (fun y hy=>h16 y (Ch.mem_iff.1 (by rw[←hset];exact hy)))
  ⟨hsep rp σ,hsep mb σ,fun hm=>by rcases hg2.2.2 with e|e;exact hrd g2 e hm;have:=hOl g2 hm;omega⟩
 rw[hset]at ku;have k1:((n+1:Nat):Int)-1=(n:Int):=ω;have HR:=χ (ψ hp.2 (ψ Ch (ψ hg2 (ψ hw0 G7))));have c9:=hR.h1;rw[hL1]at c9;have hwr9:wrap64 ((n:Int)+1-1)=(n:Int):=by rw[show(n:Int)+1-1=n by omega];exact IntWalk.wrap64_in _ ω
 clear hR hat hp hpl Ch hms hdom h16 hI2 ho2 hu2 mQ d1 e1 hw0 G7 hsep hset
 go_wp2_with (first
  | ((go_at_call 159;(with_reducible refine(ku).mono ?_));rintro e w5 ⟨k,f',L',rfl,Mt,PR,SX,BO,bW,hk5,hH5⟩)
  | fail)
 obtain⟨hb,Ch,hg2,hw0,G7⟩:=HR.out;have hsz:=hw0.size;go_ret;refine⟨rfl,_,L',Mt.at_ PR,SX.trans Ch,hH5 (Or.inr hb),BO,?_,fun z hz=>?_⟩
 ·refine((hw0.mono (fun z hz=>by simp[hz])).trans (G7.mono (fun z hz=>by simp at hz;simp[hz]))).joined bW (fun z hz=>?_);simp only[ρ,τ]at hz⊢;rcases hz with rfl|rfl|hz
  ·rcases hg2.2.2 with e|e
   ·exact Or.inl (Or.inr (Or.inr (Or.inl e)))
   ·exact Or.inr ω
  ·exact Or.inl (Or.inr (Or.inl rfl))
  ·exact Or.inl (Or.inr (Or.inr (Or.inr hz)))
 ·simp only[ρ,ς,or_false]at hz;rcases hz with rfl|rfl|rfl
  ·exact Or.inl σ
  ·exact Or.inl σ
  ·rcases hg2.2.2 with e|e
   ·exact Or.inl (by simp[e])
   ·exact Or.inr ω
theorem Js(O:gZ){w:World}{rp d:Nat}{G L:List Nat}(hO:O.at_ w)(h:mH w rp G d L)(hd:2<=d/\d<=16)(hl:L.length<=65536)(i x:Nat)(hx:L[i]?=some x)(hn:L.Nodup)(hH:fC O.R d L i)(hB:Below O.R d L i x)
  (hdom:∀y,y∈L->O.dom y) (h16:∀y,y∈L->y<=65536) (hsep:∀z,z∈G->z∉O.rd) :
  Calls Tryz.prog 148 #[.pointer (some ⟨rp,0,none⟩),.iface O.ty (.pointer (some ⟨O.p,0,none⟩)),.int .i64 (x:Int)] w fun e w'=>e=.returned (.bool true)/\∃L',mH w' rp G d L'/\L'.Perm L/\Hp O.R d L'/\O.at_ w'/\aa (G++O.wr) w w':=by
 have hi:=hH.lt;obtain⟨mb,g,cap,f,hM,hP,rfl⟩:=h.open ω;have hset:L.set i x=L:=by
  obtain⟨_,e⟩:=List.getElem?_eq_some_iff.1 hx;rw[←e];simp
 have hxm:=List.mem_of_getElem? hx;have ku:=Eg O hO hM hd hl i x hH (hP.hole hx) (by rw[hset];exact hn) (fun y hy=>hdom y (by rw[←hset];exact hy)) (fun y hy=>h16 y (by rw[←hset];exact hy)) ⟨hsep rp σ,hsep mb σ,hsep g σ⟩;rw[hset]at ku;have c2:=hM.h2;have hfx:=Mw hP hx;have hmb:=hM.map;have hxl:=h16 x hxm;have HB:=χ hB;clear h hM hP hx hn hH hB hdom h16 hsep hO hset hxm
 go_enter Tryz.func148,Tryz.ntmps148
 go_wp2_with (first
  | (at_lookup;refine mY rfl _ _ rfl mb f rfl hmb (x:Int) rfl ω ?_;rw[hfx];simp only[Option.getD_some,Option.isSome_some])
  | ((go_at_call 159;(with_reducible refine(ku).mono ?_));rintro e w5 ⟨k,f',L',rfl,Mt,PR,SX,BO,bW,hk5,hH5⟩)
  | fail)
 go_ret;refine⟨rfl,L',Mt.at_ PR,SX,hH5 (Or.inr HB.out),BO,bW.mono (fun z hz=>?_)⟩;simp only[ρ,τ]at hz⊢;rcases hz with rfl|rfl|hz
 ·simp
 ·simp
 ·simp[hz]
end Go.Proofs.YtklibcncmbofpaaGreat
