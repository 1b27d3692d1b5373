/-
  Lemmas for PathShortest: Lev, FrI, Frm, FrE, PrG. Conditions: those of each lemma.
-/
import Derived.Test.YtklibcncmbofpaaGreatQ40
set_option linter.all false
set_option maxHeartbeats 8000000
set_option maxRecDepth 10000
namespace Go.Proofs.YtklibcncmbofpaaGreat
open Go Go.RowKit
def xS (E:List Ed) (k v:Nat):List Nat:=(List.range k).filter (fun i=>decide ((E.getD i default).f=(v:Int)))
theorem Rb (E:List Ed) (k v:Nat):xS E (k+1) v=if (E.getD k default).f=(v:Int) then xS E k v++[k] else xS E k v:=by
 unfold xS;rw [List.range_succ,List.filter_append]
 by_cases h:(E.getD k default).f=(v:Int)
 ·rw [if_pos h,List.filter_cons_of_pos (by simpa only [decide_eq_true_eq] using h)];rfl
 ·rw [if_neg h,List.filter_cons_of_neg (by simpa only [decide_eq_true_eq] using h)];simp
theorem Vj (E:List Ed) (k v:Nat):(xS E k v).length<=k:=by
 unfold xS;exact Nat.le_trans (List.length_filter_le _ _) σ
theorem LV {E:List Ed} {k v i:Nat}:i∈xS E k v↔i<k/\(E.getD i default).f=(v:Int):=by
 unfold xS;simp
structure TY (w:World) (lo g N:Nat) (vs:Nat->Value) (L:Nat->List Nat):Prop where
 row:aP w g 26 N vs
 own:∀v,v<N->w.ownsRow lo 3 1 (vs v) (L v).length (aV (bJ (L v)))
 ng:∀v,v<N->(vs v).ownBlock≠some g
 sep:∀u v b,u<N->v<N->u≠v->(vs u).ownBlock=some b->(vs v).ownBlock≠some b
theorem TY.upd {w w':World} {lo g N:Nat} {vs:Nat->Value} {L:Nat->List Nat} {S:List Nat} (h:TY w lo g N vs L) (hu:aa S w w') (hg:g∉S) (hS:∀v,v<N->∀b,(vs v).ownBlock=some b->b∉S):TY w' lo g N vs L:=
 ⟨h.row.upd hu hg,fun v hv=>aF (h.own v hv) hu (fun b hb=>hS v hv b hb),h.ng,h.sep⟩
theorem TY.put {w w2:World} {lo g N f x:Nat} {vs:Nat->Value} {L:Nat->List Nat} (h:TY w lo g N vs L) (hf:f<N) {v2:Value} (hu:aa (vs f).ownBlock.toList w w2) (ho:w2.ownsRow lo 3 1 v2 ((L f).length+1) (aV (bJ (L f++[x]))))
  (hv:v2.ownBlock=(vs f).ownBlock\/∀b,v2.ownBlock=some b->w.heap.size<=b):TY (w2.setCell ⟨g,f,none⟩ v2) lo g N (fun v=>if v=f then v2 else vs v) (fun v=>if v=f then L f++[x] else L v):=by
 have hgf:g∉(vs f).ownBlock.toList:=fun e=>h.ng f hf (by simpa using e);have hU:aa [g] w2 (w2.setCell ⟨g,f,none⟩ v2):=(aa.refl _ _).setCell (Or.inl σ) _;have hgl:=h.row.lt;have hng2:v2.ownBlock≠some g:=fun e=>by
  rcases hv with h1|h1
  ·exact h.ng f hf (by rw [←h1];exact e)
  ·have:=h1 g e;omega
 have Xr:∀v b,v<N->v≠f->(vs v).ownBlock=some b->v2.ownBlock≠some b:=fun v b hv' hne hb e=>by
  rcases hv with h1|h1
  ·exact h.sep v f b hv' hf hne hb (by rw [←h1];exact e)
  ·have h2:=h1 b e;have h3:=(h.own v hv').lt b hb;omega
 refine ⟨((h.row.upd hu hgf).set f v2),fun v hv'=>?_,fun v hv'=>?_,fun u v b hu' hv' hne hb=>?_⟩
 ·by_cases e:v=f
  ·simp only [if_pos e];rw [υ];exact aF ho hU (fun k hk e=>by simp at e;subst e;exact hng2 hk)
  ·simp only [if_neg e];exact aF (aF (h.own v hv') hu (fun k hk e2=>h.sep v f k hv' hf e hk (by simpa using e2))) hU (fun k hk e2=>by simp at e2;subst e2;exact h.ng v hv' hk)
 ·by_cases e:v=f
  ·simp only [if_pos e];exact hng2
  ·simp only [if_neg e];exact h.ng v hv'
 ·by_cases e1:u=f
  ·have e2:v≠f:=fun e=>hne (by rw [e1,e]);simp only [if_pos e1] at hb;simp only [if_neg e2];intro e3;exact Xr v b hv' e2 e3 hb
  ·simp only [if_neg e1] at hb
   by_cases e2:v=f
   ·simp only [if_pos e2];exact Xr u b hu' e1 hb
   ·simp only [if_neg e2];exact h.sep u v b hu' hv' hne hb
theorem PI:(Tryz.prog.info? 26).map (fun i=>(i.zero,i.size,i.bytes))=some (some (.slice none 0 0),1,24):=by kernel_rfl
theorem NI (w:World) (lo n:Nat):TY (w.alloc (.cells (madeCells #[.slice none 0 0] n) 26)) lo w.heap.size n (fun _=>.slice none 0 0) (fun _=>[]):=by
 refine ⟨⟨madeCells #[.slice none 0 0] n,?_,by simp [madeCells],fun j hj=>?_⟩,fun v hv=>?_,fun v hv=>by simp [Value.ownBlock],fun u v b hu hv hne hb=>by simp [Value.ownBlock] at hb⟩
 ·show (w.heap.push _)[w.heap.size]?=_;simp
 ·simp [madeCells,hj,Nat.mod_one]
 ·exact World.ownsRow_nil _ _ _ _
theorem Gx (w:World) (N:Nat) (va:Value) (E:List Ed) (hE:zN w va E) (hr:gP (N:Int) E=true) :
    Calls Tryz.prog 53 #[.agg #[.int .i64 (N:Int),va]] w fun r w'=>∃g vs,r=.returned (.slice (some ⟨g,0,none⟩) N N)/\TY w' (w.heap.size+1) g N vs (xS E E.length)/\w.heap.size<=g/\aa [] w w':=by
  have hbd:=mI hr;have kc:=fun W (hW:aa [] w W)=>zw W (N:Int) va E (hE.upd hW);rw [hr] at kc;obtain ⟨a,cap,rfl,hcap⟩:=hE.shape;have HE:=χ hE;have HR:=χ hr;have u0:aa [] w (w.alloc (.cells #[.int .i64 N,.slice a E.length cap] 57)):=(aa.refl _ _).alloc _;have hN:N<=4096:=ω;have Vq:E.length<=65536:=hbd.2.2;have hmk:=run_make_row' (P:=Tryz.prog) 51 26 (.slice none 0 0) 24 Tryz.underlying51 PI rfl .i64 .i64 N ω ω;clear hE hr hbd;generalize hn:E.length=n at *;have HN:=χ hn;clear hn
  go_enter Tryz.func53,Tryz.ntmps53
  go_wp2_with (first
    | ((go_at_call 74;(with_reducible refine (kc _ u0).mono ?_));rintro e w1 ⟨rfl,hu1⟩;(have q0:w1.cell? ⟨w.heap.size,0,none⟩=some (.int .i64 (N:Int)):=hu1.was γ);(have q1:w1.cell? ⟨w.heap.size,1,none⟩=some (.slice a n cap):=hu1.was γ);(have hb:=World.block_lt_of_cell? w1 _ q0))
    | fail)
  have hL0:=NI w1 (w.heap.size+1) N;have hsz1:=hu1.size;have hg1:w.heap.size<w1.heap.size:=hb;clear hmk hb
  go_loopw [4,5,15] (fun _ _ i wr=>∃ (k:Nat) (vs:Nat->Value),k<=n/\i=.int .i64 (k:Int)/\TY wr (w.heap.size+1) w1.heap.size N vs (xS E k)/\aa [] (w.alloc (.cells #[.int .i64 N,.slice a n cap] 57)) wr) (fun _ _ i _=>n-(intOf i).toNat)
  case atStart=>exact ⟨0,_,ω,rfl,hL0,β⟩
  case round=>
    clear hL0 q0 q1 kc;obtain ⟨k,vs,hk,rfl,hL,hu⟩:=hrel;rename World=>wr;have hsz:w.heap.size<wr.heap.size:=by have:=hu.size;simp at this;omega
    by_cases hkn:k<n
    · have KV:k<E.length:=by rw [HN.out];exact hkn
      have hx:E[k]?=some (E.getD k default):=by simp [φ,KV]
      have hmem:E.getD k default∈E:=List.mem_of_getElem? hx;obtain ⟨ge,off,rfl,hg,c0,c1,c2⟩:=(HE.out.upd (u0.trans hu)).at k KV;have h1:=iW HR.out hmem;have HT:=χ (Rb E k);generalize E.getD k default=e at *;have hwr:IntKind.i64.wrap ((k:Int)+1)=(k:Int)+1:=IntWalk.i64_in _ ω;obtain ⟨ef,et,ew⟩:=e;dsimp only at c0 c1 c2 h1;obtain ⟨f,rfl⟩:∃f:Nat,ef=f:=⟨ef.toNat,ω⟩;have hf:f<N:=ω;have hfI:(f:Int)<(N:Int):=ω;have hlf:=Vj E k f;have ho:=hL.own f hf;obtain ⟨av,cv,hvf,hcv⟩:=bu ho;have d0:=hL.row.cellAt f hf hvf;have df:=hL.row.free f
      have hnb:wr.heap.size∉(Value.slice av (xS E k f).length cv).ownBlock.toList:=fun e=>by have:=((ho.lt wr.heap.size (by rw [hvf];simpa using e)).2);omega
      have hgl:=hL.row.lt;have HL:=χ (ψ hL hvf);have HU:=χ hu;rw [hvf] at ho;have QX:=χ (fun b hb=>(ho.lt b hb).1);clear hx hmem hL hu hvf;generalize hln:(xS E k f).length=ln at *;have VK:=χ hln;clear hln
      go_upto_region 7 with (fail)
      refine OU (fun W=>W.cell? ⟨wr.heap.size,0,none⟩=some (.int .i64 (f:Int))/\aa [] wr W) ⟨γ,β⟩ ?_;rintro W6 ⟨p2,iU⟩;have p1:=iU.was d0;have pf1:=iU.aL d0 σ df;have Im:=aF (S:=[]) ho iU σ;have hrs6:=World.block_lt_of_cell? W6 _ p2;have hpa6:=World.block_lt_of_cell? W6 _ p1;dsimp only at hrs6 hpa6;have s0:aa [] W6 (W6.drew.alloc (.cells #[.int .i64 (k:Int)] 3)):=((aa.refl _ _).drew).alloc _;have Ob:w1.heap.size∉(Value.slice av ln cv).ownBlock.toList:=fun e=>by have:=HL.out.1.ng f hf;rw [HL.out.2] at this;exact this (by simpa using e)
      clear d0 df ho c0 c1 c2
      go_region_law
        (first
          | (refine j5 rfl _ _ 26 rfl (w.heap.size+1) 3 (.int .i64 0) 1 8 Tryz.underlying26 gz rfl δ (.slice av ln cv) ln (aV (bJ (xS E k f))) rfl (Im.drew.alloc _) W6.heap.size [.int .i64 (k:Int)] rfl rfl (fun j u hj=>mF W6 [.int .i64 (k:Int)] 3 j u hj) (by simp [Value.oneCell']) μ ω ζ ?_
             intro v2 w2 ho2 hu2 hv2;have hS2:aa (Value.slice av ln cv).ownBlock.toList W6 w2:=(s0.mono σ).trans hu2;have z1:=hS2.kept p1 Ob;have zf1:=hS2.aL p1 Ob pf1;have z2:=hS2.kept p2 hnb
             obtain ⟨a2,cap2,rfl,hcap2⟩:=bu ho2))
      all_goals
        go_wp2;have mq:=HL.out.1.upd iU σ (fun v hv b hb=>σ)
        have hP:=mq.put hf (x:=k) (v2:=.slice a2 (ln+1) cap2) (by rw [HL.out.2];exact hS2) (by
          rw [VK.out,show bJ (xS E k f++[k])=bJ (xS E k f)++[(k:Int)] from by unfold bJ;simp,bL];exact ho2) (by
          rw [HL.out.2];rcases hv2 with h|h
          · exact Or.inl h
          · exact Or.inr (fun b hb=>by rw [h] at hb;simp at hb;omega))
        have hfun:(fun v=>if v=f then xS E k f++[k] else xS E k v)=xS E (k+1):=funext fun v=>by
          rw [HT.out v]
          by_cases e:v=f
          · subst e;simp
          · rw [if_neg e,if_neg (by show ¬ ((f:Nat):Int)=v;omega)]
        rw [hfun] at hP
        exact ⟨⟨k+1,_,ω,by go_num,hP,by
          have h1:aa [] _ W6:=HU.out.trans iU;have h2:aa [] _ w2:=h1.joined hS2 (fun b hb=>Or.inr (by have:=QX.out b (by simpa using hb);rw [World.size_alloc];exact this))
          exact h2.setCell (Or.inr ζ) _⟩,by simp [intOf];omega⟩
    · obtain rfl:k=n:=ω
      have HL:=χ hL;clear hL;go_wp2;go_ret;exact ⟨_,vs,rfl,HL.out,ω,u0.trans hu⟩
structure Zc (w:World) (F:List Nat) (gb rb B0 L0 L1 N g:Nat) (v0 v1 r0 r1:Value) (vs:Nat->Value) (L:Nat->List Nat):Prop where
 g0:w.cell? ⟨gb,0,none⟩=some v0
 g1:w.cell? ⟨gb,1,none⟩=some v1
 r0:w.cell? ⟨rb,0,none⟩=some r0
 r1:w.cell? ⟨rb,1,none⟩=some r1
 f0:w.frozen? ⟨rb,0,none⟩=false
 f1:w.frozen? ⟨rb,1,none⟩=false
 lv:TY w (L0+1) g N vs L
 bF:∀x,x∈F->B0<=x/\(x<L0\/L1<=x)
 gl:L0<=g/\g<L1
 vl:∀v,v<N->∀b,(vs v).ownBlock=some b->L0<=b/\b<L1
 hb:gb<B0/\rb<B0/\B0<=L0
 sz:L1<=w.heap.size
theorem Zc.step {w w':World} {F F' T:List Nat} {gb rb B0 L0 L1 N g:Nat} {v0 v1 r0 r1:Value} {vs:Nat->Value} {L:Nat->List Nat} (h:Zc w F gb rb B0 L0 L1 N g v0 v1 r0 r1 vs L) (hu:aa T w w') (hT:∀x,x∈T->x∈F\/(B0<=x/\x<L0)\/L1<=x) (hF:∀x,x∈F'->x∈F\/w.heap.size<=x):Zc w' F' gb rb B0 L0 L1 N g v0 v1 r0 r1 vs L:=by
 obtain ⟨hb1,hb2,hb3⟩:=h.hb;have hs:=h.sz;have hz:=hu.size;have hTb:∀x,x∈T->B0<=x/\(x<L0\/L1<=x):=fun x hx=>by
  rcases hT x hx with e|e|e
  ·exact h.bF x e
  ·exact ⟨e.1,Or.inl e.2⟩
  ·exact ⟨by have:=h.gl;omega,Or.inr e⟩
 have n1:gb∉T:=fun e=>by have:=hTb _ e;omega
 have n2:rb∉T:=fun e=>by have:=hTb _ e;omega
 have n3:g∉T:=fun e=>by have:=hTb _ e;have:=h.gl;omega
 refine ⟨hu.kept h.g0 n1,hu.kept h.g1 n1,hu.kept h.r0 n2,hu.kept h.r1 n2,hu.aL h.r0 n2 h.f0,hu.aL h.r1 n2 h.f1,h.lv.upd hu n3 (fun v hv b hb e=>by have:=hTb _ e;have:=h.vl v hv b hb;omega),fun x hx=>?_,h.gl,h.vl,h.hb,ω⟩;rcases hF x hx with e|e
 ·exact h.bF x e
 ·exact ⟨by have:=h.gl;omega,Or.inr ω⟩
theorem Ta {n:Nat} {l:List Nat} (hn:l.Nodup) (h:∀x,x∈l->x<n):l.length<=n:=by
 have:=nodup_range n (l.map (fun (x:Nat)=>(x:Int))) (by
  unfold List.Nodup at hn ⊢;rw [List.pairwise_map];exact hn.imp (fun h e=>h ω)) (fun x hx=>by
  obtain ⟨y,hy,rfl⟩:=List.mem_map.1 hx
  have:=h y hy;omega)
 simpa using this
theorem Xw {N:Int} {E:List Ed} (hr:gP N E=true) {v i:Nat} (hi:i<E.length):(jE (eN E) i).f≠v\/i∈xS E E.length v:=by
 by_cases h:(jE (eN E) i).f=v
 ·refine Or.inr (LV.2 ⟨hi,?_⟩);have h3:=iW hr (List.mem_of_getElem? (show E[i]?=some (E.getD i default) by simp [φ,hi]));rw [Qf E i hi] at h;have h4:(E.getD i default).f.toNat=v:=h;omega
 ·exact Or.inl h
theorem St.round {v:Nat} {K:ig} {X:sI} {kd dd:Int} {E:List Ed} {s N m:Nat} {w:World} {F:List Nat} {d:Nat->Nat} {bt:Nat->Int} {S:List Nat} {W R:Nat->Prop} (h:St K X kd dd E s N m w F d bt (v::S) W R) (hR:∀i,i<E.length->R i):St K X kd dd E s N m w F d bt (v::S) W (fun _=>True):=by
 obtain ⟨R',A,q,c,hc,f,sl,hM,hJ,hS⟩:=h;exact ⟨R',A,q,c,hc,f,sl,hM,SV hJ (fun i hi=>hR i (by rw [xI] at hi;exact hi)),hS⟩
theorem FY {K:ig} {kd dd:Int} (w:World) (N s:Nat) (va:Value) (E:List Ed) (hE:zN w va E) (Bh:dY (N:Int) E=true) (hs:s<N) (hc:wZ kd dd=0) (ko:qo K kd dd N) :
  Calls Tryz.prog 29 #[.agg #[.int .i64 kd,.int .i64 dd],.agg #[.int .i64 (N:Int),va],.int .i64 (s:Int)] w fun e w'=>∃vd vb D B,e=.returned (.tuple #[.agg #[vd,vb],.int .i64 0])/\iT w' [] vd D/\iT w' [] vb B/\uT (eN E) N s (passes (eN E) s N) D B/\aa [] w w':=by
 have hr:=jf Bh;have hbd:=mI hr;have hN:N<=4096:=ω;have hg:Ip (eN E) s N (9223372036854775807 / N):=tK Bh hs;have WY:∀e,e∈E->0<=e.w/\e.w<=9223372036854775807:=fun e he=>by
  have h1:=l8 Bh he;have h2:(9223372036854775807:Int) / (N:Int)<=9223372036854775807:=Int.ediv_le_self _ ω;omega
 have kc:=fun W=>tC kd dd W;rw [hc] at kc;have kw:=fun W (hW:aa [] w W)=>zC W N va E (hE.upd hW) (fun e he=>(WY e he).2);rw [Bh,show UN true=0 from rfl] at kw;have kb:=fun W=>MU (K:=K) N W ω hN hc ko;have kl:=fun W (hW:aa [] w W)=>Gx W N va E (hE.upd hW) hr;obtain ⟨a,cap,rfl,hcap⟩:=hE.shape;have HE:=χ hE;have HW:=χ (ψ Bh (ψ hr hg));have hsn2:¬N<=s:=ω;have h1b:decide ((s:Int)≥(N:Int))=false:=ζ;have Vq:E.length<=65536:=hbd.2.2;clear hE Bh hr hbd WY hg hc ko;generalize hn:E.length=n at *;have HN:=χ hn;clear hn
 go_enter Tryz.func29,Tryz.ntmps29
 go_upto_region 9 with (first
  | ((go_at_call 50;(with_reducible refine (kc _).mono ?_));rintro e w1 ⟨rfl,hu1⟩;(have q0:w1.cell? ⟨w.heap.size,0,none⟩=some (.int .i64 kd):=hu1.was γ);(have q1:w1.cell? ⟨w.heap.size,1,none⟩=some (.int .i64 dd):=hu1.was γ);(have q2:w1.cell? ⟨w.heap.size+1,0,none⟩=some (.int .i64 (N:Int)):=hu1.was γ);(have q3:w1.cell? ⟨w.heap.size+1,1,none⟩=some (.slice a n cap):=hu1.was γ);(have r0:w1.cell? ⟨w.heap.size+2,0,none⟩=some (.slice none 0 0):=hu1.was γ);(have r1:w1.cell? ⟨w.heap.size+2,1,none⟩=some (.slice none 0 0):=hu1.was γ);(have hw1:aa [] w w1:=aa.trans β hu1))
  | ((go_at_call 51;(with_reducible refine (kw _ β).mono ?_));rintro e w2 ⟨rfl,hu2⟩;(have q4:=hu2.was q0);(have q5:=hu2.was q1);(have q6:=hu2.was q2);(have q7:=hu2.was q3))
  | ((go_at_call 52;(with_reducible refine (kb _).mono ?_));rintro e w3 ⟨X,F,hv,rfl,hM,hu3,hX,hF⟩;(have q8:=hu3.was q6);(have q9:=hu3.was q7);(have r4:=hu3.was (hu2.was r0));(have r5:=hu3.was (hu2.was r1));(have TK:w1.frozen? ⟨w.heap.size+2,0,none⟩=false:=hu1.aL (v:=.slice none 0 0) γ σ γ);(have Pe:w1.frozen? ⟨w.heap.size+2,1,none⟩=false:=hu1.aL (v:=.slice none 0 0) γ σ γ);(have hw3:=(hw1.trans hu2).trans hu3);(have hst:=AO HW.out.2.2 ω hM))
  | fail)
 have hb2:w.heap.size+2<w2.heap.size:=World.block_lt_of_cell? w2 _ (hu2.was r0);have hMl:=hM.lt;have hFl:=hM.pq.lt;have hMst:=fun W (hW:aa [] w3 W)=>AO HW.out.2.2 ω (hM.aA hW);clear hst hM kc kw kb;have kl3:=kl w3 hw3
 go_upto_region 11 with (first
  | ((go_at_call 53;(with_reducible refine (kl3).mono ?_));rintro e w4 ⟨g,vs,rfl,hL,hg4,iB⟩;(have hst4:=hMst w4 iB))
  | ((go_at_call 54;(with_reducible refine (hst4).mono ?_));rintro e w5 ⟨rfl,F5,hSt,dm,VO⟩)
  | fail)
 have Ua:Zc w4 F (w.heap.size+1) (w.heap.size+2) w2.heap.size w3.heap.size w4.heap.size N g (.int .i64 (N:Int)) (.slice a n cap) (.slice none 0 0) (.slice none 0 0) vs (xS E n):=by
  have hfr0:=(hu2.trans (hu3.trans iB)).aL r0 σ TK;have hfr1:=(hu2.trans (hu3.trans iB)).aL r1 σ Pe;have hgl:=hL.row.lt;have hs3:=hu3.size;exact ⟨iB.was q8,iB.was q9,iB.was r4,iB.was r5,hfr0,hfr1,hL,fun x hx=>⟨hF x hx,Or.inl (hFl x hx)⟩,⟨hg4,hgl⟩,fun v hv b hb=>by have:=(hL.own v hv).lt b hb;omega,ω,ω⟩
 have ZE:∀x,x∈X.own->w2.heap.size<=x/\x<w3.heap.size:=fun x hx=>⟨hX x hx,hMl x hx⟩
 have hI5:=Ua.step dm (fun x hx=>by
  rcases τ.1 hx with e|e
  ·exact Or.inr (Or.inl (ZE x e))
  ·exact Or.inl e) VO
 have VR:aa [] w w5:=(hw3.trans iB).joined dm (fun x hx=>Or.inr (by
  have:=hw1.size;have:=hu2.size;rcases τ.1 hx with e|e
  ·have:=(ZE x e).1;omega
  ·have:=hF x e;omega))
 clear Ua dm VO hMst hst4 kl3 kl hL hg4 iB hMl hFl hF hX q0 q1 q2 q3 q4 q5 q6 q7 q8 q9 r0 r1 r4 r5 TK Pe
 go_loopg [12,13,14,16,78] (N+1) (fun fu _ _ _ _ _ wr=>∃F' d bt S W,St K X kd dd E s N (9223372036854775807 / N) wr F' d bt S W (fun _=>True)/\Zc wr F' (w.heap.size+1) (w.heap.size+2) w2.heap.size w3.heap.size w4.heap.size N g (.int .i64 (N:Int)) (.slice a n cap) (.slice none 0 0) (.slice none 0 0) vs (xS E n)/\aa [] w wr/\N<fu+S.length)
 case atStart=>exact ⟨F5,_,_,_,_,hSt,hI5,VR,σ⟩
 case round=>
  rename Nat=>fu;clear hSt hI5 VR;obtain ⟨F',d,bt,S,W,hSt,hI,hw,hfu⟩:=hrel;rename World=>wr;have hSn:S.length<=N:=by
   obtain ⟨_,_,_,_,_,_,_,_,hJ,_⟩:=hSt;exact Ta hJ.nd hJ.sN
  obtain ⟨fv,rfl⟩:∃fv,fu=fv+1:=⟨fu-1,ω⟩;obtain ⟨c0,c1,c2,c4⟩:=hSt.cells
  by_cases hno:∀v,¬W v
  ·have ke:=fun W' (hW':aa [] wr W')=>Wi (hSt.aA hW') ω hno
   go_upto_region 12 with (first
    | ((go_at_call 41;(with_reducible refine (ke _ β).mono ?_));rintro e w6 ⟨rfl,F6,J7,iU,Z7⟩)
    | fail)
   have RF:=hI.step iU (fun x hx=>Or.inl hx) Z7;obtain ⟨t0,t1,t2⟩:=J7.tree HW.out.2.2 hno (T:=[w.heap.size+1+1]) (fun e=>by have:=ZE X.gd (by unfold sI.own;simp);simp at e;omega) (fun e=>by have:=ZE X.gb (by unfold sI.own;simp);simp at e;omega);obtain ⟨d0,d1,d2,d4⟩:=J7.cells;have Im:aa [] w w6:=hw.joined iU (fun x hx=>Or.inr (by have:=hI.bF x hx;have:=hI.hb;omega));have HT:=χ (ψ t0 (ψ t1 t2));have e0:w6.cell? ⟨w.heap.size+1+1,0,none⟩=some (.slice none 0 0):=RF.r0;have e1:w6.cell? ⟨w.heap.size+1+1,1,none⟩=some (.slice none 0 0):=RF.r1;have f0:w6.frozen? ⟨w.heap.size+1+1,0,none⟩=false:=RF.f0
   have f1:w6.frozen? ⟨w.heap.size+1+1,1,none⟩=false:=RF.f1;have hxl:=World.block_lt_of_cell? w6 _ d0;have hrl:=World.block_lt_of_cell? w6 _ e0;dsimp only at hxl hrl;have hn1:¬X.b=w6.heap.size:=ω;have hn2:¬w.heap.size+1+1=w6.heap.size:=ω;clear t0 t1 t2 hSt J7 hI RF ke c0 c1 c2 c4;go_wp2;have q0:(((w6.setCell ⟨w.heap.size+1+1,0,none⟩ (.slice (some ⟨X.gd,0,none⟩) N X.cd)).setCell ⟨w.heap.size+1+1,1,none⟩ (.slice (some ⟨X.gb,0,none⟩) N X.cb)).alloc (.cells #[.int .i64 0,.int .u32 0] 85)).cell? ⟨w.heap.size+1+1,0,none⟩=some (.slice (some ⟨X.gd,0,none⟩) N X.cd):=γ
   have q1:(((w6.setCell ⟨w.heap.size+1+1,0,none⟩ (.slice (some ⟨X.gd,0,none⟩) N X.cd)).setCell ⟨w.heap.size+1+1,1,none⟩ (.slice (some ⟨X.gb,0,none⟩) N X.cb)).alloc (.cells #[.int .i64 0,.int .u32 0] 85)).cell? ⟨w.heap.size+1+1,1,none⟩=some (.slice (some ⟨X.gb,0,none⟩) N X.cb):=γ;refine bodyPost_ret (v:=.tuple #[.agg #[.slice (some ⟨X.gd,0,none⟩) N X.cd,.slice (some ⟨X.gb,0,none⟩) N X.cb],.int .i64 0]) (by simp [results,Tryz.results29,go_sem,q0,q1]) rfl ⟨_,_,_,_,rfl,HT.out.1.fresh β σ,HT.out.2.1.fresh β σ,HT.out.2.2,β⟩
  ·have hex:∃v,W v:=Classical.byContradiction fun h=>hno fun v hv=>h ⟨v,hv⟩;have ke:=fun W' (hW':aa [] wr W')=>Rw (hSt.aA hW') ω hex;clear hno hex
   go_upto_region 12 with (first
    | ((go_at_call 41;(with_reducible refine (ke _ β).mono ?_));rintro e w6 ⟨v,x,rfl,pQ,R7,hx,F6,cm,fm,J7,hmap,hfx,iU,Z7⟩)
    | fail)
   have RF:=hI.step iU (fun x hx=>Or.inl hx) Z7;obtain ⟨d0,d1,d2,d4⟩:=J7.cells;have Im:aa [] w w6:=hw.joined iU (fun x hx=>Or.inr (by have:=hI.bF x hx;have:=hI.hb;omega));have hxl:=World.block_lt_of_cell? w6 _ d0;dsimp only at hxl;have hn1:¬X.b=w6.heap.size:=ω;clear hSt hI ke c0 c1 c2 c4
   go_upto_region 14 with fail
   have Ux:=χ (ψ hmap hfx);have hgl:=RF.lv.row.lt;have hlc:=RF.lv.row.cellAt v pQ rfl;obtain ⟨av,cv,hvs,hcv⟩:=bu (RF.lv.own v pQ);have ht6:=World.block_lt_of_cell? w6 _ d4;have hlk:∀m,(Instr.lookup 82 (.map (some X.mb)) (.agg #[.int .i64 (x:Int),.int .u32 1]) false).run Tryz.prog ((w6.alloc (.cells #[.int .i64 (x:Int),.int .u32 1] 85)).drewN m)=.ok (.int .i64 (v:Int)) ((w6.alloc (.cells #[.int .i64 (x:Int),.int .u32 1] 85)).drewN m):=fun m=>(hmap.upd (S:=[]) β σ).look hfx ω ω;have hn2:¬g=w6.heap.size:=ω;have KC:¬w6.heap.size=X.b:=ω;rw [hvs] at hlc;clear hmap hfx ht6
   go_quiet (fail)
   have kN:aa [] w6 ((w6.alloc (.cells #[.int .i64 (x:Int),.int .u32 1] 85)).drewN nq):=β;have hSt7:=J7.aA kN;have hI7:=RF.step kN σ (fun x hx=>Or.inl hx);have hw7:=Im.trans kN;clear J7 RF Im hlk hlc d0 d1 d2 d4 Ux;go_wp2;generalize hln:(xS E n v).length=ln at *;have VK:=χ (ψ hln (ψ hvs hcv));clear hln hvs hcv
   go_loopw [16,78] (fun _ i wr=>∃ (j:Nat) (F':List Nat) (d':Nat->Nat) (bt':Nat->Int) (W':Nat->Prop),j<=ln/\i=.int .i64 (j:Int)/\St K X kd dd E s N (9223372036854775807 / N) wr F' d' bt' (v::S) W' (fun i=>(jE (eN E) i).f≠v\/i∈(xS E n v).take j)/\d' v=d v/\Zc wr F' (w.heap.size+1) (w.heap.size+2) w2.heap.size w3.heap.size w4.heap.size N g (.int .i64 (N:Int)) (.slice a n cap) (.slice none 0 0) (.slice none 0 0) vs (xS E n)/\aa [] w wr) (fun _ i _=>ln-(intOf i).toNat)
   case atStart=>exact ⟨0,_,_,_,_,ω,rfl,by simpa using hSt7,rfl,hI7,hw7⟩
   case round=>
    clear hSt7 hI7 hw7;obtain ⟨j,F8,d8,bt8,W8,hj,rfl,hSt,hdv,hI,hw⟩:=hrel;rename World=>w8
    by_cases hjl:j<ln
    ·have hji:(j:Int)<(ln:Int):=ω;obtain ⟨i0,hi0⟩:∃i0,(xS E n v)[j]?=some i0:=⟨_,ε (by rw [VK.out.1];exact hjl)⟩;have hmem:=LV.1 (List.mem_of_getElem? hi0);have hrow:=hI.lv.own v pQ;rw [VK.out.1,VK.out.2.1] at hrow;obtain ⟨_,_,he8,_,_,h38⟩:=iT.Kc (F:=[]) hrow σ;cases he8;obtain ⟨g8,o8,rfl,hg8,_,c8⟩:=h38 j (i0:Int) (by unfold bJ;simp [hi0]);clear h38 hrow;have Np:i0<E.length:=by rw [HN.out];exact hmem.1
     have hin:(i0:Int)<(n:Int):=ω;obtain ⟨ge,off,rfl,hg,c0',c1',c2'⟩:=HE.out.at i0 Np;have c1:=hw.was c1';have c2:=hw.was c2';have h3:=iW HW.out.2.1 (List.mem_of_getElem? (show E[i0]?=some (E.getD i0 default) by simp [φ,Np]));have he:=Qf E i0 Np;have rM:=hmem.2;have hwx:=l8 HW.out.1 (List.mem_of_getElem? (show E[i0]?=some (E.getD i0 default) by simp [φ,Np]));generalize E.getD i0 default=ed at *;obtain ⟨ef,et,ew⟩:=ed;dsimp only at c0' c1 c2 c1' c2' h3 rM hwx;obtain ⟨t,rfl⟩:∃t:Nat,et=t:=⟨et.toNat,ω⟩;obtain ⟨y,rfl⟩:∃y:Nat,ew=y:=⟨ew.toNat,ω⟩;subst rM;have he':jE (eN E) i0=⟨v,t,y⟩:=he
     have hsum:(d v:Int)+(y:Int)<=9223372036854775807:=by
      obtain ⟨_,_,_,_,_,_,_,_,hJ,_⟩:=hSt;have hge:=HW.out.2.2.e _ (Ee (by rw [xI];exact Np));rw [he'] at hge;have:=hJ.rx.sum HW.out.2.2.nm (e:=⟨v,t,y⟩) pQ hge.2.2 ((hJ.rc v pQ).2 (Or.inl σ));dsimp only at this;rw [hdv] at this;have hmx:(inf:Nat)=9223372036854775807:=rfl;omega
     have ke:=fun W (hW:aa [] w8 W)=>J4 HW.out.2.2 ω (by rw [HN.out];exact Vq) (hSt.aA hW) Np he';rw [hdv] at ke;have hwr:IntKind.i64.wrap ((d v:Int)+(y:Int))=(d v:Int)+(y:Int):=IntWalk.i64_in _ ω;have q1:w8.cell? ⟨w.heap.size+1,1,none⟩=some (.slice (some ⟨ge,off,none⟩) n cap):=hI.g1;have ke1:=ke w8.drew ((aa.refl _ _).drew);have ke2:=ke w8 (aa.refl _ _);clear ke c0' c1' c2';have HI:=χ (ψ hI (ψ hw (ψ hi0 hmem)));clear hI hw hi0 hmem hSt
     go_upto_region 17 with fail
     go_region_law
      (first
       | (go_simp;go_at_call 54;(with_reducible refine (ke1).mono ?_);rintro e w9 ⟨rfl,F9,d9,bt9,W9,QV,hd9,yB,hf9⟩))
     all_goals
      have Xy:aa (X.own++F8) w8 w9:=aa.trans ν yB
      have hI9:=HI.out.1.step Xy (fun x hx=>by
       rcases τ.1 hx with e|e
       ·exact Or.inr (Or.inl (ZE x e))
       ·exact Or.inl e) hf9
      have aN:aa [] w w9:=HI.out.2.1.joined Xy (fun x hx=>Or.inr (by
       have hb:=HI.out.1.hb;rcases τ.1 hx with e|e
       ·have:=(ZE x e).1;omega
       ·have:=HI.out.1.bF x e;omega))
      have HZ:=χ (ψ QV (ψ hd9 (ψ hI9 aN)));clear QV hd9 yB hf9 Xy hI9 aN;go_wp2
      go_roundw
      case rel=>
       obtain ⟨QV,hd9,hI9,aN⟩:=HZ.out
       have he:(fun i=>((jE (eN E) i).f≠v\/i∈(xS E n v).take j)\/i=i0)=fun i=>(jE (eN E) i).f≠v\/i∈(xS E n v).take (j+1):=funext fun i=>propext (by
        rw [List.take_add_one,HI.out.2.2.1,or_assoc]
        simp)
       rw [he] at QV;exact ⟨j+1,F9,d9,bt9,W9,hjl,by go_num,QV,hd9,hI9,aN⟩
      case measure=>simp [intOf];omega
    ·have hjn:¬ (j:Int)<(ln:Int):=ω;have We:j=ln:=ω;subst We;go_wp2
     go_roundg fv
     case rel=>exact ⟨F8,d8,bt8,v::S,W8,hSt.round (fun i hi=>by have h:=Xw (v:=v) HW.out.2.1 hi;rw [HN.out] at h;rw [←VK.out.1,List.take_length];exact h),hI,hw,ζ⟩
     all_goals omega
def oZ (kd d N src:Int) (E:List Ed):Int:=if wZ kd d≠0 then wZ kd d else if dY N E=true/\0<=src/\src<N then 0 else 201
theorem Fw {kd d N src:Int} {E:List Ed} (h:oZ kd d N src E=0):wZ kd d=0/\dY N E=true/\0<=src/\src<N:=by
 unfold oZ at h
 by_cases hc:wZ kd d=0
 ·rw [if_neg (by simpa using hc)] at h
  by_cases hw:dY N E=true/\0<=src/\src<N
  ·exact ⟨hc,hw⟩
  ·rw [if_neg hw] at h;cases h
 ·rw [if_pos hc] at h;exact absurd h hc
theorem Qg (kd d N src:Int) (va:Value) (E:List Ed) (w:World) (hE:zN w va E) (hwb:∀e,e∈E->e.w<=9223372036854775807) (hf:oZ kd d N src E≠0) :
  Calls Tryz.prog 29 #[.agg #[.int .i64 kd,.int .i64 d],.agg #[.int .i64 N,va],.int .i64 src] w fun e w'=>e=.returned (.tuple #[.agg #[.slice none 0 0,.slice none 0 0],.int .i64 (oZ kd d N src E)])/\aa [] w w':=by
 have kc:=fun W=>tC kd d W;have kw:=fun W (hW:aa [] w W)=>zC W N va E (hE.upd hW) hwb;obtain ⟨a,cap,rfl,hcap⟩:=hE.shape;unfold oZ at hf ⊢
 by_cases hc:wZ kd d=0
 ·rw [if_neg (show ¬ (wZ kd d≠0) from fun h=>h hc)] at hf ⊢;rw [hc] at kc;have hn:¬ (dY N E=true/\0<=src/\src<N):=fun h=>hf (if_pos h);rw [if_neg hn];clear hE hwb hf hc;cases hw:dY N E with
  | false=>
   rw [hw] at kw;have e0:UN false=201:=rfl;rw [e0] at kw;clear hn hw;generalize E.length=n at *
   go_enter Tryz.func29,Tryz.ntmps29
   go_wp2_with (first|((go_at_call 50;(with_reducible refine (kc _).mono ?_));rintro e w1 ⟨rfl,hu1⟩;(have p0:w1.cell? ⟨w.heap.size+1,0,none⟩=some (.int .i64 N):=hu1.was γ);(have p1:w1.cell? ⟨w.heap.size+1,1,none⟩=some (.slice a n cap):=hu1.was γ);(have p2:w1.cell? ⟨w.heap.size+1+1,0,none⟩=some (.slice none 0 0):=hu1.was γ);(have p3:w1.cell? ⟨w.heap.size+1+1,1,none⟩=some (.slice none 0 0):=hu1.was γ);(have f2:w1.frozen? ⟨w.heap.size+1+1,0,none⟩=false:=hu1.aL (v:=.slice none 0 0) γ σ γ);(have f3:w1.frozen? ⟨w.heap.size+1+1,1,none⟩=false:=hu1.aL (v:=.slice none 0 0) γ σ γ);(have hw1:aa [] w w1:=aa.trans β hu1))|((go_at_call 51;(with_reducible refine (kw _ hw1).mono ?_));rintro e w2 ⟨rfl,hu2⟩;(have r0:=hu2.was p0);(have r1:=hu2.was p1);(have r2:=hu2.was p2);(have r3:=hu2.was p3);(have g2:=hu2.aL p2 σ f2);(have g3:=hu2.aL p3 σ f3);(have hw2:=hw1.trans hu2))|fail)
   exact bodyPost_ret (v:=.tuple #[.agg #[.slice none 0 0,.slice none 0 0],.int .i64 201]) (by simp [results,Tryz.results29,go_sem,r2,r3]) rfl ⟨rfl,β⟩
  | true=>
   rw [hw] at kw hn;have e0:UN true=0:=rfl;rw [e0] at kw
   by_cases hs:src<0
   ·have hsb:decide (src<0)=true:=by simpa using hs
    clear hn hw hs;generalize E.length=n at *
    go_enter Tryz.func29,Tryz.ntmps29
    go_wp2_with (first|((go_at_call 50;(with_reducible refine (kc _).mono ?_));rintro e w1 ⟨rfl,hu1⟩;(have p0:w1.cell? ⟨w.heap.size+1,0,none⟩=some (.int .i64 N):=hu1.was γ);(have p1:w1.cell? ⟨w.heap.size+1,1,none⟩=some (.slice a n cap):=hu1.was γ);(have p2:w1.cell? ⟨w.heap.size+1+1,0,none⟩=some (.slice none 0 0):=hu1.was γ);(have p3:w1.cell? ⟨w.heap.size+1+1,1,none⟩=some (.slice none 0 0):=hu1.was γ);(have f2:w1.frozen? ⟨w.heap.size+1+1,0,none⟩=false:=hu1.aL (v:=.slice none 0 0) γ σ γ);(have f3:w1.frozen? ⟨w.heap.size+1+1,1,none⟩=false:=hu1.aL (v:=.slice none 0 0) γ σ γ);(have hw1:aa [] w w1:=aa.trans β hu1))|((go_at_call 51;(with_reducible refine (kw _ hw1).mono ?_));rintro e w2 ⟨rfl,hu2⟩;(have r0:=hu2.was p0);(have r1:=hu2.was p1);(have r2:=hu2.was p2);(have r3:=hu2.was p3);(have g2:=hu2.aL p2 σ f2);(have g3:=hu2.aL p3 σ f3);(have hw2:=hw1.trans hu2))|fail)
    exact bodyPost_ret (v:=.tuple #[.agg #[.slice none 0 0,.slice none 0 0],.int .i64 201]) (by simp [results,Tryz.results29,go_sem,r2,r3]) rfl ⟨rfl,β⟩
   ·have hsb:decide (src<0)=false:=by simpa using hs
    have hsn:src≥N:=by
     rcases Int.lt_or_le src N with h|h
     ·exact absurd ⟨rfl,ω,h⟩ hn
     ·exact h
    have hsd:decide (src≥N)=true:=by simpa using hsn
    have hsd2:decide (N<=src)=true:=by simpa using hsn
    clear hn hw hs;generalize E.length=n at *
    go_enter Tryz.func29,Tryz.ntmps29
    go_wp2_with (first|((go_at_call 50;(with_reducible refine (kc _).mono ?_));rintro e w1 ⟨rfl,hu1⟩;(have p0:w1.cell? ⟨w.heap.size+1,0,none⟩=some (.int .i64 N):=hu1.was γ);(have p1:w1.cell? ⟨w.heap.size+1,1,none⟩=some (.slice a n cap):=hu1.was γ);(have p2:w1.cell? ⟨w.heap.size+1+1,0,none⟩=some (.slice none 0 0):=hu1.was γ);(have p3:w1.cell? ⟨w.heap.size+1+1,1,none⟩=some (.slice none 0 0):=hu1.was γ);(have f2:w1.frozen? ⟨w.heap.size+1+1,0,none⟩=false:=hu1.aL (v:=.slice none 0 0) γ σ γ);(have f3:w1.frozen? ⟨w.heap.size+1+1,1,none⟩=false:=hu1.aL (v:=.slice none 0 0) γ σ γ);(have hw1:aa [] w w1:=aa.trans β hu1))|((go_at_call 51;(with_reducible refine (kw _ hw1).mono ?_));rintro e w2 ⟨rfl,hu2⟩;(have r0:=hu2.was p0);(have r1:=hu2.was p1);(have r2:=hu2.was p2);(have r3:=hu2.was p3);(have g2:=hu2.aL p2 σ f2);(have g3:=hu2.aL p3 σ f3);(have hw2:=hw1.trans hu2))|fail)
    exact bodyPost_ret (v:=.tuple #[.agg #[.slice none 0 0,.slice none 0 0],.int .i64 201]) (by simp [results,Tryz.results29,go_sem,r2,r3]) rfl ⟨rfl,β⟩
 ·rw [if_pos hc] at hf ⊢;have hv:(wZ kd d != 0)=true:=by simpa using hc
  clear hE hwb hf hc kw;generalize wZ kd d=v at *;generalize E.length=n at *
  go_enter Tryz.func29,Tryz.ntmps29
  go_wp2_with (first|((go_at_call 50;(with_reducible refine (kc _).mono ?_));rintro e w1 ⟨rfl,hu1⟩;(have p0:w1.cell? ⟨w.heap.size+1,0,none⟩=some (.int .i64 N):=hu1.was γ);(have p1:w1.cell? ⟨w.heap.size+1,1,none⟩=some (.slice a n cap):=hu1.was γ);(have p2:w1.cell? ⟨w.heap.size+1+1,0,none⟩=some (.slice none 0 0):=hu1.was γ);(have p3:w1.cell? ⟨w.heap.size+1+1,1,none⟩=some (.slice none 0 0):=hu1.was γ);(have f2:w1.frozen? ⟨w.heap.size+1+1,0,none⟩=false:=hu1.aL (v:=.slice none 0 0) γ σ γ);(have f3:w1.frozen? ⟨w.heap.size+1+1,1,none⟩=false:=hu1.aL (v:=.slice none 0 0) γ σ γ);(have hw1:aa [] w w1:=aa.trans β hu1))|fail)
  exact bodyPost_ret (v:=.tuple #[.agg #[.slice none 0 0,.slice none 0 0],.int .i64 v]) (by simp [results,Tryz.results29,go_sem,p2,p3]) rfl ⟨rfl,β⟩
theorem Ol (kd d N src:Int) (va:Value) (E:List Ed) (w:World) (hE:zN w va E) :
  Calls Tryz.prog 30 #[.agg #[.int .i64 kd,.int .i64 d],.agg #[.int .i64 N,va],.int .i64 src] w fun e w'=>e=.returned (.int .i64 (oZ kd d N src E))/\aa [] w w':=by
 have kc:=fun W=>JZ kd d W;have kw:=fun W (hW:aa [] w W)=>IV W N va E (hE.upd hW);obtain ⟨a,cap,rfl,hcap⟩:=hE.shape;unfold oZ
 by_cases hc:wZ kd d=0
 ·rw [if_neg (show ¬ (wZ kd d≠0) from fun h=>h hc)];rw [hc] at kc;clear hE hc;cases hw:dY N E with
  | false=>
   rw [hw] at kw;rw [if_neg σ];clear hw;generalize E.length=n at *
   go_enter Tryz.func30,Tryz.ntmps30
   go_wp2_with (first|((go_at_call 18;(with_reducible refine (kc _).mono ?_));rintro e w1 ⟨rfl,hu1⟩;(have p0:w1.cell? ⟨w.heap.size+1,0,none⟩=some (.int .i64 N):=hu1.was γ);(have p1:w1.cell? ⟨w.heap.size+1,1,none⟩=some (.slice a n cap):=hu1.was γ);(have hw1:aa [] w w1:=aa.trans β hu1))|((go_at_call 32;(with_reducible refine (kw _ hw1).mono ?_));rintro e w2 ⟨rfl,hu2⟩;(have r0:=hu2.was p0);(have r1:=hu2.was p1);(have hw2:=hw1.trans hu2))|fail)
   go_ret;exact ⟨rfl,hw2⟩
  | true=>
   rw [hw] at kw
   by_cases hs:src<0
   ·have hsb:decide (src<0)=true:=by simpa using hs
    rw [if_neg ω];clear hw hs;generalize E.length=n at *
    go_enter Tryz.func30,Tryz.ntmps30
    go_wp2_with (first|((go_at_call 18;(with_reducible refine (kc _).mono ?_));rintro e w1 ⟨rfl,hu1⟩;(have p0:w1.cell? ⟨w.heap.size+1,0,none⟩=some (.int .i64 N):=hu1.was γ);(have p1:w1.cell? ⟨w.heap.size+1,1,none⟩=some (.slice a n cap):=hu1.was γ);(have hw1:aa [] w w1:=aa.trans β hu1))|((go_at_call 32;(with_reducible refine (kw _ hw1).mono ?_));rintro e w2 ⟨rfl,hu2⟩;(have r0:=hu2.was p0);(have r1:=hu2.was p1);(have hw2:=hw1.trans hu2))|fail)
    go_ret;exact ⟨rfl,hw2⟩
   ·have hsb:decide (src<0)=false:=by simpa using hs
    by_cases hsn:src<N
    ·rw [if_pos ⟨rfl,ω,hsn⟩];have hsI:¬src≥N:=ω;have hsd:decide (src≥N)=false:=ζ;have hsd2:decide (N<=src)=false:=ζ;clear hw hs;generalize E.length=n at *
     go_enter Tryz.func30,Tryz.ntmps30
     go_wp2_with (first|((go_at_call 18;(with_reducible refine (kc _).mono ?_));rintro e w1 ⟨rfl,hu1⟩;(have p0:w1.cell? ⟨w.heap.size+1,0,none⟩=some (.int .i64 N):=hu1.was γ);(have p1:w1.cell? ⟨w.heap.size+1,1,none⟩=some (.slice a n cap):=hu1.was γ);(have hw1:aa [] w w1:=aa.trans β hu1))|((go_at_call 32;(with_reducible refine (kw _ hw1).mono ?_));rintro e w2 ⟨rfl,hu2⟩;(have r0:=hu2.was p0);(have r1:=hu2.was p1);(have hw2:=hw1.trans hu2))|fail)
     go_ret;exact ⟨rfl,hw2⟩
    ·rw [if_neg ω];have hsI:src≥N:=ω;have hsd:decide (src≥N)=true:=ζ;have hsd2:decide (N<=src)=true:=ζ;clear hw hs hsn;generalize E.length=n at *
     go_enter Tryz.func30,Tryz.ntmps30
     go_wp2_with (first|((go_at_call 18;(with_reducible refine (kc _).mono ?_));rintro e w1 ⟨rfl,hu1⟩;(have p0:w1.cell? ⟨w.heap.size+1,0,none⟩=some (.int .i64 N):=hu1.was γ);(have p1:w1.cell? ⟨w.heap.size+1,1,none⟩=some (.slice a n cap):=hu1.was γ);(have hw1:aa [] w w1:=aa.trans β hu1))|((go_at_call 32;(with_reducible refine (kw _ hw1).mono ?_));rintro e w2 ⟨rfl,hu2⟩;(have r0:=hu2.was p0);(have r1:=hu2.was p1);(have hw2:=hw1.trans hu2))|fail)
     go_ret;exact ⟨rfl,hw2⟩
 ·rw [if_pos hc];have hv:(wZ kd d != 0)=true:=by simpa using hc
  clear hE hc kw;generalize wZ kd d=v at *;generalize E.length=n at *
  go_enter Tryz.func30,Tryz.ntmps30
  go_wp2_with (first|((go_at_call 18;(with_reducible refine (kc _).mono ?_));rintro e w1 ⟨rfl,hu1⟩;(have p0:w1.cell? ⟨w.heap.size+1,0,none⟩=some (.int .i64 N):=hu1.was γ);(have p1:w1.cell? ⟨w.heap.size+1,1,none⟩=some (.slice a n cap):=hu1.was γ);(have hw1:aa [] w w1:=aa.trans β hu1))|fail)
  go_ret;exact ⟨rfl,hw1⟩
def JW (N:Int) (n:Nat):Bool:=decide ((n:Int) > 60) || (decide (N > 40) && decide (N<=4096))
theorem sD (w:World) (N:Int) (a:Option Addr) (n cap:Nat):Calls Tryz.prog 28 #[.agg #[.int .i64 N,.slice a n cap]] w fun r w'=>r=.returned (.bool (JW N n))/\aa [] w w':=by
 unfold JW
 by_cases h1:(n:Int) > 60
 ·have h1b:decide ((n:Int) > 60)=true:=by simpa using h1
  go_enter Tryz.func28,Tryz.ntmps28
  go_wp2;go_ret;exact ⟨aZ ι,β⟩
 ·have h1b:decide ((n:Int) > 60)=false:=by simpa using h1
  by_cases h2:N > 40
  ·have h2b:decide (N > 40)=true:=by simpa using h2
   go_enter Tryz.func28,Tryz.ntmps28
   go_wp2;go_ret;exact ⟨aZ ι,β⟩
  ·have h2b:decide (N > 40)=false:=by simpa using h2
   go_enter Tryz.func28,Tryz.ntmps28
   go_wp2;go_ret;exact ⟨aZ ι,β⟩
end Go.Proofs.YtklibcncmbofpaaGreat
