/-
  Lemmas for RankSorts: BnT, Bn6, Bn7. Conditions: those of each lemma.
-/
import Derived.Deep.LoopGhost
import Derived.Test.YtklibcncmbofpaaGreatP33
set_option maxHeartbeats 8000000
set_option maxRecDepth 10000
set_option linter.unusedVariables false
set_option linter.unusedSimpArgs false
namespace Go.Proofs.YtklibcncmbofpaaGreat
def fZ (hp:Nat→Bool) (ct x:Nat):Nat→BG→BG×Nat
 | 0,G=>(G,0)
 | f+1,G=>if G.F.u x=-1 then (G,0) else if hp (G.F.u x).toNat then ((fZ hp ct x f (oC G x (G.F.u x).toNat)).1,(fZ hp ct x f (oC G x (G.F.u x).toNat)).2+ct) else (G,ct)
theorem q9 {hp:Nat→Bool} {ct x f:Nat} {G:BG} (h:G.F.u x=-1):fZ hp ct x f G=(G,0):=by
 cases f with
 | zero=>rfl
 | succ f=>rw [fZ,if_pos h]
theorem wI {hp:Nat→Bool} {ct x f p:Nat} {G:BG} (h:G.F.u x=p) (hh:hp p=false):fZ hp ct x (f+1) G=(G,ct):=by
 rw [fZ,if_neg ω,h,π,hh];rfl
theorem uK {hp:Nat→Bool} {ct x f p:Nat} {G:BG} (h:G.F.u x=p) (hh:hp p=true):fZ hp ct x (f+1) G=((fZ hp ct x f (oC G x p)).1,(fZ hp ct x f (oC G x p)).2+ct):=by
 rw [fZ,if_neg ω,h,π,hh];rfl
section
variable {A:NS} {G:BG} {x:Nat} {hp:Nat→Bool} {ct:Nat}
theorem yX {p:Nat} (B:Bd A G x) (hx:x<A.cs.length) (hu:G.F.u x=p):(G.F.k x).length<((oC G x p).F.k x).length:=by
 have:=B.fh.f.GA hx hu
 show _<((oW G.F x p (G.F.u p)).k x).length
 rw [qg,if_pos rfl];exact this
theorem BI (hx:x<A.cs.length):∀ (f:Nat) {G:BG},Bd A G x→A.cs.length≤f+(G.F.k x).length→Bd A (fZ hp ct x f G).1 x∧((fZ hp ct x f G).1.F.u x=-1∨∃p:Nat,(fZ hp ct x f G).1.F.u x=p∧hp p=false)
 | 0,G,B,hf=>by have:=B.fh.f.len hx;omega
 | f+1,G,B,hf=>by
  rcases B.fh.f.up x hx with h1|⟨p,hp1,h1,h2⟩
  ·rw [q9 h1];exact ⟨B,Or.inl h1⟩
  ·cases hh:hp p with
   | false=>rw [wI h1 hh];exact ⟨B,Or.inr ⟨p,h1,hh⟩⟩
   | true=>
    rw [uK h1 hh];have:=yX B hx h1;exact BI hx f (wm B hx h1) ω
theorem xE (hx:x<A.cs.length) (hl:∀p:Nat,p<A.cs.length→hp p=true→bH A x p):∀ (f:Nat) {G:BG},Bd A G x→(∀c:Nat,c<A.cs.length→G.F.u c=x→bH A x c)→∀c:Nat,c<A.cs.length→(fZ hp ct x f G).1.F.u c=x→bH A x c
 | 0,G,B,hk=>hk
 | f+1,G,B,hk=>by
  rcases B.fh.f.up x hx with h1|⟨p,hp1,h1,h2⟩
  ·rw [q9 h1];exact hk
  ·cases hh:hp p with
   | false=>rw [wI h1 hh];exact hk
   | true=>
    rw [uK h1 hh];exact xE hx hl f (wm B hx h1) (Hg B hx h1 hk (hl p hp1 hh))
theorem Gw {p h:Nat} (B:Bd A G x) (hx:x<A.cs.length) (hu:G.F.u x=p) (hh:(A.c x).i=h):(oC G x p).R=if G.F.u p=-1 then bJ G.R h (setAt (G.R h) p x) else G.R:=by
 obtain ⟨hp1,hm⟩:=B.fh.f.above hx hu;have hom:(A.c x).i=(A.c p).i∧0<(A.c x).i:=B.fh.home x p hx hu
 funext k
 show (G.R k).map (Es x p (G.F.u p))=_
 by_cases e:G.F.u p=-1
 ·rw [if_pos e];unfold bJ
  by_cases ek:k=h
  ·rw [if_pos ek,ek];have hpR:(p:Int)∈G.R h:=(B.rh.mem h p).2 ⟨ω,hp1,e,by show (A.c p).i=_;omega⟩
   rw [←vN (B.rh.row h).nodup p x hpR];unfold Iu Es
   exact List.map_congr_left (fun z _=>by
    by_cases ez:z=p
    ·rw [if_pos ⟨ez,e⟩,if_pos ez]
    ·rw [if_neg (fun h=>ez h.1),if_neg ez])
  ·rw [if_neg ek];have:∀z,z∈G.R k→Es x p (G.F.u p) z=z:=fun z hz=>by
    unfold Es;rw [if_neg (fun h=>?_)]
    rw [h.1] at hz;have h4:(A.c p).i=(k:Int):=((B.rh.mem k p).1 hz).2.2.2;omega
   rw [List.map_congr_left this];simp
 ·rw [if_neg e];have:∀z,z∈G.R k→Es x p (G.F.u p) z=z:=fun z hz=>by
   unfold Es;rw [if_neg (fun h=>e h.2)]
  rw [List.map_congr_left this];simp
end
end Go.Proofs.YtklibcncmbofpaaGreat
namespace Go.Proofs.YtklibcncmbofpaaGreat
open Go Go.RowKit
theorem aQ.set {w:World} {base g off n cap:Nat} {xs:List Int} (h:aQ w base (.slice (some ⟨g,off,none⟩) n cap) xs) (i:Nat) (hi:i<xs.length) (y:Int):aQ (w.setCell ⟨g,off+i,none⟩ (.int .i64 y)) base (.slice (some ⟨g,off,none⟩) n cap) (xs.set i y):=by
 rcases h with ⟨e,_⟩|⟨g',off',cap',cur,e,hb,hg,h1,h2,h3,h4⟩
 ·cases e
 ·cases e;refine Or.inr ⟨g,off,cap,cur.setIfInBounds (off+i) (.int .i64 y),by rw [List.length_set],hb,?_,by rw [List.length_set];exact h1,h2,ζ,fun j u hj=>?_⟩
  ·simp [World.setCell,Array.getElem?_modify,hg]
  ·have hjl:j<xs.length:=by have:=(List.getElem?_eq_some_iff.1 hj).1;simpa using this
   rw [Array.getElem?_setIfInBounds]
   by_cases e:i=j
   ·subst e;rw [List.getElem?_set_self hi] at hj;cases hj;rw [if_pos rfl,if_pos ω]
   ·rw [if_neg ω];rw [List.getElem?_set_ne e] at hj;exact h4 j u hj
theorem aQ.free {w:World} {base:Nat} {v:Value} {xs:List Int} (h:aQ w base v xs) {g:Nat} (hg:v.ownBlock=some g) (j:Nat):w.frozen? ⟨g,j,none⟩=false:=by
 rcases h with ⟨rfl,_⟩|⟨g',off',cap',cur,rfl,hb,hh,h1,h2,h3,h4⟩
 ·cases hg
 ·simp [Value.ownBlock] at hg;subst hg;simp [World.frozen?,hh]
theorem I8 {n:Nat} (S:CS) {x p:Nat} (above:Int) (hx:x<n) (hp:p<n):∀g,g∈(fD S x p above).blk n→g∈S.blk n:=fun g hg=>by
 obtain ⟨y,hy,e⟩:=(CS.iF _ n g).1 hg;have e:(if y=x then S.v p else if y=p then S.v x else S.v y).ownBlock=some g:=e
 rw [CS.iF]
 split at e
 ·exact ⟨p,hp,e⟩
 ·split at e
  ·exact ⟨x,hx,e⟩
  ·exact ⟨y,hy,e⟩
section
variable {w:World} {B:BB} {F:List Nat} {gr cr lo:Nat} {A:NS} {st:Nat} {S:CS} {vs:List Value} {R:Nat→List Int}
theorem fV.PO {w1:World} (h:fV w B F gr cr lo A st S vs R) (q:Nat) (hq:q<vs.length) (hu1:aa (vs.getD q undef).ownBlock.toList w w1) (X:List Int) (hv:aQ w1 0 (vs.getD q undef) X):fV w1 B F gr cr lo A st S vs (bJ R q X):=by
 have hK:∀g,g∈(vs.getD q undef).ownBlock.toList→(vs.getD q undef).ownBlock=some g:=fun g hg=>by simpa using hg
 have kk:∀g,g∈(vs.getD q undef).ownBlock.toList→g≠B.n0∧g≠B.bt∧g≠B.ba∧g≠gr∧g∉F∧g∉S.blk A.cs.length:=fun g hg=>h.d4 q g hq (hK g hg)
 refine ⟨h.head.upd hu1 (fun hm=>(kk _ hm).1 rfl),h.cells.upd hu1 (fun x hx=>(kk x hx).2.2.2.2.1),
  h.gM.upd hu1 (fun hm=>(kk _ hm).2.1 rfl) (fun hm=>(kk _ hm).2.2.1 rfl) (fun g hg hm=>(kk g hm).2.2.2.2.2 hg),
  ay h.rows hu1 (fun g hg hm=>by simp [Value.ownBlock] at hg;subst hg;exact (kk _ hm).2.2.2.1 rfl),h.len,fun k hk=>?_,h.d1,h.d2,h.d3,h.d4,h.d5⟩
 unfold bJ
 by_cases ek:k=q
 ·rw [if_pos ek,ek];exact hv
 ·rw [if_neg ek];exact (h.each k hk).upd hu1 (fun g hg2 hm=>h.d5 k q g hk hq ek hg2 (hK g hm))
end
structure NP (w:World) (K:List Nat) (B:BB) (F:List Nat) (A:NS) (ct:Nat) (hp:Nat→Bool) (f:FuncId) (caps:Array Value):Prop where
 enters:Enters f
 calls:∀ (W:World) (st above:Nat),aa K w W→W.cell? ⟨B.n0,0,none⟩=some (.pointer (some ⟨B.c,0,none⟩))→B.n0≠B.c→az W B.c F A st→bD A (above:Int)=true→
  Calls Tryz.prog f (#[.int .i64 (above:Int)]++caps) W fun e w'=>e=.returned (.bool (hp above))∧az w' B.c F A (bC st ct)∧aa [B.c] W w'
section
variable {w:World} {B:BB} {F:List Nat} {gr cr lo:Nat} {A:NS} {st:Nat} {S:CS} {vs:List Value} {G:BG}
theorem IP (M:fV w B F gr cr lo A st S vs G.R) (eF:S.f=G.F) {x h ct:Nat} {hp:Nat→Bool} {f:FuncId} {caps:Array Value} (X:Bd A G x) (hx:x<A.cs.length) (hin:0<(A.c x).i) (hh:(A.c x).i=h) (hq:h<vs.length) (H:NP w (B.blk F gr A.cs.length S vs) B F A ct hp f caps) :
  Calls Tryz.prog 183 #[.pointer (some ⟨B.n0,0,none⟩),.int .i64 (h:Int),.int .i64 (x:Int),.func (Fn.func f) #[] caps] w fun e w'=>e=.returned (.tuple #[])∧
   ∃S',fV w' B F gr cr lo A (bC st (fZ hp ct x A.cs.length G).2) S' vs (fZ hp ct x A.cs.length G).1.R∧S'.f=(fZ hp ct x A.cs.length G).1.F∧aa (B.blk F gr A.cs.length S vs) w w'∧∀g,g∈S'.blk A.cs.length→g∈S.blk A.cs.length:=by
 have ok:=M.cells.ok;have hn:=ok.c1;have hz:=dW M.cells.mE;have hcl:=H.calls;have hen:=H.enters;unfold Enters at hen;have HM:=χ M;have HX:=χ (ψ X eF);have HC:=χ hcl;have hvl:=M.OD;clear M X eF hcl ok H
 go_enter Tryz.func183,Tryz.ntmps183
 go_wp2
 go_loopg [8,9,10,11] A.cs.length (fun fu _ _ _ _ wr=>∃ (c:Nat) (G':BG) (S':CS),fV wr B F gr cr lo A (bC st c) S' vs G'.R∧S'.f=G'.F∧Bd A G' x∧(∀g,g∈S'.blk A.cs.length→g∈S.blk A.cs.length)∧aa (B.blk F gr A.cs.length S vs) w wr∧A.cs.length≤fu+(G'.F.k x).length∧(fZ hp ct x fu G').1=(fZ hp ct x A.cs.length G).1∧(fZ hp ct x fu G').2+c=(fZ hp ct x A.cs.length G).2)
 case atStart=>exact ⟨0,G,S,by rw [hz];exact HM.out,HX.out.2,HX.out.1,fun g hg=>hg,aa.refl _ _,ω,rfl,rfl⟩
 case round=>
  rename Nat=>fu
  obtain ⟨c,G',S',hM,eF,X,hSb,hu,hfu,hl1,hl2⟩:=hrel;rename World=>wr
  have hlen:=X.fh.f.len hx;obtain ⟨fv,rfl⟩:∃fv,fu=fv+1:=⟨fu-1,ω⟩
  have ku:=sF B.bt B.ba lo A.cs.length S' (x:Int) wr hM.gM;have h1:=hM.h1;have eux:S'.u x=G'.F.u x:=by rw [←eF];rfl
  have kb:∀y,y∈B.blk F gr A.cs.length S' vs→y∈B.blk F gr A.cs.length S vs:=fun y hy=>by
   simp only [BB.blk,List.mem_cons,List.mem_append] at hy ⊢;rcases hy with e|e|e|e|e|e|e
   ·exact Or.inl e
   ·exact Or.inr (Or.inl e)
   ·exact Or.inr (Or.inr (Or.inl e))
   ·exact Or.inr (Or.inr (Or.inr (Or.inl e)))
   ·exact Or.inr (Or.inr (Or.inr (Or.inr (Or.inl e))))
   ·exact Or.inr (Or.inr (Or.inr (Or.inr (Or.inr (Or.inl (hSb y e))))))
   ·exact Or.inr (Or.inr (Or.inr (Or.inr (Or.inr (Or.inr e)))))
  have HR:=χ (ψ hM (ψ eF (ψ X (ψ hSb (ψ hu (ψ hl1 (ψ hl2 kb)))))));rcases X.fh.f.up x hx with e1|⟨p,hp1,e1,e2⟩
  ·have eu:Dj A.cs.length S' (x:Int)=none:=by unfold Dj;rw [if_pos ω,π,eux,if_pos e1]
   rw [eu] at ku;have E1:=χ e1;clear hM X hl1 hl2 eu e1 eux kb hSb hfu
   go_wp2_with ((go_at_call 188;(with_reducible refine (ku).mono ?_);rintro e w9 ⟨rfl,hw9⟩;rw [hw9];clear hw9 w9))
   refine bodyPost_ret (v:=.tuple #[]) (by simp [results,Tryz.results183,go_sem]) rfl ?_
   obtain ⟨hM,eF,X,hSb,hu,hl1,hl2,kb⟩:=HR.out;rw [q9 E1.out] at hl1 hl2;refine ⟨rfl,S',?_,by rw [←hl1];exact eF,hu,hSb⟩
   rw [←hl1,←hl2,show (((G',0):BG×Nat)).2+c=c by simp]
   exact hM
  ·have eu:Dj A.cs.length S' (x:Int)=some (p:Int):=by unfold Dj;rw [if_pos ω,π,eux,e1,if_neg ω]
   rw [eu] at ku;simp only [ov,ob,Option.getD_some,Option.isSome_some] at ku;have hom:(A.c x).i=(A.c p).i:=(X.fh.home x p hx e1).1;have hip:bD A (p:Int)=true:=(af _ _).2 ⟨hp1,ω⟩;have kh:=HC.out wr (bC st c) p hu hM.h0 hM.cn.1 hM.cells hip;rw [gz] at kh;cases hhp:hp p with
   | false=>
    rw [hhp] at kh;have E1:=χ (ψ e1 hhp);clear hM X hl1 hl2 eu e1 eux kb hSb hfu hhp
    go_wp2_with (first
     | (go_at_call 188;(with_reducible refine (ku).mono ?_);rintro e w9 ⟨rfl,hw9⟩;rw [hw9];clear hw9 w9)
     | ((with_reducible refine (kh).mono ?_);rintro e w2 ⟨rfl,hC2,hu2⟩))
    refine bodyPost_ret (v:=.tuple #[]) (by simp [results,Tryz.results183,go_sem]) rfl ?_
    obtain ⟨hM,eF,X,hSb,hu,hl1,hl2,kb⟩:=HR.out;rw [wI E1.out.1 E1.out.2] at hl1 hl2;refine ⟨rfl,S',?_,by rw [←hl1];exact eF,hu.trans (hu2.mono (fun y hy=>by simp at hy;subst hy;exact uO _ HM.out.cells.mem)),hSb⟩
    rw [←hl1,←hl2,show (((G',ct):BG×Nat)).2+c=c+ct by simp;omega]
    exact hM.setSt hu2 hC2
   | true=>
    rw [hhp] at kh;have okL:=Fu (S:=S') (by rw [eF];exact X.fh.f) hx hp1 (by rw [eux];exact e1) (show (x:Int)∈S'.f.k p by rw [eF];exact e2)
    have eup:S'.u p=G'.F.u p:=by rw [←eF];rfl
    have hfL:=wm X hx e1;have hmL:=yX X hx e1;have hrR:=Gw X hx e1 hh;have E1:=χ (ψ e1 (ψ hhp (ψ hfL (ψ hmL (ψ hrR (ψ hfu eup))))))
    have FIN:=χ (show ∀ (W w3:World),fV W B F gr cr lo A (bC st (c+ct)) S' vs (oC G' x p).R→aa (B.blk F gr A.cs.length S vs) w W→aM w3 B.bt B.ba lo A.cs.length (fD S' x p (S'.u p))→aa (B.ba::S'.blk A.cs.length) W w3→
      ∃ (c2:Nat) (G2:BG) (S2:CS),fV w3 B F gr cr lo A (bC st c2) S2 vs G2.R∧S2.f=G2.F∧Bd A G2 x∧(∀g,g∈S2.blk A.cs.length→g∈S.blk A.cs.length)∧aa (B.blk F gr A.cs.length S vs) w w3∧A.cs.length≤fv+(G2.F.k x).length∧(fZ hp ct x fv G2).1=(fZ hp ct x A.cs.length G).1∧(fZ hp ct x fv G2).2+c2=(fZ hp ct x A.cs.length G).2 from fun W w3 hMW huW hF3 hu3=>by
     have hb3:=I8 S' (S'.u p) hx hp1
     have hM3:=hMW.iE (hu3.mono (fun y hy=>List.mem_cons_of_mem _ hy)) (hMW.cells.upd hu3 (fun y hy hm=>by
      rcases List.mem_cons.1 hy with e|e
      ·subst e;exact hMW.d1.2.2.1 hm
      ·exact (hMW.d3 y e).2.2 hm)) hF3 (fun g hg=>Or.inl (hb3 g hg))
     rw [uK e1 hhp] at hl1 hl2;refine ⟨c+ct,oC G' x p,fD S' x p (S'.u p),hM3,by rw [Oj,eF,eup];rfl,hfL,fun g hg=>hSb g (hb3 g hg),huW.trans (hu3.mono (fun y hy=>?_)),ω,hl1,by simp only at hl2;omega⟩
     rcases List.mem_cons.1 hy with e|e
     ·subst e;simp [BB.blk]
     ·have:=hSb y e;simp only [BB.blk,List.mem_cons,List.mem_append]
      exact Or.inr (Or.inr (Or.inr (Or.inr (Or.inr (Or.inl this))))))
    have kM:=χ (show ∀w2,az w2 B.c F A (bC st (c+ct))→aa [B.c] wr w2→fV w2 B F gr cr lo A (bC st (c+ct)) S' vs G'.R∧aa (B.blk F gr A.cs.length S vs) w w2 from fun w2 hC2 hu2=>⟨hM.setSt hu2 hC2,hu.trans (hu2.mono (fun y hy=>by simp at hy;subst hy;exact uO _ HM.out.cells.mem))⟩)
    have hup:=X.fh.f.up p hp1;have hpR:G'.F.u p=-1→(p:Int)∈G'.R h:=fun e=>(X.rh.mem h p).2 ⟨ω,hp1,e,by show (A.c p).i=_;omega⟩
    have hnd:=(X.rh.row h).nodup;clear hM X hl1 hl2 eu e1 eux kb hSb hfu hhp hfL hmL hrR e2 hu;rcases hup with e3|⟨q,hq1,e3,_⟩
    ·have eu2:Dj A.cs.length S' (p:Int)=none:=by unfold Dj;rw [if_pos ω,π,eup,if_pos e3]
     have hpm:=hpR e3;obtain ⟨i,hi,hidx,hix⟩:=rX (G'.R h) (p:Int) hpm;have E3:=χ (ψ e3 (ψ hpm hnd));clear e3 hpR eup hpm hnd
     go_wp2_with (first
      | (go_at_call 188;(with_reducible refine (ku).mono ?_);rintro e w9 ⟨rfl,hw9⟩;rw [hw9];clear hw9 w9)
      | ((with_reducible refine (kh).mono ?_);rintro e w2 ⟨rfl,hC2,hu2⟩;obtain ⟨hM2,hu3⟩:=kM.out w2 hC2 hu2;(have h2:=hM2.h1);(have ku2:=sF B.bt B.ba lo A.cs.length S' (p:Int) w2 hM2.gM);rw [eu2] at ku2;simp only [ov,ob,Option.getD_none,Option.isSome_none] at ku2;(have HM2:=χ hM2);clear hM2)
      | (go_at_call 188;(with_reducible refine (ku2).mono ?_);rintro e w9 ⟨rfl,hw9⟩;rw [hw9];clear hw9 w9))
     have hsl:fI w2 [] (vs.getD h undef) (G'.R h):=(HM2.out.each h hq).sl (fun g _=>σ)
     have kix:=fun W (hW:aa [] w2 W)=>Cb W [] (vs.getD h undef) (G'.R h) (p:Int) (hsl.upd hW σ)
     rw [hidx] at kix;obtain ⟨a0,cap,hv,hlc,hcp,hcs⟩:=(HM2.out.each h hq).shape;obtain ⟨g,off,rfl,hci⟩:=hcs i (p:Int) hix;have hfi:w2.frozen? ⟨g,off+i,none⟩=false:=(HM2.out.each h hq).free (by rw [hv];rfl) _
     have hR2:=HM2.out.h2;have hrc:=HM2.out.MQ hq;rw [hv] at kix hrc;have hib0:(0:Int)≤(h:Int):=ω;have hib1:(h:Int)<(vs.length:Int):=ω;have hib2:(0:Int)≤(i:Int):=ω;have hib3:(i:Int)<((G'.R h).length:Int):=ω;have hrl:(G'.R h).length≤9223372036854775807:=ω
     have hfin:=χ (show fV (w2.setCell ⟨g,off+i,none⟩ (.int .i64 (x:Int))).drew B F gr cr lo A (bC st (c+ct)) S' vs (bJ G'.R h (setAt (G'.R h) (p:Int) (x:Int)))∧aa (B.blk F gr A.cs.length S vs) w (w2.setCell ⟨g,off+i,none⟩ (.int .i64 (x:Int))).drew from by
      have u1:aa (vs.getD h undef).ownBlock.toList w2 (w2.setCell ⟨g,off+i,none⟩ (.int .i64 (x:Int))).drew:=by
       rw [hv];exact ((aa.refl _ _).setCell (Or.inl (by simp [Value.ownBlock])) _).drew
      have o1:aQ (w2.setCell ⟨g,off+i,none⟩ (.int .i64 (x:Int))).drew 0 (vs.getD h undef) (setAt (G'.R h) (p:Int) (x:Int)):=by
       have:=HM2.out.each h hq;rw [hv] at this ⊢;have o2:=this.set i hi (x:Int);unfold setAt;rw [hidx,π];exact o2.upd ((aa.refl [] _).drew) σ
      refine ⟨HM2.out.PO h hq u1 _ o1,hu3.trans (u1.mono (fun y hy=>?_))⟩
      simp only [BB.blk,List.mem_cons,List.mem_append]
      exact Or.inr (Or.inr (Or.inr (Or.inr (Or.inr (Or.inr (gV.2 ⟨h,hq,by simpa using hy⟩)))))))
     clear hi hidx hix hcs hv hsl;generalize hrlq:(G'.R h).length=rl at *
     go_cut [55] (fun s55 wx=>fV wx B F gr cr lo A (bC st (c+ct)) S' vs (bJ G'.R h (setAt (G'.R h) (p:Int) (x:Int)))∧aa (B.blk F gr A.cs.length S vs) w wx)
     case first=>
      go_region_law
       (first
        | (go_simp;go_at_call 189;(with_reducible refine (kix _ β).mono ?_);rintro e w9 ⟨rfl,hw9⟩;rw [hw9];clear hw9 w9))
      all_goals
       go_wp2
       go_meet
       exact hfin.out
     case rest=>
      obtain ⟨hM3,hu4⟩:=hcut;have h3:=hM3.h1;have kl:=Da B.bt B.ba lo A.cs.length S' x p (S'.u p) wc hM3.gM okL;have HM3:=χ hM3;clear hM3 hfin ku kh ku2 kix hR2 hrc hci hfi
      go_wp2_with ((go_at_call 190;(with_reducible refine (kl).mono ?_));rintro e w3 ⟨rfl,hF3,hu5⟩)
      go_roundg fv
      case measure=>omega
      case rel=>
       have hR2:=E1.out.2.2.2.2.1;rw [E3.out.1,if_pos rfl] at hR2;exact FIN.out wc w3 (by rw [hR2];exact HM3.out) hu4 hF3 hu5
    ·have eu2:Dj A.cs.length S' (p:Int)=some (q:Int):=by unfold Dj;rw [if_pos ω,π,eup,e3,if_neg ω]
     have E3:=χ e3;clear e3 hpR eup
     go_wp2_with (first
      | (go_at_call 188;(with_reducible refine (ku).mono ?_);rintro e w9 ⟨rfl,hw9⟩;rw [hw9];clear hw9 w9)
      | ((with_reducible refine (kh).mono ?_);rintro e w2 ⟨rfl,hC2,hu2⟩;obtain ⟨hM2,hu3⟩:=kM.out w2 hC2 hu2;(have h2:=hM2.h1);(have ku2:=sF B.bt B.ba lo A.cs.length S' (p:Int) w2 hM2.gM);rw [eu2] at ku2;simp only [ov,ob,Option.getD_some,Option.isSome_some] at ku2;(have kl:=Da B.bt B.ba lo A.cs.length S' x p (S'.u p) w2 hM2.gM okL);(have HM2:=χ hM2);clear hM2)
      | (go_at_call 188;(with_reducible refine (ku2).mono ?_);rintro e w9 ⟨rfl,hw9⟩;rw [hw9];clear hw9 w9)
      | ((go_at_call 190;(with_reducible refine (kl).mono ?_));rintro e w3 ⟨rfl,hF3,hu4⟩))
     go_roundg fv
     case measure=>omega
     case rel=>
      have hR2:=E1.out.2.2.2.2.1;rw [E3.out,if_neg ω] at hR2;exact FIN.out w2 w3 (by rw [hR2];exact HM2.out) hu3 hF3 hu4
end
theorem GN (W:World) (n0 c b3 b4:Nat) (F:List Nat) (A:NS) (st x y:Nat) (h3:W.cell? ⟨b3,0,none⟩=some (.pointer (some ⟨n0,0,none⟩))) (h4:W.cell? ⟨b4,0,none⟩=some (.int .i64 (x:Int))) (h0:W.cell? ⟨n0,0,none⟩=some (.pointer (some ⟨c,0,none⟩)))
  (hC:az W c F A st) (hx:bD A (x:Int)=true) (hy:bD A (y:Int)=true) (e3:b3≠c) (e4:b4≠c) (e0:n0≠c) :
  Calls Tryz.prog 184 #[.int .i64 (y:Int),.pointer (some ⟨b3,0,none⟩),.pointer (some ⟨b4,0,none⟩)] W fun e w'=>e=.returned (.bool (decide (bH A x y)))∧az w' c F A (bC st 1)∧aa [c] W w':=by
 have ka:=fun W' (hW:aa [] W W')=>dC (hC.aj hW) x y hx hy
 have r3:∀W',aa [c] W W'→W'.cell? ⟨b3,0,none⟩=some (.pointer (some ⟨n0,0,none⟩)):=fun W' hW=>hW.kept h3 (by simpa using e3)
 have r4:∀W',aa [c] W W'→W'.cell? ⟨b4,0,none⟩=some (.int .i64 (x:Int)):=fun W' hW=>hW.kept h4 (by simpa using e4)
 have r0:∀W',aa [c] W W'→W'.cell? ⟨n0,0,none⟩=some (.pointer (some ⟨c,0,none⟩)):=fun W' hW=>hW.kept h0 (by simpa using e0)
 clear hC hx hy h3 h4 h0;generalize decide (bH A x y)=b at *
 go_enter Tryz.func184,Tryz.ntmps184
 go_wp2
 go_region_held3 (aa [c] W) (repeat (first|assumption|exact aa.refl _ _|refine aa.drew ?_|refine aa.alloc ?_ _|refine aa.setCell ?_ ?_ _|focus (left;simp;done)|focus (right;simp;done)|focus (right;simp;omega)|(apply aa.trans;rotate_left;assumption)))
  (first
   | ((go_at_call 174;(with_reducible refine (ka _ β).mono ?_));rintro e w1 ⟨rfl,hC1,hu1⟩;(have hu2:aa [c] W w1:=aa.trans (by (repeat (first|assumption|exact aa.refl _ _|refine aa.drew ?_|refine aa.alloc ?_ _|refine aa.setCell ?_ ?_ _|focus (left;simp;done)|focus (right;simp;done)|focus (right;simp;omega)|(apply aa.trans;rotate_left;assumption)))) hu1)))
 go_wp2;go_ret;exact ⟨rfl,hC1.aj β,by (repeat (first|assumption|exact aa.refl _ _|refine aa.drew ?_|refine aa.alloc ?_ _|refine aa.setCell ?_ ?_ _|focus (left;simp;done)|focus (right;simp;done)|focus (right;simp;omega)|(apply aa.trans;rotate_left;assumption)))⟩
theorem EY (w:World) (K:List Nat) (B:BB) (F:List Nat) (A:NS) (b3 b4 x:Nat) (h3:w.cell? ⟨b3,0,none⟩=some (.pointer (some ⟨B.n0,0,none⟩))) (h4:w.cell? ⟨b4,0,none⟩=some (.int .i64 (x:Int))) (hx:bD A (x:Int)=true) (k3:b3∉K) (k4:b4∉K) (hc:B.c∈K) :
  NP w K B F A 1 (fun y=>decide (bH A x y)) 184 #[.pointer (some ⟨b3,0,none⟩),.pointer (some ⟨b4,0,none⟩)]:=by
 refine ⟨fun _ _=>by kernel_rfl,fun W st above hu h0 hne hC hin=>?_⟩
 exact GN W B.n0 B.c b3 b4 F A st x above (hu.kept h3 k3) (hu.kept h4 k4) h0 hC hx hin (fun e=>k3 (e▸hc)) (fun e=>k4 (e▸hc)) hne
section
variable {w:World} {p:Nat} {FF:List Nat} {A:NS} {st:Nat} {G:BG}
def Ew (A':NS) (x:Nat) (G:BG):BG×Nat:=fZ (fun y=>decide (bH A' x y)) 1 x A'.cs.length G
theorem OU {x:Nat} {k s:Int} (I:zA A G) (hB:iy A x k s=true) (hx:x<A.cs.length):zA (ak A x k s) (Ew (ak A x k s) x G).1:=by
 obtain ⟨X,hk⟩:=yQ I hB hx;have hn:=eB A x k s;have hx':x<(ak A x k s).cs.length:=by rw [hn];exact hx
 have E:=BI (hp:=fun y=>decide (bH (ak A x k s) x y)) (ct:=1) hx' (ak A x k s).cs.length X ω
 have K:=xE (hp:=fun y=>decide (bH (ak A x k s) x y)) (ct:=1) hx' (fun p _ h=>of_decide_eq_true h) (ak A x k s).cs.length X (by rw [hn];exact hk)
 refine E.1.done hx' K (fun p hp=>?_)
 rcases E.2 with h|⟨p',h1,h2⟩
 ·have hp:(Ew (ak A x k s) x G).1.F.u x=p:=hp;have h:(Ew (ak A x k s) x G).1.F.u x=-1:=h;omega
 ·have hp:(Ew (ak A x k s) x G).1.F.u x=p:=hp;have h1:(Ew (ak A x k s) x G).1.F.u x=p':=h1;obtain rfl:p=p':=ω;have hne:x≠p:=fun e=>by
   subst e;exact E.1.fh.f.self hx' (E.1.fh.f.above hx' h1).2
  exact (gH hne).resolve_left (of_decide_eq_false h2)
theorem Jl (h:Di w p FF A st G) (x:Nat) (k s:Int) (hk:-9223372036854775808≤k∧k≤9223372036854775807∧0≤s∧s≤18446744073709551615) (hB:iy A x k s=true) :
  Calls Tryz.prog 175 #[.pointer (some ⟨p,0,none⟩),.int .i64 (x:Int),.agg #[.int .i64 k,.int .u64 s]] w fun e w'=>e=.returned (.bool true)∧
   Goes FF w w' (fun FF'=>Di w' p FF' (ak A x k s) (bC st (Ew (ak A x k s) x G).2) (Ew (ak A x k s) x G).1):=by
 obtain ⟨⟨B,F,gr,cr,lo,S,vs,rfl,rfl,M,eF⟩,I⟩:=h;have hin:=pK hB;obtain ⟨hx,hhome⟩:=(af _ _).1 hin;obtain ⟨X, -⟩:=yQ I hB hx;have I2:=OU I hB hx;have hcs:=eB A (x:Int) k s;have hhs:=jm A (x:Int) k s;have hix:=fP hB hx x;have hin2:bD (ak A x k s) (x:Int)=true:=(af _ _).2 ⟨ω,ω⟩;have hasq:=gN M.cells.ok hin;rw [π] at hasq;obtain ⟨q,hq0,hq1,hqv⟩:=M.hq hasq;obtain ⟨w3,hw3⟩:∃w3,w3=((w.alloc (.cells #[.pointer (some ⟨B.n0,0,none⟩)] 174)).alloc (.cells #[.int .i64 (x:Int)] 3)).alloc (.cells #[.int .i64 k,.int .u64 s] 129):=⟨_,rfl⟩
 have u3:aa [] w w3:=by rw [hw3];(repeat (first|assumption|exact aa.refl _ _|refine aa.alloc ?_ _|refine aa.drew ?_|refine aa.drewN ?_ _|refine aa.setCell ?_ ?_ _|focus (left;simp;done)|focus (right;simp;done)|focus (right;simp;omega)))
 have s3:w3.heap.size=w.heap.size+3:=by rw [hw3];simp
 have b3:w3.cell? ⟨w.heap.size,0,none⟩=some (.pointer (some ⟨B.n0,0,none⟩)):=by rw [hw3];go_simp
 have b4:w3.cell? ⟨w.heap.size+1,0,none⟩=some (.int .i64 (x:Int)):=by rw [hw3];go_simp
 have b5:w3.cell? ⟨w.heap.size+1+1,0,none⟩=some (.int .i64 k):=by rw [hw3];go_simp
 have b6:w3.cell? ⟨w.heap.size+1+1,1,none⟩=some (.int .u64 s):=by rw [hw3];go_simp
 have nF:∀j,w.heap.size+j∉F:=fun j hm=>by have:=M.cells.lt _ hm;omega
 have kl:=fun W (hW:aa [] w3 W)=>fE (M.cells.aj (u3.trans hW)) x k s hk hB
 have h0:=u3.was M.h0;have hbF:=M.d1.1;have r0:∀W,aa F w3 W→W.cell? ⟨B.n0,0,none⟩=some (.pointer (some ⟨B.c,0,none⟩)):=fun W hW=>hW.kept h0 hbF
 have r3:∀W,aa F w3 W→W.cell? ⟨w.heap.size,0,none⟩=some (.pointer (some ⟨B.n0,0,none⟩)):=fun W hW=>hW.kept b3 (nF 0)
 have r4:∀W,aa F w3 W→W.cell? ⟨w.heap.size+1,0,none⟩=some (.int .i64 (x:Int)):=fun W hW=>hW.kept b4 (nF 1)
 have r5:∀W,aa F w3 W→W.cell? ⟨w.heap.size+1+1,0,none⟩=some (.int .i64 k):=fun W hW=>hW.kept b5 (nF 2)
 have r6:∀W,aa F w3 W→W.cell? ⟨w.heap.size+1+1,1,none⟩=some (.int .u64 s):=fun W hW=>hW.kept b6 (nF 2)
 have HM:=χ M;have HI:=χ (ψ X (ψ I2 (ψ eF (ψ hcs (ψ hhs hin2)))));have HW:=χ hw3;clear M I X I2 eF hcs hhs hin hasq h0 b3 b4 b5 b6 hB nF hw3;generalize hA':ak A (x:Int) k s=A' at *
 rw [hq0] at hix
 go_enter Tryz.func175,Tryz.ntmps175
 go_wp2;rw [←HW.out]
 go_region_held3 (aa F w3) (repeat (first|assumption|exact aa.refl _ _|refine aa.drew ?_|refine aa.alloc ?_ _|refine aa.setCell ?_ ?_ _|focus (left;simp;done)|focus (right;simp;done)|focus (right;simp;omega)|(apply aa.trans;rotate_left;assumption)))
  (first
   | ((go_at_call 147;(with_reducible refine (kl _ β).mono ?_));rintro e w4 ⟨rfl,hC4,hu4⟩;(have hu4b:aa F w3 w4:=aa.trans (by (repeat (first|assumption|exact aa.refl _ _|refine aa.drew ?_|refine aa.alloc ?_ _|refine aa.setCell ?_ ?_ _|focus (left;simp;done)|focus (right;simp;done)|focus (right;simp;omega)|(apply aa.trans;rotate_left;assumption)))) hu4)))
 have kh:=fun W (hW:aa [] w4 W)=>bZ (hC4.aj hW) x HI.out.2.2.2.2.2
 rw [hix] at kh;go_wp2
 go_region_held3 (aa F w3) (repeat (first|assumption|exact aa.refl _ _|refine aa.drew ?_|refine aa.alloc ?_ _|refine aa.setCell ?_ ?_ _|focus (left;simp;done)|focus (right;simp;done)|focus (right;simp;omega)|(apply aa.trans;rotate_left;assumption)))
  (first
   | ((go_at_call 140;(with_reducible refine (kh _ β).mono ?_));rintro e w5 ⟨rfl,hC5,hu5⟩;(have hu5b:aa F w3 w5:=aa.trans (by (repeat (first|assumption|exact aa.refl _ _|refine aa.drew ?_|refine aa.alloc ?_ _|refine aa.setCell ?_ ?_ _|focus (left;simp;done)|focus (right;simp;done)|focus (right;simp;omega)|(apply aa.trans;rotate_left;assumption)))) hu5)))
 have hM5:=(HM.out.aj u3).bI hu5b hC5 (fun y hy=>Or.inl hy) HI.out.2.2.2.1 (by rw [HI.out.2.2.2.2.1])
 have g3:=r3 w5 hu5b;have g4:=r4 w5 hu5b;have hlt:=HM.out.lt;have hcs:=HI.out.2.2.2.1;have hKK:∀j,w.heap.size+j∉B.blk F gr A'.cs.length S vs:=fun j hm=>by rw [hcs] at hm;have:=hlt _ hm;omega
 have H5:=fun (W:World) (hW:aa [] w5 W)=>EY W (B.blk F gr A'.cs.length S vs) B F A' w.heap.size (w.heap.size+1) x (hW.was g3) (hW.was g4) HI.out.2.2.2.2.2 (hKK 0) (hKK 1) (uO _ HM.out.cells.mem)
 have kL:=fun W (hW:aa [] w5 W)=>IP (hM5.aj hW) HI.out.2.2.1 HI.out.1 ω (by rw [hix];omega) hix hqv (H5 W hW)
 have HM5:=χ hM5;clear hM5 hC5 hC4 kh kl r0 r5 r6 hlt hKK r3 r4
 go_wp2_with (first
  | ((go_at_call 183;(with_reducible refine (kL _ β).mono ?_));rintro e w6 ⟨rfl,S6,hM6,hF6,hu6,hb6⟩)
  | fail)
 go_ret;have hcs:=HI.out.2.2.2.1;have uw:aa (B.blk F gr A.cs.length S vs) w w6:=by
  rw [hcs] at hu6;exact ((u3.mono σ).trans (hu5b.mono uO)).trans (aa.trans (by (repeat (first|assumption|exact aa.refl _ _|refine aa.drew ?_|refine aa.alloc ?_ _|refine aa.setCell ?_ ?_ _|focus (left;simp;done)|focus (right;simp;done)|focus (right;simp;omega)|(apply aa.trans;rotate_left;assumption)))) hu6)
 refine ⟨rfl,B.blk F gr A'.cs.length S6 vs,⟨⟨B,F,gr,cr,lo,S6,vs,rfl,rfl,hM6,hF6⟩,HI.out.2.1⟩,uw,fun y hy=>Or.inl ?_⟩
 rw [hcs] at hy hb6;simp only [BB.blk,List.mem_cons,List.mem_append] at hy ⊢;rcases hy with e|e|e|e|e|e|e
 ·exact Or.inl e
 ·exact Or.inr (Or.inl e)
 ·exact Or.inr (Or.inr (Or.inl e))
 ·exact Or.inr (Or.inr (Or.inr (Or.inl e)))
 ·exact Or.inr (Or.inr (Or.inr (Or.inr (Or.inl e))))
 ·exact Or.inr (Or.inr (Or.inr (Or.inr (Or.inr (Or.inl (hb6 y e))))))
 ·exact Or.inr (Or.inr (Or.inr (Or.inr (Or.inr (Or.inr e)))))
end
end Go.Proofs.YtklibcncmbofpaaGreat
